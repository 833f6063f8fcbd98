/- Arguments that came in, opened to what the walks ask. A fraction that came in as an argument, opened to what the walks ask. -/
import Derived.Test.YtlcolmifmhdboaaRows
import Derived.Test.YtlcolmifmhdboaaBase
import Derived.ProofKit
import Derived.OpenShut
import Derived.ShutString
import Derived.ChangeOld
import Derived.Below
import Derived.Test.YtlcolmifmhdboaaFrx
import Derived.Lib.SmallJoins
namespace Go.Proofs.Ytlcolmifmhdboaa
open Go.ChangeShapes Go.WideShapes Go.ChangeAt Go.RowKit

set_option maxRecDepth 100000 in
theorem own_knob : ownKnob Try.prog.godebug = none := by kernel_rfl
set_option maxRecDepth 100000 in
theorem laid_out : laidOutB Try.prog = true := by kernel_rfl
set_option maxRecDepth 100000 in
theorem lt_of_cell {w : World} {a : Addr} {v : Value} (h : w.cell? a = some v) : a.block < w.heap.size := by
  rcases Nat.lt_or_ge a.block w.heap.size with h1 | h1
  · exact h1
  · simp [World.cell?, Array.getElem?_eq_none h1] at h
set_option maxRecDepth 100000 in
/-- a slice of 32-bit numbers that came in reads as limbs -/
theorem nt_of_ints {H : Type} {enc : TypeId × Value → H} {W : World} {base : Nat} {spare : Nat → Bool} {held : Bool} {t : TypeId} {a : Option Addr} {len cap : Nat} {d : DataW H} {p : List MemPlace}
    (ht : Try.prog.underlying t = some (.slice 26)) (h : DataW.Trod enc Try.prog W base spare held t (.slice a len cap) d p) : ∃ xs : List Nat, xs.length = len ∧ Nt W a cap xs := by
  obtain ⟨fuel, hf⟩ := h
  rcases open_ints ht Try.underlying26 (by kernel_rfl) hf with ⟨hcs, _⟩ | ⟨x, l, c, zs, hcs, _, hl, hm, hz, _, hcell, hwz⟩
  · simp [Value.cells] at hcs
    obtain ⟨rfl, rfl, rfl⟩ := hcs
    exact ⟨[], rfl, Nt.nil _ _ _ (by omega)⟩
  · simp [Value.cells] at hcs
    obtain ⟨rfl, rfl, rfl⟩ := hcs
    unfold maxLen at hm
    have hzl : len ≤ zs.length := by
      rw [hz]; split <;> omega
    have hnum : ∀ k (hk : k < zs.length), 0 ≤ zs[k] ∧ zs[k] < 4294967296 := by
      intro k hk
      have := hwz _ (List.getElem_mem hk)
      simp [Lit.wf, IntKind.min, IntKind.max, IntKind.signed, IntKind.bits] at this
      omega
    have hlen : ((zs.take len).map Int.toNat).length = len := by simp; omega
    refine ⟨(zs.take len).map Int.toNat, hlen, ⟨by rw [hlen]; exact hl, hm, ?_, ?_⟩⟩
    · intro y hy
      obtain ⟨z, hz1, rfl⟩ := List.mem_map.1 hy
      obtain ⟨k, hk, rfl⟩ := List.getElem_of_mem (List.mem_of_mem_take hz1)
      have := hnum k hk
      omega
    · intro hn
      rw [hlen] at hn
      have h0 := hcell 0 (by omega)
      refine ⟨x, rfl, ?_, fun k hk => ?_⟩
      · have := lt_of_cell h0
        rwa [block_of_add] at this
      · rw [hlen] at hk
        rw [hcell k (by omega)]
        have h1 := hnum k (by omega)
        simp only [List.getElem_map, List.getElem_take]
        rw [List.getD_eq_getElem?_getD, List.getElem?_eq_getElem (by omega), Option.getD_some]
        simp only [lmv]
        congr 2
        omega
end Go.Proofs.Ytlcolmifmhdboaa
namespace Go.Proofs.Ytlcolmifmhdboaa
open Go.Joins Go.ChangeShapes Go.WideShapes Go.ChangeAt Go.RowKit

set_option maxRecDepth 100000 in
theorem nat_of_trod {H : Type} {enc : TypeId × Value → H} {W : World} {base : Nat} {spare : Nat → Bool} {held : Bool} {t : TypeId} {v : Value} {n : Nat} {y : DataW H × List MemPlace}
    (ht : Try.prog.underlying t = some (.slice 26)) (h : DataW.trod enc Try.prog W base spare held n t [v] = some y) : ∃ (A : Option Addr) (c : Nat) (xs : List Nat), v = .slice A xs.length c ∧ Nt W A c xs := by
  have hcs : ∃ A len c, v = .slice A len c := by
    rcases open_ints ht Try.underlying26 (by kernel_rfl) h with ⟨hcs, _⟩ | ⟨x, l, c, zs, hcs, _⟩
    · simp only [List.cons.injEq, and_true] at hcs; exact ⟨_, _, _, hcs⟩
    · simp only [List.cons.injEq, and_true] at hcs; exact ⟨_, _, _, hcs⟩
  obtain ⟨A, len, c, rfl⟩ := hcs
  obtain ⟨y1, y2⟩ := y
  have h2 : DataW.Trod enc Try.prog W base spare held t (.slice A len c) y1 y2 := ⟨n, by simpa [Value.cells] using h⟩
  obtain ⟨xs, rfl, hx⟩ := nt_of_ints ht h2
  exact ⟨A, c, xs, rfl, hx⟩
set_option maxRecDepth 100000 in
theorem fx_of_frac {H : Type} {enc : TypeId × Value → H} {W : World} {base b0 : Nat} {r : Reach} {spare : Nat → Bool} {held : Bool} {v : Value} {d : DataW H} {p : List MemPlace}
    (hv : Value.okWide Try.prog W r b0 25 v) (h : DataW.Trod enc Try.prog W base spare held 25 v d p) : ∃ x : Fx, v = x.val ∧ x.ok W := by
  obtain ⟨c0, c1, c2, y0, y1, y2, m, rfl, rfl, rfl, hy0, hy1, hy2⟩ := open_agg3 Try.underlying25 (by kernel_rfl) (by kernel_rfl) hv h
  have hb : ∃ b, c0 = .bool b := by
    obtain ⟨b, hb, _⟩ := DataW.trod_bool Try.underlying4 hy0
    simp only [List.cons.injEq, and_true] at hb
    exact ⟨b, hb⟩
  obtain ⟨b, rfl⟩ := hb
  obtain ⟨A, c, xs, rfl, hA⟩ := nat_of_trod Try.underlying23 hy1
  obtain ⟨D, e, ys, rfl, hD⟩ := nat_of_trod Try.underlying23 hy2
  exact ⟨⟨b, A, c, xs, D, e, ys⟩, rfl, hA, hD⟩
end Go.Proofs.Ytlcolmifmhdboaa
