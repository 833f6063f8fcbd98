/- Arguments that came in, opened to what the walks ask. -/
import Derived.Test.YtgjhjdjbhmblmaaRows
import Derived.Test.YtgjhjdjbhmblmaaBase
import Derived.ProofKit
import Derived.OpenShut
import Derived.ShutString
import Derived.ChangeOld
import Derived.Below
namespace Go.Proofs.Ytgjhjdjbhmblmaa
open Go.ChangeShapes Go.WideShapes Go.ChangeAt Go.RowKit

theorem own_knob : ownKnob Try.prog.godebug = none := by kernel_rfl
theorem laid_out : laidOutB Try.prog = true := by kernel_rfl
theorem lt_of_cell {w : World} {a : Addr} {v : Value} (h : w.cell? a = some v) : a.block < w.heap.size := by
  rcases Nat.lt_or_ge a.block w.heap.size with h1 | h1
  · exact h1
  · simp [World.cell?, Array.getElem?_eq_none h1] at h
/-- a slice of 32-bit numbers that came in reads as limbs -/
theorem nt_of_ints {H : Type} {enc : TypeId × Value → H} {W : World} {base : Nat} {spare : Nat → Bool} {held : Bool} {t : TypeId} {a : Option Addr} {len cap : Nat} {d : DataW H} {p : List MemPlace}
    (ht : Try.prog.underlying t = some (.slice 69)) (h : DataW.Trod enc Try.prog W base spare held t (.slice a len cap) d p) : ∃ xs : List Nat, xs.length = len ∧ Nt W a cap xs := by
  obtain ⟨fuel, hf⟩ := h
  rcases open_ints ht Try.underlying69 (by kernel_rfl) hf with ⟨hcs, _⟩ | ⟨x, l, c, zs, hcs, _, hl, hm, hz, _, hcell, hwz⟩
  · simp [Value.cells] at hcs
    obtain ⟨rfl, rfl, rfl⟩ := hcs
    exact ⟨[], rfl, Nt.nil _ _ _ (by omega)⟩
  · simp [Value.cells] at hcs
    obtain ⟨rfl, rfl, rfl⟩ := hcs
    unfold maxLen at hm
    have hzl : len ≤ zs.length := by
      rw [hz]; split <;> omega
    have hnum : ∀ k (hk : k < zs.length), 0 ≤ zs[k] ∧ zs[k] < 4294967296 := by
      intro k hk
      have := hwz _ (List.getElem_mem hk)
      simp [Lit.wf, IntKind.min, IntKind.max, IntKind.signed, IntKind.bits] at this
      omega
    have hlen : ((zs.take len).map Int.toNat).length = len := by simp; omega
    refine ⟨(zs.take len).map Int.toNat, hlen, ⟨by rw [hlen]; exact hl, hm, ?_, ?_⟩⟩
    · intro y hy
      obtain ⟨z, hz1, rfl⟩ := List.mem_map.1 hy
      obtain ⟨k, hk, rfl⟩ := List.getElem_of_mem (List.mem_of_mem_take hz1)
      have := hnum k hk
      omega
    · intro hn
      rw [hlen] at hn
      have h0 := hcell 0 (by omega)
      refine ⟨x, rfl, ?_, fun k hk => ?_⟩
      · have := lt_of_cell h0
        rwa [block_of_add] at this
      · rw [hlen] at hk
        rw [hcell k (by omega)]
        have h1 := hnum k (by omega)
        simp only [List.getElem_map, List.getElem_take]
        rw [List.getD_eq_getElem?_getD, List.getElem?_eq_getElem (by omega), Option.getD_some]
        simp only [lmv]
        congr 2
        omega
end Go.Proofs.Ytgjhjdjbhmblmaa
