/- Arguments that came in, opened to what the walks ask. A fraction that came in as an argument, opened to what the walks ask. A list of fractions that came in as an argument, opened to what the walks ask. An interval, or a list of intervals, that came in as an argument, opened to what the walks ask. -/
import Derived.Test.YtlcolmifmhdboaaRows
import Derived.Test.YtlcolmifmhdboaaBase
import Derived.ProofKit
import Derived.OpenShut
import Derived.ShutString
import Derived.ChangeOld
import Derived.Below
import Derived.Test.YtlcolmifmhdboaaFrx
import Derived.Lib.SmallJoins
import Derived.Test.YtlcolmifmhdboaaFaV
import Derived.Deep.Slices
import Derived.Deep.Fields
import Derived.Test.YtlcolmifmhdboaaIvP
namespace Go.Proofs.Ytlcolmifmhdboaa
open Go.ChangeShapes Go.WideShapes Go.ChangeAt Go.RowKit

set_option maxRecDepth 100000 in
theorem own_knob : ownKnob Try.prog.godebug = none := by kernel_rfl
set_option maxRecDepth 100000 in
theorem laid_out : laidOutB Try.prog = true := by kernel_rfl
set_option maxRecDepth 100000 in
theorem lt_of_cell {w : World} {a : Addr} {v : Value} (h : w.cell? a = some v) : a.block < w.heap.size := by
  rcases Nat.lt_or_ge a.block w.heap.size with h1 | h1
  · exact h1
  · simp [World.cell?, Array.getElem?_eq_none h1] at h
set_option maxRecDepth 100000 in
/-- a slice of 32-bit numbers that came in reads as limbs -/
theorem nt_of_ints {H : Type} {enc : TypeId × Value → H} {W : World} {base : Nat} {spare : Nat → Bool} {held : Bool} {t : TypeId} {a : Option Addr} {len cap : Nat} {d : DataW H} {p : List MemPlace}
    (ht : Try.prog.underlying t = some (.slice 26)) (h : DataW.Trod enc Try.prog W base spare held t (.slice a len cap) d p) : ∃ xs : List Nat, xs.length = len ∧ Nt W a cap xs := by
  obtain ⟨fuel, hf⟩ := h
  rcases open_ints ht Try.underlying26 (by kernel_rfl) hf with ⟨hcs, _⟩ | ⟨x, l, c, zs, hcs, _, hl, hm, hz, _, hcell, hwz⟩
  · simp [Value.cells] at hcs
    obtain ⟨rfl, rfl, rfl⟩ := hcs
    exact ⟨[], rfl, Nt.nil _ _ _ (by omega)⟩
  · simp [Value.cells] at hcs
    obtain ⟨rfl, rfl, rfl⟩ := hcs
    unfold maxLen at hm
    have hzl : len ≤ zs.length := by
      rw [hz]; split <;> omega
    have hnum : ∀ k (hk : k < zs.length), 0 ≤ zs[k] ∧ zs[k] < 4294967296 := by
      intro k hk
      have := hwz _ (List.getElem_mem hk)
      simp [Lit.wf, IntKind.min, IntKind.max, IntKind.signed, IntKind.bits] at this
      omega
    have hlen : ((zs.take len).map Int.toNat).length = len := by simp; omega
    refine ⟨(zs.take len).map Int.toNat, hlen, ⟨by rw [hlen]; exact hl, hm, ?_, ?_⟩⟩
    · intro y hy
      obtain ⟨z, hz1, rfl⟩ := List.mem_map.1 hy
      obtain ⟨k, hk, rfl⟩ := List.getElem_of_mem (List.mem_of_mem_take hz1)
      have := hnum k hk
      omega
    · intro hn
      rw [hlen] at hn
      have h0 := hcell 0 (by omega)
      refine ⟨x, rfl, ?_, fun k hk => ?_⟩
      · have := lt_of_cell h0
        rwa [block_of_add] at this
      · rw [hlen] at hk
        rw [hcell k (by omega)]
        have h1 := hnum k (by omega)
        simp only [List.getElem_map, List.getElem_take]
        rw [List.getD_eq_getElem?_getD, List.getElem?_eq_getElem (by omega), Option.getD_some]
        simp only [lmv]
        congr 2
        omega
end Go.Proofs.Ytlcolmifmhdboaa
namespace Go.Proofs.Ytlcolmifmhdboaa
open Go.Joins Go.ChangeShapes Go.WideShapes Go.ChangeAt Go.RowKit

set_option maxRecDepth 100000 in
theorem nat_of_trod {H : Type} {enc : TypeId × Value → H} {W : World} {base : Nat} {spare : Nat → Bool} {held : Bool} {t : TypeId} {v : Value} {n : Nat} {y : DataW H × List MemPlace}
    (ht : Try.prog.underlying t = some (.slice 26)) (h : DataW.trod enc Try.prog W base spare held n t [v] = some y) : ∃ (A : Option Addr) (c : Nat) (xs : List Nat), v = .slice A xs.length c ∧ Nt W A c xs := by
  have hcs : ∃ A len c, v = .slice A len c := by
    rcases open_ints ht Try.underlying26 (by kernel_rfl) h with ⟨hcs, _⟩ | ⟨x, l, c, zs, hcs, _⟩
    · simp only [List.cons.injEq, and_true] at hcs; exact ⟨_, _, _, hcs⟩
    · simp only [List.cons.injEq, and_true] at hcs; exact ⟨_, _, _, hcs⟩
  obtain ⟨A, len, c, rfl⟩ := hcs
  obtain ⟨y1, y2⟩ := y
  have h2 : DataW.Trod enc Try.prog W base spare held t (.slice A len c) y1 y2 := ⟨n, by simpa [Value.cells] using h⟩
  obtain ⟨xs, rfl, hx⟩ := nt_of_ints ht h2
  exact ⟨A, c, xs, rfl, hx⟩
set_option maxRecDepth 100000 in
theorem fx_of_frac {H : Type} {enc : TypeId × Value → H} {W : World} {base b0 : Nat} {r : Reach} {spare : Nat → Bool} {held : Bool} {v : Value} {d : DataW H} {p : List MemPlace}
    (hv : Value.okWide Try.prog W r b0 25 v) (h : DataW.Trod enc Try.prog W base spare held 25 v d p) : ∃ x : Fx, v = x.val ∧ x.ok W := by
  obtain ⟨c0, c1, c2, y0, y1, y2, m, rfl, rfl, rfl, hy0, hy1, hy2⟩ := open_agg3 Try.underlying25 (by kernel_rfl) (by kernel_rfl) hv h
  have hb : ∃ b, c0 = .bool b := by
    obtain ⟨b, hb, _⟩ := DataW.trod_bool Try.underlying4 hy0
    simp only [List.cons.injEq, and_true] at hb
    exact ⟨b, hb⟩
  obtain ⟨b, rfl⟩ := hb
  obtain ⟨A, c, xs, rfl, hA⟩ := nat_of_trod Try.underlying23 hy1
  obtain ⟨D, e, ys, rfl, hD⟩ := nat_of_trod Try.underlying23 hy2
  exact ⟨⟨b, A, c, xs, D, e, ys⟩, rfl, hA, hD⟩
end Go.Proofs.Ytlcolmifmhdboaa
namespace Go.Proofs.Ytlcolmifmhdboaa
open Go.Joins Go.ChangeShapes Go.WideShapes Go.ChangeAt Go.RowKit Go.Deep

set_option maxRecDepth 100000 in
theorem fx_of_cells {H : Type} {enc : TypeId × Value → H} {W : World} {base : Nat} {spare : Nat → Bool} {held : Bool} {c0 c1 c2 : Value} {n : Nat} {y : DataW H × List MemPlace}
    (h : DataW.trod enc Try.prog W base spare held n 25 [c0, c1, c2] = some y) : ∃ x : Fx, c0 = .bool x.b ∧ c1 = .slice x.A x.xs.length x.c ∧ c2 = .slice x.D x.ys.length x.d ∧ x.ok W := by
  obtain ⟨ys, m, _, _, _, hlen, hg⟩ := DataW.trod_struct Try.underlying25 h
  have k4 : Try.prog.cellsOf 4 = 1 := by kernel_rfl
  have k23 : Try.prog.cellsOf 23 = 1 := by kernel_rfl
  have h0 : DataW.trod enc Try.prog W base spare held m 4 [c0] = ys[0]? := by simpa [k4] using hg 0 _ rfl
  have h1 : DataW.trod enc Try.prog W base spare held m 23 [c1] = ys[1]? := by simpa [k23] using hg 1 _ rfl
  have h2 : DataW.trod enc Try.prog W base spare held m 23 [c2] = ys[2]? := by simpa [k23] using hg 2 _ rfl
  match ys, hlen with
  | [y0, y1, y2], _ =>
    obtain ⟨b, hb, _⟩ := DataW.trod_bool Try.underlying4 h0
    simp only [List.cons.injEq, and_true] at hb
    subst hb
    obtain ⟨A, c, xs, rfl, hA⟩ := nat_of_trod Try.underlying23 h1
    obtain ⟨D, e, zs, rfl, hD⟩ := nat_of_trod Try.underlying23 h2
    exact ⟨⟨b, A, c, xs, D, e, zs⟩, rfl, rfl, rfl, hA, hD⟩
set_option maxRecDepth 100000 in
theorem add_one_ (a : Addr) (j : Nat) : a.add (j + 1) = ⟨a.block, a.off + (j + 1), none⟩ := by unfold Addr.add; simp
set_option maxRecDepth 100000 in
theorem fxs_of {H : Type} {enc : TypeId × Value → H} {W : World} {base : Nat} {spare : Nat → Bool} {held : Bool} {a : Option Addr} {len cap : Nat} {d : DataW H} {p : List MemPlace}
    (h : DataW.Trod enc Try.prog W base spare held 62 (.slice a len cap) d p) : ∃ vs : List Fx, vs.length = len ∧ len ≤ cap ∧ cap ≤ maxLen ∧ RdF W a vs ∧ ∀ v ∈ vs, v.ok W := by
  obtain ⟨fuel, hf⟩ := h
  rcases open_slice Try.underlying62 hf with ⟨hcs, _⟩ | ⟨x, l, c, m, n, D, Pl, hcs, _, hl, hm, hmm, _, hi⟩
  · simp [Value.cells] at hcs
    obtain ⟨rfl, rfl, rfl⟩ := hcs
    exact ⟨[], rfl, Nat.le_refl _, Nat.zero_le _, fun h => absurd h (by simp), fun v hv => absurd hv (by simp)⟩
  · simp [Value.cells] at hcs
    obtain ⟨rfl, rfl, rfl⟩ := hcs
    have hC : Try.prog.cellsOf 25 = 3 := by kernel_rfl
    have hlm : len ≤ m := by rw [hmm]; split <;> omega
    have hex : ∀ i, ∃ x' : Fx, i < len → (W.cell? (x.add (i * 3)) = some (.bool x'.b) ∧ W.cell? ⟨(x.add (i * 3)).block, (x.add (i * 3)).off + 1, none⟩ = some (.slice x'.A x'.xs.length x'.c) ∧ W.cell? ⟨(x.add (i * 3)).block, (x.add (i * 3)).off + 2, none⟩ = some (.slice x'.D x'.ys.length x'.d)) ∧ x'.ok W := by
      intro i
      by_cases hil : i < len
      · obtain ⟨cs', hc, ht⟩ := hi i (by omega)
        rw [hC] at hc
        obtain ⟨_, hcl, hat⟩ := World.cells?_some hc
        match cs', hcl with
        | [c0, c1, c2], _ =>
          obtain ⟨x', rfl, rfl, rfl, hok⟩ := fx_of_cells ht
          refine ⟨x', fun _ => ⟨⟨?_, ?_, ?_⟩, hok⟩⟩
          · have h0 := hat 0 (by omega)
            rw [show ∀ b : Addr, b.add 0 = b from fun b => by unfold Addr.add; simp] at h0
            exact h0
          · have h1 := hat 1 (by omega)
            rw [add_one_ _ 0] at h1
            exact h1
          · have h2 := hat 2 (by omega)
            rw [add_one_ _ 1] at h2
            exact h2
      · exact ⟨Fx.nil, fun h => absurd h hil⟩
    refine ⟨(List.range len).map fun i => Classical.choose (hex i), by simp, hl, hm, ?_, ?_⟩
    · intro hn
      have hn' : 0 < len := by simpa using hn
      have h0 := (Classical.choose_spec (hex 0) hn').1.1
      have hb := lt_of_cell h0
      rw [block_of_add] at hb
      refine ⟨x, rfl, hb, fun k hk => ?_⟩
      have hk' : k < len := by simpa using hk
      have hs := (Classical.choose_spec (hex k) hk').1
      simp only [List.getElem_map, List.getElem_range]
      exact hs
    · intro v hv
      obtain ⟨i, hi', rfl⟩ := List.mem_map.1 hv
      exact (Classical.choose_spec (hex i) (List.mem_range.1 hi')).2
end Go.Proofs.Ytlcolmifmhdboaa
namespace Go.Proofs.Ytlcolmifmhdboaa
open Go.Joins Go.ChangeShapes Go.WideShapes Go.ChangeAt Go.RowKit Go.Deep

set_option maxRecDepth 100000 in
theorem ix_of_cells {H : Type} {enc : TypeId × Value → H} {W : World} {base : Nat} {spare : Nat → Bool} {held : Bool} {c0 c1 c2 c3 c4 c5 : Value} {n : Nat} {y : DataW H × List MemPlace}
    (h : DataW.trod enc Try.prog W base spare held n 41 [c0, c1, c2, c3, c4, c5] = some y) : ∃ x : Ix, c0 = .bool x.lo.b ∧ c1 = .slice x.lo.A x.lo.xs.length x.lo.c ∧ c2 = .slice x.lo.D x.lo.ys.length x.lo.d ∧ c3 = .bool x.hi.b ∧ c4 = .slice x.hi.A x.hi.xs.length x.hi.c ∧ c5 = .slice x.hi.D x.hi.ys.length x.hi.d ∧ x.ok W := by
  obtain ⟨ys, m, _, _, _, hlen, hg⟩ := DataW.trod_struct Try.underlying41 h
  have k3 : Try.prog.cellsOf 25 = 3 := by kernel_rfl
  have h0 : DataW.trod enc Try.prog W base spare held m 25 [c0, c1, c2] = ys[0]? := by simpa [k3] using hg 0 _ rfl
  have h1 : DataW.trod enc Try.prog W base spare held m 25 [c3, c4, c5] = ys[1]? := by simpa [k3] using hg 1 _ rfl
  match ys, hlen with
  | [y0, y1], _ =>
    obtain ⟨x, e0, e1, e2, okx⟩ := fx_of_cells h0
    obtain ⟨z, e3, e4, e5, okz⟩ := fx_of_cells h1
    exact ⟨⟨x, z⟩, e0, e1, e2, e3, e4, e5, okx, okz⟩
set_option maxRecDepth 100000 in
theorem ix_of_ivl {H : Type} {enc : TypeId × Value → H} {W : World} {base b0 : Nat} {r : Reach} {spare : Nat → Bool} {held : Bool} {v : Value} {d : DataW H} {p : List MemPlace}
    (hv : Value.okWide Try.prog W r b0 41 v) (h : DataW.Trod enc Try.prog W base spare held 41 v d p) : ∃ x : Ix, v = x.val ∧ x.ok W := by
  obtain ⟨cs, rfl, hsz⟩ := okWide_struct Try.underlying41 hv
  have k6 : Try.prog.cellsOf 41 = 6 := by kernel_rfl
  rw [k6] at hsz
  obtain ⟨l⟩ := cs
  have hl : l.length = 6 := by simpa using hsz
  match l, hl with
  | [c0, c1, c2, c3, c4, c5], _ =>
    obtain ⟨fuel, hf⟩ := h
    obtain ⟨x, rfl, rfl, rfl, rfl, rfl, rfl, ok⟩ := ix_of_cells (by simpa [Value.cells] using hf)
    exact ⟨x, rfl, ok⟩
set_option maxRecDepth 100000 in
theorem ixs_of {H : Type} {enc : TypeId × Value → H} {W : World} {base : Nat} {spare : Nat → Bool} {held : Bool} {a : Option Addr} {len cap : Nat} {d : DataW H} {p : List MemPlace}
    (h : DataW.Trod enc Try.prog W base spare held 50 (.slice a len cap) d p) : ∃ vs : List Ix, vs.length = len ∧ len ≤ cap ∧ cap ≤ maxLen ∧ RdI W a vs ∧ ∀ v ∈ vs, v.ok W := by
  obtain ⟨fuel, hf⟩ := h
  rcases open_slice Try.underlying50 hf with ⟨hcs, _⟩ | ⟨x, l, c, m, n, D, Pl, hcs, _, hl, hm, hmm, _, hi⟩
  · simp [Value.cells] at hcs
    obtain ⟨rfl, rfl, rfl⟩ := hcs
    exact ⟨[], rfl, Nat.le_refl _, Nat.zero_le _, fun h => absurd h (by simp), fun v hv => absurd hv (by simp)⟩
  · simp [Value.cells] at hcs
    obtain ⟨rfl, rfl, rfl⟩ := hcs
    have hC : Try.prog.cellsOf 41 = 6 := by kernel_rfl
    have hlm : len ≤ m := by rw [hmm]; split <;> omega
    have hex : ∀ i, ∃ x' : Ix, i < len → (W.cell? (x.add (i * 6)) = some (.bool x'.lo.b) ∧ W.cell? ⟨(x.add (i * 6)).block, (x.add (i * 6)).off + 1, none⟩ = some (.slice x'.lo.A x'.lo.xs.length x'.lo.c) ∧ W.cell? ⟨(x.add (i * 6)).block, (x.add (i * 6)).off + 2, none⟩ = some (.slice x'.lo.D x'.lo.ys.length x'.lo.d) ∧ W.cell? ⟨(x.add (i * 6)).block, (x.add (i * 6)).off + 3, none⟩ = some (.bool x'.hi.b) ∧ W.cell? ⟨(x.add (i * 6)).block, (x.add (i * 6)).off + 4, none⟩ = some (.slice x'.hi.A x'.hi.xs.length x'.hi.c) ∧ W.cell? ⟨(x.add (i * 6)).block, (x.add (i * 6)).off + 5, none⟩ = some (.slice x'.hi.D x'.hi.ys.length x'.hi.d)) ∧ x'.ok W := by
      intro i
      by_cases hil : i < len
      · obtain ⟨cs', hc, ht⟩ := hi i (by omega)
        rw [hC] at hc
        obtain ⟨_, hcl, hat⟩ := World.cells?_some hc
        match cs', hcl with
        | [c0, c1, c2, c3, c4, c5], _ =>
          obtain ⟨x', rfl, rfl, rfl, rfl, rfl, rfl, hok⟩ := ix_of_cells ht
          refine ⟨x', fun _ => ⟨⟨?_, ?_, ?_, ?_, ?_, ?_⟩, hok⟩⟩
          · have h0 := hat 0 (by omega)
            rw [show ∀ b : Addr, b.add 0 = b from fun b => by unfold Addr.add; simp] at h0
            exact h0
          · have h1 := hat 1 (by omega)
            rw [add_one_ _ 0] at h1
            exact h1
          · have h2 := hat 2 (by omega)
            rw [add_one_ _ 1] at h2
            exact h2
          · have h2 := hat 3 (by omega)
            rw [add_one_ _ 2] at h2
            exact h2
          · have h2 := hat 4 (by omega)
            rw [add_one_ _ 3] at h2
            exact h2
          · have h2 := hat 5 (by omega)
            rw [add_one_ _ 4] at h2
            exact h2
      · exact ⟨Ix.nil, fun h => absurd h hil⟩
    refine ⟨(List.range len).map fun i => Classical.choose (hex i), by simp, hl, hm, ?_, ?_⟩
    · intro hn
      have hn' : 0 < len := by simpa using hn
      have h0 := (Classical.choose_spec (hex 0) hn').1.1
      have hb := lt_of_cell h0
      rw [block_of_add] at hb
      refine ⟨x, rfl, hb, fun k hk => ?_⟩
      have hk' : k < len := by simpa using hk
      have hs := (Classical.choose_spec (hex k) hk').1
      simp only [List.getElem_map, List.getElem_range]
      exact hs
    · intro v hv
      obtain ⟨i, hi', rfl⟩ := List.mem_map.1 hv
      exact (Classical.choose_spec (hex i) (List.mem_range.1 hi')).2
end Go.Proofs.Ytlcolmifmhdboaa
