/- A list of fractions that came in as an argument, opened to what the walks ask. -/
import Derived.Test.YthdfflbhogfejaaOpenF
import Derived.Test.YthdfflbhogfejaaFrD
import Derived.Deep.Slices
import Derived.Deep.Fields
namespace Go.Proofs.Ythdfflbhogfejaa
set_option maxRecDepth 100000
open Go.Joins Go.ChangeShapes Go.WideShapes Go.ChangeAt Go.RowKit Go.Deep

theorem fx_of_cells {H : Type} {enc : TypeId × Value → H} {W : World} {base : Nat} {spare : Nat → Bool} {held : Bool} {c0 c1 c2 : Value} {n : Nat} {y : DataW H × List MemPlace}
    (h : DataW.trod enc Try.prog W base spare held n 41 [c0, c1, c2] = some y) : ∃ x : Fx, c0 = .bool x.b ∧ c1 = .slice x.A x.xs.length x.c ∧ c2 = .slice x.D x.ys.length x.d ∧ x.ok W := by
  obtain ⟨ys, m, _, _, _, hlen, hg⟩ := DataW.trod_struct Try.underlying41 h
  have k4 : Try.prog.cellsOf 4 = 1 := by kernel_rfl
  have k23 : Try.prog.cellsOf 39 = 1 := by kernel_rfl
  have h0 : DataW.trod enc Try.prog W base spare held m 4 [c0] = ys[0]? := by simpa [k4] using hg 0 _ rfl
  have h1 : DataW.trod enc Try.prog W base spare held m 39 [c1] = ys[1]? := by simpa [k23] using hg 1 _ rfl
  have h2 : DataW.trod enc Try.prog W base spare held m 39 [c2] = ys[2]? := by simpa [k23] using hg 2 _ rfl
  match ys, hlen with
  | [y0, y1, y2], _ =>
    obtain ⟨b, hb, _⟩ := DataW.trod_bool Try.underlying4 h0
    simp only [List.cons.injEq, and_true] at hb
    subst hb
    obtain ⟨A, c, xs, rfl, hA⟩ := nat_of_trod Try.underlying39 h1
    obtain ⟨D, e, zs, rfl, hD⟩ := nat_of_trod Try.underlying39 h2
    exact ⟨⟨b, A, c, xs, D, e, zs⟩, rfl, rfl, rfl, hA, hD⟩
theorem add_one_ (a : Addr) (j : Nat) : a.add (j + 1) = ⟨a.block, a.off + (j + 1), none⟩ := by unfold Addr.add; simp
theorem fxs_of {H : Type} {enc : TypeId × Value → H} {W : World} {base : Nat} {spare : Nat → Bool} {held : Bool} {a : Option Addr} {len cap : Nat} {d : DataW H} {p : List MemPlace}
    (h : DataW.Trod enc Try.prog W base spare held 29 (.slice a len cap) d p) : ∃ vs : List Fx, vs.length = len ∧ len ≤ cap ∧ cap ≤ maxLen ∧ RdF W a vs ∧ ∀ v ∈ vs, v.ok W := by
  obtain ⟨fuel, hf⟩ := h
  rcases open_slice Try.underlying29 hf with ⟨hcs, _⟩ | ⟨x, l, c, m, n, D, Pl, hcs, _, hl, hm, hmm, _, hi⟩
  · simp [Value.cells] at hcs
    obtain ⟨rfl, rfl, rfl⟩ := hcs
    exact ⟨[], rfl, Nat.le_refl _, Nat.zero_le _, fun h => absurd h (by simp), fun v hv => absurd hv (by simp)⟩
  · simp [Value.cells] at hcs
    obtain ⟨rfl, rfl, rfl⟩ := hcs
    have hC : Try.prog.cellsOf 41 = 3 := by kernel_rfl
    have hlm : len ≤ m := by rw [hmm]; split <;> omega
    have hex : ∀ i, ∃ x' : Fx, i < len → (W.cell? (x.add (i * 3)) = some (.bool x'.b) ∧ W.cell? ⟨(x.add (i * 3)).block, (x.add (i * 3)).off + 1, none⟩ = some (.slice x'.A x'.xs.length x'.c) ∧ W.cell? ⟨(x.add (i * 3)).block, (x.add (i * 3)).off + 2, none⟩ = some (.slice x'.D x'.ys.length x'.d)) ∧ x'.ok W := by
      intro i
      by_cases hil : i < len
      · obtain ⟨cs', hc, ht⟩ := hi i (by omega)
        rw [hC] at hc
        obtain ⟨_, hcl, hat⟩ := World.cells?_some hc
        match cs', hcl with
        | [c0, c1, c2], _ =>
          obtain ⟨x', rfl, rfl, rfl, hok⟩ := fx_of_cells ht
          refine ⟨x', fun _ => ⟨⟨?_, ?_, ?_⟩, hok⟩⟩
          · have h0 := hat 0 (by omega)
            rw [show ∀ b : Addr, b.add 0 = b from fun b => by unfold Addr.add; simp] at h0
            exact h0
          · have h1 := hat 1 (by omega)
            rw [add_one_ _ 0] at h1
            exact h1
          · have h2 := hat 2 (by omega)
            rw [add_one_ _ 1] at h2
            exact h2
      · exact ⟨Fx.nil, fun h => absurd h hil⟩
    refine ⟨(List.range len).map fun i => Classical.choose (hex i), by simp, hl, hm, ?_, ?_⟩
    · intro hn
      have hn' : 0 < len := by simpa using hn
      have h0 := (Classical.choose_spec (hex 0) hn').1.1
      have hb := lt_of_cell h0
      rw [block_of_add] at hb
      refine ⟨x, rfl, hb, fun k hk => ?_⟩
      have hk' : k < len := by simpa using hk
      have hs := (Classical.choose_spec (hex k) hk').1
      simp only [List.getElem_map, List.getElem_range]
      exact hs
    · intro v hv
      obtain ⟨i, hi', rfl⟩ := List.mem_map.1 hv
      exact (Classical.choose_spec (hex i) (List.mem_range.1 hi')).2
end Go.Proofs.Ythdfflbhogfejaa
