/- Flows that came in as arguments, opened to what the walks ask. -/
import Derived.Test.YthdfflbhogfejaaOpenT
namespace Go.Proofs.Ythdfflbhogfejaa
open Go.Joins Go.ChangeShapes Go.WideShapes Go.ChangeAt Go.RowKit Go.Deep

set_option maxRecDepth 100000 in
theorem fm_of_cells {H : Type} {enc : TypeId × Value → H} {W : World} {base : Nat} {spare : Nat → Bool} {held : Bool} {c0 c1 : Value} {n : Nat} {y : DataW H × List MemPlace}
    (h : DataW.trod enc Try.prog W base spare held n 48 [c0, c1] = some y) : ∃ x : Fm, c0 = .slice x.A x.ls.length x.c ∧ c1 = .int .i64 x.m ∧ x.ok W := by
  obtain ⟨ys, m, _, _, _, hlen, hg⟩ := DataW.trod_struct Try.underlying48 h
  have k4 : Try.prog.cellsOf 22 = 1 := by kernel_rfl
  have k23 : Try.prog.cellsOf 3 = 1 := by kernel_rfl
  have h0 : DataW.trod enc Try.prog W base spare held m 22 [c0] = ys[0]? := by simpa [k4] using hg 0 _ rfl
  have h1 : DataW.trod enc Try.prog W base spare held m 3 [c1] = ys[1]? := by simpa [k23] using hg 1 _ rfl
  match ys, hlen with
  | [y0, y1], _ =>
    obtain ⟨A, c, xs, rfl, hA⟩ := is_of_trod Try.underlying22 h0
    obtain ⟨b, hb, _, hwb⟩ := DataW.trod_int Try.underlying3 h1
    simp only [List.cons.injEq, and_true] at hb
    exact ⟨⟨A, c, xs, b⟩, rfl, hb, hA, wf_i64 hwb⟩
set_option maxRecDepth 100000 in
theorem ws_of {H : Type} {enc : TypeId × Value → H} {W : World} {base : Nat} {spare : Nat → Bool} {held : Bool} {a : Option Addr} {len cap : Nat} {d : DataW H} {p : List MemPlace}
    (h : DataW.Trod enc Try.prog W base spare held 23 (.slice a len cap) d p) : ∃ vs : List Fm, vs.length = len ∧ Ws W a cap vs := by
  obtain ⟨fuel, hf⟩ := h
  rcases open_slice Try.underlying23 hf with ⟨hcs, _⟩ | ⟨x, l, c, m, n, D, Pl, hcs, _, hl, hm, hmm, _, hi⟩
  · simp [Value.cells] at hcs
    obtain ⟨rfl, rfl, rfl⟩ := hcs
    exact ⟨[], rfl, Nat.le_refl _, by omega, fun h => absurd h (by simp), fun v hv => absurd hv (by simp)⟩
  · simp [Value.cells] at hcs
    obtain ⟨rfl, rfl, rfl⟩ := hcs
    have hC : Try.prog.cellsOf 48 = 2 := by kernel_rfl
    have hlm : len ≤ m := by rw [hmm]; split <;> omega
    unfold maxLen at hm
    have hex : ∀ i, ∃ x' : Fm, i < len → (W.cell? (x.add (i * 2)) = some (.slice x'.A x'.ls.length x'.c) ∧ W.cell? ⟨(x.add (i * 2)).block, (x.add (i * 2)).off + 1, none⟩ = some (.int .i64 x'.m)) ∧ x'.ok W := by
      intro i
      by_cases hil : i < len
      · obtain ⟨cs', hc, ht⟩ := hi i (by omega)
        rw [hC] at hc
        obtain ⟨_, hcl, hat⟩ := World.cells?_some hc
        match cs', hcl with
        | [c0, c1], _ =>
          obtain ⟨x', rfl, rfl, hok⟩ := fm_of_cells ht
          refine ⟨x', fun _ => ⟨⟨?_, ?_⟩, hok⟩⟩
          · have h0 := hat 0 (by omega)
            rw [add_at0] at h0
            exact h0
          · have h1 := hat 1 (by omega)
            rw [add_at1 _ 0] at h1
            exact h1
      · exact ⟨Fm.nil, fun h => absurd h hil⟩
    refine ⟨(List.range len).map fun i => Classical.choose (hex i), by simp, by simpa using hl, hm, ?_, ?_⟩
    · intro hn
      have hn' : 0 < len := by simpa using hn
      have h0 := (Classical.choose_spec (hex 0) hn').1.1
      have hb := lt_of_cell h0
      rw [block_of_add] at hb
      refine ⟨x, rfl, hb, fun k hk => ?_⟩
      have hk' : k < len := by simpa using hk
      have hs := (Classical.choose_spec (hex k) hk').1
      simp only [List.getElem_map, List.getElem_range]
      exact hs
    · intro v hv
      obtain ⟨i, hi', rfl⟩ := List.mem_map.1 hv
      exact (Classical.choose_spec (hex i) (List.mem_range.1 hi')).2
end Go.Proofs.Ythdfflbhogfejaa
