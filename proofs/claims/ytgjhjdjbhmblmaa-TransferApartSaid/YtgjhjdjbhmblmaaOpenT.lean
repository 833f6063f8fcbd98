/- Whole numbers and transfers that came in as arguments, opened to what the walks ask. -/
import Derived.Test.YtgjhjdjbhmblmaaOpen
import Derived.Test.YtgjhjdjbhmblmaaTrB
import Derived.Lib.SmallJoins
import Derived.Deep.Slices
import Derived.Deep.Fields
namespace Go.Proofs.Ytgjhjdjbhmblmaa
open Go.Joins Go.ChangeShapes Go.WideShapes Go.ChangeAt Go.RowKit Go.Deep

theorem wf_i64 {z : Int} (h : (Lit.int .i64 z).wf = true) : -9223372036854775808 ≤ z ∧ z ≤ 9223372036854775807 := by
  simp [Lit.wf, IntKind.min, IntKind.max, IntKind.signed, IntKind.bits] at h
  omega
/-- a slice of whole numbers that came in -/
theorem is_of_ints {H : Type} {enc : TypeId × Value → H} {W : World} {base : Nat} {spare : Nat → Bool} {held : Bool} {t : TypeId} {a : Option Addr} {len cap : Nat} {d : DataW H} {p : List MemPlace}
    (ht : Try.prog.underlying t = some (.slice 3)) (h : DataW.Trod enc Try.prog W base spare held t (.slice a len cap) d p) : ∃ xs : List Int, xs.length = len ∧ Is W a cap xs := by
  obtain ⟨fuel, hf⟩ := h
  rcases open_ints ht Try.underlying3 (by kernel_rfl) hf with ⟨hcs, _⟩ | ⟨x, l, c, zs, hcs, _, hl, hm, hz, _, hcell, hwz⟩
  · simp [Value.cells] at hcs
    obtain ⟨rfl, rfl, rfl⟩ := hcs
    exact ⟨[], rfl, Is.nil _ _ _ (by omega)⟩
  · simp [Value.cells] at hcs
    obtain ⟨rfl, rfl, rfl⟩ := hcs
    unfold maxLen at hm
    have hzl : len ≤ zs.length := by
      rw [hz]; split <;> omega
    have hlen : (zs.take len).length = len := by simp; omega
    refine ⟨zs.take len, hlen, ⟨by rw [hlen]; exact hl, hm, ?_, ?_⟩⟩
    · intro hn
      rw [hlen] at hn
      have h0 := hcell 0 (by omega)
      refine ⟨x, rfl, ?_, fun k hk => ?_⟩
      · have := lt_of_cell h0
        rwa [block_of_add] at this
      · rw [hlen] at hk
        rw [hcell k (by omega)]
        simp only [List.getElem_take]
        rw [List.getD_eq_getElem?_getD, List.getElem?_eq_getElem (by omega), Option.getD_some]
    · intro y hy
      exact wf_i64 (hwz _ (List.mem_of_mem_take hy))
theorem is_of_trod {H : Type} {enc : TypeId × Value → H} {W : World} {base : Nat} {spare : Nat → Bool} {held : Bool} {t : TypeId} {v : Value} {n : Nat} {y : DataW H × List MemPlace}
    (ht : Try.prog.underlying t = some (.slice 3)) (h : DataW.trod enc Try.prog W base spare held n t [v] = some y) : ∃ (A : Option Addr) (c : Nat) (xs : List Int), v = .slice A xs.length c ∧ Is W A c xs := by
  have hcs : ∃ A len c, v = .slice A len c := by
    rcases open_ints ht Try.underlying3 (by kernel_rfl) h with ⟨hcs, _⟩ | ⟨x, l, c, zs, hcs, _⟩
    · simp only [List.cons.injEq, and_true] at hcs; exact ⟨_, _, _, hcs⟩
    · simp only [List.cons.injEq, and_true] at hcs; exact ⟨_, _, _, hcs⟩
  obtain ⟨A, len, c, rfl⟩ := hcs
  obtain ⟨y1, y2⟩ := y
  have h2 : DataW.Trod enc Try.prog W base spare held t (.slice A len c) y1 y2 := ⟨n, by simpa [Value.cells] using h⟩
  obtain ⟨xs, rfl, hx⟩ := is_of_ints ht h2
  exact ⟨A, c, xs, rfl, hx⟩
theorem tm_of_cells {H : Type} {enc : TypeId × Value → H} {W : World} {base : Nat} {spare : Nat → Bool} {held : Bool} {c0 c1 c2 : Value} {n : Nat} {y : DataW H × List MemPlace}
    (h : DataW.trod enc Try.prog W base spare held n 26 [c0, c1, c2] = some y) : ∃ x : Tm, c0 = .slice x.A x.ls.length x.c ∧ c1 = .int .i64 x.b ∧ c2 = .int .i64 x.s ∧ x.ok W := by
  obtain ⟨ys, m, _, _, _, hlen, hg⟩ := DataW.trod_struct Try.underlying26 h
  have k4 : Try.prog.cellsOf 22 = 1 := by kernel_rfl
  have k23 : Try.prog.cellsOf 3 = 1 := by kernel_rfl
  have h0 : DataW.trod enc Try.prog W base spare held m 22 [c0] = ys[0]? := by simpa [k4] using hg 0 _ rfl
  have h1 : DataW.trod enc Try.prog W base spare held m 3 [c1] = ys[1]? := by simpa [k23] using hg 1 _ rfl
  have h2 : DataW.trod enc Try.prog W base spare held m 3 [c2] = ys[2]? := by simpa [k23] using hg 2 _ rfl
  match ys, hlen with
  | [y0, y1, y2], _ =>
    obtain ⟨A, c, xs, rfl, hA⟩ := is_of_trod Try.underlying22 h0
    obtain ⟨b, hb, _, hwb⟩ := DataW.trod_int Try.underlying3 h1
    obtain ⟨s, hs, _, hws⟩ := DataW.trod_int Try.underlying3 h2
    simp only [List.cons.injEq, and_true] at hb hs
    exact ⟨⟨A, c, xs, b, s⟩, rfl, hb, hs, hA, wf_i64 hwb, wf_i64 hws⟩
abbrev Tm.nil : Tm := ⟨none, 0, [], 0, 0⟩
theorem ts_of {H : Type} {enc : TypeId × Value → H} {W : World} {base : Nat} {spare : Nat → Bool} {held : Bool} {a : Option Addr} {len cap : Nat} {d : DataW H} {p : List MemPlace}
    (h : DataW.Trod enc Try.prog W base spare held 23 (.slice a len cap) d p) : ∃ vs : List Tm, vs.length = len ∧ Ts W a cap vs := by
  obtain ⟨fuel, hf⟩ := h
  rcases open_slice Try.underlying23 hf with ⟨hcs, _⟩ | ⟨x, l, c, m, n, D, Pl, hcs, _, hl, hm, hmm, _, hi⟩
  · simp [Value.cells] at hcs
    obtain ⟨rfl, rfl, rfl⟩ := hcs
    exact ⟨[], rfl, Nat.le_refl _, by omega, fun h => absurd h (by simp), fun v hv => absurd hv (by simp)⟩
  · simp [Value.cells] at hcs
    obtain ⟨rfl, rfl, rfl⟩ := hcs
    have hC : Try.prog.cellsOf 26 = 3 := by kernel_rfl
    have hlm : len ≤ m := by rw [hmm]; split <;> omega
    unfold maxLen at hm
    have hex : ∀ i, ∃ x' : Tm, i < len → (W.cell? (x.add (i * 3)) = some (.slice x'.A x'.ls.length x'.c) ∧ W.cell? ⟨(x.add (i * 3)).block, (x.add (i * 3)).off + 1, none⟩ = some (.int .i64 x'.b) ∧ W.cell? ⟨(x.add (i * 3)).block, (x.add (i * 3)).off + 2, none⟩ = some (.int .i64 x'.s)) ∧ x'.ok W := by
      intro i
      by_cases hil : i < len
      · obtain ⟨cs', hc, ht⟩ := hi i (by omega)
        rw [hC] at hc
        obtain ⟨_, hcl, hat⟩ := World.cells?_some hc
        match cs', hcl with
        | [c0, c1, c2], _ =>
          obtain ⟨x', rfl, rfl, rfl, hok⟩ := tm_of_cells ht
          refine ⟨x', fun _ => ⟨⟨?_, ?_, ?_⟩, hok⟩⟩
          · have h0 := hat 0 (by omega)
            rw [add_at0] at h0
            exact h0
          · have h1 := hat 1 (by omega)
            rw [add_at1 _ 0] at h1
            exact h1
          · have h2 := hat 2 (by omega)
            rw [add_at1 _ 1] at h2
            exact h2
      · exact ⟨Tm.nil, fun h => absurd h hil⟩
    refine ⟨(List.range len).map fun i => Classical.choose (hex i), by simp, by simpa using hl, hm, ?_, ?_⟩
    · intro hn
      have hn' : 0 < len := by simpa using hn
      have h0 := (Classical.choose_spec (hex 0) hn').1.1
      have hb := lt_of_cell h0
      rw [block_of_add] at hb
      refine ⟨x, rfl, hb, fun k hk => ?_⟩
      have hk' : k < len := by simpa using hk
      have hs := (Classical.choose_spec (hex k) hk').1
      simp only [List.getElem_map, List.getElem_range]
      exact hs
    · intro v hv
      obtain ⟨i, hi', rfl⟩ := List.mem_map.1 hv
      exact (Classical.choose_spec (hex i) (List.mem_range.1 hi')).2
end Go.Proofs.Ytgjhjdjbhmblmaa
