/- The answers of Run for transfers on links apart. No program in sight. -/
import Derived.Test.YtgjhjdjbhmblmaaTwAQ
namespace Go.Proofs.Ytgjhjdjbhmblmaa

theorem links_both {n : Nat} {ls : List Int} (h : LinksOk n ls) : LinksOk (n + n) ls := fun i hi => by
  have := h i hi
  exact ⟨this.1, by omega, this.2.2⟩
theorem links_shift {n : Nat} {ls : List Int} (h : LinksOk n ls) : LinksOk (n + n) (ls.map ((n : Int) + ·)) := fun i hi => by
  rw [List.length_map] at hi
  have := h i hi
  simp only [List.getElem_map]
  exact ⟨by omega, by omega, fun h0 => by have := this.2.2 h0; omega⟩
theorem valid_both {caps : List Int} {l m : List Tr} (hl : validTr caps l) (hm : validTr caps m) (hn : l.length + m.length ≤ 48) (hc : caps.length ≤ 32) : validTr (caps ++ caps) (l ++ shT caps.length m) := by
  refine ⟨fun t ht => ?_, by rw [List.length_append]; omega, by rw [flT_len, List.length_append, shT_len]; exact hn, fun c hc => ?_, fun f hf => ?_⟩
  · rcases List.mem_append.1 ht with h | h
    · exact hl.1 t h
    · obtain ⟨u, hu, rfl⟩ := List.mem_map.1 h
      exact hm.1 u hu
  · rcases List.mem_append.1 hc with h | h
    · exact hl.2.2.2.1 c h
    · exact hl.2.2.2.1 c h
  · obtain ⟨i, hi, rfl⟩ := List.getElem_of_mem hf
    rw [flT_len] at hi
    rw [flT_get hi]
    refine ⟨Int.le_refl _, by omega, ?_⟩
    rw [List.length_append]
    have hmem := List.getElem_mem hi
    rcases List.mem_append.1 hmem with h | h
    · exact links_both (hl.links h)
    · obtain ⟨u, hu, e⟩ := List.mem_map.1 h
      rw [← e]
      exact links_shift (hm.links hu)
theorem stuck_both {caps : List Int} {l m : List Tr} (hl : validTr caps l) (hm : validTr caps m) : (∃ t ∈ l ++ shT caps.length m, stuckT (caps ++ caps) t) ↔ (∃ t ∈ l, stuckT caps t) ∨ (∃ t ∈ m, stuckT caps t) := by
  constructor
  · rintro ⟨t, ht, h0, e, he, hz⟩
    rcases List.mem_append.1 ht with h | h
    · have h1 := (hl.links h).mem he
      rw [getD_app _ _ _ _ (by omega)] at hz
      exact .inl ⟨t, h, h0, e, he, hz⟩
    · obtain ⟨u, hu, rfl⟩ := List.mem_map.1 h
      obtain ⟨x, hx, rfl⟩ := List.mem_map.1 he
      have h1 := (hm.links hu).mem hx
      rw [show ((caps.length : Int) + x).toNat = caps.length + x.toNat by omega, getD_app2] at hz
      exact .inr ⟨u, hu, h0, x, hx, hz⟩
  · rintro (⟨t, h, h0, e, he, hz⟩ | ⟨u, hu, h0, x, hx, hz⟩)
    · have h1 := (hl.links h).mem he
      exact ⟨t, List.mem_append_left _ h, h0, e, he, by rw [getD_app _ _ _ _ (by omega)]; exact hz⟩
    · have h1 := (hm.links hu).mem hx
      refine ⟨_, List.mem_append_right _ (List.mem_map.2 ⟨u, hu, rfl⟩), h0, _, List.mem_map.2 ⟨x, hx, rfl⟩, ?_⟩
      rw [show ((caps.length : Int) + x).toNat = caps.length + x.toNat by omega, getD_app2]; exact hz
theorem check_both {caps : List Int} {l m : List Tr} (hl : validTr caps l) (hm : validTr caps m) (hn : l.length + m.length ≤ 48) (hc : caps.length ≤ 32) : checkM (caps ++ caps) (l ++ shT caps.length m) = if checkM caps l = 0 ∧ checkM caps m = 0 then 0 else 113 := by
  have hb := stuck_both hl hm
  have k0 : checkM (caps ++ caps) (l ++ shT caps.length m) = if ∃ t ∈ l ++ shT caps.length m, stuckT (caps ++ caps) t then 113 else 0 := by rw [checkM, if_pos (valid_both hl hm hn hc)]
  have k1 : checkM caps l = if ∃ t ∈ l, stuckT caps t then 113 else 0 := by rw [checkM, if_pos hl]
  have k2 : checkM caps m = if ∃ t ∈ m, stuckT caps t then 113 else 0 := by rw [checkM, if_pos hm]
  by_cases h1 : ∃ t ∈ l, stuckT caps t
  · rw [if_pos h1] at k1
    rw [if_pos (hb.2 (.inl h1))] at k0
    rw [k0, if_neg (by omega)]
  · rw [if_neg h1] at k1
    by_cases h2 : ∃ t ∈ m, stuckT caps t
    · rw [if_pos h2] at k2
      rw [if_pos (hb.2 (.inr h2))] at k0
      rw [k0, if_neg (by omega)]
    · rw [if_neg h2] at k2
      rw [if_neg (fun h => (hb.1 h).elim h1 h2)] at k0
      rw [k0, if_pos ⟨k1, k2⟩]
theorem run_both {caps : List Int} {l m : List Tr} (hn : l.length + m.length ≤ 48) (hc : caps.length ≤ 32) (h1 : checkM caps l = 0) (h2 : checkM caps m = 0) :
    (runS (caps ++ caps) (l ++ shT caps.length m)).fn = (runS caps l).fn ++ (runS caps m).fn ∧ (runS (caps ++ caps) (l ++ shT caps.length m)).tk = max (runS caps l).tk (runS caps m).tk := by
  have c1 := checkM_zero h1
  have c2 := checkM_zero h2
  have h3 : checkM (caps ++ caps) (l ++ shT caps.length m) = 0 := by rw [check_both c1.1 c2.1 hn hc, if_pos ⟨h1, h2⟩]
  obtain ⟨N1, e1⟩ : ∃ N, N = runN caps l := ⟨_, rfl⟩
  obtain ⟨N2, e2⟩ : ∃ N, N = runN caps m := ⟨_, rfl⟩
  have z1 := (runN_spec h1).2
  have z2 := (runN_spec h2).2
  rw [← e1] at z1
  rw [← e2] at z2
  have s1 := sim_stay c1.1 z1 N2
  have s2 := sim_stay c2.1 z2 N1
  rw [Nat.add_comm N2 N1] at s2
  have z1' : allZ (simM caps l (N1 + N2)) := by rw [s1]; exact z1
  have z2' : allZ (simM caps m (N1 + N2)) := by rw [s2]; exact z2
  have hb := sim_both c1.1 c2.1 (N1 + N2)
  have zb : allZ (simM (caps ++ caps) (l ++ shT caps.length m) (N1 + N2)) := by
    intro i hi
    rw [hb.1] at hi ⊢
    rw [List.length_append] at hi
    rcases Nat.lt_or_ge i (simM caps l (N1 + N2)).left.length with h | h
    · rw [getD_app _ _ _ _ h]; exact z1' i h
    · obtain ⟨q, rfl⟩ : ∃ q, i = (simM caps l (N1 + N2)).left.length + q := ⟨i - (simM caps l (N1 + N2)).left.length, by omega⟩
      rw [getD_app2]; exact z2' q (by omega)
  rw [runS_of h3 zb, runS_of h1 z1', runS_of h2 z2']
  exact ⟨hb.2.1, hb.2.2⟩
end Go.Proofs.Ytgjhjdjbhmblmaa
