/- No run of transfers is shorter than Bound says. No program in sight. -/
import Derived.Test.YtgjhjdjbhmblmaaTrK
namespace Go.Proofs.Ytgjhjdjbhmblmaa

/-- what is left of the transfers over a link that do not start before a tick -/
def sumL : List Tr → List Int → Int → Int → Int
  | u :: l, x :: xs, s, e => (if s ≤ u.2.2 ∧ e ∈ u.1 then x else 0) + sumL l xs s e
  | [], _, _, _ => 0
  | _ :: _, [], _, _ => 0
theorem sumL_bytes (l : List Tr) (s e : Int) : sumL l (bytesM l) s e = sumE l s e := by
  induction l with
  | nil => rfl
  | cons u l ih => simp only [bytesM, List.map_cons, sumL, sumE] at *; rw [ih]
theorem sumL_congr (l : List Tr) : ∀ (xs ys : List Int) (s e : Int), xs.length = l.length → ys.length = l.length → (∀ j (h : j < l.length), s ≤ l[j].2.2 → xs.getD j 0 = ys.getD j 0) → sumL l xs s e = sumL l ys s e := by
  induction l with
  | nil => intro xs ys s e _ _ _; cases xs <;> cases ys <;> simp [sumL]
  | cons u l ih =>
    intro xs ys s e hx hy h
    cases xs with
    | nil => simp at hx
    | cons x xs => cases ys with
      | nil => simp at hy
      | cons y ys =>
        have := ih xs ys s e (by simpa using hx) (by simpa using hy) (fun j hj hs => by simpa using h (j + 1) (by simpa using hj) (by simpa using hs))
        simp only [sumL, this]
        have h0 := h 0 (by simp)
        simp only [List.getElem_cons_zero, List.getD_cons_zero] at h0
        by_cases hc : s ≤ u.2.2 ∧ e ∈ u.1
        · rw [if_pos hc, if_pos hc, h0 hc.1]
        · rw [if_neg hc, if_neg hc]
theorem sumL_zero (l : List Tr) : ∀ (xs : List Int) (s e : Int), (∀ j, j < l.length → xs.getD j 0 = 0) → sumL l xs s e = 0 := by
  induction l with
  | nil => intro xs s e _; cases xs <;> rfl
  | cons u l ih =>
    intro xs s e h
    cases xs with
    | nil => rfl
    | cons x xs =>
      have h0 : x = 0 := by simpa using h 0 (by simp)
      have := ih xs s e (fun j hj => by simpa using h (j + 1) (by simpa using hj))
      subst h0
      simp only [sumL, this]; split <;> rfl
theorem sumL_nonneg (l : List Tr) : ∀ (xs : List Int) (s e : Int), (∀ j, j < l.length → 0 ≤ xs.getD j 0) → 0 ≤ sumL l xs s e := by
  induction l with
  | nil => intro xs s e _; cases xs <;> simp [sumL]
  | cons u l ih =>
    intro xs s e h
    cases xs with
    | nil => simp [sumL]
    | cons x xs =>
      have h0 : 0 ≤ x := by simpa using h 0 (by simp)
      have := ih xs s e (fun j hj => by simpa using h (j + 1) (by simpa using hj))
      simp only [sumL]; split <;> omega
/-- what is sent is no more than the load of the link -/
theorem sumL_send (l : List Tr) : ∀ (xs ys us : List Int) (s e : Int), xs.length = l.length → ys.length = l.length → us.length = l.length → (∀ j, j < l.length → ys.getD j 0 = xs.getD j 0 - us.getD j 0) → (∀ j, j < l.length → 0 ≤ us.getD j 0) → sumL l xs s e - sumL l ys s e ≤ ld (l.map fun t => (t.1, 0)) us e := by
  induction l with
  | nil => intro xs ys us s e _ _ _ _ _; cases xs <;> cases ys <;> simp [sumL, ld]
  | cons u l ih =>
    intro xs ys us s e hx hy hu h h0
    cases xs with
    | nil => simp at hx
    | cons x xs => cases ys with
      | nil => simp at hy
      | cons y ys => cases us with
        | nil => simp at hu
        | cons v us =>
          have := ih xs ys us s e (by simpa using hx) (by simpa using hy) (by simpa using hu) (fun j hj => by simpa using h (j + 1) (by simpa using hj)) (fun j hj => by simpa using h0 (j + 1) (by simpa using hj))
          have h1 : y = x - v := by simpa using h 0 (by simp)
          have h2 : 0 ≤ v := by simpa using h0 0 (by simp)
          simp only [List.map_cons, sumL, ld]
          by_cases hc : s ≤ u.2.2 ∧ e ∈ u.1
          · rw [if_pos hc, if_pos hc]
            have hp : 1 ≤ u.1.count e := List.count_pos_iff.2 hc.2
            have h3 : (1 : Int) * v ≤ (u.1.count e : Int) * v := Int.mul_le_mul_of_nonneg_right (by omega) h2
            rw [Int.one_mul] at h3
            omega
          · rw [if_neg hc, if_neg hc]
            have h3 := Int.mul_nonneg (show (0 : Int) ≤ (u.1.count e : Int) by omega) h2
            omega
theorem ld_links (l : List Fl) : ∀ (m : List Fl) (us : List Int) (e : Int), l.length = m.length → (∀ i, i < l.length → lkA l i = lkA m i) → ld l us e = ld m us e := by
  induction l with
  | nil => intro m us e h _; cases m with
    | nil => rfl
    | cons a m => simp at h
  | cons f l ih =>
    intro m us e hl h
    cases m with
    | nil => simp at hl
    | cons g m => cases us with
      | nil => rfl
      | cons v us =>
        have h0 : f.1 = g.1 := by simpa [lkA] using h 0 (by simp)
        have := ih m us e (by simpa using hl) (fun i hi => by have := h (i + 1) (by simpa using hi); simpa [lkA] using this)
        simp only [ld, h0, this]
theorem ld_flT (l : List Tr) (f : Nat → Int) (us : List Int) (e : Int) : ld (flT l f) us e = ld (l.map fun t => (t.1, 0)) us e := by
  refine ld_links _ _ us e (by rw [flT_len, List.length_map]) (fun i hi => ?_)
  rw [flT_len] at hi
  rw [flT_lk hi, lkA, List.getD_eq_getElem?_getD, List.getElem?_map, List.getElem?_eq_getElem hi]; rfl
theorem tick_left {caps : List Int} {l : List Tr} {s : Sm} (h : SInv l s) (t : Int) (j : Nat) (hj : j < l.length) : (tickM caps l s t).left.getD j 0 = s.left.getD j 0 - (sentM caps l s.left t).getD j 0 := by
  rw [tickM, fpart_left _ _ _ _ (by rw [h.ll]; exact Nat.le_refl _), if_pos hj]
theorem tick_tk {caps : List Int} {l : List Tr} {s : Sm} (h : SInv l s) (t : Int) : (tickM caps l s t).tk = if ∃ j, j < l.length ∧ endsT (sentM caps l s.left t) s j then t + 1 else s.tk := by
  rw [tickM, fpart_tk _ _ _ _ (by rw [h.ll]; exact Nat.le_refl _)]
/-- all that ended has ended by the tick that the run tells -/
theorem tk_inv {caps : List Int} {l : List Tr} (hv : validTr caps l) (k : Nat) : ∃ T : Nat, (simM caps l k).tk = T ∧ T ≤ k ∧ ∀ j, j < l.length → (simM caps l k).left.getD j 0 = 0 → (simM caps l T).left.getD j 0 = 0 := by
  induction k with
  | zero => exact ⟨0, rfl, Nat.le_refl _, fun j _ h => h⟩
  | succ k ih =>
    obtain ⟨T, h1, h2, h3⟩ := ih
    have hI := SInv.sim hv k (caps := caps)
    have ht := tick_tk (caps := caps) hI k
    by_cases hc : ∃ j, j < l.length ∧ endsT (sentM caps l (simM caps l k).left k) (simM caps l k) j
    · rw [if_pos hc] at ht
      exact ⟨k + 1, by rw [simM, ht]; omega, Nat.le_refl _, fun j _ h => h⟩
    · rw [if_neg hc] at ht
      refine ⟨T, by rw [simM, ht, h1], by omega, fun j hj h => h3 j hj ?_⟩
      rw [simM, tick_left hI _ j hj] at h
      have hs := sentM_bd (hI.ok hv k) j hj
      false_or_by_contra
      rename_i hne
      exact hc ⟨j, hj, by omega, h⟩
theorem sim_tk {caps : List Int} {l : List Tr} (hv : validTr caps l) {N : Nat} (hN : allZ (simM caps l N)) : ∃ T : Nat, (simM caps l N).tk = T ∧ allZ (simM caps l T) := by
  obtain ⟨T, h1, _, h3⟩ := tk_inv hv N (caps := caps)
  exact ⟨T, h1, fun i hi => by
    rw [(simM_len caps l T).1] at hi
    exact h3 i hi (hN i (by rw [(simM_len caps l N).1]; exact hi))⟩
/-- nothing is sent before the start -/
theorem sim_start {caps : List Int} {l : List Tr} (hv : validTr caps l) (j : Nat) (hj : j < l.length) (k : Nat) (hk : (k : Int) ≤ l[j].2.2) : (simM caps l k).left.getD j 0 = l[j].2.1 := by
  induction k with
  | zero =>
    show (bytesM l).getD j 0 = _
    rw [getD_lt _ _ _ (by rw [bytesM_len]; exact hj)]; simp [bytesM]
  | succ k ih =>
    have ih := ih (by omega)
    have hI := SInv.sim hv k (caps := caps)
    rw [simM, tick_left hI _ j hj, ih]
    have hs := sentM_bd (hI.ok hv k) j hj
    rw [limT, getD_lt l _ _ hj, if_pos (by omega)] at hs
    omega
theorem sent_cap {caps : List Int} {l : List Tr} {left : List Int} {t : Int} (h : stepOk caps l left t) (j : Nat) (hj : j < l.length) (e : Int) (he : e ∈ l[j].1) : ld (l.map fun t => (t.1, 0)) (sentM caps l left t) e ≤ cpF caps e := by
  have := unitsM_cap h.fl.ok j (by rw [flT_len]; exact hj) e (by rw [flT_lk hj]; exact he)
  rw [ld_flT] at this
  exact this
/-- what goes over a link in so many ticks -/
theorem sum_ticks {caps : List Int} {l : List Tr} (hv : validTr caps l) (j : Nat) (hj : j < l.length) (e : Int) (he : e ∈ l[j].1) (s : Int) (k m : Nat) : sumL l (simM caps l k).left s e - sumL l (simM caps l (k + m)).left s e ≤ cpF caps e * (m : Int) := by
  induction m with
  | zero => simp
  | succ m ih =>
    have hI := SInv.sim hv (k + m) (caps := caps)
    have hI2 := SInv.sim hv (k + (m + 1)) (caps := caps)
    have h1 := sumL_send l (simM caps l (k + m)).left (simM caps l (k + (m + 1))).left (sentM caps l (simM caps l (k + m)).left ((k + m : Nat) : Int)) s e hI.ll hI2.ll (sentM_len _ _ _ _)
      (fun i hi => tick_left hI _ i hi) (fun i hi => (sentM_bd (hI.ok hv (k + m)) i hi).1)
    have h2 := sent_cap (hI.ok hv (k + m)) j hj e he
    have h3 : cpF caps e * ((m + 1 : Nat) : Int) = cpF caps e * (m : Int) + cpF caps e := by rw [Int.natCast_add, Int.mul_add]; simp
    omega
theorem upM_le {a b n : Int} (hb : 0 < b) (h : a ≤ b * n) : upM a b ≤ n := by
  unfold upM
  have : a + b - 1 < (n + 1) * b := by rw [Int.add_mul, Int.mul_comm n b]; omega
  have := Int.ediv_lt_of_lt_mul hb this
  omega
theorem sumE_mem {l : List Tr} (hp : ∀ t ∈ l, trOk t) {t : Tr} (ht : t ∈ l) (s e : Int) (hs : s ≤ t.2.2) (he : e ∈ t.1) : t.2.1 ≤ sumE l s e := by
  induction l with
  | nil => cases ht
  | cons u l ih =>
    have h1 := sumE_bd (l := l) (fun t ht => hp t (List.mem_cons_of_mem _ ht)) s e
    have h2 := (hp u (by simp)).1
    simp only [sumE]
    rcases List.mem_cons.1 ht with rfl | ht
    · rw [if_pos ⟨hs, he⟩]; omega
    · have := ih (fun t ht => hp t (List.mem_cons_of_mem _ ht)) ht
      split <;> omega
/-- what a link must carry from a start on needs its ticks -/
theorem link_ticks {caps : List Int} {l : List Tr} (hv : validTr caps l) {T : Nat} (hT : allZ (simM caps l T)) (j : Nat) (hj : j < l.length) (hb : l[j].2.1 ≠ 0) (e : Int) (he : e ∈ l[j].1) : l[j].2.2 < (T : Int) ∧ sumE l l[j].2.2 e ≤ cpF caps e * ((T : Int) - l[j].2.2) := by
  have h0 := (hv.1 _ (List.getElem_mem hj)).2.2.1
  have hI := SInv.sim hv T (caps := caps)
  have hlt : l[j].2.2 < (T : Int) := by
    false_or_by_contra
    rename_i hge
    have h1 := sim_start (caps := caps) hv j hj T (by omega)
    rw [hT.get hI.ll j hj] at h1
    omega
  refine ⟨hlt, ?_⟩
  obtain ⟨s, hs⟩ : ∃ s : Nat, l[j].2.2 = s := ⟨l[j].2.2.toNat, by omega⟩
  rw [hs] at hlt ⊢
  have h1 := sum_ticks (caps := caps) hv j hj e he s s (T - s)
  rw [show s + (T - s) = T by omega, sumL_zero l (simM caps l T).left s e (fun i hi => hT.get hI.ll i hi)] at h1
  have hIs := SInv.sim hv s (caps := caps)
  rw [sumL_congr l (simM caps l s).left (bytesM l) s e hIs.ll (bytesM_len l) (fun i hi hsi => by
    rw [sim_start hv i hi s hsi, getD_lt _ _ _ (by rw [bytesM_len]; exact hi)]; simp [bytesM]), sumL_bytes] at h1
  have h2 : ((T - s : Nat) : Int) = (T : Int) - (s : Int) := by omega
  rw [h2] at h1
  omega
theorem start_lt {caps : List Int} {l : List Tr} (hv : validTr caps l) {T : Nat} (hT : allZ (simM caps l T)) (j : Nat) (hj : j < l.length) (hb : l[j].2.1 ≠ 0) : l[j].2.2 < (T : Int) := by
  false_or_by_contra
  rename_i hge
  have h1 := sim_start (caps := caps) hv j hj T (by omega)
  rw [hT.get (SInv.sim hv T (caps := caps)).ll j hj] at h1
  omega
theorem foldE_le {caps : List Int} {l : List Tr} {t : Tr} {N : Int} (es : List Int) (h : ∀ e ∈ es, ∀ best, best ≤ N → bndE caps l t best e ≤ N) : ∀ best : Int, best ≤ N → es.foldl (bndE caps l t) best ≤ N := by
  induction es with
  | nil => intro best h; exact h
  | cons e es ih =>
    intro best hb
    exact ih (fun e he => h e (List.mem_cons_of_mem _ he)) _ (h e (by simp) best hb)
theorem foldT_le {caps : List Int} {l : List Tr} {N : Int} (ts : List Tr) (h : ∀ t ∈ ts, ∀ best, best ≤ N → bndT caps l best t ≤ N) : ∀ best : Int, best ≤ N → ts.foldl (bndT caps l) best ≤ N := by
  induction ts with
  | nil => intro best h; exact h
  | cons t ts ih =>
    intro best hb
    exact ih (fun t ht => h t (List.mem_cons_of_mem _ ht)) _ (h t (by simp) best hb)
/-- no run is shorter -/
theorem bound_le {caps : List Int} {l : List Tr} (hv : validTr caps l) (hns : ∀ x ∈ l, ¬ stuckT caps x) {T : Nat} (hT : allZ (simM caps l T)) : boundM caps l ≤ T := by
  refine foldT_le l (fun t ht best hb => ?_) 0 (by omega)
  obtain ⟨j, hj, rfl⟩ := List.getElem_of_mem ht
  unfold bndT
  by_cases h0 : l[j].2.1 = 0
  · rw [if_pos h0]; exact hb
  · rw [if_neg h0]
    have hst := start_lt hv hT j hj h0
    refine foldE_le _ (fun e he best hb => ?_) _ ?_
    · have h1 := link_ticks hv hT j hj h0 e he
      have h2 := (caps_pos hv hns ht h0 e he).1
      have h3 := sumE_mem hv.1 ht l[j].2.2 e (Int.le_refl _) he
      have e0 : cpF caps e = caps.getD e.toNat 0 := rfl
      rw [e0] at h1
      have h4 := upM_le h2 h1.2
      have h5 := upM_le h2 (Int.le_trans h3 h1.2)
      unfold bndE
      omega
    · unfold bndS
      split <;> omega
theorem bound_run {caps : List Int} {l : List Tr} (h : checkM caps l = 0) : boundM caps l ≤ (runS caps l).tk := by
  have hc := checkM_zero h
  obtain ⟨T, h1, h2⟩ := sim_tk hc.1 (runN_spec h).2
  rw [runS, if_pos h, h1]
  exact bound_le hc.1 hc.2 h2
end Go.Proofs.Ytgjhjdjbhmblmaa
