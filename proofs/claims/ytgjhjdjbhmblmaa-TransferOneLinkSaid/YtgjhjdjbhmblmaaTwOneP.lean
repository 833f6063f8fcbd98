/- On one link no run is longer than Bound says. No program in sight. -/
import Derived.Test.YtgjhjdjbhmblmaaTwB
namespace Go.Proofs.Ytgjhjdjbhmblmaa

/-- the transfers that the law makes -/
def oneM (xs : List Int) (j : Nat) : List Tr := (List.range j).map fun k => ([0], withinM (xs.getD (2 * k) 0) 60, withinM (xs.getD (2 * k + 1) 0) 20)
theorem oneM_len (xs : List Int) (j : Nat) : (oneM xs j).length = j := by simp [oneM]
theorem oneM_succ (xs : List Int) (j : Nat) : oneM xs (j + 1) = oneM xs j ++ [([0], withinM (xs.getD (2 * j) 0) 60, withinM (xs.getD (2 * j + 1) 0) 20)] := by
  simp [oneM, List.range_succ]
theorem oneM_mem {xs : List Int} {j : Nat} {t : Tr} (h : t ∈ oneM xs j) : t.1 = [0] ∧ 0 ≤ t.2.1 ∧ t.2.1 ≤ 59 ∧ 0 ≤ t.2.2 ∧ t.2.2 ≤ 19 := by
  obtain ⟨k, _, rfl⟩ := List.mem_map.1 h
  have h1 := withinM_bd (xs.getD (2 * k) 0) (show (1 : Int) ≤ 60 by omega)
  have h2 := withinM_bd (xs.getD (2 * k + 1) 0) (show (1 : Int) ≤ 20 by omega)
  exact ⟨rfl, h1.1, by dsimp only; omega, h2.1, by dsimp only; omega⟩
theorem one_valid {c : Int} (hc : 1 ≤ c ∧ c ≤ 40) (xs : List Int) (j : Nat) (hj : j ≤ 12) : validTr [c] (oneM xs j) := by
  have hl := oneM_len xs j
  refine ⟨fun t ht => ?_, by simp, by rw [flT_len]; omega, fun x hx => ?_, fun f hf => ?_⟩
  · have := oneM_mem ht
    exact ⟨this.2.1, by omega, this.2.2.2.1, by omega⟩
  · rw [List.mem_singleton] at hx; omega
  · obtain ⟨i, hi, rfl⟩ := List.getElem_of_mem hf
    rw [flT_len] at hi
    rw [flT_get hi, (oneM_mem (List.getElem_mem hi)).1]
    refine ⟨Int.le_refl _, by omega, ?_⟩
    intro q hq
    have : q = 0 := by simpa using hq
    subst this
    exact ⟨by simp, by simp, fun h => absurd h (by omega)⟩
theorem one_check {c : Int} (hc : 1 ≤ c ∧ c ≤ 40) (xs : List Int) (j : Nat) (hj : j ≤ 12) : checkM [c] (oneM xs j) = 0 := by
  unfold checkM
  rw [if_pos (one_valid hc xs j hj), if_neg]
  rintro ⟨x, hx, _, e, he, h⟩
  rw [(oneM_mem hx).1, List.mem_singleton] at he
  subst he
  simp at h
  omega
/-- the sum over one link is what goes over it -/
theorem sumL_all (l : List Tr) : ∀ (xs ys us : List Int) (s e : Int), xs.length = l.length → ys.length = l.length → us.length = l.length → (∀ j, j < l.length → ys.getD j 0 = xs.getD j 0 - us.getD j 0) → (∀ j (h : j < l.length), l[j].1.count e = 1) → (∀ j (h : j < l.length), l[j].2.2 < s → us.getD j 0 = 0) → sumL l xs s e - sumL l ys s e = ld (l.map fun t => (t.1, 0)) us e := by
  induction l with
  | nil => intro xs ys us s e _ _ _ _ _ _; cases xs <;> cases ys <;> simp [sumL, ld]
  | cons u l ih =>
    intro xs ys us s e hx hy hu h h1 h0
    cases xs with
    | nil => simp at hx
    | cons x xs => cases ys with
      | nil => simp at hy
      | cons y ys => cases us with
        | nil => simp at hu
        | cons v us =>
          have := ih xs ys us s e (by simpa using hx) (by simpa using hy) (by simpa using hu) (fun j hj => by simpa using h (j + 1) (by simpa using hj)) (fun j hj => h1 (j + 1) (Nat.succ_lt_succ hj)) (fun j hj => by have := h0 (j + 1) (Nat.succ_lt_succ hj); rwa [List.getD_cons_succ] at this)
          have g1 : y = x - v := by simpa using h 0 (by simp)
          have g2 : u.1.count e = 1 := h1 0 (Nat.succ_pos _)
          have g3 : u.2.2 < s → v = 0 := fun hh => by have := h0 0 (Nat.succ_pos _) hh; rwa [List.getD_cons_zero] at this
          have g4 : e ∈ u.1 := List.count_pos_iff.1 (by omega)
          simp only [List.map_cons, sumL, ld, g2]
          by_cases hc : s ≤ u.2.2
          · rw [if_pos ⟨hc, g4⟩, if_pos ⟨hc, g4⟩]
            simp
            omega
          · rw [if_neg (fun h => hc h.1), if_neg (fun h => hc h.1), g3 (by omega)]
            simp
            omega
theorem ld_pos (l : List Tr) : ∀ (us : List Int) (e : Int) (i : Nat), us.length = l.length → (∀ j, j < l.length → 0 ≤ us.getD j 0) → (h : i < l.length) → 0 < us.getD i 0 → e ∈ l[i].1 → 0 < ld (l.map fun t => (t.1, 0)) us e := by
  induction l with
  | nil => intro us e i _ _ h; simp at h
  | cons u l ih =>
    intro us e i hu h0 hi hp he
    cases us with
    | nil => simp at hu
    | cons v us =>
      have h1 : 0 ≤ v := by simpa using h0 0 (by simp)
      have ht : ∀ j, j < l.length → 0 ≤ us.getD j 0 := fun j hj => by simpa using h0 (j + 1) (by simpa using hj)
      simp only [List.map_cons, ld]
      cases i with
      | zero =>
        have h2 : 0 < v := by simpa using hp
        have h3 : e ∈ u.1 := by simpa using he
        have h4 : 1 ≤ u.1.count e := List.count_pos_iff.2 h3
        have h5 : (1 : Int) * v ≤ (u.1.count e : Int) * v := Int.mul_le_mul_of_nonneg_right (by omega) h1
        have h6 := ld_nonneg (l.map fun t => (t.1, (0 : Int))) us e (fun j hj => ht j (by simpa using hj))
        rw [Int.one_mul] at h5
        omega
      | succ i =>
        have := ih us e i (by simpa using hu) ht (by simpa using hi) (by simpa using hp) (by simpa using he)
        have h5 := Int.mul_nonneg (show (0 : Int) ≤ (u.1.count e : Int) by omega) h1
        omega
/-- the link is full in a tick -/
def fullT (caps : List Int) (l : List Tr) (e : Int) (k : Nat) : Prop := ld (l.map fun t => (t.1, 0)) (sentM caps l (simM caps l k).left k) e = cpF caps e
/-- behind a tick in which the link is not full all that had started has ended -/
theorem not_full {caps : List Int} {l : List Tr} {e : Int} (hv : validTr caps l) (h1 : ∀ t ∈ l, t.1 = [e]) (k : Nat) (hf : ¬ fullT caps l e k) (j : Nat) (hj : j < l.length) (hs : l[j].2.2 ≤ (k : Int)) : (simM caps l (k + 1)).left.getD j 0 = 0 := by
  have hI := SInv.sim hv k (caps := caps)
  rw [simM, tick_left hI _ j hj]
  have h2 := unitsM_held (hI.ok hv k).fl.ok j (by rw [flT_len]; exact hj)
  rw [flT_lm hj] at h2
  rcases h2 with h2 | ⟨e', he, h2, _⟩
  · have h3 : (sentM caps l (simM caps l k).left k).getD j 0 = (simM caps l k).left.getD j 0 := by
      rw [sentM, h2, limT, getD_lt l _ _ hj, if_neg (by omega)]
    omega
  · rw [flT_lk hj, h1 _ (List.getElem_mem hj), List.mem_singleton] at he
    subst he
    rw [ld_flT] at h2
    exact absurd h2 hf
theorem left_zero {caps : List Int} {l : List Tr} (hv : validTr caps l) (j : Nat) (hj : j < l.length) (k m : Nat) (h : (simM caps l k).left.getD j 0 = 0) : (simM caps l (k + m)).left.getD j 0 = 0 := by
  induction m with
  | zero => exact h
  | succ m ih =>
    have hI := SInv.sim hv (k + m) (caps := caps)
    have hI2 := SInv.sim hv (k + m + 1) (caps := caps)
    have h2 := (hI2.bd j hj).1
    rw [← Nat.add_assoc]
    have h3 := sentM_bd (hI.ok hv (k + m)) j hj
    have h4 := tick_left (caps := caps) hI ((k + m : Nat) : Int) j hj
    have e1 : simM caps l (k + m + 1) = tickM caps l (simM caps l (k + m)) ((k + m : Nat) : Int) := rfl
    rw [e1] at h2 ⊢
    omega
theorem last_gap {p : Nat → Prop} (n : Nat) : ∃ s, s ≤ n ∧ (s = 0 ∨ ∃ r, s = r + 1 ∧ ¬ p r) ∧ ∀ t, s ≤ t → t < n → p t := by
  induction n with
  | zero => exact ⟨0, Nat.le_refl _, .inl rfl, fun t _ h => absurd h (by omega)⟩
  | succ n ih =>
    by_cases h : p n
    · obtain ⟨s, h1, h2, h3⟩ := ih
      refine ⟨s, by omega, h2, fun t ht hn => ?_⟩
      rcases Nat.lt_or_ge t n with h4 | h4
      · exact h3 t ht h4
      · have : t = n := by omega
        subst this; exact h
    · exact ⟨n + 1, Nat.le_refl _, .inr ⟨n, rfl, h⟩, fun t ht hn => absurd hn (by omega)⟩
theorem le_upM {a b n : Int} (hb : 0 < b) (h : b * (n - 1) < a) : n ≤ upM a b := by
  unfold upM
  have h1 : n * b ≤ a + b - 1 := by rw [Int.mul_sub, Int.mul_one, Int.mul_comm b n] at h; omega
  exact Int.le_ediv_of_mul_le hb h1
theorem foldE_ge {caps : List Int} {l : List Tr} {t : Tr} (es : List Int) : ∀ best : Int, best ≤ es.foldl (bndE caps l t) best := by
  induction es with
  | nil => intro best; exact Int.le_refl _
  | cons e es ih =>
    intro best
    refine Int.le_trans ?_ (ih (bndE caps l t best e))
    unfold bndE; omega
theorem bndT_ge (caps : List Int) (l : List Tr) (t : Tr) (best : Int) : best ≤ bndT caps l best t := by
  unfold bndT
  split
  · exact Int.le_refl _
  · exact Int.le_trans (by unfold bndS; split <;> omega) (foldE_ge _ _)
theorem foldT_ge {caps : List Int} {l : List Tr} (ts : List Tr) : ∀ best : Int, best ≤ ts.foldl (bndT caps l) best := by
  induction ts with
  | nil => intro best; exact Int.le_refl _
  | cons t ts ih => intro best; exact Int.le_trans (bndT_ge caps l t best) (ih _)
theorem foldT_at {caps : List Int} {l : List Tr} {t : Tr} {e : Int} (he : t.1 = [e]) (hb : t.2.1 ≠ 0) (ts : List Tr) (ht : t ∈ ts) : ∀ best : Int, t.2.2 + upM (sumE l t.2.2 e) (caps.getD e.toNat 0) ≤ ts.foldl (bndT caps l) best := by
  induction ts with
  | nil => cases ht
  | cons u ts ih =>
    intro best
    rcases List.mem_cons.1 ht with rfl | ht
    · refine Int.le_trans ?_ (foldT_ge ts _)
      unfold bndT
      rw [if_neg hb, he]
      simp only [List.foldl_cons, List.foldl_nil]
      unfold bndE; omega
    · exact ih ht _
/-- on one link no run is longer than its bound -/
theorem run_le {caps : List Int} {l : List Tr} {e : Int} (hv : validTr caps l) (hns : ∀ x ∈ l, ¬ stuckT caps x) (h1 : ∀ t ∈ l, t.1 = [e]) (hcp : 0 < cpF caps e) (T : Nat) (hz : allZ (simM caps l T)) (hT : (simM caps l T).tk = T) : (T : Int) ≤ boundM caps l := by
  rcases Nat.eq_zero_or_pos T with h0 | h0
  · subst h0; exact foldT_ge l 0
  obtain ⟨n, rfl⟩ : ∃ n, T = n + 1 := ⟨T - 1, by omega⟩
  have hIn := SInv.sim hv n (caps := caps)
  -- something is sent in the last tick
  have hlast : ∃ j, j < l.length ∧ 0 < (sentM caps l (simM caps l n).left n).getD j 0 := by
    have ht := tick_tk (caps := caps) hIn n
    have e1 : simM caps l (n + 1) = tickM caps l (simM caps l n) (n : Int) := rfl
    rw [e1] at hT
    rw [hT] at ht
    by_cases hc : ∃ j, j < l.length ∧ endsT (sentM caps l (simM caps l n).left n) (simM caps l n) j
    · obtain ⟨j, hj, hp, _⟩ := hc
      exact ⟨j, hj, hp⟩
    · rw [if_neg hc] at ht
      obtain ⟨T', h2, h3, _⟩ := tk_inv hv n (caps := caps)
      omega
  obtain ⟨s, hs, hgap, hfull⟩ := last_gap (p := fullT caps l e) n
  -- what started before s has ended
  have hold : ∀ j (hj : j < l.length), l[j].2.2 < (s : Int) → ∀ k, s ≤ k → (simM caps l k).left.getD j 0 = 0 := by
    intro j hj hlt k hk
    have h00 := (hv.1 _ (List.getElem_mem hj)).2.2.1
    rcases hgap with h | ⟨r, rfl, hr⟩
    · omega
    · have := left_zero hv j hj (r + 1) (k - (r + 1)) (not_full hv h1 r hr j hj (by omega))
      rwa [show r + 1 + (k - (r + 1)) = k by omega] at this
  have hcount : ∀ j (h : j < l.length), l[j].1.count e = 1 := fun j hj => by rw [h1 _ (List.getElem_mem hj)]; simp
  have hstep : ∀ k, s ≤ k → sumL l (simM caps l k).left s e - sumL l (simM caps l (k + 1)).left s e = ld (l.map fun t => (t.1, 0)) (sentM caps l (simM caps l k).left k) e := by
    intro k hk
    have hI := SInv.sim hv k (caps := caps)
    have hI2 := SInv.sim hv (k + 1) (caps := caps)
    refine sumL_all l _ _ _ s e hI.ll hI2.ll (sentM_len _ _ _ _) (fun i hi => tick_left hI _ i hi) hcount (fun j hj hlt => ?_)
    have h2 := sentM_bd (hI.ok hv k) j hj
    have h3 := limT_le (l := l) (t := k) (hI.bd j hj).1
    have h4 := hold j hj hlt k hk
    omega
  have hsum : ∀ m, s + m ≤ n → sumL l (simM caps l s).left s e - sumL l (simM caps l (s + m)).left s e = cpF caps e * (m : Int) := by
    intro m
    induction m with
    | zero => intro _; simp
    | succ m ih =>
      intro hm
      have ih := ih (by omega)
      have h2 := hstep (s + m) (by omega)
      have h3 : ld (l.map fun t => (t.1, 0)) (sentM caps l (simM caps l (s + m)).left ((s + m : Nat) : Int)) e = cpF caps e := hfull (s + m) (by omega) (by omega)
      have h4 : cpF caps e * ((m + 1 : Nat) : Int) = cpF caps e * (m : Int) + cpF caps e := by rw [Int.natCast_add, Int.mul_add]; simp
      rw [← Nat.add_assoc]
      omega
  have hend : 0 < sumL l (simM caps l n).left s e := by
    have h2 := hstep n hs
    rw [sumL_zero l (simM caps l (n + 1)).left s e (fun i hi => hz.get (SInv.sim hv (n + 1) (caps := caps)).ll i hi)] at h2
    obtain ⟨j, hj, hp⟩ := hlast
    have h3 := ld_pos l (sentM caps l (simM caps l n).left n) e j (sentM_len _ _ _ _) (fun i hi => (sentM_bd (hIn.ok hv n) i hi).1) hj hp (by rw [h1 _ (List.getElem_mem hj)]; simp)
    omega
  -- a transfer that starts at s
  have hfst : ∃ j, ∃ hj : j < l.length, 0 < (sentM caps l (simM caps l s).left s).getD j 0 := by
    rcases Nat.lt_or_ge s n with hlt | hge
    · false_or_by_contra
      rename_i hno
      have hf : ld (l.map fun t => (t.1, 0)) (sentM caps l (simM caps l s).left (s : Int)) e = cpF caps e := hfull s (Nat.le_refl _) hlt
      have hzz := ld_zeros (l.map fun t => (t.1, (0 : Int))) (sentM caps l (simM caps l s).left s) e (fun i hi => by
        have hi' : i < l.length := by simpa using hi
        have h2 := (sentM_bd ((SInv.sim hv s (caps := caps)).ok hv s) i hi').1
        false_or_by_contra
        rename_i hne
        exact hno ⟨i, hi', by omega⟩)
      omega
    · have : s = n := by omega
      subst this
      obtain ⟨j, hj, hp⟩ := hlast
      exact ⟨j, hj, hp⟩
  obtain ⟨j, hj, hp⟩ := hfst
  have hIs := SInv.sim hv s (caps := caps)
  have h2 := sentM_bd (hIs.ok hv s) j hj
  have hst : l[j].2.2 = (s : Int) := by
    false_or_by_contra
    rename_i hne
    rcases Int.lt_or_gt_of_ne hne with h | h
    · have h3 := hold j hj h s (Nat.le_refl _)
      have h4 := limT_le (l := l) (t := s) (hIs.bd j hj).1
      omega
    · rw [limT, getD_lt l _ _ hj, if_pos (by omega)] at h2
      omega
  have hbz : l[j].2.1 ≠ 0 := by
    have h3 := hIs.bd j hj
    have h4 := limT_le (l := l) (t := s) h3.1
    omega
  have hat := foldT_at (caps := caps) (l := l) (t := l[j]) (e := e) (h1 _ (List.getElem_mem hj)) hbz l (List.getElem_mem hj) 0
  rw [hst] at hat
  have hss := hsum (n - s) (by omega)
  rw [show s + (n - s) = n by omega, sumL_congr l (simM caps l s).left (bytesM l) s e hIs.ll (bytesM_len l) (fun i hi hsi => by
    rw [sim_start hv i hi s hsi, getD_lt _ _ _ (by rw [bytesM_len]; exact hi)]; simp [bytesM]), sumL_bytes] at hss
  have hup : (n : Int) + 1 - s ≤ upM (sumE l s e) (cpF caps e) := le_upM hcp (by
    have h5 : ((n - s : Nat) : Int) = (n : Int) + 1 - s - 1 := by omega
    rw [h5] at hss
    omega)
  have e0 : cpF caps e = caps.getD e.toNat 0 := rfl
  rw [e0] at hup
  have : boundM caps l = l.foldl (bndT caps l) 0 := rfl
  omega
theorem one_run {c : Int} (hc : 1 ≤ c ∧ c ≤ 40) (xs : List Int) (j : Nat) (hj : j ≤ 12) : boundM [c] (oneM xs j) = (runS [c] (oneM xs j)).tk := by
  have h := one_check hc xs j hj
  have hv := checkM_zero h
  obtain ⟨T, h1, h2⟩ := sim_tk hv.1 (runN_spec h).2
  have hu := sim_unique hv.1 (runN_spec h).2 h2
  have hle := bound_le hv.1 hv.2 h2
  have hcp : 0 < cpF [c] 0 := by show 0 < [c].getD 0 0; simp; omega
  have hge := run_le (e := 0) hv.1 hv.2 (fun t ht => (oneM_mem ht).1) hcp T h2 (by rw [← hu]; exact h1)
  rw [runS, if_pos h, h1]
  omega
end Go.Proofs.Ytgjhjdjbhmblmaa
