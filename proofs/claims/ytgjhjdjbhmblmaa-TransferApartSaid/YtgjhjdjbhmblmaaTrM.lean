/- A run of transfers as plain lists. No program in sight. -/
import Derived.Test.YtgjhjdjbhmblmaaTrC
namespace Go.Proofs.Ytgjhjdjbhmblmaa

/-- what is left of each transfer, when each ended, and how many ticks it took -/
structure Sm where
  left : List Int
  fn : List Int
  tk : Int
def fstep (u : List Int) (t : Int) (s : Sm) (i : Nat) : Sm :=
  if 0 < u.getD i 0 ∧ s.left.getD i 0 - u.getD i 0 = 0 then ⟨s.left.set i (s.left.getD i 0 - u.getD i 0), s.fn.set i t, t + 1⟩
  else ⟨s.left.set i (s.left.getD i 0 - u.getD i 0), s.fn, s.tk⟩
def fpart (u : List Int) (t : Int) (s : Sm) : Nat → Sm
  | 0 => s
  | i + 1 => fstep u t (fpart u t s i) i
def tickM (caps : List Int) (l : List Tr) (s : Sm) (t : Int) : Sm := fpart (sentM caps l s.left t) t s l.length
def bytesM (l : List Tr) : List Int := l.map fun t => t.2.1
def simM (caps : List Int) (l : List Tr) : Nat → Sm
  | 0 => ⟨bytesM l, List.replicate l.length (-1), 0⟩
  | k + 1 => tickM caps l (simM caps l k) k
def allZ (s : Sm) : Prop := ∀ i, i < s.left.length → s.left.getD i 0 = 0
theorem fstep_len (u : List Int) (t : Int) (s : Sm) (i : Nat) : (fstep u t s i).left.length = s.left.length ∧ (fstep u t s i).fn.length = s.fn.length := by
  unfold fstep; split <;> simp
theorem fpart_len (u : List Int) (t : Int) (s : Sm) (i : Nat) : (fpart u t s i).left.length = s.left.length ∧ (fpart u t s i).fn.length = s.fn.length := by
  induction i with
  | zero => exact ⟨rfl, rfl⟩
  | succ i ih => rw [fpart, (fstep_len u t _ i).1, (fstep_len u t _ i).2]; exact ih
theorem bytesM_len (l : List Tr) : (bytesM l).length = l.length := by simp [bytesM]
theorem simM_len (caps : List Int) (l : List Tr) (k : Nat) : (simM caps l k).left.length = l.length ∧ (simM caps l k).fn.length = l.length := by
  induction k with
  | zero => simp [simM, bytesM]
  | succ k ih => rw [simM, tickM, (fpart_len _ _ _ _).1, (fpart_len _ _ _ _).2]; exact ih
theorem fstep_left (u : List Int) (t : Int) (s : Sm) (i j : Nat) (hi : i < s.left.length) : (fstep u t s i).left.getD j 0 = if j = i then s.left.getD i 0 - u.getD i 0 else s.left.getD j 0 := by
  have : (fstep u t s i).left = s.left.set i (s.left.getD i 0 - u.getD i 0) := by unfold fstep; split <;> rfl
  rw [this, getD_set]
  by_cases h : i = j
  · subst h; rw [if_pos ⟨rfl, hi⟩, if_pos rfl]
  · rw [if_neg (by omega), if_neg (by omega)]
theorem fpart_left (u : List Int) (t : Int) (s : Sm) (i : Nat) (hi : i ≤ s.left.length) (j : Nat) : (fpart u t s i).left.getD j 0 = if j < i then s.left.getD j 0 - u.getD j 0 else s.left.getD j 0 := by
  induction i with
  | zero => rfl
  | succ i ih =>
    have ih := ih (by omega)
    rw [fpart, fstep_left _ _ _ _ _ (by rw [(fpart_len _ _ _ _).1]; omega)]
    by_cases h : j = i
    · subst h
      rw [if_pos rfl, if_pos (Nat.lt_succ_self _), ih, if_neg (Nat.lt_irrefl _)]
    · rw [if_neg h, ih]
      by_cases h2 : j < i
      · rw [if_pos h2, if_pos (by omega)]
      · rw [if_neg h2, if_neg (by omega)]
/-- ended in this tick -/
def endsT (u : List Int) (s : Sm) (j : Nat) : Prop := 0 < u.getD j 0 ∧ s.left.getD j 0 - u.getD j 0 = 0
instance (u : List Int) (s : Sm) (j : Nat) : Decidable (endsT u s j) := inferInstanceAs (Decidable (_ ∧ _))
theorem fpart_fn (u : List Int) (t : Int) (s : Sm) (i : Nat) (hi : i ≤ s.left.length) (hf : s.fn.length = s.left.length) (j : Nat) : (fpart u t s i).fn.getD j 0 = if j < i ∧ endsT u s j then t else s.fn.getD j 0 := by
  induction i with
  | zero => rw [if_neg (by omega)]; rfl
  | succ i ih =>
    have ih := ih (by omega)
    have hl := fpart_left u t s i (by omega) i
    rw [if_neg (Nat.lt_irrefl _)] at hl
    rw [fpart, fstep, hl]
    by_cases hc : 0 < u.getD i 0 ∧ s.left.getD i 0 - u.getD i 0 = 0
    · rw [if_pos hc]
      show ((fpart u t s i).fn.set i t).getD j 0 = _
      rw [getD_set, ih, (fpart_len _ _ _ _).2]
      by_cases h : i = j
      · subst h; rw [if_pos ⟨rfl, by omega⟩, if_pos ⟨Nat.lt_succ_self _, hc⟩]
      · rw [if_neg (by omega)]
        by_cases h2 : j < i ∧ endsT u s j
        · rw [if_pos h2, if_pos ⟨by omega, h2.2⟩]
        · rw [if_neg h2, if_neg (fun h3 => h2 ⟨by omega, h3.2⟩)]
    · rw [if_neg hc]
      show (fpart u t s i).fn.getD j 0 = _
      rw [ih]
      by_cases h2 : j < i ∧ endsT u s j
      · rw [if_pos h2, if_pos ⟨by omega, h2.2⟩]
      · rw [if_neg h2, if_neg]
        rintro ⟨h3, h4⟩
        rcases Nat.lt_or_ge j i with h5 | h5
        · exact h2 ⟨h5, h4⟩
        · have : j = i := by omega
          subst this; exact hc h4
theorem fpart_tk (u : List Int) (t : Int) (s : Sm) (i : Nat) (hi : i ≤ s.left.length) : (fpart u t s i).tk = if ∃ j, j < i ∧ endsT u s j then t + 1 else s.tk := by
  induction i with
  | zero => rw [if_neg (by rintro ⟨j, h, _⟩; omega)]; rfl
  | succ i ih =>
    have ih := ih (by omega)
    have hl := fpart_left u t s i (by omega) i
    rw [if_neg (Nat.lt_irrefl _)] at hl
    rw [fpart, fstep, hl]
    by_cases hc : 0 < u.getD i 0 ∧ s.left.getD i 0 - u.getD i 0 = 0
    · rw [if_pos hc, if_pos ⟨i, Nat.lt_succ_self _, hc⟩]
    · rw [if_neg hc]
      show (fpart u t s i).tk = _
      rw [ih]
      by_cases h2 : ∃ j, j < i ∧ endsT u s j
      · rw [if_pos h2, if_pos]
        obtain ⟨j, h3, h4⟩ := h2
        exact ⟨j, by omega, h4⟩
      · rw [if_neg h2, if_neg]
        rintro ⟨j, h3, h4⟩
        rcases Nat.lt_or_ge j i with h5 | h5
        · exact h2 ⟨j, h5, h4⟩
        · have : j = i := by omega
          subst this; exact hc h4
theorem fpart_zero (u : List Int) (t : Int) (s : Sm) (h : ∀ j, u.getD j 0 = 0) (i : Nat) : fpart u t s i = s := by
  induction i with
  | zero => rfl
  | succ i ih =>
    rw [fpart, ih, fstep, h i, if_neg (by omega), Int.sub_zero]
    have : s.left.set i (s.left.getD i 0) = s.left := by
      apply List.ext_getElem
      · simp
      · intro j h1 h2
        rw [List.getElem_set]
        split
        · rename_i e; subst e; rw [getD_lt _ _ _ h2]
        · rfl
    rw [this]
/-- what is left while the run goes on -/
structure SInv (l : List Tr) (s : Sm) : Prop where
  ll : s.left.length = l.length
  lf : s.fn.length = l.length
  bd : ∀ j (h : j < l.length), 0 ≤ s.left.getD j 0 ∧ s.left.getD j 0 ≤ l[j].2.1
theorem SInv.ok {caps : List Int} {l : List Tr} {s : Sm} (h : SInv l s) (hv : validTr caps l) (t : Nat) : stepOk caps l s.left t :=
  ⟨hv, h.ll, by omega, fun i hi => by
    have h1 := h.bd i (by rw [← h.ll]; exact hi)
    rw [getD_lt _ _ _ hi] at h1
    rw [getD_lt _ _ _ (show i < l.length by rw [← h.ll]; exact hi)]
    exact h1⟩
theorem sentM_bd {caps : List Int} {l : List Tr} {left : List Int} {t : Int} (h : stepOk caps l left t) (j : Nat) (hj : j < l.length) : 0 ≤ (sentM caps l left t).getD j 0 ∧ (sentM caps l left t).getD j 0 ≤ limT l left t j := by
  have h1 := unitsM_bd h.fl.ok j (by rw [flT_len]; exact hj)
  rw [flT_lm hj] at h1
  exact h1
theorem limT_le {l : List Tr} {left : List Int} {t : Int} {j : Nat} (h : 0 ≤ left.getD j 0) : limT l left t j ≤ left.getD j 0 := by unfold limT; split <;> omega
theorem SInv.tick {caps : List Int} {l : List Tr} {s : Sm} (h : SInv l s) (hv : validTr caps l) (t : Nat) : SInv l (tickM caps l s t) := by
  refine ⟨by rw [tickM, (fpart_len _ _ _ _).1]; exact h.ll, by rw [tickM, (fpart_len _ _ _ _).2]; exact h.lf, fun j hj => ?_⟩
  rw [tickM, fpart_left _ _ _ _ (by rw [h.ll]; exact Nat.le_refl _), if_pos hj]
  have h1 := sentM_bd (h.ok hv t) j hj
  have h2 := h.bd j hj
  have h3 := limT_le (l := l) (t := t) h2.1
  omega
theorem SInv.sim {caps : List Int} {l : List Tr} (hv : validTr caps l) (k : Nat) : SInv l (simM caps l k) := by
  induction k with
  | zero =>
    refine ⟨by simp [simM, bytesM], by simp [simM], fun j hj => ?_⟩
    have h1 := hv.1 _ (List.getElem_mem hj)
    show 0 ≤ (bytesM l).getD j 0 ∧ (bytesM l).getD j 0 ≤ _
    rw [getD_lt _ _ _ (by rw [bytesM_len]; exact hj)]
    simp only [bytesM, List.getElem_map]
    exact ⟨h1.1, Int.le_refl _⟩
  | succ k ih => exact ih.tick hv k
/-- nothing is sent before a start -/
theorem tick_idle {caps : List Int} {l : List Tr} {s : Sm} (h : SInv l s) (hv : validTr caps l) (t : Nat) (hi : ∀ j (hj : j < l.length), s.left.getD j 0 = 0 ∨ (t : Int) < l[j].2.2) : tickM caps l s t = s := by
  refine fpart_zero _ _ _ (fun j => ?_) _
  rcases Nat.lt_or_ge j l.length with hj | hj
  · have h1 := sentM_bd (h.ok hv t) j hj
    have : limT l s.left t j = 0 := by
      rcases hi j hj with h2 | h2
      · unfold limT; split
        · rfl
        · exact h2
      · rw [limT, getD_lt _ _ _ hj, if_pos h2]
    omega
  · rw [getD_ge _ _ _ (by rw [sentM_len]; exact hj)]
theorem sim_jump {caps : List Int} {l : List Tr} (hv : validTr caps l) (k : Nat) (m : Nat) (hi : ∀ j (hj : j < l.length), (simM caps l k).left.getD j 0 = 0 ∨ ((k + m : Nat) : Int) ≤ l[j].2.2) : simM caps l (k + m) = simM caps l k := by
  induction m with
  | zero => rfl
  | succ m ih =>
    have ih := ih (fun j hj => by have := hi j hj; omega)
    rw [← Nat.add_assoc, simM, ih]
    exact tick_idle (SInv.sim hv k) hv _ (fun j hj => by have := hi j hj; omega)
theorem allZ.get {l : List Tr} {s : Sm} (h : allZ s) (hl : s.left.length = l.length) (j : Nat) (hj : j < l.length) : s.left.getD j 0 = 0 := h j (by rw [hl]; exact hj)
theorem sim_stay {caps : List Int} {l : List Tr} (hv : validTr caps l) {k : Nat} (h : allZ (simM caps l k)) (m : Nat) : simM caps l (k + m) = simM caps l k := by
  induction m with
  | zero => rfl
  | succ m ih =>
    rw [← Nat.add_assoc, simM, ih]
    exact tick_idle (SInv.sim hv k) hv _ (fun j hj => .inl (h.get (simM_len caps l k).1 j hj))
theorem sim_unique {caps : List Int} {l : List Tr} (hv : validTr caps l) {j k : Nat} (hj : allZ (simM caps l j)) (hk : allZ (simM caps l k)) : simM caps l j = simM caps l k := by
  rcases Nat.le_total j k with h | h
  · obtain ⟨m, rfl⟩ : ∃ m, k = j + m := ⟨k - j, by omega⟩
    exact (sim_stay hv hj m).symm
  · obtain ⟨m, rfl⟩ : ∃ m, j = k + m := ⟨j - k, by omega⟩
    exact sim_stay hv hk m
/-- the sum of numbers -/
def sumI : List Int → Int
  | [] => 0
  | x :: xs => x + sumI xs
theorem sumI_nonneg {xs : List Int} (h : ∀ j, j < xs.length → 0 ≤ xs.getD j 0) : 0 ≤ sumI xs := by
  induction xs with
  | nil => simp [sumI]
  | cons x xs ih =>
    have h0 : 0 ≤ x := by simpa using h 0 (by simp)
    have := ih (fun j hj => by simpa using h (j + 1) (by simpa using hj))
    simp only [sumI]; omega
theorem sumI_le {xs ys : List Int} (hl : xs.length = ys.length) (h : ∀ j, j < xs.length → xs.getD j 0 ≤ ys.getD j 0) : sumI xs ≤ sumI ys := by
  induction xs generalizing ys with
  | nil => cases ys with
    | nil => simp
    | cons y ys => simp at hl
  | cons x xs ih => cases ys with
    | nil => simp at hl
    | cons y ys =>
      have h0 : x ≤ y := by simpa using h 0 (by simp)
      have := ih (ys := ys) (by simpa using hl) (fun j hj => by simpa using h (j + 1) (by simpa using hj))
      simp only [sumI]; omega
theorem sumI_lt {xs ys : List Int} (hl : xs.length = ys.length) (h : ∀ j, j < xs.length → xs.getD j 0 ≤ ys.getD j 0) (i : Nat) (hi : i < xs.length) (hs : xs.getD i 0 < ys.getD i 0) : sumI xs < sumI ys := by
  induction xs generalizing ys i with
  | nil => simp at hi
  | cons x xs ih => cases ys with
    | nil => simp at hl
    | cons y ys =>
      have h0 : x ≤ y := by simpa using h 0 (by simp)
      have ht : ∀ j, j < xs.length → xs.getD j 0 ≤ ys.getD j 0 := fun j hj => by simpa using h (j + 1) (by simpa using hj)
      cases i with
      | zero =>
        have := sumI_le (by simpa using hl) ht
        have hs : x < y := by simpa using hs
        simp only [sumI]; omega
      | succ i =>
        have := ih (ys := ys) (by simpa using hl) ht i (by simpa using hi) (by simpa using hs)
        simp only [sumI]; omega
theorem sumI_zero {xs : List Int} (h : ∀ j, j < xs.length → 0 ≤ xs.getD j 0) (hs : sumI xs ≤ 0) (j : Nat) (hj : j < xs.length) : xs.getD j 0 = 0 := by
  induction xs generalizing j with
  | nil => simp at hj
  | cons x xs ih =>
    have h0 : 0 ≤ x := by simpa using h 0 (by simp)
    have ht : ∀ j, j < xs.length → 0 ≤ xs.getD j 0 := fun j hj => by simpa using h (j + 1) (by simpa using hj)
    have := sumI_nonneg ht
    simp only [sumI] at hs
    cases j with
    | zero => simp; omega
    | succ j => simpa using ih ht (by omega) j (by simpa using hj)
theorem ld_zeros (l : List Fl) : ∀ (o : List Int) (e : Int), (∀ i, i < l.length → o.getD i 0 = 0) → ld l o e = 0 := by
  induction l with
  | nil => intro o e _; cases o <;> simp [ld]
  | cons f l ih =>
    intro o e h
    cases o with
    | nil => simp [ld]
    | cons a o =>
      have h0 : a = 0 := by simpa using h 0 (by simp)
      have := ih o e (fun i hi => by simpa using h (i + 1) (by simpa using hi))
      subst h0
      simp only [ld, this]; omega
/-- some transfer that may send does send -/
theorem sent_some {caps : List Int} {l : List Tr} {left : List Int} {t : Int} (h : stepOk caps l left t) (hns : ∀ x ∈ l, ¬ stuckT caps x) (i : Nat) (hi : i < l.length) (hp : 0 < limT l left t i) : ∃ j, j < l.length ∧ 0 < (sentM caps l left t).getD j 0 := by
  false_or_by_contra
  rename_i hn
  have hz : ∀ j, j < l.length → (sentM caps l left t).getD j 0 = 0 := fun j hj => by
    have := sentM_bd h j hj
    false_or_by_contra
    rename_i hne
    exact hn ⟨j, hj, by omega⟩
  have h1 := unitsM_held h.fl.ok i (by rw [flT_len]; exact hi)
  rw [flT_lm hi] at h1
  rcases h1 with h1 | ⟨e, he, h1, _⟩
  · have := hz i hi
    rw [sentM] at this
    omega
  · rw [flT_lk hi] at he
    have hz2 := ld_zeros (flT l (limT l left t)) (sentM caps l left t) e (fun j hj => hz j (by rw [flT_len] at hj; exact hj))
    rw [sentM] at hz2
    rw [hz2] at h1
    have hb : 0 < l[i].2.1 := by
      have h2 := h.2.2.2 i (by rw [h.2.1]; exact hi)
      rw [getD_lt _ _ _ hi] at h2
      have h3 : limT l left t i ≤ left.getD i 0 := limT_le (by rw [getD_lt _ _ _ (by rw [h.2.1]; exact hi)]; exact h2.1)
      rw [getD_lt _ _ _ (by rw [h.2.1]; exact hi)] at h3
      omega
    exact hns _ (List.getElem_mem hi) ⟨hb, e, he, by rw [cpF] at h1; omega⟩
theorem tick_less {caps : List Int} {l : List Tr} {s : Sm} (h : SInv l s) (hv : validTr caps l) (hns : ∀ x ∈ l, ¬ stuckT caps x) (t : Nat) (i : Nat) (hi : i < l.length) (h0 : s.left.getD i 0 ≠ 0) (hst : l[i].2.2 ≤ (t : Int)) : sumI (tickM caps l s t).left < sumI s.left := by
  have hlim : 0 < limT l s.left t i := by
    rw [limT, getD_lt l _ _ hi, if_neg (by omega)]
    have := (h.bd i hi).1
    omega
  obtain ⟨j, hj, hjp⟩ := sent_some (h.ok hv t) hns i hi hlim
  have hle : l.length ≤ s.left.length := by rw [h.ll]; exact Nat.le_refl _
  refine sumI_lt (by rw [tickM, (fpart_len _ _ _ _).1]) (fun q hq => ?_) j (by rw [tickM, (fpart_len _ _ _ _).1, h.ll]; exact hj) ?_
  · rw [tickM, (fpart_len _ _ _ _).1, h.ll] at hq
    rw [tickM, fpart_left _ _ _ _ hle, if_pos hq]
    have := sentM_bd (h.ok hv t) q hq
    omega
  · rw [tickM, fpart_left _ _ _ _ hle, if_pos hj]; omega
theorem sim_sum {caps : List Int} {l : List Tr} (hv : validTr caps l) (hns : ∀ x ∈ l, ¬ stuckT caps x) (m : Nat) : allZ (simM caps l (4097 + m)) ∨ sumI (simM caps l (4097 + m)).left ≤ sumI (simM caps l 4097).left - m := by
  induction m with
  | zero => right; simp
  | succ m ih =>
    rcases ih with ih | ih
    · left
      have := sim_stay hv ih 1
      rw [← Nat.add_assoc, this]; exact ih
    · by_cases hz : allZ (simM caps l (4097 + m))
      · left
        have := sim_stay hv hz 1
        rw [← Nat.add_assoc, this]; exact hz
      · right
        have hI := SInv.sim hv (4097 + m) (caps := caps)
        obtain ⟨i, hi, h0⟩ : ∃ i, i < l.length ∧ (simM caps l (4097 + m)).left.getD i 0 ≠ 0 := by
          false_or_by_contra
          rename_i hn
          exact hz (fun i hi => by
            false_or_by_contra
            rename_i h0
            exact hn ⟨i, by rw [← hI.ll]; exact hi, h0⟩)
        have hst := (hv.1 _ (List.getElem_mem hi)).2.2.2
        have := tick_less hI hv hns (4097 + m) i hi h0 (by omega)
        rw [← Nat.add_assoc, simM]
        omega
theorem sumI_max {xs : List Int} {m : Int} (h : ∀ j, j < xs.length → xs.getD j 0 ≤ m) : sumI xs ≤ (xs.length : Int) * m := by
  induction xs with
  | nil => simp [sumI]
  | cons x xs ih =>
    have h0 : x ≤ m := by simpa using h 0 (by simp)
    have := ih (fun j hj => by simpa using h (j + 1) (by simpa using hj))
    have e : ((x :: xs).length : Int) * m = (xs.length : Int) * m + m := by
      rw [List.length_cons, Int.natCast_add, Int.add_mul]; simp
    rw [e]
    simp only [sumI]; omega
/-- every run comes to its end -/
theorem sim_ends {caps : List Int} {l : List Tr} (hv : validTr caps l) (hns : ∀ x ∈ l, ¬ stuckT caps x) : ∃ N, N ≤ 300000 ∧ allZ (simM caps l N) := by
  have hI := SInv.sim hv 4097 (caps := caps)
  have hmax := sumI_max (xs := (simM caps l 4097).left) (m := 4096) (fun j hj => by
    have hj' : j < l.length := by rw [← hI.ll]; exact hj
    have h1 := (hI.bd j hj').2
    have h2 := (hv.1 _ (List.getElem_mem hj')).2.1
    omega)
  have h48 := hv.2.2.1
  rw [flT_len] at h48
  rw [hI.ll] at hmax
  have hmul : (l.length : Int) * 4096 ≤ 48 * 4096 := by omega
  refine ⟨4097 + ((sumI (simM caps l 4097).left).toNat), by omega, ?_⟩
  rcases sim_sum hv hns ((sumI (simM caps l 4097).left).toNat) with h | h
  · exact h
  · have hI2 := SInv.sim hv (4097 + (sumI (simM caps l 4097).left).toNat) (caps := caps)
    have hn := sumI_nonneg (xs := (simM caps l 4097).left) (fun j hj => (hI.bd j (by rw [← hI.ll]; exact hj)).1)
    intro j hj
    exact sumI_zero (fun j hj => (hI2.bd j (by rw [← hI2.ll]; exact hj)).1) (by omega) j hj
theorem checkM_zero {caps : List Int} {l : List Tr} (h : checkM caps l = 0) : validTr caps l ∧ ∀ x ∈ l, ¬ stuckT caps x := by
  unfold checkM at h
  by_cases hv : validTr caps l
  · rw [if_pos hv] at h
    refine ⟨hv, fun x hx hs => ?_⟩
    rw [if_pos ⟨x, hx, hs⟩] at h; omega
  · rw [if_neg hv] at h; omega
/-- the state behind a jump, and that the run does not jump past its end -/
theorem jump_to {caps : List Int} {l : List Tr} (hv : validTr caps l) {N T : Nat} (hN : allZ (simM caps l N)) (hT : T ≤ N) (nx : Nat) (hnx : ∀ j (hj : j < l.length), (simM caps l T).left.getD j 0 = 0 ∨ (nx : Int) ≤ l[j].2.2) (hnz : ¬ allZ (simM caps l T)) :
    simM caps l (max T nx) = simM caps l T ∧ max T nx < N := by
  have key : ∀ m, T + m ≤ max T nx → simM caps l (T + m) = simM caps l T := fun m hm => by
    rcases Nat.eq_zero_or_pos m with h0 | h0
    · subst h0; rfl
    · exact sim_jump hv T m (fun j hj => by have := hnx j hj; omega)
  refine ⟨?_, ?_⟩
  · have := key (max T nx - T) (by omega)
    rwa [show T + (max T nx - T) = max T nx by omega] at this
  · false_or_by_contra
    rename_i h
    have := key (N - T) (by omega)
    rw [show T + (N - T) = N by omega] at this
    rw [this] at hN
    exact hnz hN
theorem simM_fn_bd (caps : List Int) (l : List Tr) (k : Nat) (j : Nat) : -1 ≤ (simM caps l k).fn.getD j 0 ∧ (simM caps l k).fn.getD j 0 ≤ k := by
  induction k with
  | zero =>
    show -1 ≤ (List.replicate l.length (-1 : Int)).getD j 0 ∧ (List.replicate l.length (-1 : Int)).getD j 0 ≤ _
    rw [List.getD_eq_getElem?_getD, List.getElem?_replicate]
    split <;> simp
  | succ k ih =>
    rw [simM, tickM, fpart_fn _ _ _ _ (by rw [(simM_len caps l k).1]; exact Nat.le_refl _) (by rw [(simM_len caps l k).1, (simM_len caps l k).2])]
    split <;> omega
theorem simM_fn_mem (caps : List Int) (l : List Tr) (k : Nat) : ∀ x ∈ (simM caps l k).fn, -1 ≤ x ∧ x ≤ k := by
  intro x hx
  obtain ⟨j, hj, rfl⟩ := List.getElem_of_mem hx
  have := simM_fn_bd caps l k j
  rwa [getD_lt _ _ _ hj] at this
theorem SInv.mem {l : List Tr} {s : Sm} (h : SInv l s) (hb : ∀ t ∈ l, t.2.1 ≤ 4096) : ∀ x ∈ s.left, 0 ≤ x ∧ x ≤ 4096 := by
  intro x hx
  obtain ⟨j, hj, rfl⟩ := List.getElem_of_mem hx
  have hj' : j < l.length := by rw [← h.ll]; exact hj
  have h1 := h.bd j hj'
  rw [getD_lt _ _ _ hj] at h1
  have := hb _ (List.getElem_mem hj')
  omega
end Go.Proofs.Ytgjhjdjbhmblmaa
