/- The run from 0 to each x = j + s / d, and what is looked at on the way. No program in sight. What a good x tells of its sums and weights. No program in sight. -/
import Derived.Test.YtnmomigaedfdoaaEnK
namespace Go.Proofs.Ytnmomigaedfdoaa
set_option maxRecDepth 100000

theorem repN_lt {L m : Nat} (hm : m < 2 ^ L) : ∀ n, repN L m n < 2 ^ (L * n) := by
  intro n
  induction n with
  | zero => rw [Nat.mul_zero, Nat.pow_zero]; exact Nat.one_pos
  | succ n ih => exact cat_lt ih (by rw [Nat.mul_one]; exact hm)
theorem low_le {L A B : Nat} : ∀ j, (∀ i, i < j → lnq L B i ≤ lnq L A i) → B % 2 ^ (L * j) ≤ A % 2 ^ (L * j) := by
  intro j
  induction j with
  | zero => intro _; rw [Nat.mul_zero, Nat.pow_zero, Nat.mod_one, Nat.mod_one]; exact Nat.le_refl _
  | succ j ih =>
    intro hh
    rw [mod_lane, mod_lane]
    have h1 := ih fun i hi => hh i (by omega)
    have h2 := Nat.mul_le_mul_left (2 ^ (L * j)) (hh j (by omega))
    omega
def wts (L N F : Nat) : Nat := F - (F <<< L) % 2 ^ (L * N)
def chkA (P L N F : Nat) : Bool :=
  chkB P F (repN L (2 ^ 47 - 1) N) (repN L (2 ^ 47) N) (F + repN L (2 ^ (P - 64)) N) &&
  chkB P (wts L N F) (repN L (2 ^ 47 - 1) N) (repN L (2 ^ 47) N) (repN L (2 ^ P + 2 ^ (P - 64) - 1) N - wts L N F) &&
  Nat.ble (2 ^ P) (lnq L F (N - 1) + 2 ^ (P - 64))
def iterS (P K M F : Nat) : Nat → Nat
  | 0 => F
  | s + 1 => stepP P K M (iterS P K M F s)
/-- looks at the steps 1 to s, where (a0 + s) / d is in lowest terms -/
def runC (P L N K M F d a0 : Nat) : Nat → Bool
  | 0 => true
  | s + 1 => (!(Nat.beq (Nat.gcd (a0 + (s + 1)) d) 1) || chkA P L N (iterS P K M F (s + 1))) && runC P L N K M F d a0 s
theorem runC_mem {P L N K M F d a0 : Nat} : ∀ n, runC P L N K M F d a0 n = true → ∀ s, 1 ≤ s → s ≤ n → Nat.gcd (a0 + s) d = 1 → chkA P L N (iterS P K M F s) = true := by
  intro n
  induction n with
  | zero => intro _ s h1 h2; omega
  | succ n ih =>
    intro h s h1 h2 hg
    rw [runC, Bool.and_eq_true] at h
    rcases Nat.lt_or_ge n s with h3 | h3
    · obtain rfl : s = n + 1 := by omega
      have h4 := h.1
      rw [hg] at h4
      exact h4
    · exact ih h.2 s h1 h3 hg
/-- how many terms of e^(1/d) a step needs -/
def Jd (d : Nat) : Nat := if d < 2 then 36 else if d < 4 then 30 else if d < 8 then 27 else if d < 16 then 24 else if d < 32 then 21 else if d < 64 then 19 else if d < 128 then 17 else 15
theorem Jd_bd (d : Nat) : 1 ≤ Jd d ∧ Jd d ≤ 36 := by
  unfold Jd
  repeat' split
  all_goals omega
def okD (P d : Nat) : Bool := Nat.ble (2 ^ P * facD d 40) ((c0 P d + 2) * serN d 40) && Nat.ble (2 ^ (P + 1)) (facD d (Jd d))
def stK (P L d : Nat) : Nat := pkF L (kapF P d) (Jd d)
def stM (P L N : Nat) : Nat := repN L (2 ^ (P + 1) - 1) N
def startF (P L N j : Nat) : Nat := iterS P (stK P L 1) (stM P L N) (repN L (2 ^ P) N) j
def tst (P L N j d : Nat) : Bool := okD P 1 && okD P d && runC P L N (stK P L d) (stM P L N) (startF P L N j) d (j * d) d
theorem okD_spec {P d : Nat} (h : okD P d = true) : 2 ^ P * facD d 40 ≤ (c0 P d + 2) * serN d 40 ∧ 2 ^ (P + 1) ≤ facD d (Jd d) := by
  rw [okD, Bool.and_eq_true] at h
  exact ⟨Nat.le_of_ble_eq_true h.1, Nat.le_of_ble_eq_true h.2⟩
theorem iter_lt {P L N K F : Nat} (hL : P + 1 ≤ L) (hF : F < 2 ^ (L * N)) (s : Nat) : iterS P K (stM P L N) F s < 2 ^ (L * N) := by
  cases s with
  | zero => exact hF
  | succ s =>
    refine Nat.lt_of_le_of_lt Nat.and_le_right (repN_lt ?_ N)
    exact Nat.lt_of_lt_of_le (Nat.sub_lt (Nat.pow_pos (by omega)) (by omega)) (Nat.pow_le_pow_right (by omega) hL)
theorem iter_fst {P L N d E F : Nat} {x : Rat} (hPL : 2 * P < L) (hP : 30 ≤ P) (hd : 0 < d) (hok : okD P d = true) (h : FSt P L N E F x) (hx : 0 ≤ x) : ∀ s, E + s * 111 ≤ 100000 →
    FSt P L N (E + s * 111) (iterS P (stK P L d) (stM P L N) F s) ((s : Rat) * (1 / (d : Rat)) + x) := by
  obtain ⟨k1, k2⟩ := okD_spec hok
  have hj := Jd_bd d
  intro s
  induction s with
  | zero =>
    intro _
    rw [Nat.zero_mul, Nat.add_zero]
    have e : ((0 : Nat) : Rat) * (1 / (d : Rat)) + x = x := by grind
    rw [e]; exact h
  | succ s ih =>
    intro hs
    have h1 := ih (by omega)
    have hn : 0 ≤ (s : Rat) * (1 / (d : Rat)) + x := by
      have := Rat.mul_nonneg (natR_nn s) (inv_nn hd)
      grind
    have h2 := fst_step hPL hd hj.1 k1 k2 h1 hn (by
      have a : Jd d * (E + s * 111) ≤ 36 * 100000 := Nat.mul_le_mul hj.2 (by omega)
      have b : 2 ^ 30 ≤ 2 ^ P := Nat.pow_le_pow_right (by omega) hP
      omega)
    have e : 1 / (d : Rat) + ((s : Rat) * (1 / (d : Rat)) + x) = ((s + 1 : Nat) : Rat) * (1 / (d : Rat)) + x := by
      rw [Rat.natCast_add]
      show _ = ((s : Rat) + 1) * _ + _
      grind
    rw [e] at h2
    refine h2.more ?_ ?_
    · have := Rat.mul_nonneg (natR_nn (s + 1)) (inv_nn hd)
      grind
    · rw [Nat.add_mul]; omega
/-- at x all is well: the lanes are near, and their digits change -/
structure Goodx (P L N F : Nat) (x : Rat) : Prop where
  st : FSt P L N 65536 F x
  ck : chkA P L N F = true
  lt : F < 2 ^ (L * N)
theorem tst_good {P L N j d s : Nat} (hPL : 2 * P < L) (hP : 30 ≤ P) (hd : 0 < d) (hd2 : d ≤ 256) (hj : j ≤ 63) (h : tst P L N j d = true) (hs : 1 ≤ s) (hs2 : s ≤ d) (hg : Nat.gcd (j * d + s) d = 1) :
    ∃ F, Goodx P L N F ((s : Rat) * (1 / (d : Rat)) + (j : Rat)) := by
  rw [tst, Bool.and_eq_true, Bool.and_eq_true] at h
  obtain ⟨⟨h1, h2⟩, h3⟩ := h
  have hm : 2 ^ P < 2 ^ L := Nat.pow_lt_pow_right (by omega) (by omega)
  have a := iter_fst (N := N) hPL hP (show 0 < 1 by omega) h1 (fst_zero (by omega)) (show (0 : Rat) ≤ 0 by grind) j (by omega)
  have e : (j : Rat) * (1 / ((1 : Nat) : Rat)) + 0 = (j : Rat) := by
    have : ((1 : Nat) : Rat) = 1 := rfl
    rw [this]; grind
  rw [e] at a
  have b := iter_fst hPL hP hd h2 a (natR_nn j) s (by omega)
  have hx : 0 ≤ (s : Rat) * (1 / (d : Rat)) + (j : Rat) := by
    have := Rat.mul_nonneg (natR_nn s) (inv_nn hd)
    have := natR_nn j
    grind
  exact ⟨_, b.more hx (by omega), runC_mem d h3 s hs hs2 hg, iter_lt (by omega) (iter_lt (by omega) (repN_lt hm N) j) s⟩
def tstTo (P L N j lo : Nat) : Nat → Bool
  | 0 => true
  | c + 1 => tst P L N j (lo + c + 1) && tstTo P L N j lo c
theorem tstTo_mem {P L N j lo : Nat} : ∀ c, tstTo P L N j lo c = true → ∀ d, lo < d → d ≤ lo + c → tst P L N j d = true := by
  intro c
  induction c with
  | zero => intro _ d h1 h2; omega
  | succ c ih =>
    intro h d h1 h2
    rw [tstTo, Bool.and_eq_true] at h
    rcases Nat.lt_or_ge (lo + c) d with h3 | h3
    · obtain rfl : d = lo + c + 1 := by omega
      exact h.1
    · exact ih h.2 d h1 h3
end Go.Proofs.Ytnmomigaedfdoaa
namespace Go.Proofs.Ytnmomigaedfdoaa
set_option maxRecDepth 100000

section
variable {P L N F : Nat} {x : Rat}
theorem good_tail (hP : 112 ≤ P) (hPL : 2 * P < L) (h : Goodx P L N F x) {n : Nat} (hn : n < N) : ∀ k, k ≤ 63 → Far (2 ^ (P - 112)) P (2 ^ P - lnq L F n) k := by
  intro k hk
  have hc := h.ck
  rw [chkA, Bool.and_eq_true, Bool.and_eq_true] at hc
  have h64 : 2 ^ (P - 64) < 2 ^ L := Nat.pow_lt_pow_right (by omega) (by omega)
  have h2 : 2 ^ P + 2 ^ (P - 64) < 2 ^ L := by
    have a := Nat.pow_le_pow_right (n := 2) (by omega) (show P - 64 ≤ P by omega)
    have b := Nat.pow_le_pow_right (n := 2) (by omega) (show P + 2 ≤ L by omega)
    have c := Nat.pow_pos (n := P) (show 0 < 2 by omega)
    rw [Nat.pow_add] at b
    omega
  have ha := add_lane (L := L) (A := F) (B := repN L (2 ^ (P - 64)) N) (q := n) fun i _ => by
    have := h.st.le i
    rw [repN_ln h64]
    split <;> omega
  rw [repN_ln h64, if_pos hn] at ha
  rcases chkB_spec hP (by omega) hn hc.1.1 with ⟨i, hi, hb⟩ | hb
  · exact far_rest (by omega) (Nat.pow_pos (by omega)) (h.st.le n) (far_chg' hP hi hk hb)
  · rw [ha] at hb
    have p1 : 0 < 2 ^ (P - 64) := Nat.pow_pos (by omega)
    have p2 := h.st.le n
    exact far_small hP hk (by omega)
theorem good_last (h : Goodx P L N F x) : 2 ^ P ≤ lnq L F (N - 1) + 2 ^ (P - 64) := by
  have hc := h.ck
  rw [chkA, Bool.and_eq_true, Bool.and_eq_true] at hc
  exact Nat.le_of_ble_eq_true hc.2
/-- the lane of a weight -/
def wtN (L F n : Nat) : Nat := lnq L F n - if n < 1 then 0 else lnq L F (n - 1)
theorem wts_lane (_hPL : P < L) (h : Goodx P L N F x) {n : Nat} (hn : n < N) : lnq L (wts L N F) n = wtN L F n := by
  have hs : ∀ i, i < N → lnq L ((F <<< L) % 2 ^ (L * N)) i = if i < 1 then 0 else lnq L F (i - 1) := fun i hi => by
    rw [lnq_mod hi]
    have := shl_lane L F 1 i
    rw [Nat.mul_one] at this
    exact this
  have hle : ∀ i, i < N → lnq L ((F <<< L) % 2 ^ (L * N)) i ≤ lnq L F i := fun i hi => by
    rw [hs i hi]
    split
    · exact Nat.zero_le _
    · have := h.st.mono (i - 1) (by omega)
      rwa [show i - 1 + 1 = i by omega] at this
  have hBA : (F <<< L) % 2 ^ (L * N) ≤ F := by
    have a := low_le (L := L) (A := F) (B := (F <<< L) % 2 ^ (L * N)) N hle
    rw [Nat.mod_mod, Nat.mod_eq_of_lt h.lt] at a
    exact a
  rw [wts, sub_lane (fun i hi => hle i (by omega)) hBA, hs n hn, wtN]
theorem good_wt (hP : 112 ≤ P) (hPL : 2 * P < L) (h : Goodx P L N F x) {n : Nat} (hn : n < N) : ∀ k, k ≤ 63 → Far (2 ^ (P - 112)) P (wtN L F n) k := by
  intro k hk
  have hc := h.ck
  rw [chkA, Bool.and_eq_true, Bool.and_eq_true] at hc
  have p1 : 0 < 2 ^ (P - 64) := Nat.pow_pos (by omega)
  have hcm : 2 ^ P + 2 ^ (P - 64) - 1 < 2 ^ L := by
    have a := Nat.pow_le_pow_right (n := 2) (by omega) (show P - 64 ≤ P by omega)
    have b := Nat.pow_le_pow_right (n := 2) (by omega) (show P + 2 ≤ L by omega)
    have c := Nat.pow_pos (n := P) (show 0 < 2 by omega)
    rw [Nat.pow_add] at b
    omega
  have hw : ∀ i, i < N → lnq L (wts L N F) i ≤ 2 ^ P := fun i hi => by
    rw [wts_lane (by omega) h hi]
    exact Nat.le_trans (Nat.sub_le _ _) (h.st.le i)
  have hl : ∀ i, i < N → lnq L (wts L N F) i ≤ lnq L (repN L (2 ^ P + 2 ^ (P - 64) - 1) N) i := fun i hi => by
    rw [repN_ln hcm, if_pos hi]
    have := hw i hi
    omega
  have hBA : wts L N F ≤ repN L (2 ^ P + 2 ^ (P - 64) - 1) N := by
    have a := low_le (L := L) (A := repN L (2 ^ P + 2 ^ (P - 64) - 1) N) (B := wts L N F) N hl
    have hlt : wts L N F < 2 ^ (L * N) := Nat.lt_of_le_of_lt (Nat.sub_le _ _) h.lt
    rw [Nat.mod_eq_of_lt (repN_lt hcm N), Nat.mod_eq_of_lt hlt] at a
    exact a
  have hs := sub_lane (fun i (hi : i ≤ n) => hl i (by omega)) hBA
  rw [repN_ln hcm, if_pos hn, wts_lane (by omega) h hn] at hs
  rcases chkB_spec hP (by omega) hn hc.1.2 with ⟨i, hi, hb⟩ | hb
  · rw [wts_lane (by omega) h hn] at hb
    exact far_chg hP hi hk hb
  · rw [hs] at hb
    have p2 : 0 < 2 ^ P := Nat.pow_pos (by omega)
    have p3 : wtN L F n ≤ 2 ^ (P - 64) := by
      generalize wtN L F n = d at *
      generalize 2 ^ P = A at *
      generalize 2 ^ (P - 64) = B at *
      omega
    exact far_small hP hk p3
/-- a weight is near its lane -/
theorem wt_lo (h : Goodx P L N F x) (hx : 0 ≤ x) {n : Nat} (hn : n < N) : GL (2 ^ P) (wtN L F n - 65536) (tq x n) x := by
  have e : eq_ x (n + 1) = eq_ x n + tq x n := rfl
  have h1 := h.st.lo n hn
  rw [e] at h1
  by_cases h0 : n < 1
  · obtain rfl : n = 0 := by omega
    have e0 : eq_ x 0 + tq x 0 = tq x 0 := by show (0 : Rat) + 1 = 1; grind
    rw [e0] at h1
    rw [wtN, if_pos h0, Nat.sub_zero]
    exact h1.mono hx (Nat.sub_le _ _)
  · have h2 := h.st.hi (n - 1) (by omega)
    rw [show n - 1 + 1 = n by omega] at h2
    obtain ⟨M, hM⟩ := h2.up hx
    rw [wtN, if_neg h0]
    generalize lnq L F n = a at *
    generalize lnq L F (n - 1) = b at *
    intro m
    have h3 := hM (max m M) (by omega)
    have h4 := h1 (max m M)
    have h5 := mul_le_l (natR_nn (a - b - 65536)) (eq_mono hx (show m ≤ max m M by omega))
    refine Rat.le_trans h5 ?_
    by_cases hab : b + 65536 ≤ a
    · have c : ((a - b - 65536 : Nat) : Rat) = (a : Rat) - ((b + 65536 : Nat) : Rat) := by
        have : a = (a - b - 65536) + (b + 65536) := by omega
        have e2 : (a : Rat) = ((a - b - 65536 : Nat) : Rat) + ((b + 65536 : Nat) : Rat) := by
          rw [← Rat.natCast_add, ← this]
        rw [e2]; grind
      rw [c]
      generalize ((b + 65536 : Nat) : Rat) = b' at *
      generalize eq_ x (max m M) = S at *
      grind
    · have c : a - b - 65536 = 0 := by omega
      rw [c]
      have := Rat.mul_nonneg (natR_nn (2 ^ P)) (tq_nn hx n)
      have e3 : ((0 : Nat) : Rat) = 0 := rfl
      rw [e3]
      grind
theorem wt_hi (h : Goodx P L N F x) (_hx : 0 ≤ x) {n : Nat} (hn : n < N) : GU (2 ^ P) (wtN L F n + 65536) (tq x n) x := by
  have e : eq_ x (n + 1) = eq_ x n + tq x n := rfl
  have h1 := h.st.hi n hn
  rw [e] at h1
  by_cases h0 : n < 1
  · obtain rfl : n = 0 := by omega
    have e0 : eq_ x 0 + tq x 0 = tq x 0 := by show (0 : Rat) + 1 = 1; grind
    rw [e0] at h1
    rw [wtN, if_pos h0, Nat.sub_zero]
    exact h1
  · have h2 := h.st.lo (n - 1) (by omega)
    have hm := h.st.mono (n - 1) (by omega)
    rw [show n - 1 + 1 = n by omega] at h2 hm
    obtain ⟨m, h3⟩ := h1
    have h4 := h2 m
    refine ⟨m, ?_⟩
    rw [wtN, if_neg h0]
    obtain ⟨w, hw⟩ := Nat.exists_eq_add_of_le hm
    rw [hw, Nat.add_sub_cancel_left]
    rw [hw, Nat.add_assoc, Rat.natCast_add] at h3
    generalize ((w + 65536 : Nat) : Rat) = w' at *
    generalize eq_ x m = S at *
    grind
end
end Go.Proofs.Ytnmomigaedfdoaa
