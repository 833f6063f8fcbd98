/- A step from x to x + 1/d, in all lanes. No program in sight. What is looked at in all lanes: that the digits 65 to 112 are not all alike. No program in sight. -/
import Derived.Test.YtnmomigaedfdoaaEnI
namespace Go.Proofs.Ytnmomigaedfdoaa
set_option maxRecDepth 100000

def stepP (P K M F : Nat) : Nat := ((F * K) >>> P) &&& M
theorem step_lane {P L F J N : Nat} {f : Nat → Nat} (hPL : 2 * P < L) (hF : ∀ q, lnq L F q ≤ 2 ^ P) (hs : sumF f J ≤ 2 ^ P) (n : Nat) :
    lnq L (stepP P (pkF L f J) (repN L (2 ^ (P + 1) - 1) N) F) n = if n < N then convS L F f n J / 2 ^ P else 0 := by
  have h2P : 2 ^ P * 2 ^ P < 2 ^ L := by rw [← Nat.pow_add]; exact Nat.pow_lt_pow_right (by omega) (by omega)
  have hc := conv_lane (L := L) (F := F) (f := f) (B := 2 ^ P) (J := J) hF (Nat.lt_of_le_of_lt (Nat.mul_le_mul_right _ hs) h2P) J (Nat.le_refl _) n
  have hcl : convS L F f n J ≤ 2 ^ P * 2 ^ P := Nat.le_trans (convS_le hF n J) (Nat.mul_le_mul_right _ hs)
  have hm : 2 ^ (P + 1) - 1 < 2 ^ L := Nat.lt_of_lt_of_le (Nat.sub_lt (Nat.pow_pos (by omega)) (by omega)) (Nat.pow_le_pow_right (by omega) (by omega))
  have hq : convS L F f n J / 2 ^ P < 2 ^ (P + 1) := by
    refine (Nat.div_lt_iff_lt_mul (Nat.pow_pos (by omega))).2 ?_
    refine Nat.lt_of_le_of_lt hcl ?_
    exact Nat.mul_lt_mul_of_pos_right (Nat.pow_lt_pow_right (by omega) (by omega)) (Nat.pow_pos (by omega))
  refine Nat.eq_of_testBit_eq fun s => ?_
  rw [bit_lnq, stepP]
  by_cases hsl : s < L
  · rw [decide_eq_true hsl, Bool.true_and, Nat.testBit_and, repN_bit hm hsl, Nat.testBit_shiftRight]
    by_cases hn : n < N
    · rw [if_pos hn, if_pos hn, Nat.testBit_two_pow_sub_one]
      by_cases hsp : s < P + 1
      · rw [decide_eq_true hsp, Bool.and_true, ← hc, Nat.testBit_div_two_pow, bit_lnq, decide_eq_true (by omega), Bool.true_and]
        congr 1
        omega
      · rw [decide_eq_false hsp, Bool.and_false]
        symm
        exact Nat.testBit_lt_two_pow (Nat.lt_of_lt_of_le hq (Nat.pow_le_pow_right (by omega) (by omega)))
    · rw [if_neg hn, if_neg hn, Bool.and_false, Nat.zero_testBit]
  · rw [decide_eq_false hsl, Bool.false_and]
    symm
    split
    · exact Nat.testBit_lt_two_pow (Nat.lt_of_lt_of_le hq (Nat.pow_le_pow_right (by omega) (by omega)))
    · exact Nat.zero_testBit s
/-- the lanes hold e^-x (1 + .. + x^n / n!), at most E units too low -/
structure FSt (P L N E F : Nat) (x : Rat) : Prop where
  le : ∀ q, lnq L F q ≤ 2 ^ P
  lo : ∀ n, n < N → GL (2 ^ P) (lnq L F n) (eq_ x (n + 1)) x
  hi : ∀ n, n < N → GU (2 ^ P) (lnq L F n + E) (eq_ x (n + 1)) x
  mono : ∀ n, n + 1 < N → lnq L F n ≤ lnq L F (n + 1)
theorem FSt.more {P L N E E' F : Nat} {x : Rat} (h : FSt P L N E F x) (hx : 0 ≤ x) (hE : E ≤ E') : FSt P L N E' F x :=
  ⟨h.le, h.lo, fun n hn => (h.hi n hn).mono hx (by omega), h.mono⟩
theorem fst_zero {P L N : Nat} (hPL : P < L) : FSt P L N 0 (repN L (2 ^ P) N) 0 := by
  have hm : 2 ^ P < 2 ^ L := Nat.pow_lt_pow_right (by omega) hPL
  refine ⟨fun q => ?_, fun n hn => ?_, fun n hn => ?_, fun n hn => ?_⟩
  · rw [repN_ln hm]; split
    · exact Nat.le_refl _
    · exact Nat.zero_le _
  · intro m
    rw [repN_ln hm, if_pos hn]
    have h1 := eq_zero m
    have h2 := mul_le_l (natR_nn (2 ^ P)) h1
    have h3 : eq_ 0 (n + 1) = 1 := by
      have a := eq_zero (n + 1)
      have b := eq_mono (show (0 : Rat) ≤ 0 by grind) (show 1 ≤ n + 1 by omega)
      have e : eq_ (0 : Rat) 1 = 1 := by show (0 : Rat) + 1 = 1; grind
      rw [e] at b
      grind
    rw [h3]; exact h2
  · refine ⟨n + 1, ?_⟩
    rw [repN_ln hm, if_pos hn, Nat.add_zero]
    exact Rat.le_refl
  · rw [repN_ln hm, repN_ln hm, if_pos (by omega), if_pos hn]; exact Nat.le_refl _
/-- the part of the convolution that the first J terms give -/
def convR (x h : Rat) (n : Nat) : Nat → Rat
  | 0 => 0
  | j + 1 => convR x h n j + if j ≤ n then tq h j * eq_ x (n - j + 1) else 0
theorem convR_sum (x h : Rat) (n : Nat) : ∀ j, j ≤ n + 1 → convR x h n j = sumTo (fun i => tq h i * eq_ x (n + 1 - i)) j := by
  intro j
  induction j with
  | zero => intro _; rfl
  | succ j ih =>
    intro hj
    rw [convR, sumTo, ih (by omega), if_pos (by omega), show n - j + 1 = n + 1 - j by omega]
theorem convR_stop (x h : Rat) (n : Nat) : ∀ j, n + 1 ≤ j → convR x h n j = convR x h n (n + 1) := by
  intro j
  induction j with
  | zero => intro h; omega
  | succ j ih =>
    intro hj
    by_cases h1 : n + 1 = j + 1
    · rw [h1]
    · rw [convR, if_neg (by omega), ih (by omega)]; grind
theorem convR_le {x h : Rat} (hx : 0 ≤ x) (hh : 0 ≤ h) (n : Nat) {i j : Nat} (hij : i ≤ j) : convR x h n i ≤ convR x h n j := by
  induction j with
  | zero => obtain rfl : i = 0 := by omega
            exact Rat.le_refl
  | succ j ih =>
    rcases Nat.lt_or_ge i (j + 1) with h1 | h1
    · have h2 := ih (by omega)
      rw [convR]
      split
      · have := Rat.mul_nonneg (tq_nn hh j) (eq_nn hx (n - j + 1))
        grind
      · grind
    · obtain rfl : i = j + 1 := by omega
      exact Rat.le_refl
theorem convR_full {x h : Rat} (n : Nat) : convR x h n (n + 1) = eq_ (h + x) (n + 1) := by
  rw [convR_sum x h n (n + 1) (Nat.le_refl _), eq_conv]
/-- what the terms behind the first J give -/
theorem convR_rest {x h : Rat} (hx : 0 ≤ x) (hh : 0 ≤ h) (hh1 : h ≤ 1) (n J : Nat) (hJ : 1 ≤ J) : eq_ (h + x) (n + 1) ≤ convR x h n J + 2 * tq h J * eq_ (h + x) (n + 1) := by
  have nE := eq_nn (show 0 ≤ h + x by grind) (n + 1)
  have nT := tq_nn hh J
  rcases Nat.le_total (n + 1) J with h1 | h1
  · rw [convR_stop x h n J h1, convR_full]
    have := Rat.mul_nonneg nT nE
    grind
  · -- the sum from J to n
    have key : ∀ k, J + k ≤ n + 1 → convR x h n (J + k) ≤ convR x h n J + (eq_ h (J + k) - eq_ h J) * eq_ (h + x) (n + 1) := by
      intro k
      induction k with
      | zero => intro _; rw [Nat.add_zero]; grind
      | succ k ih =>
        intro hk
        have h2 := ih (by omega)
        have e : eq_ h (J + (k + 1)) = eq_ h (J + k) + tq h (J + k) := rfl
        have e2 : convR x h n (J + (k + 1)) = convR x h n (J + k) + tq h (J + k) * eq_ x (n - (J + k) + 1) := by
          show convR x h n (J + k) + (if J + k ≤ n then _ else 0) = _
          rw [if_pos (by omega)]
          rfl
        have h3 : eq_ x (n - (J + k) + 1) ≤ eq_ (h + x) (n + 1) := by
          have b := eq_mono hx (show n - (J + k) + 1 ≤ n + 1 by omega)
          have c : eq_ x (n + 1) ≤ eq_ (h + x) (n + 1) := by
            rw [eq_conv]
            have d := sumTo_mono (g := fun j => tq h j * eq_ x (n + 1 - j)) (fun i => Rat.mul_nonneg (tq_nn hh i) (eq_nn hx _)) (show 1 ≤ n + 1 by omega)
            refine Rat.le_trans ?_ d
            show eq_ x (n + 1) ≤ 0 + 1 * eq_ x (n + 1 - 0)
            rw [Nat.sub_zero]; grind
          exact Rat.le_trans b c
        have h4 := mul_le_l (tq_nn hh (J + k)) h3
        rw [e2, e]
        generalize eq_ (h + x) (n + 1) = S at *
        generalize eq_ h (J + k) = A at *
        generalize eq_ h J = B at *
        generalize tq h (J + k) = t at *
        have e5 : (A + t - B) * S = (A - B) * S + t * S := by grind
        rw [e5]
        grind
    obtain ⟨k, hk⟩ := Nat.exists_eq_add_of_le h1
    have h2 := key k (by omega)
    rw [← hk, convR_full] at h2
    have h3 : eq_ h (n + 1) - eq_ h J ≤ 2 * tq h J := by
      obtain ⟨J', rfl⟩ : ∃ J', J = J' + 1 := ⟨J - 1, by omega⟩
      have := eq_bound hh hh1 J' (n + 1)
      grind
    have h4 := Rat.mul_le_mul_of_nonneg_right h3 nE
    exact Rat.le_trans h2 (by grind)
theorem convS_mono {L N F : Nat} (f : Nat → Nat) (hm : ∀ n, n + 1 < N → lnq L F n ≤ lnq L F (n + 1)) {n : Nat} (hn : n + 1 < N) : ∀ j, convS L F f n j ≤ convS L F f (n + 1) j := by
  intro j
  induction j with
  | zero => exact Nat.le_refl _
  | succ j ih =>
    rw [convS, convS]
    by_cases h : j ≤ n
    · rw [if_pos h, if_pos (by omega)]
      have h1 := hm (n - j) (by omega)
      rw [show n - j + 1 = n + 1 - j by omega] at h1
      exact Nat.add_le_add ih (Nat.mul_le_mul_left _ h1)
    · rw [if_neg h]
      exact Nat.le_trans ih (Nat.le_add_right _ _)
theorem fst_step {P L N E F d J : Nat} {x : Rat} (hPL : 2 * P < L) (hd : 0 < d) (hJ : 1 ≤ J) (hc : 2 ^ P * facD d 40 ≤ (c0 P d + 2) * serN d 40) (hfac : 2 ^ (P + 1) ≤ facD d J) (h : FSt P L N E F x) (hx : 0 ≤ x) (hE : 3 * (J * E) ≤ 2 ^ P) :
    FSt P L N (E + 3 * J + 3) (stepP P (pkF L (kapF P d) J) (repN L (2 ^ (P + 1) - 1) N) F) (1 / (d : Rat) + x) := by
  have hT : 0 < 2 ^ P := Nat.pow_pos (by omega)
  obtain ⟨hle, hlo, hhi, hmo⟩ := h
  have hs := kap_sum (P := P) hd J
  have hl := fun n => step_lane (N := N) (f := kapF P d) hPL hle hs n
  have hh := inv_nn hd
  have hh1 := inv_le hd
  have hy : 0 ≤ 1 / (d : Rat) + x := by grind
  have e2P : 2 ^ (P + 1) = 2 * 2 ^ P := by rw [Nat.pow_succ, Nat.mul_comm]
  rw [e2P] at hfac
  have htq : 2 * ((2 ^ P : Nat) : Rat) * tq (1 / (d : Rat)) J ≤ 1 := by
    have a : 2 * ((2 ^ P : Nat) : Rat) ≤ (facD d J : Rat) := by exact_mod_cast hfac
    have b := Rat.mul_le_mul_of_nonneg_right a (tq_nn hh J)
    have c := tq_fac hd J
    rw [Rat.mul_comm (facD d J : Rat), c] at b
    exact b
  generalize hTT : 2 ^ P = T at *
  have hf1 := fun j => kap_lo (P := P) hd j
  have hf2 := fun j => kap_hi (P := P) hd (by rw [hTT]; exact hc) j
  rw [hTT] at hf1 hf2
  generalize kapF P d = f at *
  generalize 1 / (d : Rat) = y at *
  have lo : ∀ n, n < N → ∀ j, GL (T * T) (convS L F f n j) (convR x y n j) (y + x) := by
    intro n hn j
    induction j with
    | zero => intro m; show ((0 : Nat) : Rat) * _ ≤ _ * (0 : Rat); grind
    | succ j ih =>
      rw [convS, convR]
      refine ih.add ?_
      split
      · exact GL.mul hh hx (tq_nn hh j) (hf1 j) (hlo (n - j) (by omega))
      · intro m; show ((0 : Nat) : Rat) * _ ≤ _ * (0 : Rat); grind
  have hi : ∀ n, n < N → ∀ j, GU (T * T) (convS L F f n j + (E * sumF f j + j * (3 * T + 3 * E))) (convR x y n j) (y + x) := by
    intro n hn j
    induction j with
    | zero => exact ⟨0, by show _ * (0 : Rat) ≤ _ * (0 : Rat); grind⟩
    | succ j ih =>
      rw [convS, convR, sumF]
      by_cases hj : j ≤ n
      · rw [if_pos hj, if_pos hj]
        have a := GU.mul hh hx (tq_nn hh j) (eq_nn hx _) (hf2 j) (hhi (n - j) (by omega))
        have b := (ih.add hy a)
        refine b.mono hy ?_
        have c := hle (n - j)
        generalize lnq L F (n - j) = v at *
        generalize f j = k at *
        have e1 : (k + 3) * (v + E) = k * v + E * k + 3 * v + 3 * E := by grind
        have e2 : E * (sumF f j + k) = E * sumF f j + E * k := by grind
        have e3 : (j + 1) * (3 * T + 3 * E) = j * (3 * T + 3 * E) + 3 * T + 3 * E := by grind
        rw [e1, e2, e3]
        omega
      · rw [if_neg hj, if_neg hj]
        have e0 : convR x y n j + 0 = convR x y n j := by grind
        rw [e0]
        refine ih.mono hy ?_
        have e2 : E * (sumF f j + f j) = E * sumF f j + E * f j := by grind
        have e3 : (j + 1) * (3 * T + 3 * E) = j * (3 * T + 3 * E) + 3 * T + 3 * E := by grind
        rw [e2, e3]
        omega
  refine ⟨fun q => ?_, fun n hn => ?_, fun n hn => ?_, fun n hn => ?_⟩
  · rw [hl, hTT]
    split
    · refine Nat.div_le_of_le_mul ?_
      exact Nat.le_trans (convS_le hle q J) (Nat.mul_le_mul_right _ hs)
    · exact Nat.zero_le _
  · rw [hl, if_pos hn, hTT]
    have a := lo n hn J
    have b : convR x y n J ≤ eq_ (y + x) (n + 1) := by
      rcases Nat.le_total J (n + 1) with h1 | h1
      · rw [← convR_full]; exact convR_le hx hh n h1
      · rw [convR_stop x y n J h1, convR_full]; exact Rat.le_refl
    exact GL.scale hT hy (a.more b) (Nat.div_mul_le_self _ _)
  · rw [hl, if_pos hn, hTT]
    have a := hi n hn J
    have b := convR_rest hx hh hh1 n J hJ
    have c : GU (T * T) T (2 * tq y J * eq_ (y + x) (n + 1)) (y + x) := by
      refine ⟨n + 1, ?_⟩
      have nS := eq_nn hy (n + 1)
      generalize eq_ (y + x) (n + 1) = S at *
      generalize tq y J = t at *
      rw [Rat.natCast_mul]
      have g := Rat.mul_le_mul_of_nonneg_right htq nS
      have g2 := mul_le_l (natR_nn T) g
      have e1 : (T : Rat) * (T : Rat) * (2 * t * S) = (T : Rat) * (2 * (T : Rat) * t * S) := by grind
      rw [e1]
      have e2 : (T : Rat) * (1 * S) = (T : Rat) * S := by grind
      rw [e2] at g2
      exact g2
    have d1 := (GU.add hy a c).less b
    refine GU.scale hT hy d1 ?_
    have g1 := Nat.div_add_mod (convS L F f n J) T
    have g2 := Nat.mod_lt (convS L F f n J) hT
    have g3 : E * sumF f J ≤ E * T := Nat.mul_le_mul_left _ hs
    have e1 : J * (3 * T + 3 * E) = 3 * (J * T) + 3 * (J * E) := by grind
    have e2 : (convS L F f n J / T + (E + 3 * J + 3)) * T = T * (convS L F f n J / T) + E * T + 3 * (J * T) + 3 * T := by grind
    rw [e1, e2]
    omega
  · rw [hl, hl, if_pos (by omega), if_pos hn]
    exact Nat.div_le_div_right (convS_mono f hmo hn J)
end Go.Proofs.Ytnmomigaedfdoaa
namespace Go.Proofs.Ytnmomigaedfdoaa
set_option maxRecDepth 100000

/-- v is g off each multiple of 2^(P - k), but it may be near 0 -/
def Far (g P v k : Nat) : Prop := ∃ m, (m = 0 ∨ m * 2 ^ (P - k) + g ≤ v) ∧ v + g ≤ (m + 1) * 2 ^ (P - k)
theorem low_bit {x n b : Nat} (hx : x < 2 ^ n) (hb : b < n) (h : x.testBit b = false) : x + 2 ^ b < 2 ^ n := by
  have h1 : (2 ^ n - (x + 1)).testBit b = true := by
    rw [Nat.testBit_two_pow_sub_succ hx, decide_eq_true hb, h]; rfl
  have h2 := Nat.ge_two_pow_of_testBit h1
  omega
theorem far_chg {P v i k : Nat} (hP : 112 ≤ P) (hi : i < 47) (k2 : k ≤ 63) (h : v.testBit (P - 112 + i) ≠ v.testBit (P - 112 + i + 1)) : Far (2 ^ (P - 112)) P v k := by
  have hR : 0 < 2 ^ (P - k) := Nat.pow_pos (by omega)
  have hu : v % 2 ^ (P - k) < 2 ^ (P - k) := Nat.mod_lt _ hR
  have hb : ∀ t, t < P - k → (v % 2 ^ (P - k)).testBit t = v.testBit t := fun t ht => by rw [Nat.testBit_mod_two_pow, decide_eq_true ht, Bool.true_and]
  have h1 := hb (P - 112 + i) (by omega)
  have h2 := hb (P - 112 + i + 1) (by omega)
  rw [← h1, ← h2] at h
  have hv := Nat.div_add_mod v (2 ^ (P - k))
  refine ⟨v / 2 ^ (P - k), Or.inr ?_, ?_⟩
  · have : 2 ^ (P - 112) ≤ v % 2 ^ (P - k) := by
      cases a : (v % 2 ^ (P - k)).testBit (P - 112 + i) with
      | true => exact Nat.le_trans (Nat.pow_le_pow_right (by omega) (by omega)) (Nat.ge_two_pow_of_testBit a)
      | false =>
        cases b : (v % 2 ^ (P - k)).testBit (P - 112 + i + 1) with
        | true => exact Nat.le_trans (Nat.pow_le_pow_right (by omega) (by omega)) (Nat.ge_two_pow_of_testBit b)
        | false => rw [a, b] at h; exact absurd rfl h
    rw [Nat.mul_comm] at hv
    omega
  · have : v % 2 ^ (P - k) + 2 ^ (P - 112) ≤ 2 ^ (P - k) := by
      cases a : (v % 2 ^ (P - k)).testBit (P - 112 + i) with
      | false =>
        have c := low_bit hu (by omega) a
        have := Nat.pow_le_pow_right (n := 2) (by omega) (show P - 112 ≤ P - 112 + i by omega)
        omega
      | true =>
        cases b : (v % 2 ^ (P - k)).testBit (P - 112 + i + 1) with
        | false =>
          have c := low_bit hu (by omega) b
          have := Nat.pow_le_pow_right (n := 2) (by omega) (show P - 112 ≤ P - 112 + i + 1 by omega)
          omega
        | true => rw [a, b] at h; exact absurd rfl h
    rw [Nat.add_mul, Nat.one_mul, Nat.mul_comm (v / 2 ^ (P - k))]
    omega
theorem far_small {P v k : Nat} (hP : 112 ≤ P) (k2 : k ≤ 63) (h : v ≤ 2 ^ (P - 64)) : Far (2 ^ (P - 112)) P v k := by
  refine ⟨0, Or.inl rfl, ?_⟩
  have h1 := Nat.pow_le_pow_right (n := 2) (by omega) (show P - 112 ≤ P - 64 by omega)
  have h2 := Nat.pow_le_pow_right (n := 2) (by omega) (show P - 64 + 1 ≤ P - k by omega)
  rw [Nat.pow_succ] at h2
  rw [Nat.zero_add, Nat.one_mul]
  omega
/-- and what is left of 1 is as far -/
theorem far_rest {P v k g : Nat} (k2 : k ≤ P) (hg : 0 < g) (hv : v ≤ 2 ^ P) (h : ∃ m, m * 2 ^ (P - k) + g ≤ v ∧ v + g ≤ (m + 1) * 2 ^ (P - k)) : Far g P (2 ^ P - v) k := by
  obtain ⟨m, h1, h2⟩ := h
  have e : 2 ^ P = 2 ^ k * 2 ^ (P - k) := by rw [← Nat.pow_add]; congr 1; omega
  have hm : m + 1 ≤ 2 ^ k := by
    apply Classical.byContradiction
    intro hc
    have := Nat.mul_le_mul_right (2 ^ (P - k)) (show 2 ^ k ≤ m by omega)
    omega
  obtain ⟨c, hc⟩ := Nat.exists_eq_add_of_le hm
  rw [e, hc]
  rw [e, hc] at hv
  refine ⟨c, Or.inr ?_, ?_⟩
  · rw [Nat.add_mul]; omega
  · have e2 : (m + 1 + c) * 2 ^ (P - k) = m * 2 ^ (P - k) + (c + 1) * 2 ^ (P - k) := by grind
    rw [e2]; rw [e2] at hv; omega
theorem far_chg' {P v i k : Nat} (hP : 112 ≤ P) (hi : i < 47) (k2 : k ≤ 63) (h : v.testBit (P - 112 + i) ≠ v.testBit (P - 112 + i + 1)) : ∃ m, m * 2 ^ (P - k) + 2 ^ (P - 112) ≤ v ∧ v + 2 ^ (P - 112) ≤ (m + 1) * 2 ^ (P - k) := by
  obtain ⟨m, h1, h2⟩ := far_chg hP hi k2 h
  rcases h1 with h1 | h1
  · subst h1
    -- the digit that is 1 makes v great enough
    refine ⟨0, ?_, h2⟩
    rw [Nat.zero_mul, Nat.zero_add]
    cases a : v.testBit (P - 112 + i) with
    | true => exact Nat.le_trans (Nat.pow_le_pow_right (by omega) (by omega)) (Nat.ge_two_pow_of_testBit a)
    | false =>
      cases b : v.testBit (P - 112 + i + 1) with
      | true => exact Nat.le_trans (Nat.pow_le_pow_right (by omega) (by omega)) (Nat.ge_two_pow_of_testBit b)
      | false => rw [a, b] at h; exact absurd rfl h
  · exact ⟨m, h1, h2⟩

def chg (P D m47 : Nat) : Nat := (((D >>> (P - 112)) ^^^ (D >>> (P - 111))) &&& m47) + m47
def chkB (P D m47 b47 c : Nat) : Bool := ((chg P D m47 ||| (c >>> (P - 47))) &&& b47) == b47
theorem m47_lt {L : Nat} (hL : 48 ≤ L) : 2 ^ 47 - 1 < 2 ^ L := Nat.lt_of_lt_of_le (by decide) (Nat.pow_le_pow_right (by omega) hL)
theorem chg_bit {P L N D n : Nat} (hP : 112 ≤ P) (hL : P + 1 ≤ L) (hn : n < N) (h : (chg P D (repN L (2 ^ 47 - 1) N)).testBit (L * n + 47) = true) :
    ∃ i, i < 47 ∧ (lnq L D n).testBit (P - 112 + i) ≠ (lnq L D n).testBit (P - 112 + i + 1) := by
  have hm := m47_lt (L := L) (by omega)
  obtain ⟨Z, hZ⟩ : ∃ Z, ((D >>> (P - 112)) ^^^ (D >>> (P - 111))) &&& repN L (2 ^ 47 - 1) N = Z := ⟨_, rfl⟩
  have hbit : ∀ q s, s < L → (lnq L Z q).testBit s = (((D >>> (P - 112)) ^^^ (D >>> (P - 111))).testBit (L * q + s) && (if q < N then decide (s < 47) else false)) := fun q s hs => by
    rw [bit_lnq, decide_eq_true hs, Bool.true_and, ← hZ, Nat.testBit_and, repN_bit hm hs]
    split
    · rw [Nat.testBit_two_pow_sub_one]
    · rfl
  have hlt : ∀ q, lnq L Z q < 2 ^ 47 := fun q => by
    refine Nat.lt_pow_two_of_testBit _ fun s hs => ?_
    by_cases hsl : s < L
    · rw [hbit q s hsl]
      split
      · rw [decide_eq_false (by omega), Bool.and_false]
      · rw [Bool.and_false]
    · rw [bit_lnq, decide_eq_false hsl, Bool.false_and]
  have h248 : 2 ^ 48 ≤ 2 ^ L := Nat.pow_le_pow_right (by omega) (by omega)
  have ha := add_lane (L := L) (A := Z) (B := repN L (2 ^ 47 - 1) N) (q := n) fun i _ => by
    have := hlt i
    rw [repN_ln hm]
    have e : 2 ^ 48 = 2 ^ 47 + 2 ^ 47 := by decide
    split <;> omega
  rw [repN_ln hm, if_pos hn] at ha
  have hb := bit_lnq L (Z + repN L (2 ^ 47 - 1) N) n 47
  rw [decide_eq_true (by omega), Bool.true_and] at hb
  rw [chg, hZ, ← hb, ha] at h
  have hz : lnq L Z n ≠ 0 := by
    intro k
    rw [k, Nat.zero_add, Nat.testBit_two_pow_sub_one] at h
    exact absurd h (by decide)
  obtain ⟨s, hs⟩ := Nat.exists_testBit_of_ne_zero hz
  have hs47 : s < 47 := by
    apply Classical.byContradiction
    intro k
    rw [Nat.testBit_lt_two_pow (Nat.lt_of_lt_of_le (hlt n) (Nat.pow_le_pow_right (by omega) (by omega)))] at hs
    exact absurd hs (by decide)
  rw [hbit n s (by omega), Bool.and_eq_true, Nat.testBit_xor, Nat.testBit_shiftRight, Nat.testBit_shiftRight] at hs
  refine ⟨s, hs47, ?_⟩
  rw [bit_lnq, bit_lnq, decide_eq_true (by omega), decide_eq_true (by omega), Bool.true_and, Bool.true_and]
  have e1 : L * n + (P - 112 + s) = P - 112 + (L * n + s) := by omega
  have e2 : L * n + (P - 112 + s + 1) = P - 111 + (L * n + s) := by omega
  rw [e1, e2]
  intro k
  rw [k, Bool.xor_self] at hs
  exact absurd hs.1 (by decide)
/-- what a check tells of one lane: its digits change, or the number c is at least 2^P there -/
theorem chkB_spec {P L N D c n : Nat} (hP : 112 ≤ P) (hL : P + 1 ≤ L) (hn : n < N) (h : chkB P D (repN L (2 ^ 47 - 1) N) (repN L (2 ^ 47) N) c = true) :
    (∃ i, i < 47 ∧ (lnq L D n).testBit (P - 112 + i) ≠ (lnq L D n).testBit (P - 112 + i + 1)) ∨ 2 ^ P ≤ lnq L c n := by
  have hm : 2 ^ 47 < 2 ^ L := Nat.pow_lt_pow_right (by omega) (by omega)
  have h1 : (((chg P D (repN L (2 ^ 47 - 1) N) ||| (c >>> (P - 47))) &&& repN L (2 ^ 47) N)).testBit (L * n + 47) = (repN L (2 ^ 47) N).testBit (L * n + 47) := by rw [eq_of_beq h]
  rw [Nat.testBit_and, repN_bit hm (by omega), if_pos hn, Nat.testBit_two_pow_self, Bool.and_true, Nat.testBit_or, Bool.or_eq_true] at h1
  rcases h1 with h1 | h1
  · exact Or.inl (chg_bit hP hL hn h1)
  · right
    rw [Nat.testBit_shiftRight] at h1
    have h2 := bit_lnq L c n P
    rw [decide_eq_true (by omega), Bool.true_and, show L * n + P = P - 47 + (L * n + 47) by omega, h1] at h2
    exact Nat.ge_two_pow_of_testBit h2
end Go.Proofs.Ytnmomigaedfdoaa
