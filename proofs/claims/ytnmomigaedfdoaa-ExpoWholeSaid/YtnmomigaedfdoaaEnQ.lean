/- A step from x to x + 1/d, in all lanes. No program in sight. What is looked at in all lanes: that the digits 65 to 112 are not all alike. No program in sight. The run from 0 to each x = j + s / d, and what is looked at on the way. No program in sight. What a good x tells of its sums and weights. No program in sight. The program's floors of the weights and the tails are the true ones, for x up to 64 with denominators up to 256. No program in sight. -/
import Derived.Test.YtnmomigaedfdoaaEnP
namespace Go.Proofs.Ytnmomigaedfdoaa
set_option maxRecDepth 100000

def stepP (P K M F : Nat) : Nat := ((F * K) >>> P) &&& M
theorem step_lane {P L F J N : Nat} {f : Nat → Nat} (hPL : 2 * P < L) (hF : ∀ q, lnq L F q ≤ 2 ^ P) (hs : sumF f J ≤ 2 ^ P) (n : Nat) :
    lnq L (stepP P (pkF L f J) (repN L (2 ^ (P + 1) - 1) N) F) n = if n < N then convS L F f n J / 2 ^ P else 0 := by
  have h2P : 2 ^ P * 2 ^ P < 2 ^ L := by rw [← Nat.pow_add]; exact Nat.pow_lt_pow_right (by omega) (by omega)
  have hc := conv_lane (L := L) (F := F) (f := f) (B := 2 ^ P) (J := J) hF (Nat.lt_of_le_of_lt (Nat.mul_le_mul_right _ hs) h2P) J (Nat.le_refl _) n
  have hcl : convS L F f n J ≤ 2 ^ P * 2 ^ P := Nat.le_trans (convS_le hF n J) (Nat.mul_le_mul_right _ hs)
  have hm : 2 ^ (P + 1) - 1 < 2 ^ L := Nat.lt_of_lt_of_le (Nat.sub_lt (Nat.pow_pos (by omega)) (by omega)) (Nat.pow_le_pow_right (by omega) (by omega))
  have hq : convS L F f n J / 2 ^ P < 2 ^ (P + 1) := by
    refine (Nat.div_lt_iff_lt_mul (Nat.pow_pos (by omega))).2 ?_
    refine Nat.lt_of_le_of_lt hcl ?_
    exact Nat.mul_lt_mul_of_pos_right (Nat.pow_lt_pow_right (by omega) (by omega)) (Nat.pow_pos (by omega))
  refine Nat.eq_of_testBit_eq fun s => ?_
  rw [bit_lnq, stepP]
  by_cases hsl : s < L
  · rw [decide_eq_true hsl, Bool.true_and, Nat.testBit_and, repN_bit hm hsl, Nat.testBit_shiftRight]
    by_cases hn : n < N
    · rw [if_pos hn, if_pos hn, Nat.testBit_two_pow_sub_one]
      by_cases hsp : s < P + 1
      · rw [decide_eq_true hsp, Bool.and_true, ← hc, Nat.testBit_div_two_pow, bit_lnq, decide_eq_true (by omega), Bool.true_and]
        congr 1
        omega
      · rw [decide_eq_false hsp, Bool.and_false]
        symm
        exact Nat.testBit_lt_two_pow (Nat.lt_of_lt_of_le hq (Nat.pow_le_pow_right (by omega) (by omega)))
    · rw [if_neg hn, if_neg hn, Bool.and_false, Nat.zero_testBit]
  · rw [decide_eq_false hsl, Bool.false_and]
    symm
    split
    · exact Nat.testBit_lt_two_pow (Nat.lt_of_lt_of_le hq (Nat.pow_le_pow_right (by omega) (by omega)))
    · exact Nat.zero_testBit s
/-- the lanes hold e^-x (1 + .. + x^n / n!), at most E units too low -/
structure FSt (P L N E F : Nat) (x : Rat) : Prop where
  le : ∀ q, lnq L F q ≤ 2 ^ P
  lo : ∀ n, n < N → GL (2 ^ P) (lnq L F n) (eq_ x (n + 1)) x
  hi : ∀ n, n < N → GU (2 ^ P) (lnq L F n + E) (eq_ x (n + 1)) x
  mono : ∀ n, n + 1 < N → lnq L F n ≤ lnq L F (n + 1)
theorem FSt.more {P L N E E' F : Nat} {x : Rat} (h : FSt P L N E F x) (hx : 0 ≤ x) (hE : E ≤ E') : FSt P L N E' F x :=
  ⟨h.le, h.lo, fun n hn => (h.hi n hn).mono hx (by omega), h.mono⟩
theorem fst_zero {P L N : Nat} (hPL : P < L) : FSt P L N 0 (repN L (2 ^ P) N) 0 := by
  have hm : 2 ^ P < 2 ^ L := Nat.pow_lt_pow_right (by omega) hPL
  refine ⟨fun q => ?_, fun n hn => ?_, fun n hn => ?_, fun n hn => ?_⟩
  · rw [repN_ln hm]; split
    · exact Nat.le_refl _
    · exact Nat.zero_le _
  · intro m
    rw [repN_ln hm, if_pos hn]
    have h1 := eq_zero m
    have h2 := mul_le_l (natR_nn (2 ^ P)) h1
    have h3 : eq_ 0 (n + 1) = 1 := by
      have a := eq_zero (n + 1)
      have b := eq_mono (show (0 : Rat) ≤ 0 by grind) (show 1 ≤ n + 1 by omega)
      have e : eq_ (0 : Rat) 1 = 1 := by show (0 : Rat) + 1 = 1; grind
      rw [e] at b
      grind
    rw [h3]; exact h2
  · refine ⟨n + 1, ?_⟩
    rw [repN_ln hm, if_pos hn, Nat.add_zero]
    exact Rat.le_refl
  · rw [repN_ln hm, repN_ln hm, if_pos (by omega), if_pos hn]; exact Nat.le_refl _
/-- the part of the convolution that the first J terms give -/
def convR (x h : Rat) (n : Nat) : Nat → Rat
  | 0 => 0
  | j + 1 => convR x h n j + if j ≤ n then tq h j * eq_ x (n - j + 1) else 0
theorem convR_sum (x h : Rat) (n : Nat) : ∀ j, j ≤ n + 1 → convR x h n j = sumTo (fun i => tq h i * eq_ x (n + 1 - i)) j := by
  intro j
  induction j with
  | zero => intro _; rfl
  | succ j ih =>
    intro hj
    rw [convR, sumTo, ih (by omega), if_pos (by omega), show n - j + 1 = n + 1 - j by omega]
theorem convR_stop (x h : Rat) (n : Nat) : ∀ j, n + 1 ≤ j → convR x h n j = convR x h n (n + 1) := by
  intro j
  induction j with
  | zero => intro h; omega
  | succ j ih =>
    intro hj
    by_cases h1 : n + 1 = j + 1
    · rw [h1]
    · rw [convR, if_neg (by omega), ih (by omega)]; grind
theorem convR_le {x h : Rat} (hx : 0 ≤ x) (hh : 0 ≤ h) (n : Nat) {i j : Nat} (hij : i ≤ j) : convR x h n i ≤ convR x h n j := by
  induction j with
  | zero => obtain rfl : i = 0 := by omega
            exact Rat.le_refl
  | succ j ih =>
    rcases Nat.lt_or_ge i (j + 1) with h1 | h1
    · have h2 := ih (by omega)
      rw [convR]
      split
      · have := Rat.mul_nonneg (tq_nn hh j) (eq_nn hx (n - j + 1))
        grind
      · grind
    · obtain rfl : i = j + 1 := by omega
      exact Rat.le_refl
theorem convR_full {x h : Rat} (n : Nat) : convR x h n (n + 1) = eq_ (h + x) (n + 1) := by
  rw [convR_sum x h n (n + 1) (Nat.le_refl _), eq_conv]
/-- what the terms behind the first J give -/
theorem convR_rest {x h : Rat} (hx : 0 ≤ x) (hh : 0 ≤ h) (hh1 : h ≤ 1) (n J : Nat) (hJ : 1 ≤ J) : eq_ (h + x) (n + 1) ≤ convR x h n J + 2 * tq h J * eq_ (h + x) (n + 1) := by
  have nE := eq_nn (show 0 ≤ h + x by grind) (n + 1)
  have nT := tq_nn hh J
  rcases Nat.le_total (n + 1) J with h1 | h1
  · rw [convR_stop x h n J h1, convR_full]
    have := Rat.mul_nonneg nT nE
    grind
  · -- the sum from J to n
    have key : ∀ k, J + k ≤ n + 1 → convR x h n (J + k) ≤ convR x h n J + (eq_ h (J + k) - eq_ h J) * eq_ (h + x) (n + 1) := by
      intro k
      induction k with
      | zero => intro _; rw [Nat.add_zero]; grind
      | succ k ih =>
        intro hk
        have h2 := ih (by omega)
        have e : eq_ h (J + (k + 1)) = eq_ h (J + k) + tq h (J + k) := rfl
        have e2 : convR x h n (J + (k + 1)) = convR x h n (J + k) + tq h (J + k) * eq_ x (n - (J + k) + 1) := by
          show convR x h n (J + k) + (if J + k ≤ n then _ else 0) = _
          rw [if_pos (by omega)]
          rfl
        have h3 : eq_ x (n - (J + k) + 1) ≤ eq_ (h + x) (n + 1) := by
          have b := eq_mono hx (show n - (J + k) + 1 ≤ n + 1 by omega)
          have c : eq_ x (n + 1) ≤ eq_ (h + x) (n + 1) := by
            rw [eq_conv]
            have d := sumTo_mono (g := fun j => tq h j * eq_ x (n + 1 - j)) (fun i => Rat.mul_nonneg (tq_nn hh i) (eq_nn hx _)) (show 1 ≤ n + 1 by omega)
            refine Rat.le_trans ?_ d
            show eq_ x (n + 1) ≤ 0 + 1 * eq_ x (n + 1 - 0)
            rw [Nat.sub_zero]; grind
          exact Rat.le_trans b c
        have h4 := mul_le_l (tq_nn hh (J + k)) h3
        rw [e2, e]
        generalize eq_ (h + x) (n + 1) = S at *
        generalize eq_ h (J + k) = A at *
        generalize eq_ h J = B at *
        generalize tq h (J + k) = t at *
        have e5 : (A + t - B) * S = (A - B) * S + t * S := by grind
        rw [e5]
        grind
    obtain ⟨k, hk⟩ := Nat.exists_eq_add_of_le h1
    have h2 := key k (by omega)
    rw [← hk, convR_full] at h2
    have h3 : eq_ h (n + 1) - eq_ h J ≤ 2 * tq h J := by
      obtain ⟨J', rfl⟩ : ∃ J', J = J' + 1 := ⟨J - 1, by omega⟩
      have := eq_bound hh hh1 J' (n + 1)
      grind
    have h4 := Rat.mul_le_mul_of_nonneg_right h3 nE
    exact Rat.le_trans h2 (by grind)
theorem convS_mono {L N F : Nat} (f : Nat → Nat) (hm : ∀ n, n + 1 < N → lnq L F n ≤ lnq L F (n + 1)) {n : Nat} (hn : n + 1 < N) : ∀ j, convS L F f n j ≤ convS L F f (n + 1) j := by
  intro j
  induction j with
  | zero => exact Nat.le_refl _
  | succ j ih =>
    rw [convS, convS]
    by_cases h : j ≤ n
    · rw [if_pos h, if_pos (by omega)]
      have h1 := hm (n - j) (by omega)
      rw [show n - j + 1 = n + 1 - j by omega] at h1
      exact Nat.add_le_add ih (Nat.mul_le_mul_left _ h1)
    · rw [if_neg h]
      exact Nat.le_trans ih (Nat.le_add_right _ _)
theorem fst_step {P L N E F d J : Nat} {x : Rat} (hPL : 2 * P < L) (hd : 0 < d) (hJ : 1 ≤ J) (hc : 2 ^ P * facD d 40 ≤ (c0 P d + 2) * serN d 40) (hfac : 2 ^ (P + 1) ≤ facD d J) (h : FSt P L N E F x) (hx : 0 ≤ x) (hE : 3 * (J * E) ≤ 2 ^ P) :
    FSt P L N (E + 3 * J + 3) (stepP P (pkF L (kapF P d) J) (repN L (2 ^ (P + 1) - 1) N) F) (1 / (d : Rat) + x) := by
  have hT : 0 < 2 ^ P := Nat.pow_pos (by omega)
  obtain ⟨hle, hlo, hhi, hmo⟩ := h
  have hs := kap_sum (P := P) hd J
  have hl := fun n => step_lane (N := N) (f := kapF P d) hPL hle hs n
  have hh := inv_nn hd
  have hh1 := inv_le hd
  have hy : 0 ≤ 1 / (d : Rat) + x := by grind
  have e2P : 2 ^ (P + 1) = 2 * 2 ^ P := by rw [Nat.pow_succ, Nat.mul_comm]
  rw [e2P] at hfac
  have htq : 2 * ((2 ^ P : Nat) : Rat) * tq (1 / (d : Rat)) J ≤ 1 := by
    have a : 2 * ((2 ^ P : Nat) : Rat) ≤ (facD d J : Rat) := by exact_mod_cast hfac
    have b := Rat.mul_le_mul_of_nonneg_right a (tq_nn hh J)
    have c := tq_fac hd J
    rw [Rat.mul_comm (facD d J : Rat), c] at b
    exact b
  generalize hTT : 2 ^ P = T at *
  have hf1 := fun j => kap_lo (P := P) hd j
  have hf2 := fun j => kap_hi (P := P) hd (by rw [hTT]; exact hc) j
  rw [hTT] at hf1 hf2
  generalize kapF P d = f at *
  generalize 1 / (d : Rat) = y at *
  have lo : ∀ n, n < N → ∀ j, GL (T * T) (convS L F f n j) (convR x y n j) (y + x) := by
    intro n hn j
    induction j with
    | zero => intro m; show ((0 : Nat) : Rat) * _ ≤ _ * (0 : Rat); grind
    | succ j ih =>
      rw [convS, convR]
      refine ih.add ?_
      split
      · exact GL.mul hh hx (tq_nn hh j) (hf1 j) (hlo (n - j) (by omega))
      · intro m; show ((0 : Nat) : Rat) * _ ≤ _ * (0 : Rat); grind
  have hi : ∀ n, n < N → ∀ j, GU (T * T) (convS L F f n j + (E * sumF f j + j * (3 * T + 3 * E))) (convR x y n j) (y + x) := by
    intro n hn j
    induction j with
    | zero => exact ⟨0, by show _ * (0 : Rat) ≤ _ * (0 : Rat); grind⟩
    | succ j ih =>
      rw [convS, convR, sumF]
      by_cases hj : j ≤ n
      · rw [if_pos hj, if_pos hj]
        have a := GU.mul hh hx (tq_nn hh j) (eq_nn hx _) (hf2 j) (hhi (n - j) (by omega))
        have b := (ih.add hy a)
        refine b.mono hy ?_
        have c := hle (n - j)
        generalize lnq L F (n - j) = v at *
        generalize f j = k at *
        have e1 : (k + 3) * (v + E) = k * v + E * k + 3 * v + 3 * E := by grind
        have e2 : E * (sumF f j + k) = E * sumF f j + E * k := by grind
        have e3 : (j + 1) * (3 * T + 3 * E) = j * (3 * T + 3 * E) + 3 * T + 3 * E := by grind
        rw [e1, e2, e3]
        omega
      · rw [if_neg hj, if_neg hj]
        have e0 : convR x y n j + 0 = convR x y n j := by grind
        rw [e0]
        refine ih.mono hy ?_
        have e2 : E * (sumF f j + f j) = E * sumF f j + E * f j := by grind
        have e3 : (j + 1) * (3 * T + 3 * E) = j * (3 * T + 3 * E) + 3 * T + 3 * E := by grind
        rw [e2, e3]
        omega
  refine ⟨fun q => ?_, fun n hn => ?_, fun n hn => ?_, fun n hn => ?_⟩
  · rw [hl, hTT]
    split
    · refine Nat.div_le_of_le_mul ?_
      exact Nat.le_trans (convS_le hle q J) (Nat.mul_le_mul_right _ hs)
    · exact Nat.zero_le _
  · rw [hl, if_pos hn, hTT]
    have a := lo n hn J
    have b : convR x y n J ≤ eq_ (y + x) (n + 1) := by
      rcases Nat.le_total J (n + 1) with h1 | h1
      · rw [← convR_full]; exact convR_le hx hh n h1
      · rw [convR_stop x y n J h1, convR_full]; exact Rat.le_refl
    exact GL.scale hT hy (a.more b) (Nat.div_mul_le_self _ _)
  · rw [hl, if_pos hn, hTT]
    have a := hi n hn J
    have b := convR_rest hx hh hh1 n J hJ
    have c : GU (T * T) T (2 * tq y J * eq_ (y + x) (n + 1)) (y + x) := by
      refine ⟨n + 1, ?_⟩
      have nS := eq_nn hy (n + 1)
      generalize eq_ (y + x) (n + 1) = S at *
      generalize tq y J = t at *
      rw [Rat.natCast_mul]
      have g := Rat.mul_le_mul_of_nonneg_right htq nS
      have g2 := mul_le_l (natR_nn T) g
      have e1 : (T : Rat) * (T : Rat) * (2 * t * S) = (T : Rat) * (2 * (T : Rat) * t * S) := by grind
      rw [e1]
      have e2 : (T : Rat) * (1 * S) = (T : Rat) * S := by grind
      rw [e2] at g2
      exact g2
    have d1 := (GU.add hy a c).less b
    refine GU.scale hT hy d1 ?_
    have g1 := Nat.div_add_mod (convS L F f n J) T
    have g2 := Nat.mod_lt (convS L F f n J) hT
    have g3 : E * sumF f J ≤ E * T := Nat.mul_le_mul_left _ hs
    have e1 : J * (3 * T + 3 * E) = 3 * (J * T) + 3 * (J * E) := by grind
    have e2 : (convS L F f n J / T + (E + 3 * J + 3)) * T = T * (convS L F f n J / T) + E * T + 3 * (J * T) + 3 * T := by grind
    rw [e1, e2]
    omega
  · rw [hl, hl, if_pos (by omega), if_pos hn]
    exact Nat.div_le_div_right (convS_mono f hmo hn J)
end Go.Proofs.Ytnmomigaedfdoaa
namespace Go.Proofs.Ytnmomigaedfdoaa
set_option maxRecDepth 100000

/-- v is g off each multiple of 2^(P - k), but it may be near 0 -/
def Far (g P v k : Nat) : Prop := ∃ m, (m = 0 ∨ m * 2 ^ (P - k) + g ≤ v) ∧ v + g ≤ (m + 1) * 2 ^ (P - k)
theorem low_bit {x n b : Nat} (hx : x < 2 ^ n) (hb : b < n) (h : x.testBit b = false) : x + 2 ^ b < 2 ^ n := by
  have h1 : (2 ^ n - (x + 1)).testBit b = true := by
    rw [Nat.testBit_two_pow_sub_succ hx, decide_eq_true hb, h]; rfl
  have h2 := Nat.ge_two_pow_of_testBit h1
  omega
theorem far_chg {P v i k : Nat} (hP : 112 ≤ P) (hi : i < 47) (k2 : k ≤ 63) (h : v.testBit (P - 112 + i) ≠ v.testBit (P - 112 + i + 1)) : Far (2 ^ (P - 112)) P v k := by
  have hR : 0 < 2 ^ (P - k) := Nat.pow_pos (by omega)
  have hu : v % 2 ^ (P - k) < 2 ^ (P - k) := Nat.mod_lt _ hR
  have hb : ∀ t, t < P - k → (v % 2 ^ (P - k)).testBit t = v.testBit t := fun t ht => by rw [Nat.testBit_mod_two_pow, decide_eq_true ht, Bool.true_and]
  have h1 := hb (P - 112 + i) (by omega)
  have h2 := hb (P - 112 + i + 1) (by omega)
  rw [← h1, ← h2] at h
  have hv := Nat.div_add_mod v (2 ^ (P - k))
  refine ⟨v / 2 ^ (P - k), Or.inr ?_, ?_⟩
  · have : 2 ^ (P - 112) ≤ v % 2 ^ (P - k) := by
      cases a : (v % 2 ^ (P - k)).testBit (P - 112 + i) with
      | true => exact Nat.le_trans (Nat.pow_le_pow_right (by omega) (by omega)) (Nat.ge_two_pow_of_testBit a)
      | false =>
        cases b : (v % 2 ^ (P - k)).testBit (P - 112 + i + 1) with
        | true => exact Nat.le_trans (Nat.pow_le_pow_right (by omega) (by omega)) (Nat.ge_two_pow_of_testBit b)
        | false => rw [a, b] at h; exact absurd rfl h
    rw [Nat.mul_comm] at hv
    omega
  · have : v % 2 ^ (P - k) + 2 ^ (P - 112) ≤ 2 ^ (P - k) := by
      cases a : (v % 2 ^ (P - k)).testBit (P - 112 + i) with
      | false =>
        have c := low_bit hu (by omega) a
        have := Nat.pow_le_pow_right (n := 2) (by omega) (show P - 112 ≤ P - 112 + i by omega)
        omega
      | true =>
        cases b : (v % 2 ^ (P - k)).testBit (P - 112 + i + 1) with
        | false =>
          have c := low_bit hu (by omega) b
          have := Nat.pow_le_pow_right (n := 2) (by omega) (show P - 112 ≤ P - 112 + i + 1 by omega)
          omega
        | true => rw [a, b] at h; exact absurd rfl h
    rw [Nat.add_mul, Nat.one_mul, Nat.mul_comm (v / 2 ^ (P - k))]
    omega
theorem far_small {P v k : Nat} (hP : 112 ≤ P) (k2 : k ≤ 63) (h : v ≤ 2 ^ (P - 64)) : Far (2 ^ (P - 112)) P v k := by
  refine ⟨0, Or.inl rfl, ?_⟩
  have h1 := Nat.pow_le_pow_right (n := 2) (by omega) (show P - 112 ≤ P - 64 by omega)
  have h2 := Nat.pow_le_pow_right (n := 2) (by omega) (show P - 64 + 1 ≤ P - k by omega)
  rw [Nat.pow_succ] at h2
  rw [Nat.zero_add, Nat.one_mul]
  omega
/-- and what is left of 1 is as far -/
theorem far_rest {P v k g : Nat} (k2 : k ≤ P) (hg : 0 < g) (hv : v ≤ 2 ^ P) (h : ∃ m, m * 2 ^ (P - k) + g ≤ v ∧ v + g ≤ (m + 1) * 2 ^ (P - k)) : Far g P (2 ^ P - v) k := by
  obtain ⟨m, h1, h2⟩ := h
  have e : 2 ^ P = 2 ^ k * 2 ^ (P - k) := by rw [← Nat.pow_add]; congr 1; omega
  have hm : m + 1 ≤ 2 ^ k := by
    apply Classical.byContradiction
    intro hc
    have := Nat.mul_le_mul_right (2 ^ (P - k)) (show 2 ^ k ≤ m by omega)
    omega
  obtain ⟨c, hc⟩ := Nat.exists_eq_add_of_le hm
  rw [e, hc]
  rw [e, hc] at hv
  refine ⟨c, Or.inr ?_, ?_⟩
  · rw [Nat.add_mul]; omega
  · have e2 : (m + 1 + c) * 2 ^ (P - k) = m * 2 ^ (P - k) + (c + 1) * 2 ^ (P - k) := by grind
    rw [e2]; rw [e2] at hv; omega
theorem far_chg' {P v i k : Nat} (hP : 112 ≤ P) (hi : i < 47) (k2 : k ≤ 63) (h : v.testBit (P - 112 + i) ≠ v.testBit (P - 112 + i + 1)) : ∃ m, m * 2 ^ (P - k) + 2 ^ (P - 112) ≤ v ∧ v + 2 ^ (P - 112) ≤ (m + 1) * 2 ^ (P - k) := by
  obtain ⟨m, h1, h2⟩ := far_chg hP hi k2 h
  rcases h1 with h1 | h1
  · subst h1
    -- the digit that is 1 makes v great enough
    refine ⟨0, ?_, h2⟩
    rw [Nat.zero_mul, Nat.zero_add]
    cases a : v.testBit (P - 112 + i) with
    | true => exact Nat.le_trans (Nat.pow_le_pow_right (by omega) (by omega)) (Nat.ge_two_pow_of_testBit a)
    | false =>
      cases b : v.testBit (P - 112 + i + 1) with
      | true => exact Nat.le_trans (Nat.pow_le_pow_right (by omega) (by omega)) (Nat.ge_two_pow_of_testBit b)
      | false => rw [a, b] at h; exact absurd rfl h
  · exact ⟨m, h1, h2⟩

def chg (P D m47 : Nat) : Nat := (((D >>> (P - 112)) ^^^ (D >>> (P - 111))) &&& m47) + m47
def chkB (P D m47 b47 c : Nat) : Bool := ((chg P D m47 ||| (c >>> (P - 47))) &&& b47) == b47
theorem m47_lt {L : Nat} (hL : 48 ≤ L) : 2 ^ 47 - 1 < 2 ^ L := Nat.lt_of_lt_of_le (by decide) (Nat.pow_le_pow_right (by omega) hL)
theorem chg_bit {P L N D n : Nat} (hP : 112 ≤ P) (hL : P + 1 ≤ L) (hn : n < N) (h : (chg P D (repN L (2 ^ 47 - 1) N)).testBit (L * n + 47) = true) :
    ∃ i, i < 47 ∧ (lnq L D n).testBit (P - 112 + i) ≠ (lnq L D n).testBit (P - 112 + i + 1) := by
  have hm := m47_lt (L := L) (by omega)
  obtain ⟨Z, hZ⟩ : ∃ Z, ((D >>> (P - 112)) ^^^ (D >>> (P - 111))) &&& repN L (2 ^ 47 - 1) N = Z := ⟨_, rfl⟩
  have hbit : ∀ q s, s < L → (lnq L Z q).testBit s = (((D >>> (P - 112)) ^^^ (D >>> (P - 111))).testBit (L * q + s) && (if q < N then decide (s < 47) else false)) := fun q s hs => by
    rw [bit_lnq, decide_eq_true hs, Bool.true_and, ← hZ, Nat.testBit_and, repN_bit hm hs]
    split
    · rw [Nat.testBit_two_pow_sub_one]
    · rfl
  have hlt : ∀ q, lnq L Z q < 2 ^ 47 := fun q => by
    refine Nat.lt_pow_two_of_testBit _ fun s hs => ?_
    by_cases hsl : s < L
    · rw [hbit q s hsl]
      split
      · rw [decide_eq_false (by omega), Bool.and_false]
      · rw [Bool.and_false]
    · rw [bit_lnq, decide_eq_false hsl, Bool.false_and]
  have h248 : 2 ^ 48 ≤ 2 ^ L := Nat.pow_le_pow_right (by omega) (by omega)
  have ha := add_lane (L := L) (A := Z) (B := repN L (2 ^ 47 - 1) N) (q := n) fun i _ => by
    have := hlt i
    rw [repN_ln hm]
    have e : 2 ^ 48 = 2 ^ 47 + 2 ^ 47 := by decide
    split <;> omega
  rw [repN_ln hm, if_pos hn] at ha
  have hb := bit_lnq L (Z + repN L (2 ^ 47 - 1) N) n 47
  rw [decide_eq_true (by omega), Bool.true_and] at hb
  rw [chg, hZ, ← hb, ha] at h
  have hz : lnq L Z n ≠ 0 := by
    intro k
    rw [k, Nat.zero_add, Nat.testBit_two_pow_sub_one] at h
    exact absurd h (by decide)
  obtain ⟨s, hs⟩ := Nat.exists_testBit_of_ne_zero hz
  have hs47 : s < 47 := by
    apply Classical.byContradiction
    intro k
    rw [Nat.testBit_lt_two_pow (Nat.lt_of_lt_of_le (hlt n) (Nat.pow_le_pow_right (by omega) (by omega)))] at hs
    exact absurd hs (by decide)
  rw [hbit n s (by omega), Bool.and_eq_true, Nat.testBit_xor, Nat.testBit_shiftRight, Nat.testBit_shiftRight] at hs
  refine ⟨s, hs47, ?_⟩
  rw [bit_lnq, bit_lnq, decide_eq_true (by omega), decide_eq_true (by omega), Bool.true_and, Bool.true_and]
  have e1 : L * n + (P - 112 + s) = P - 112 + (L * n + s) := by omega
  have e2 : L * n + (P - 112 + s + 1) = P - 111 + (L * n + s) := by omega
  rw [e1, e2]
  intro k
  rw [k, Bool.xor_self] at hs
  exact absurd hs.1 (by decide)
/-- what a check tells of one lane: its digits change, or the number c is at least 2^P there -/
theorem chkB_spec {P L N D c n : Nat} (hP : 112 ≤ P) (hL : P + 1 ≤ L) (hn : n < N) (h : chkB P D (repN L (2 ^ 47 - 1) N) (repN L (2 ^ 47) N) c = true) :
    (∃ i, i < 47 ∧ (lnq L D n).testBit (P - 112 + i) ≠ (lnq L D n).testBit (P - 112 + i + 1)) ∨ 2 ^ P ≤ lnq L c n := by
  have hm : 2 ^ 47 < 2 ^ L := Nat.pow_lt_pow_right (by omega) (by omega)
  have h1 : (((chg P D (repN L (2 ^ 47 - 1) N) ||| (c >>> (P - 47))) &&& repN L (2 ^ 47) N)).testBit (L * n + 47) = (repN L (2 ^ 47) N).testBit (L * n + 47) := by rw [eq_of_beq h]
  rw [Nat.testBit_and, repN_bit hm (by omega), if_pos hn, Nat.testBit_two_pow_self, Bool.and_true, Nat.testBit_or, Bool.or_eq_true] at h1
  rcases h1 with h1 | h1
  · exact Or.inl (chg_bit hP hL hn h1)
  · right
    rw [Nat.testBit_shiftRight] at h1
    have h2 := bit_lnq L c n P
    rw [decide_eq_true (by omega), Bool.true_and, show L * n + P = P - 47 + (L * n + 47) by omega, h1] at h2
    exact Nat.ge_two_pow_of_testBit h2
end Go.Proofs.Ytnmomigaedfdoaa
namespace Go.Proofs.Ytnmomigaedfdoaa
set_option maxRecDepth 100000

theorem repN_lt {L m : Nat} (hm : m < 2 ^ L) : ∀ n, repN L m n < 2 ^ (L * n) := by
  intro n
  induction n with
  | zero => rw [Nat.mul_zero, Nat.pow_zero]; exact Nat.one_pos
  | succ n ih => exact cat_lt ih (by rw [Nat.mul_one]; exact hm)
theorem low_le {L A B : Nat} : ∀ j, (∀ i, i < j → lnq L B i ≤ lnq L A i) → B % 2 ^ (L * j) ≤ A % 2 ^ (L * j) := by
  intro j
  induction j with
  | zero => intro _; rw [Nat.mul_zero, Nat.pow_zero, Nat.mod_one, Nat.mod_one]; exact Nat.le_refl _
  | succ j ih =>
    intro hh
    rw [mod_lane, mod_lane]
    have h1 := ih fun i hi => hh i (by omega)
    have h2 := Nat.mul_le_mul_left (2 ^ (L * j)) (hh j (by omega))
    omega
def wts (L N F : Nat) : Nat := F - (F <<< L) % 2 ^ (L * N)
def chkA (P L N F : Nat) : Bool :=
  chkB P F (repN L (2 ^ 47 - 1) N) (repN L (2 ^ 47) N) (F + repN L (2 ^ (P - 64)) N) &&
  chkB P (wts L N F) (repN L (2 ^ 47 - 1) N) (repN L (2 ^ 47) N) (repN L (2 ^ P + 2 ^ (P - 64) - 1) N - wts L N F) &&
  Nat.ble (2 ^ P) (lnq L F (N - 1) + 2 ^ (P - 64))
def iterS (P K M F : Nat) : Nat → Nat
  | 0 => F
  | s + 1 => stepP P K M (iterS P K M F s)
/-- looks at the steps 1 to s, where (a0 + s) / d is in lowest terms -/
def runC (P L N K M F d a0 : Nat) : Nat → Bool
  | 0 => true
  | s + 1 => (!(Nat.beq (Nat.gcd (a0 + (s + 1)) d) 1) || chkA P L N (iterS P K M F (s + 1))) && runC P L N K M F d a0 s
theorem runC_mem {P L N K M F d a0 : Nat} : ∀ n, runC P L N K M F d a0 n = true → ∀ s, 1 ≤ s → s ≤ n → Nat.gcd (a0 + s) d = 1 → chkA P L N (iterS P K M F s) = true := by
  intro n
  induction n with
  | zero => intro _ s h1 h2; omega
  | succ n ih =>
    intro h s h1 h2 hg
    rw [runC, Bool.and_eq_true] at h
    rcases Nat.lt_or_ge n s with h3 | h3
    · obtain rfl : s = n + 1 := by omega
      have h4 := h.1
      rw [hg] at h4
      exact h4
    · exact ih h.2 s h1 h3 hg
/-- how many terms of e^(1/d) a step needs -/
def Jd (d : Nat) : Nat := if d < 2 then 36 else if d < 4 then 30 else if d < 8 then 27 else if d < 16 then 24 else if d < 32 then 21 else if d < 64 then 19 else if d < 128 then 17 else 15
theorem Jd_bd (d : Nat) : 1 ≤ Jd d ∧ Jd d ≤ 36 := by
  unfold Jd
  repeat' split
  all_goals omega
def okD (P d : Nat) : Bool := Nat.ble (2 ^ P * facD d 40) ((c0 P d + 2) * serN d 40) && Nat.ble (2 ^ (P + 1)) (facD d (Jd d))
def stK (P L d : Nat) : Nat := pkF L (kapF P d) (Jd d)
def stM (P L N : Nat) : Nat := repN L (2 ^ (P + 1) - 1) N
def startF (P L N j : Nat) : Nat := iterS P (stK P L 1) (stM P L N) (repN L (2 ^ P) N) j
def tst (P L N j d : Nat) : Bool := okD P 1 && okD P d && runC P L N (stK P L d) (stM P L N) (startF P L N j) d (j * d) d
theorem okD_spec {P d : Nat} (h : okD P d = true) : 2 ^ P * facD d 40 ≤ (c0 P d + 2) * serN d 40 ∧ 2 ^ (P + 1) ≤ facD d (Jd d) := by
  rw [okD, Bool.and_eq_true] at h
  exact ⟨Nat.le_of_ble_eq_true h.1, Nat.le_of_ble_eq_true h.2⟩
theorem iter_lt {P L N K F : Nat} (hL : P + 1 ≤ L) (hF : F < 2 ^ (L * N)) (s : Nat) : iterS P K (stM P L N) F s < 2 ^ (L * N) := by
  cases s with
  | zero => exact hF
  | succ s =>
    refine Nat.lt_of_le_of_lt Nat.and_le_right (repN_lt ?_ N)
    exact Nat.lt_of_lt_of_le (Nat.sub_lt (Nat.pow_pos (by omega)) (by omega)) (Nat.pow_le_pow_right (by omega) hL)
theorem iter_fst {P L N d E F : Nat} {x : Rat} (hPL : 2 * P < L) (hP : 30 ≤ P) (hd : 0 < d) (hok : okD P d = true) (h : FSt P L N E F x) (hx : 0 ≤ x) : ∀ s, E + s * 111 ≤ 100000 →
    FSt P L N (E + s * 111) (iterS P (stK P L d) (stM P L N) F s) ((s : Rat) * (1 / (d : Rat)) + x) := by
  obtain ⟨k1, k2⟩ := okD_spec hok
  have hj := Jd_bd d
  intro s
  induction s with
  | zero =>
    intro _
    rw [Nat.zero_mul, Nat.add_zero]
    have e : ((0 : Nat) : Rat) * (1 / (d : Rat)) + x = x := by grind
    rw [e]; exact h
  | succ s ih =>
    intro hs
    have h1 := ih (by omega)
    have hn : 0 ≤ (s : Rat) * (1 / (d : Rat)) + x := by
      have := Rat.mul_nonneg (natR_nn s) (inv_nn hd)
      grind
    have h2 := fst_step hPL hd hj.1 k1 k2 h1 hn (by
      have a : Jd d * (E + s * 111) ≤ 36 * 100000 := Nat.mul_le_mul hj.2 (by omega)
      have b : 2 ^ 30 ≤ 2 ^ P := Nat.pow_le_pow_right (by omega) hP
      omega)
    have e : 1 / (d : Rat) + ((s : Rat) * (1 / (d : Rat)) + x) = ((s + 1 : Nat) : Rat) * (1 / (d : Rat)) + x := by
      rw [Rat.natCast_add]
      show _ = ((s : Rat) + 1) * _ + _
      grind
    rw [e] at h2
    refine h2.more ?_ ?_
    · have := Rat.mul_nonneg (natR_nn (s + 1)) (inv_nn hd)
      grind
    · rw [Nat.add_mul]; omega
/-- at x all is well: the lanes are near, and their digits change -/
structure Goodx (P L N F : Nat) (x : Rat) : Prop where
  st : FSt P L N 65536 F x
  ck : chkA P L N F = true
  lt : F < 2 ^ (L * N)
theorem tst_good {P L N j d s : Nat} (hPL : 2 * P < L) (hP : 30 ≤ P) (hd : 0 < d) (hd2 : d ≤ 256) (hj : j ≤ 63) (h : tst P L N j d = true) (hs : 1 ≤ s) (hs2 : s ≤ d) (hg : Nat.gcd (j * d + s) d = 1) :
    ∃ F, Goodx P L N F ((s : Rat) * (1 / (d : Rat)) + (j : Rat)) := by
  rw [tst, Bool.and_eq_true, Bool.and_eq_true] at h
  obtain ⟨⟨h1, h2⟩, h3⟩ := h
  have hm : 2 ^ P < 2 ^ L := Nat.pow_lt_pow_right (by omega) (by omega)
  have a := iter_fst (N := N) hPL hP (show 0 < 1 by omega) h1 (fst_zero (by omega)) (show (0 : Rat) ≤ 0 by grind) j (by omega)
  have e : (j : Rat) * (1 / ((1 : Nat) : Rat)) + 0 = (j : Rat) := by
    have : ((1 : Nat) : Rat) = 1 := rfl
    rw [this]; grind
  rw [e] at a
  have b := iter_fst hPL hP hd h2 a (natR_nn j) s (by omega)
  have hx : 0 ≤ (s : Rat) * (1 / (d : Rat)) + (j : Rat) := by
    have := Rat.mul_nonneg (natR_nn s) (inv_nn hd)
    have := natR_nn j
    grind
  exact ⟨_, b.more hx (by omega), runC_mem d h3 s hs hs2 hg, iter_lt (by omega) (iter_lt (by omega) (repN_lt hm N) j) s⟩
def tstTo (P L N j lo : Nat) : Nat → Bool
  | 0 => true
  | c + 1 => tst P L N j (lo + c + 1) && tstTo P L N j lo c
theorem tstTo_mem {P L N j lo : Nat} : ∀ c, tstTo P L N j lo c = true → ∀ d, lo < d → d ≤ lo + c → tst P L N j d = true := by
  intro c
  induction c with
  | zero => intro _ d h1 h2; omega
  | succ c ih =>
    intro h d h1 h2
    rw [tstTo, Bool.and_eq_true] at h
    rcases Nat.lt_or_ge (lo + c) d with h3 | h3
    · obtain rfl : d = lo + c + 1 := by omega
      exact h.1
    · exact ih h.2 d h1 h3
end Go.Proofs.Ytnmomigaedfdoaa
namespace Go.Proofs.Ytnmomigaedfdoaa
set_option maxRecDepth 100000

section
variable {P L N F : Nat} {x : Rat}
theorem good_tail (hP : 112 ≤ P) (hPL : 2 * P < L) (h : Goodx P L N F x) {n : Nat} (hn : n < N) : ∀ k, k ≤ 63 → Far (2 ^ (P - 112)) P (2 ^ P - lnq L F n) k := by
  intro k hk
  have hc := h.ck
  rw [chkA, Bool.and_eq_true, Bool.and_eq_true] at hc
  have h64 : 2 ^ (P - 64) < 2 ^ L := Nat.pow_lt_pow_right (by omega) (by omega)
  have h2 : 2 ^ P + 2 ^ (P - 64) < 2 ^ L := by
    have a := Nat.pow_le_pow_right (n := 2) (by omega) (show P - 64 ≤ P by omega)
    have b := Nat.pow_le_pow_right (n := 2) (by omega) (show P + 2 ≤ L by omega)
    have c := Nat.pow_pos (n := P) (show 0 < 2 by omega)
    rw [Nat.pow_add] at b
    omega
  have ha := add_lane (L := L) (A := F) (B := repN L (2 ^ (P - 64)) N) (q := n) fun i _ => by
    have := h.st.le i
    rw [repN_ln h64]
    split <;> omega
  rw [repN_ln h64, if_pos hn] at ha
  rcases chkB_spec hP (by omega) hn hc.1.1 with ⟨i, hi, hb⟩ | hb
  · exact far_rest (by omega) (Nat.pow_pos (by omega)) (h.st.le n) (far_chg' hP hi hk hb)
  · rw [ha] at hb
    have p1 : 0 < 2 ^ (P - 64) := Nat.pow_pos (by omega)
    have p2 := h.st.le n
    exact far_small hP hk (by omega)
theorem good_last (h : Goodx P L N F x) : 2 ^ P ≤ lnq L F (N - 1) + 2 ^ (P - 64) := by
  have hc := h.ck
  rw [chkA, Bool.and_eq_true, Bool.and_eq_true] at hc
  exact Nat.le_of_ble_eq_true hc.2
/-- the lane of a weight -/
def wtN (L F n : Nat) : Nat := lnq L F n - if n < 1 then 0 else lnq L F (n - 1)
theorem wts_lane (_hPL : P < L) (h : Goodx P L N F x) {n : Nat} (hn : n < N) : lnq L (wts L N F) n = wtN L F n := by
  have hs : ∀ i, i < N → lnq L ((F <<< L) % 2 ^ (L * N)) i = if i < 1 then 0 else lnq L F (i - 1) := fun i hi => by
    rw [lnq_mod hi]
    have := shl_lane L F 1 i
    rw [Nat.mul_one] at this
    exact this
  have hle : ∀ i, i < N → lnq L ((F <<< L) % 2 ^ (L * N)) i ≤ lnq L F i := fun i hi => by
    rw [hs i hi]
    split
    · exact Nat.zero_le _
    · have := h.st.mono (i - 1) (by omega)
      rwa [show i - 1 + 1 = i by omega] at this
  have hBA : (F <<< L) % 2 ^ (L * N) ≤ F := by
    have a := low_le (L := L) (A := F) (B := (F <<< L) % 2 ^ (L * N)) N hle
    rw [Nat.mod_mod, Nat.mod_eq_of_lt h.lt] at a
    exact a
  rw [wts, sub_lane (fun i hi => hle i (by omega)) hBA, hs n hn, wtN]
theorem good_wt (hP : 112 ≤ P) (hPL : 2 * P < L) (h : Goodx P L N F x) {n : Nat} (hn : n < N) : ∀ k, k ≤ 63 → Far (2 ^ (P - 112)) P (wtN L F n) k := by
  intro k hk
  have hc := h.ck
  rw [chkA, Bool.and_eq_true, Bool.and_eq_true] at hc
  have p1 : 0 < 2 ^ (P - 64) := Nat.pow_pos (by omega)
  have hcm : 2 ^ P + 2 ^ (P - 64) - 1 < 2 ^ L := by
    have a := Nat.pow_le_pow_right (n := 2) (by omega) (show P - 64 ≤ P by omega)
    have b := Nat.pow_le_pow_right (n := 2) (by omega) (show P + 2 ≤ L by omega)
    have c := Nat.pow_pos (n := P) (show 0 < 2 by omega)
    rw [Nat.pow_add] at b
    omega
  have hw : ∀ i, i < N → lnq L (wts L N F) i ≤ 2 ^ P := fun i hi => by
    rw [wts_lane (by omega) h hi]
    exact Nat.le_trans (Nat.sub_le _ _) (h.st.le i)
  have hl : ∀ i, i < N → lnq L (wts L N F) i ≤ lnq L (repN L (2 ^ P + 2 ^ (P - 64) - 1) N) i := fun i hi => by
    rw [repN_ln hcm, if_pos hi]
    have := hw i hi
    omega
  have hBA : wts L N F ≤ repN L (2 ^ P + 2 ^ (P - 64) - 1) N := by
    have a := low_le (L := L) (A := repN L (2 ^ P + 2 ^ (P - 64) - 1) N) (B := wts L N F) N hl
    have hlt : wts L N F < 2 ^ (L * N) := Nat.lt_of_le_of_lt (Nat.sub_le _ _) h.lt
    rw [Nat.mod_eq_of_lt (repN_lt hcm N), Nat.mod_eq_of_lt hlt] at a
    exact a
  have hs := sub_lane (fun i (hi : i ≤ n) => hl i (by omega)) hBA
  rw [repN_ln hcm, if_pos hn, wts_lane (by omega) h hn] at hs
  rcases chkB_spec hP (by omega) hn hc.1.2 with ⟨i, hi, hb⟩ | hb
  · rw [wts_lane (by omega) h hn] at hb
    exact far_chg hP hi hk hb
  · rw [hs] at hb
    have p2 : 0 < 2 ^ P := Nat.pow_pos (by omega)
    have p3 : wtN L F n ≤ 2 ^ (P - 64) := by
      generalize wtN L F n = d at *
      generalize 2 ^ P = A at *
      generalize 2 ^ (P - 64) = B at *
      omega
    exact far_small hP hk p3
/-- a weight is near its lane -/
theorem wt_lo (h : Goodx P L N F x) (hx : 0 ≤ x) {n : Nat} (hn : n < N) : GL (2 ^ P) (wtN L F n - 65536) (tq x n) x := by
  have e : eq_ x (n + 1) = eq_ x n + tq x n := rfl
  have h1 := h.st.lo n hn
  rw [e] at h1
  by_cases h0 : n < 1
  · obtain rfl : n = 0 := by omega
    have e0 : eq_ x 0 + tq x 0 = tq x 0 := by show (0 : Rat) + 1 = 1; grind
    rw [e0] at h1
    rw [wtN, if_pos h0, Nat.sub_zero]
    exact h1.mono hx (Nat.sub_le _ _)
  · have h2 := h.st.hi (n - 1) (by omega)
    rw [show n - 1 + 1 = n by omega] at h2
    obtain ⟨M, hM⟩ := h2.up hx
    rw [wtN, if_neg h0]
    generalize lnq L F n = a at *
    generalize lnq L F (n - 1) = b at *
    intro m
    have h3 := hM (max m M) (by omega)
    have h4 := h1 (max m M)
    have h5 := mul_le_l (natR_nn (a - b - 65536)) (eq_mono hx (show m ≤ max m M by omega))
    refine Rat.le_trans h5 ?_
    by_cases hab : b + 65536 ≤ a
    · have c : ((a - b - 65536 : Nat) : Rat) = (a : Rat) - ((b + 65536 : Nat) : Rat) := by
        have : a = (a - b - 65536) + (b + 65536) := by omega
        have e2 : (a : Rat) = ((a - b - 65536 : Nat) : Rat) + ((b + 65536 : Nat) : Rat) := by
          rw [← Rat.natCast_add, ← this]
        rw [e2]; grind
      rw [c]
      generalize ((b + 65536 : Nat) : Rat) = b' at *
      generalize eq_ x (max m M) = S at *
      grind
    · have c : a - b - 65536 = 0 := by omega
      rw [c]
      have := Rat.mul_nonneg (natR_nn (2 ^ P)) (tq_nn hx n)
      have e3 : ((0 : Nat) : Rat) = 0 := rfl
      rw [e3]
      grind
theorem wt_hi (h : Goodx P L N F x) (_hx : 0 ≤ x) {n : Nat} (hn : n < N) : GU (2 ^ P) (wtN L F n + 65536) (tq x n) x := by
  have e : eq_ x (n + 1) = eq_ x n + tq x n := rfl
  have h1 := h.st.hi n hn
  rw [e] at h1
  by_cases h0 : n < 1
  · obtain rfl : n = 0 := by omega
    have e0 : eq_ x 0 + tq x 0 = tq x 0 := by show (0 : Rat) + 1 = 1; grind
    rw [e0] at h1
    rw [wtN, if_pos h0, Nat.sub_zero]
    exact h1
  · have h2 := h.st.lo (n - 1) (by omega)
    have hm := h.st.mono (n - 1) (by omega)
    rw [show n - 1 + 1 = n by omega] at h2 hm
    obtain ⟨m, h3⟩ := h1
    have h4 := h2 m
    refine ⟨m, ?_⟩
    rw [wtN, if_neg h0]
    obtain ⟨w, hw⟩ := Nat.exists_eq_add_of_le hm
    rw [hw, Nat.add_sub_cancel_left]
    rw [hw, Nat.add_assoc, Rat.natCast_add] at h3
    generalize ((w + 65536 : Nat) : Rat) = w' at *
    generalize eq_ x m = S at *
    grind
end
end Go.Proofs.Ytnmomigaedfdoaa
namespace Go.Proofs.Ytnmomigaedfdoaa
set_option maxRecDepth 100000

section
variable {num den : Nat}
theorem restE_zero (num den one n : Nat) : ∀ i, i ≤ n + 1 → restE num den one n i = ⟨0, 0⟩ := by
  intro i
  induction i with
  | zero => intro _; rfl
  | succ i ih => intro h; rw [restE, if_neg (by omega), ih (by omega)]
theorem restE_enc (h0 : 0 < den) (one n : Nat) : ∀ t, ((restE num den one n (n + 1 + t)).lo : Rat) ≤ (one : Rat) * (eq_ (xR num den) (n + 1 + t) - eq_ (xR num den) (n + 1)) ∧ (one : Rat) * (eq_ (xR num den) (n + 1 + t) - eq_ (xR num den) (n + 1)) ≤ ((restE num den one n (n + 1 + t)).hi : Rat) := by
  intro t
  induction t with
  | zero =>
    rw [Nat.add_zero, restE_zero num den one n (n + 1) (Nat.le_refl _)]
    constructor
    · show ((0 : Nat) : Rat) ≤ _; grind
    · show _ ≤ ((0 : Nat) : Rat); grind
  | succ t ih =>
    have h := tE_enc (num := num) h0 one (n + 1 + t)
    have e : eq_ (xR num den) (n + 1 + (t + 1)) = eq_ (xR num den) (n + 1 + t) + tq (xR num den) (n + 1 + t) := rfl
    have er : restE num den one n (n + 1 + (t + 1)) = ⟨(restE num den one n (n + 1 + t)).lo + (tE num den one (n + 1 + t)).lo, (restE num den one n (n + 1 + t)).hi + (tE num den one (n + 1 + t)).hi⟩ := by
      show (if n < n + 1 + t then _ else _) = _
      rw [if_pos (by omega)]
      rfl
    rw [e, er]
    have e1 : (((restE num den one n (n + 1 + t)).lo + (tE num den one (n + 1 + t)).lo : Nat) : Rat) = ((restE num den one n (n + 1 + t)).lo : Rat) + ((tE num den one (n + 1 + t)).lo : Rat) := Rat.natCast_add _ _
    have e2 : (((restE num den one n (n + 1 + t)).hi + (tE num den one (n + 1 + t)).hi : Nat) : Rat) = ((restE num den one n (n + 1 + t)).hi : Rat) + ((tE num den one (n + 1 + t)).hi : Rat) := Rat.natCast_add _ _
    constructor
    · show (((restE num den one n (n + 1 + t)).lo + (tE num den one (n + 1 + t)).lo : Nat) : Rat) ≤ _
      rw [e1]; grind
    · show _ ≤ (((restE num den one n (n + 1 + t)).hi + (tE num den one (n + 1 + t)).hi : Nat) : Rat)
      rw [e2]; grind
theorem restE_wid (h0 : 0 < den) (one n : Nat) : ∀ m, ((restE num den one n m).hi : Rat) ≤ ((restE num den one n m).lo : Rat) + 2 * (m : Rat) * eq_ (xR num den) m := by
  have hx := xR_nn (num := num) h0
  intro m
  induction m with
  | zero => show ((0 : Nat) : Rat) ≤ ((0 : Nat) : Rat) + 2 * ((0 : Nat) : Rat) * 0; grind
  | succ m ih =>
    have h := tE_wid (num := num) h0 one m
    have h2 := eq_mono hx (show m ≤ m + 1 by omega)
    have h3 := mul_le_l (show (0 : Rat) ≤ 2 * (m : Rat) by have := natR_nn m; grind) h2
    have n1 := eq_nn hx (m + 1)
    have c : ((m + 1 : Nat) : Rat) = (m : Rat) + 1 := Rat.natCast_add _ _
    rw [restE, c]
    have e3 : 2 * ((m : Rat) + 1) * eq_ (xR num den) (m + 1) = 2 * (m : Rat) * eq_ (xR num den) (m + 1) + 2 * eq_ (xR num den) (m + 1) := by grind
    rw [e3]
    split
    · have e1 : (((restE num den one n m).lo + (tE num den one m).lo : Nat) : Rat) = ((restE num den one n m).lo : Rat) + ((tE num den one m).lo : Rat) := Rat.natCast_add _ _
      have e2 : (((restE num den one n m).hi + (tE num den one m).hi : Nat) : Rat) = ((restE num den one n m).hi : Rat) + ((tE num den one m).hi : Rat) := Rat.natCast_add _ _
      show (((restE num den one n m).hi + (tE num den one m).hi : Nat) : Rat) ≤ (((restE num den one n m).lo + (tE num den one m).lo : Nat) : Rat) + _
      rw [e1, e2]; grind
    · grind
end
section
variable {x : Rat} {p I L H Z z lo hi : Nat} {s c : Rat}
theorem f1c (h : Enc x p I L H) (g : GL Z z s x) (h2 : ((2 ^ p : Nat) : Rat) * s ≤ (hi : Rat)) : z * L ≤ Z * hi := by
  have a := mul_le_l (natR_nn z) h.lo
  have b := mul_le_l (natR_nn (2 ^ p)) (g (I + 1))
  have d := mul_le_l (natR_nn Z) h2
  have : (z : Rat) * (L : Rat) ≤ (Z : Rat) * (hi : Rat) := by
    generalize ((2 ^ p : Nat) : Rat) = T at *
    have e1 : (z : Rat) * (T * eq_ x (I + 1)) = T * ((z : Rat) * eq_ x (I + 1)) := by grind
    have e2 : T * ((Z : Rat) * s) = (Z : Rat) * (T * s) := by grind
    rw [e1] at a
    rw [e2] at b
    exact Rat.le_trans a (Rat.le_trans b d)
  exact_mod_cast this
theorem f2c (h : Enc x p I L H) (g : GU Z z s x) (h1 : (lo : Rat) ≤ ((2 ^ p : Nat) : Rat) * s) : Z * lo ≤ z * H := by
  obtain ⟨M, g⟩ := g
  have a := mul_le_l (natR_nn z) (h.up M)
  have b := mul_le_l (natR_nn (2 ^ p)) g
  have d := mul_le_l (natR_nn Z) h1
  have : (Z : Rat) * (lo : Rat) ≤ (z : Rat) * (H : Rat) := by
    generalize ((2 ^ p : Nat) : Rat) = T at *
    have e1 : (z : Rat) * (T * eq_ x M) = T * ((z : Rat) * eq_ x M) := by grind
    have e2 : T * ((Z : Rat) * s) = (Z : Rat) * (T * s) := by grind
    rw [e1] at a
    rw [e2] at b
    exact Rat.le_trans d (Rat.le_trans b a)
  exact_mod_cast this
theorem f1t (h : Enc x p I L H) (hx : 0 ≤ x) (g : GU Z z c x) (h2 : ∀ M, ((2 ^ p : Nat) : Rat) * (eq_ x M - c) ≤ (hi : Rat)) : (Z - z) * L ≤ Z * hi := by
  by_cases hz : z ≤ Z
  · obtain ⟨w, hw⟩ := Nat.exists_eq_add_of_le hz
    rw [hw, Nat.add_sub_cancel_left, ← hw]
    obtain ⟨M0, g⟩ := g.up hx
    have g1 := g (max M0 (I + 1)) (by omega)
    have h3 := h2 (max M0 (I + 1))
    have h4 := eq_mono hx (show I + 1 ≤ max M0 (I + 1) by omega)
    have a := mul_le_l (natR_nn w) h.lo
    have b := mul_le_l (natR_nn w) (mul_le_l (natR_nn (2 ^ p)) h4)
    have d := mul_le_l (natR_nn Z) h3
    have g2 := mul_le_l (natR_nn (2 ^ p)) g1
    have cw : (Z : Rat) = (z : Rat) + (w : Rat) := by rw [hw, Rat.natCast_add]
    have : (w : Rat) * (L : Rat) ≤ (Z : Rat) * (hi : Rat) := by
      generalize ((2 ^ p : Nat) : Rat) = T at *
      generalize eq_ x (max M0 (I + 1)) = S at *
      have e1 : (Z : Rat) * (T * (S - c)) = (z : Rat) * T * S + (w : Rat) * (T * S) - T * ((Z : Rat) * c) := by rw [cw]; grind
      have e2 : T * ((z : Rat) * S) = (z : Rat) * T * S := by grind
      rw [e1] at d
      rw [e2] at g2
      grind
    exact_mod_cast this
  · rw [Nat.sub_eq_zero_of_le (by omega), Nat.zero_mul]; exact Nat.zero_le _
theorem f2t (h : Enc x p I L H) (hz : z ≤ Z) (g : GL Z z c x) {M : Nat} (h1 : (lo : Rat) ≤ ((2 ^ p : Nat) : Rat) * (eq_ x M - c)) : Z * lo ≤ (Z - z) * H := by
  obtain ⟨w, hw⟩ := Nat.exists_eq_add_of_le hz
  rw [hw, Nat.add_sub_cancel_left, ← hw]
  have g1 := g M
  have a := mul_le_l (natR_nn w) (h.up M)
  have d := mul_le_l (natR_nn Z) h1
  have g2 := mul_le_l (natR_nn (2 ^ p)) g1
  have cw : (Z : Rat) = (z : Rat) + (w : Rat) := by rw [hw, Rat.natCast_add]
  have : (Z : Rat) * (lo : Rat) ≤ (w : Rat) * (H : Rat) := by
    generalize ((2 ^ p : Nat) : Rat) = T at *
    generalize eq_ x M = S at *
    have e1 : (Z : Rat) * (T * (S - c)) = (z : Rat) * T * S + (w : Rat) * (T * S) - T * ((Z : Rat) * c) := by rw [cw]; grind
    have e2 : T * ((z : Rat) * S) = (z : Rat) * T * S := by grind
    rw [e1] at d
    rw [e2] at g2
    grind
  exact_mod_cast this
end
/-- what the sums at a stop say of a weight and of a tail -/
structure EncP (x : Rat) (p H lo hi : Nat) : Prop where
  le : lo ≤ hi
  wid : 2 ^ p * hi ≤ 2 ^ p * lo + 131072 * H
theorem enc_wt {num den n p : Nat} (hx : XOk num den) {I L H : Nat} (h : Enc (xR num den) p I L H) :
    EncP (xR num den) p H (tE num den (2 ^ p) n).lo (tE num den (2 ^ p) n).hi := by
  refine ⟨tE_lo_hi num den (2 ^ p) n, ?_⟩
  have a := tE_wid (num := num) hx.d0 (2 ^ p) n
  have b := h.up n
  have d := mul_le_l (natR_nn (2 ^ p)) a
  have o := eq_nn (xR_nn (num := num) hx.d0) n
  have nH := natR_nn H
  have : ((2 ^ p : Nat) : Rat) * ((tE num den (2 ^ p) n).hi : Rat) ≤ ((2 ^ p : Nat) : Rat) * ((tE num den (2 ^ p) n).lo : Rat) + 131072 * (H : Rat) := by
    generalize ((2 ^ p : Nat) : Rat) = T at *
    generalize ((tE num den (2 ^ p) n).hi : Rat) = u at *
    generalize ((tE num den (2 ^ p) n).lo : Rat) = v at *
    generalize eq_ (xR num den) n = S at *
    have e1 : T * (v + 2 * S) = T * v + 2 * (T * S) := by grind
    rw [e1] at d
    grind
  exact_mod_cast this
theorem enc_tail {num den n p : Nat} (hx : XOk num den) (hn : n ≤ 256) (h0 : 40 ≤ p) (h1 : p ≤ 16130) :
    EncP (xR num den) p (sAE num den (2 ^ p) (stopI num den (2 ^ p) n)).hi (sRE num den (2 ^ p) n (stopI num den (2 ^ p) n)).lo (sRE num den (2 ^ p) n (stopI num den (2 ^ p) n)).hi ∧
    ((sRE num den (2 ^ p) n (stopI num den (2 ^ p) n)).lo : Rat) ≤ ((2 ^ p : Nat) : Rat) * (eq_ (xR num den) (stopI num den (2 ^ p) n + 1) - eq_ (xR num den) (n + 1)) ∧
    ∀ M, ((2 ^ p : Nat) : Rat) * (eq_ (xR num den) M - eq_ (xR num den) (n + 1)) ≤ ((sRE num den (2 ^ p) n (stopI num den (2 ^ p) n)).hi : Rat) := by
  have h := enc_at hx hn h0 h1
  have hp := pOk h0 h1
  rw [shO_ok (by omega)] at hp
  obtain ⟨⟨hI0, hI1, hI2⟩, hI3, _⟩ := stop_spec (2 ^ p) hx hn
  rw [tP_eq hx hp _ (by omega)] at hI2
  generalize stopI num den (2 ^ p) n = I at *
  have hd0 := hx.d0
  have hxn := xR_nn (num := num) hd0
  obtain ⟨t, ht⟩ : ∃ t, I + 1 = n + 1 + t := ⟨I - n, by omega⟩
  obtain ⟨r1, r2⟩ := restE_enc (num := num) hd0 (2 ^ p) n t
  have r3 := restE_wid (num := num) hd0 (2 ^ p) n (I + 1)
  rw [← ht] at r1 r2
  have a4 := (tE_enc (num := num) hd0 (2 ^ p) I).2
  have e1 : (sRE num den (2 ^ p) n I).lo = (restE num den (2 ^ p) n (I + 1)).lo := rfl
  have cH : (((sRE num den (2 ^ p) n I).hi : Nat) : Rat) = ((restE num den (2 ^ p) n (I + 1)).hi : Rat) + ((tE num den (2 ^ p) I).hi : Rat) := Rat.natCast_add _ _
  have h2x : 2 * xR num den ≤ ((I + 1 : Nat) : Rat) := by
    have h5 := Nat.div_add_mod num den
    have h6 := Nat.mod_lt num hd0
    have h7 : 2 * num ≤ (I + 1) * den := by
      have : (2 * (num / den) + 2) * den ≤ (I + 1) * den := Nat.mul_le_mul_right _ (by omega)
      have e : (2 * (num / den) + 2) * den = 2 * (den * (num / den)) + 2 * den := by grind
      omega
    have h8 : 2 * (num : Rat) ≤ ((I + 1 : Nat) : Rat) * (den : Rat) := by exact_mod_cast h7
    have hd : (0 : Rat) < (den : Rat) := by exact_mod_cast hd0
    refine Rat.le_of_mul_le_mul_right (c := (den : Rat)) ?_ hd
    have e : 2 * xR num den * (den : Rat) = 2 * (num : Rat) := by rw [Rat.mul_assoc, xR_mul hd0]
    rw [e]; exact h8
  have hT := two_pos p
  refine ⟨⟨?_, ?_⟩, by rw [e1]; exact r1, fun M => ?_⟩
  · have a : ((restE num den (2 ^ p) n (I + 1)).lo : Rat) ≤ ((restE num den (2 ^ p) n (I + 1)).hi : Rat) := Rat.le_trans r1 r2
    have b : (restE num den (2 ^ p) n (I + 1)).lo ≤ (restE num den (2 ^ p) n (I + 1)).hi := by exact_mod_cast a
    show (restE num den (2 ^ p) n (I + 1)).lo ≤ (restE num den (2 ^ p) n (I + 1)).hi + (tE num den (2 ^ p) I).hi
    omega
  · have k1 := h.up (I + 1)
    have hTH : ((2 ^ p : Nat) : Rat) ≤ ((sAE num den (2 ^ p) I).hi : Rat) := by exact_mod_cast Nat.le_trans h.one h.le
    have ht1 : ((tE num den (2 ^ p) I).hi : Rat) ≤ 1 := by exact_mod_cast (show (tE num den (2 ^ p) I).hi ≤ 1 by omega)
    have cI : 2 * ((I + 1 : Nat) : Rat) + 1 ≤ 131072 := by exact_mod_cast (show 2 * (I + 1) + 1 ≤ 131072 by omega)
    have nI := natR_nn (I + 1)
    suffices hs : ((2 ^ p : Nat) : Rat) * ((sRE num den (2 ^ p) n I).hi : Rat) ≤ ((2 ^ p : Nat) : Rat) * ((sRE num den (2 ^ p) n I).lo : Rat) + 131072 * ((sAE num den (2 ^ p) I).hi : Rat) by
      exact_mod_cast hs
    have hwid : ((sRE num den (2 ^ p) n I).hi : Rat) ≤ ((sRE num den (2 ^ p) n I).lo : Rat) + 2 * ((I + 1 : Nat) : Rat) * eq_ (xR num den) (I + 1) + 1 := by rw [cH, e1]; grind
    generalize ((sRE num den (2 ^ p) n I).hi : Rat) = u at *
    generalize ((sRE num den (2 ^ p) n I).lo : Rat) = v at *
    generalize ((sAE num den (2 ^ p) I).hi : Rat) = H at *
    generalize ((2 ^ p : Nat) : Rat) = T at *
    generalize ((I + 1 : Nat) : Rat) = k at *
    generalize eq_ (xR num den) (I + 1) = S at *
    have g1 := mul_le_l (Rat.le_of_lt hT) hwid
    have g2 : 2 * k * (T * S) ≤ 2 * k * H := mul_le_l (by grind) k1
    have hH : 0 ≤ H := Rat.le_trans (Rat.le_of_lt hT) hTH
    have g3 := Rat.mul_le_mul_of_nonneg_right cI hH
    have e5 : T * (v + 2 * k * S + 1) = T * v + 2 * k * (T * S) + T := by grind
    have e6 : (2 * k + 1) * H = 2 * k * H + H := by grind
    rw [e5] at g1
    rw [e6] at g3
    grind
  · have h1 := mul_le_l (Rat.le_of_lt hT) (eq_bound2 hxn h2x M)
    rw [cH]
    grind
end Go.Proofs.Ytnmomigaedfdoaa
