/- Powers of an exponential in the lanes of one number, and how near they are. No program in sight. -/
import Derived.Test.YtnmomigaedfdoaaEnA
import Derived.Test.YtnmomigaedfdoaaExC
namespace Go.Proofs.Ytnmomigaedfdoaa
set_option maxRecDepth 100000

def cS (P c : Nat) : Nat → Nat
  | 0 => c
  | j + 1 => (cS P c j * cS P c j) >>> P
def vS (L P c : Nat) : Nat → Nat
  | 0 => 2 ^ P
  | j + 1 => vS L P c j + (((vS L P c j * cS P c j) >>> P) &&& rep L (2 ^ P - 1) j) <<< (L * 2 ^ j)
theorem shr_lt {x P : Nat} (h : x < 2 ^ P * 2 ^ P) : x >>> P < 2 ^ P := by
  rw [Nat.shiftRight_eq_div_pow]
  exact Nat.div_lt_of_lt_mul h
theorem cS_lt {P c : Nat} (hc : c < 2 ^ P) : ∀ j, cS P c j < 2 ^ P := by
  intro j
  induction j with
  | zero => exact hc
  | succ j ih => exact shr_lt (Nat.mul_lt_mul_of_lt_of_le ih (Nat.le_of_lt ih) (by omega))
/-- one product in all lanes -/
theorem prod_lane {L P V c j q : Nat} (hL : 2 * P ≤ L) (hP : 0 < P) (hc : c < 2 ^ P) (hv : ∀ i, i < 2 ^ j → lnq L V i ≤ 2 ^ P) (hq : q < 2 ^ j) :
    lnq L (((V * c) >>> P) &&& rep L (2 ^ P - 1) j) q = (lnq L V q * c) >>> P := by
  have h2P : 2 ^ P * 2 ^ P ≤ 2 ^ L := by rw [← Nat.pow_add]; exact Nat.pow_le_pow_right (by omega) (by omega)
  have hlt : ∀ i, i < 2 ^ j → lnq L V i * c < 2 ^ P * 2 ^ P := fun i hi => Nat.mul_lt_mul_of_le_of_lt (hv i hi) hc (Nat.pow_pos (by omega))
  have hm : 2 ^ P - 1 < 2 ^ L := Nat.lt_of_lt_of_le (Nat.sub_lt (Nat.pow_pos (by omega)) (by omega)) (Nat.pow_le_pow_right (by omega) (by omega))
  have e := mul_lane (L := L) (V := V) (c := c) (q := q) fun i hi => Nat.lt_of_lt_of_le (hlt i (by omega)) h2P
  refine Nat.eq_of_testBit_eq fun s => ?_
  rw [bit_lnq]
  by_cases hs : s < L
  · rw [decide_eq_true hs, Bool.true_and, Nat.testBit_and, rep_bit hm hq hs, Nat.testBit_two_pow_sub_one, Nat.testBit_shiftRight, Nat.testBit_shiftRight]
    by_cases hsp : s < P
    · rw [decide_eq_true hsp, Bool.and_true, ← e, bit_lnq, decide_eq_true (by omega), Bool.true_and]
      congr 1
      omega
    · rw [decide_eq_false hsp, Bool.and_false]
      symm
      refine Nat.testBit_lt_two_pow (Nat.lt_of_lt_of_le (hlt q hq) ?_)
      rw [← Nat.pow_add]; exact Nat.pow_le_pow_right (by omega) (by omega)
  · rw [decide_eq_false hs, Bool.false_and]
    symm
    rw [Nat.testBit_shiftRight]
    refine Nat.testBit_lt_two_pow (Nat.lt_of_lt_of_le (Nat.lt_of_lt_of_le (hlt q hq) h2P) ?_)
    exact Nat.pow_le_pow_right (by omega) (by omega)
theorem and_lt_rep {L m j X : Nat} (hm : m < 2 ^ L) : X &&& rep L m j < 2 ^ (L * 2 ^ j) := Nat.lt_of_le_of_lt Nat.and_le_right (rep_lt hm j)
theorem vS_spec {L P c : Nat} (hL : 2 * P ≤ L) (hP : 0 < P) (hc : c < 2 ^ P) : ∀ j, vS L P c j < 2 ^ (L * 2 ^ j) ∧ ∀ q, q < 2 ^ j → lnq L (vS L P c j) q ≤ 2 ^ P := by
  have hm : 2 ^ P - 1 < 2 ^ L := Nat.lt_of_lt_of_le (Nat.sub_lt (Nat.pow_pos (by omega)) (by omega)) (Nat.pow_le_pow_right (by omega) (by omega))
  intro j
  induction j with
  | zero =>
    have h1 : 2 ^ P < 2 ^ L := Nat.pow_lt_pow_right (by omega) (by omega)
    refine ⟨by show 2 ^ P < 2 ^ (L * 2 ^ 0); rw [Nat.pow_zero, Nat.mul_one]; exact h1, fun q hq => ?_⟩
    obtain rfl : q = 0 := by rw [Nat.pow_zero] at hq; omega
    show 2 ^ P / 2 ^ (L * 0) % 2 ^ L ≤ _
    exact Nat.le_trans (Nat.mod_le _ _) (Nat.div_le_self _ _)
  | succ j ih =>
    obtain ⟨ih1, ih2⟩ := ih
    refine ⟨?_, fun q hq => ?_⟩
    · have h := cat_lt ih1 (and_lt_rep (X := (vS L P c j * cS P c j) >>> P) hm (j := j))
      rw [← Nat.two_mul] at h
      rw [vS, Nat.pow_succ, Nat.mul_comm (2 ^ j) 2]
      exact h
    · rw [Nat.pow_succ] at hq
      rw [vS]
      rcases Nat.lt_or_ge q (2 ^ j) with h | h
      · rw [cat_low ih1 h]; exact ih2 q h
      · obtain ⟨d, rfl⟩ := Nat.exists_eq_add_of_le h
        rw [cat_high ih1, prod_lane hL hP (cS_lt hc j) ih2 (by omega)]
        exact Nat.le_of_lt (shr_lt (Nat.mul_lt_mul_of_le_of_lt (ih2 d (by omega)) (cS_lt hc j) (Nat.pow_pos (by omega))))
theorem vS_low {L P c j q : Nat} (hL : 2 * P ≤ L) (hP : 0 < P) (hc : c < 2 ^ P) (hq : q < 2 ^ j) : lnq L (vS L P c (j + 1)) q = lnq L (vS L P c j) q := by
  rw [vS, cat_low (vS_spec hL hP hc j).1 hq]
theorem vS_high {L P c j q : Nat} (hL : 2 * P ≤ L) (hP : 0 < P) (hc : c < 2 ^ P) (hq : q < 2 ^ j) : lnq L (vS L P c (j + 1)) (2 ^ j + q) = (lnq L (vS L P c j) q * cS P c j) >>> P := by
  rw [vS, cat_high (vS_spec hL hP hc j).1, prod_lane hL hP (cS_lt hc j) (vS_spec hL hP hc j).2 hq]

/-- z units of 2^-P are at most e^-y -/
def ApL (P z : Nat) (y : Rat) : Prop := ∀ m, (z : Rat) * eq_ y m ≤ ((2 ^ P : Nat) : Rat)
/-- z units of 2^-P are at least e^-y -/
def ApU (P z : Nat) (y : Rat) : Prop := ∃ m, ((2 ^ P : Nat) : Rat) ≤ (z : Rat) * eq_ y m
theorem two_pos (P : Nat) : (0 : Rat) < ((2 ^ P : Nat) : Rat) := by exact_mod_cast Nat.pow_pos (n := P) (show 0 < 2 by omega)
theorem natR_nn (n : Nat) : (0 : Rat) ≤ (n : Rat) := Rat.natCast_nonneg
theorem mul_le_mul_nn {a b c d : Rat} (ha : 0 ≤ a) (hd : 0 ≤ d) (h1 : a ≤ b) (h2 : c ≤ d) : a * c ≤ b * d :=
  Rat.le_trans (mul_le_l ha h2) (Rat.mul_le_mul_of_nonneg_right h1 hd)
theorem ApL.mul {P z z' w : Nat} {y y' : Rat} (hy : 0 ≤ y) (hy' : 0 ≤ y') (h : ApL P z y) (h' : ApL P z' y') (hw : w * 2 ^ P ≤ z * z') : ApL P w (y + y') := by
  intro m
  have h1 := eq_prod_le hy hy' m
  have h2 := h m
  have h3 := h' m
  have n1 := eq_nn hy m
  have n2 := eq_nn hy' m
  have hw' : (w : Rat) * ((2 ^ P : Nat) : Rat) ≤ (z : Rat) * (z' : Rat) := by exact_mod_cast hw
  have hT := two_pos P
  generalize ((2 ^ P : Nat) : Rat) = T at *
  have a1 : (w : Rat) * T * eq_ (y + y') m ≤ (z : Rat) * (z' : Rat) * (eq_ y m * eq_ y' m) := mul_le_mul_nn (Rat.mul_nonneg (natR_nn w) (Rat.le_of_lt hT)) (Rat.mul_nonneg n1 n2) hw' h1
  have a2 : (z : Rat) * eq_ y m * ((z' : Rat) * eq_ y' m) ≤ T * T := mul_le_mul_nn (Rat.mul_nonneg (natR_nn z) n1) (Rat.le_of_lt hT) h2 h3
  have a3 : (w : Rat) * eq_ (y + y') m * T ≤ T * T := by grind
  exact Rat.le_of_mul_le_mul_right a3 hT
theorem ApU.mul {P z z' w : Nat} {y y' : Rat} (hy : 0 ≤ y) (hy' : 0 ≤ y') (h : ApU P z y) (h' : ApU P z' y') (hw : z * z' ≤ w * 2 ^ P) : ApU P w (y + y') := by
  obtain ⟨m, h2⟩ := h
  obtain ⟨k, h3⟩ := h'
  refine ⟨m + k, ?_⟩
  have h1 := eq_prod_ge hy hy' m k
  have n1 := eq_nn hy m
  have n2 := eq_nn hy' k
  have hw' : (z : Rat) * (z' : Rat) ≤ (w : Rat) * ((2 ^ P : Nat) : Rat) := by exact_mod_cast hw
  have hT := two_pos P
  generalize ((2 ^ P : Nat) : Rat) = T at *
  have a2 : T * T ≤ (z : Rat) * eq_ y m * ((z' : Rat) * eq_ y' k) := mul_le_mul_nn (Rat.le_of_lt hT) (Rat.mul_nonneg (natR_nn z') n2) h2 h3
  have a1 : (z : Rat) * (z' : Rat) * (eq_ y m * eq_ y' k) ≤ (w : Rat) * T * eq_ (y + y') (m + k) := mul_le_mul_nn (Rat.mul_nonneg (natR_nn z) (natR_nn z')) (eq_nn (by grind) _) hw' h1
  have a3 : T * T ≤ (w : Rat) * eq_ (y + y') (m + k) * T := by grind
  exact Rat.le_of_mul_le_mul_right a3 hT
/-- the errors of a product -/
theorem err_lo {T v c E F : Nat} (hT : 0 < T) (hv : v ≤ T) (hc : c ≤ T) : (v * c / T - (E + F + 2)) * T ≤ (v - E) * (c - F) := by
  by_cases h : v * c / T ≤ E + F + 2
  · rw [Nat.sub_eq_zero_of_le h, Nat.zero_mul]; exact Nat.zero_le _
  · have h1 := Nat.div_mul_le_self (v * c) T
    obtain ⟨u, hu⟩ : ∃ u, v * c / T = E + F + 2 + u := ⟨v * c / T - (E + F + 2), by omega⟩
    rw [hu] at h1 ⊢
    rw [Nat.add_sub_cancel_left]
    have hvE : E < v := by
      apply Classical.byContradiction
      intro k
      have : v * c ≤ E * T := Nat.mul_le_mul (by omega) hc
      have e : (E + F + 2 + u) * T = E * T + F * T + 2 * T + u * T := by grind
      omega
    have hcF : F < c := by
      apply Classical.byContradiction
      intro k
      have : v * c ≤ T * F := Nat.mul_le_mul hv (by omega)
      have e : (E + F + 2 + u) * T = E * T + T * F + 2 * T + u * T := by grind
      omega
    obtain ⟨v', rfl⟩ := Nat.exists_eq_add_of_le (Nat.le_of_lt hvE)
    obtain ⟨c', rfl⟩ := Nat.exists_eq_add_of_le (Nat.le_of_lt hcF)
    rw [Nat.add_sub_cancel_left, Nat.add_sub_cancel_left]
    have e : (E + F + 2 + u) * T = E * T + F * T + 2 * T + u * T := by grind
    have e2 : (E + v') * (F + c') = E * (F + c') + F * v' + v' * c' := by grind
    have g1 : E * (F + c') ≤ E * T := Nat.mul_le_mul_left _ hc
    have g2 : F * v' ≤ F * T := Nat.mul_le_mul_left _ (by omega)
    omega
theorem err_hi {T v c E F : Nat} (hT : 0 < T) (hv : v ≤ T) (hc : c ≤ T) (hEF : E * F ≤ T) : (v + E) * (c + F) ≤ (v * c / T + (E + F + 2)) * T := by
  have h1 := Nat.div_add_mod (v * c) T
  have h2 := Nat.mod_lt (v * c) hT
  have e : (v + E) * (c + F) = v * c + F * v + E * c + E * F := by grind
  have e2 : (v * c / T + (E + F + 2)) * T = T * (v * c / T) + E * T + F * T + 2 * T := by grind
  have g1 : E * c ≤ E * T := Nat.mul_le_mul_left _ hc
  have g2 : F * v ≤ F * T := Nat.mul_le_mul_left _ hv
  omega
end Go.Proofs.Ytnmomigaedfdoaa
