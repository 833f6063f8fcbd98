/- Powers of an exponential in the lanes of one number, and how near they are. No program in sight. The powers e^(-a/d) for all a up to 64 d, and that no 65 digits behind the first 64 are alike. No program in sight. -/
import Derived.Test.YtnmomigaedfdoaaEnA
import Derived.Test.YtnmomigaedfdoaaExC
namespace Go.Proofs.Ytnmomigaedfdoaa
set_option maxRecDepth 100000

def cS (P c : Nat) : Nat → Nat
  | 0 => c
  | j + 1 => (cS P c j * cS P c j) >>> P
def vS (L P c : Nat) : Nat → Nat
  | 0 => 2 ^ P
  | j + 1 => vS L P c j + (((vS L P c j * cS P c j) >>> P) &&& rep L (2 ^ P - 1) j) <<< (L * 2 ^ j)
theorem shr_lt {x P : Nat} (h : x < 2 ^ P * 2 ^ P) : x >>> P < 2 ^ P := by
  rw [Nat.shiftRight_eq_div_pow]
  exact Nat.div_lt_of_lt_mul h
theorem cS_lt {P c : Nat} (hc : c < 2 ^ P) : ∀ j, cS P c j < 2 ^ P := by
  intro j
  induction j with
  | zero => exact hc
  | succ j ih => exact shr_lt (Nat.mul_lt_mul_of_lt_of_le ih (Nat.le_of_lt ih) (by omega))
/-- one product in all lanes -/
theorem prod_lane {L P V c j q : Nat} (hL : 2 * P ≤ L) (hP : 0 < P) (hc : c < 2 ^ P) (hv : ∀ i, i < 2 ^ j → lnq L V i ≤ 2 ^ P) (hq : q < 2 ^ j) :
    lnq L (((V * c) >>> P) &&& rep L (2 ^ P - 1) j) q = (lnq L V q * c) >>> P := by
  have h2P : 2 ^ P * 2 ^ P ≤ 2 ^ L := by rw [← Nat.pow_add]; exact Nat.pow_le_pow_right (by omega) (by omega)
  have hlt : ∀ i, i < 2 ^ j → lnq L V i * c < 2 ^ P * 2 ^ P := fun i hi => Nat.mul_lt_mul_of_le_of_lt (hv i hi) hc (Nat.pow_pos (by omega))
  have hm : 2 ^ P - 1 < 2 ^ L := Nat.lt_of_lt_of_le (Nat.sub_lt (Nat.pow_pos (by omega)) (by omega)) (Nat.pow_le_pow_right (by omega) (by omega))
  have e := mul_lane (L := L) (V := V) (c := c) (q := q) fun i hi => Nat.lt_of_lt_of_le (hlt i (by omega)) h2P
  refine Nat.eq_of_testBit_eq fun s => ?_
  rw [bit_lnq]
  by_cases hs : s < L
  · rw [decide_eq_true hs, Bool.true_and, Nat.testBit_and, rep_bit hm hq hs, Nat.testBit_two_pow_sub_one, Nat.testBit_shiftRight, Nat.testBit_shiftRight]
    by_cases hsp : s < P
    · rw [decide_eq_true hsp, Bool.and_true, ← e, bit_lnq, decide_eq_true (by omega), Bool.true_and]
      congr 1
      omega
    · rw [decide_eq_false hsp, Bool.and_false]
      symm
      refine Nat.testBit_lt_two_pow (Nat.lt_of_lt_of_le (hlt q hq) ?_)
      rw [← Nat.pow_add]; exact Nat.pow_le_pow_right (by omega) (by omega)
  · rw [decide_eq_false hs, Bool.false_and]
    symm
    rw [Nat.testBit_shiftRight]
    refine Nat.testBit_lt_two_pow (Nat.lt_of_lt_of_le (Nat.lt_of_lt_of_le (hlt q hq) h2P) ?_)
    exact Nat.pow_le_pow_right (by omega) (by omega)
theorem and_lt_rep {L m j X : Nat} (hm : m < 2 ^ L) : X &&& rep L m j < 2 ^ (L * 2 ^ j) := Nat.lt_of_le_of_lt Nat.and_le_right (rep_lt hm j)
theorem vS_spec {L P c : Nat} (hL : 2 * P ≤ L) (hP : 0 < P) (hc : c < 2 ^ P) : ∀ j, vS L P c j < 2 ^ (L * 2 ^ j) ∧ ∀ q, q < 2 ^ j → lnq L (vS L P c j) q ≤ 2 ^ P := by
  have hm : 2 ^ P - 1 < 2 ^ L := Nat.lt_of_lt_of_le (Nat.sub_lt (Nat.pow_pos (by omega)) (by omega)) (Nat.pow_le_pow_right (by omega) (by omega))
  intro j
  induction j with
  | zero =>
    have h1 : 2 ^ P < 2 ^ L := Nat.pow_lt_pow_right (by omega) (by omega)
    refine ⟨by show 2 ^ P < 2 ^ (L * 2 ^ 0); rw [Nat.pow_zero, Nat.mul_one]; exact h1, fun q hq => ?_⟩
    obtain rfl : q = 0 := by rw [Nat.pow_zero] at hq; omega
    show 2 ^ P / 2 ^ (L * 0) % 2 ^ L ≤ _
    exact Nat.le_trans (Nat.mod_le _ _) (Nat.div_le_self _ _)
  | succ j ih =>
    obtain ⟨ih1, ih2⟩ := ih
    refine ⟨?_, fun q hq => ?_⟩
    · have h := cat_lt ih1 (and_lt_rep (X := (vS L P c j * cS P c j) >>> P) hm (j := j))
      rw [← Nat.two_mul] at h
      rw [vS, Nat.pow_succ, Nat.mul_comm (2 ^ j) 2]
      exact h
    · rw [Nat.pow_succ] at hq
      rw [vS]
      rcases Nat.lt_or_ge q (2 ^ j) with h | h
      · rw [cat_low ih1 h]; exact ih2 q h
      · obtain ⟨d, rfl⟩ := Nat.exists_eq_add_of_le h
        rw [cat_high ih1, prod_lane hL hP (cS_lt hc j) ih2 (by omega)]
        exact Nat.le_of_lt (shr_lt (Nat.mul_lt_mul_of_le_of_lt (ih2 d (by omega)) (cS_lt hc j) (Nat.pow_pos (by omega))))
theorem vS_low {L P c j q : Nat} (hL : 2 * P ≤ L) (hP : 0 < P) (hc : c < 2 ^ P) (hq : q < 2 ^ j) : lnq L (vS L P c (j + 1)) q = lnq L (vS L P c j) q := by
  rw [vS, cat_low (vS_spec hL hP hc j).1 hq]
theorem vS_high {L P c j q : Nat} (hL : 2 * P ≤ L) (hP : 0 < P) (hc : c < 2 ^ P) (hq : q < 2 ^ j) : lnq L (vS L P c (j + 1)) (2 ^ j + q) = (lnq L (vS L P c j) q * cS P c j) >>> P := by
  rw [vS, cat_high (vS_spec hL hP hc j).1, prod_lane hL hP (cS_lt hc j) (vS_spec hL hP hc j).2 hq]

/-- z units of 2^-P are at most e^-y -/
def ApL (P z : Nat) (y : Rat) : Prop := ∀ m, (z : Rat) * eq_ y m ≤ ((2 ^ P : Nat) : Rat)
/-- z units of 2^-P are at least e^-y -/
def ApU (P z : Nat) (y : Rat) : Prop := ∃ m, ((2 ^ P : Nat) : Rat) ≤ (z : Rat) * eq_ y m
theorem two_pos (P : Nat) : (0 : Rat) < ((2 ^ P : Nat) : Rat) := by exact_mod_cast Nat.pow_pos (n := P) (show 0 < 2 by omega)
theorem natR_nn (n : Nat) : (0 : Rat) ≤ (n : Rat) := Rat.natCast_nonneg
theorem mul_le_mul_nn {a b c d : Rat} (ha : 0 ≤ a) (hd : 0 ≤ d) (h1 : a ≤ b) (h2 : c ≤ d) : a * c ≤ b * d :=
  Rat.le_trans (mul_le_l ha h2) (Rat.mul_le_mul_of_nonneg_right h1 hd)
theorem ApL.mul {P z z' w : Nat} {y y' : Rat} (hy : 0 ≤ y) (hy' : 0 ≤ y') (h : ApL P z y) (h' : ApL P z' y') (hw : w * 2 ^ P ≤ z * z') : ApL P w (y + y') := by
  intro m
  have h1 := eq_prod_le hy hy' m
  have h2 := h m
  have h3 := h' m
  have n1 := eq_nn hy m
  have n2 := eq_nn hy' m
  have hw' : (w : Rat) * ((2 ^ P : Nat) : Rat) ≤ (z : Rat) * (z' : Rat) := by exact_mod_cast hw
  have hT := two_pos P
  generalize ((2 ^ P : Nat) : Rat) = T at *
  have a1 : (w : Rat) * T * eq_ (y + y') m ≤ (z : Rat) * (z' : Rat) * (eq_ y m * eq_ y' m) := mul_le_mul_nn (Rat.mul_nonneg (natR_nn w) (Rat.le_of_lt hT)) (Rat.mul_nonneg n1 n2) hw' h1
  have a2 : (z : Rat) * eq_ y m * ((z' : Rat) * eq_ y' m) ≤ T * T := mul_le_mul_nn (Rat.mul_nonneg (natR_nn z) n1) (Rat.le_of_lt hT) h2 h3
  have a3 : (w : Rat) * eq_ (y + y') m * T ≤ T * T := by grind
  exact Rat.le_of_mul_le_mul_right a3 hT
theorem ApU.mul {P z z' w : Nat} {y y' : Rat} (hy : 0 ≤ y) (hy' : 0 ≤ y') (h : ApU P z y) (h' : ApU P z' y') (hw : z * z' ≤ w * 2 ^ P) : ApU P w (y + y') := by
  obtain ⟨m, h2⟩ := h
  obtain ⟨k, h3⟩ := h'
  refine ⟨m + k, ?_⟩
  have h1 := eq_prod_ge hy hy' m k
  have n1 := eq_nn hy m
  have n2 := eq_nn hy' k
  have hw' : (z : Rat) * (z' : Rat) ≤ (w : Rat) * ((2 ^ P : Nat) : Rat) := by exact_mod_cast hw
  have hT := two_pos P
  generalize ((2 ^ P : Nat) : Rat) = T at *
  have a2 : T * T ≤ (z : Rat) * eq_ y m * ((z' : Rat) * eq_ y' k) := mul_le_mul_nn (Rat.le_of_lt hT) (Rat.mul_nonneg (natR_nn z') n2) h2 h3
  have a1 : (z : Rat) * (z' : Rat) * (eq_ y m * eq_ y' k) ≤ (w : Rat) * T * eq_ (y + y') (m + k) := mul_le_mul_nn (Rat.mul_nonneg (natR_nn z) (natR_nn z')) (eq_nn (by grind) _) hw' h1
  have a3 : T * T ≤ (w : Rat) * eq_ (y + y') (m + k) * T := by grind
  exact Rat.le_of_mul_le_mul_right a3 hT
/-- the errors of a product -/
theorem err_lo {T v c E F : Nat} (hT : 0 < T) (hv : v ≤ T) (hc : c ≤ T) : (v * c / T - (E + F + 2)) * T ≤ (v - E) * (c - F) := by
  by_cases h : v * c / T ≤ E + F + 2
  · rw [Nat.sub_eq_zero_of_le h, Nat.zero_mul]; exact Nat.zero_le _
  · have h1 := Nat.div_mul_le_self (v * c) T
    obtain ⟨u, hu⟩ : ∃ u, v * c / T = E + F + 2 + u := ⟨v * c / T - (E + F + 2), by omega⟩
    rw [hu] at h1 ⊢
    rw [Nat.add_sub_cancel_left]
    have hvE : E < v := by
      apply Classical.byContradiction
      intro k
      have : v * c ≤ E * T := Nat.mul_le_mul (by omega) hc
      have e : (E + F + 2 + u) * T = E * T + F * T + 2 * T + u * T := by grind
      omega
    have hcF : F < c := by
      apply Classical.byContradiction
      intro k
      have : v * c ≤ T * F := Nat.mul_le_mul hv (by omega)
      have e : (E + F + 2 + u) * T = E * T + T * F + 2 * T + u * T := by grind
      omega
    obtain ⟨v', rfl⟩ := Nat.exists_eq_add_of_le (Nat.le_of_lt hvE)
    obtain ⟨c', rfl⟩ := Nat.exists_eq_add_of_le (Nat.le_of_lt hcF)
    rw [Nat.add_sub_cancel_left, Nat.add_sub_cancel_left]
    have e : (E + F + 2 + u) * T = E * T + F * T + 2 * T + u * T := by grind
    have e2 : (E + v') * (F + c') = E * (F + c') + F * v' + v' * c' := by grind
    have g1 : E * (F + c') ≤ E * T := Nat.mul_le_mul_left _ hc
    have g2 : F * v' ≤ F * T := Nat.mul_le_mul_left _ (by omega)
    omega
theorem err_hi {T v c E F : Nat} (hT : 0 < T) (hv : v ≤ T) (hc : c ≤ T) (hEF : E * F ≤ T) : (v + E) * (c + F) ≤ (v * c / T + (E + F + 2)) * T := by
  have h1 := Nat.div_add_mod (v * c) T
  have h2 := Nat.mod_lt (v * c) hT
  have e : (v + E) * (c + F) = v * c + F * v + E * c + E * F := by grind
  have e2 : (v * c / T + (E + F + 2)) * T = T * (v * c / T) + E * T + F * T + 2 * T := by grind
  have g1 : E * c ≤ E * T := Nat.mul_le_mul_left _ hc
  have g2 : F * v ≤ F * T := Nat.mul_le_mul_left _ hv
  omega
end Go.Proofs.Ytnmomigaedfdoaa
namespace Go.Proofs.Ytnmomigaedfdoaa
set_option maxRecDepth 100000

theorem ApL.mono {P z z' : Nat} {y : Rat} (hy : 0 ≤ y) (h : ApL P z' y) (hz : z ≤ z') : ApL P z y := fun m =>
  Rat.le_trans (Rat.mul_le_mul_of_nonneg_right (by exact_mod_cast hz) (eq_nn hy m)) (h m)
theorem ApU.mono {P z z' : Nat} {y : Rat} (hy : 0 ≤ y) (h : ApU P z y) (hz : z ≤ z') : ApU P z' y := by
  obtain ⟨m, hm⟩ := h
  exact ⟨m, Rat.le_trans hm (Rat.mul_le_mul_of_nonneg_right (by exact_mod_cast hz) (eq_nn hy m))⟩
theorem tq_zero : ∀ i, tq 0 (i + 1) = 0 := fun i => by rw [tq]; grind
theorem eq_zero : ∀ m, eq_ 0 m ≤ 1 := by
  intro m
  cases m with
  | zero => show (0 : Rat) ≤ 1; grind
  | succ m =>
    have : ∀ m, eq_ 0 (m + 1) = 1 := by
      intro m
      induction m with
      | zero => show (0 : Rat) + 1 = 1; grind
      | succ m ih =>
        have e : eq_ 0 (m + 1 + 1) = eq_ 0 (m + 1) + tq 0 (m + 1) := rfl
        rw [e, ih, tq_zero]; grind
    rw [this]; exact Rat.le_refl
theorem err_sq {P j : Nat} (h : 2 * j + 4 ≤ P) {E F : Nat} (hE : E ≤ 4 * 2 ^ j) (hF : F ≤ 4 * 2 ^ j) : E * F ≤ 2 ^ P := by
  refine Nat.le_trans (Nat.mul_le_mul hE hF) ?_
  have e : 4 * 2 ^ j * (4 * 2 ^ j) = 2 ^ (2 * j + 4) := by
    have : 2 ^ (2 * j + 4) = 2 ^ j * 2 ^ j * 16 := by rw [Nat.pow_add, Nat.two_mul, Nat.pow_add]
    rw [this]; grind
  rw [e]
  exact Nat.pow_le_pow_right (by omega) h
theorem cS_ap {P c : Nat} {h : Rat} (hh : 0 ≤ h) (hc : c < 2 ^ P) (hL : ApL P (c - 2) h) (hU : ApU P (c + 2) h) : ∀ j, 2 * j + 4 ≤ P →
    ApL P (cS P c j - (4 * 2 ^ j - 2)) (((2 ^ j : Nat) : Rat) * h) ∧ ApU P (cS P c j + (4 * 2 ^ j - 2)) (((2 ^ j : Nat) : Rat) * h) := by
  intro j
  induction j with
  | zero =>
    intro _
    rw [show (((2 ^ 0 : Nat) : Rat)) * h = h by rw [Nat.pow_zero]; grind]
    exact ⟨hL, hU⟩
  | succ j ih =>
    intro hj
    obtain ⟨i1, i2⟩ := ih (by omega)
    have hT := Nat.pow_pos (n := P) (show 0 < 2 by omega)
    have hlt := cS_lt hc j
    have e : (((2 ^ (j + 1) : Nat) : Rat)) * h = ((2 ^ j : Nat) : Rat) * h + ((2 ^ j : Nat) : Rat) * h := by
      rw [Nat.pow_succ, Rat.natCast_mul]; grind
    have hn : 0 ≤ ((2 ^ j : Nat) : Rat) * h := Rat.mul_nonneg (natR_nn _) hh
    have e2 : cS P c (j + 1) = cS P c j * cS P c j / 2 ^ P := by rw [cS, Nat.shiftRight_eq_div_pow]
    have e3 : 4 * 2 ^ (j + 1) - 2 = (4 * 2 ^ j - 2) + (4 * 2 ^ j - 2) + 2 := by have := Nat.pow_pos (n := j) (show 0 < 2 by omega); rw [Nat.pow_succ]; omega
    rw [e, e2, e3]
    exact ⟨i1.mul hn hn i1 (err_lo hT (Nat.le_of_lt hlt) (Nat.le_of_lt hlt)), i2.mul hn hn i2 (err_hi hT (Nat.le_of_lt hlt) (Nat.le_of_lt hlt) (err_sq (j := j) (by omega) (by omega) (by omega)))⟩
theorem vS_ap {L P c : Nat} {h : Rat} (hPL : 2 * P ≤ L) (hP : 0 < P) (hh : 0 ≤ h) (hc : c < 2 ^ P) (hL : ApL P (c - 2) h) (hU : ApU P (c + 2) h) : ∀ j, 2 * j + 4 ≤ P → ∀ q, q < 2 ^ j →
    ApL P (lnq L (vS L P c j) q - (4 * 2 ^ j - 4)) ((q : Rat) * h) ∧ ApU P (lnq L (vS L P c j) q + (4 * 2 ^ j - 4)) ((q : Rat) * h) := by
  intro j
  induction j with
  | zero =>
    intro _ q hq
    obtain rfl : q = 0 := by rw [Nat.pow_zero] at hq; omega
    have e1 : lnq L (vS L P c 0) 0 = 2 ^ P := by
      show 2 ^ P / 2 ^ (L * 0) % 2 ^ L = _
      rw [Nat.mul_zero, Nat.pow_zero, Nat.div_one, Nat.mod_eq_of_lt (Nat.pow_lt_pow_right (by omega) (by omega))]
    have e2 : ((0 : Nat) : Rat) * h = 0 := by grind
    rw [e1, e2, Nat.pow_zero]
    have hT := two_pos P
    refine ⟨fun m => ?_, 1, ?_⟩
    · have h1 := eq_zero m
      show ((2 ^ P : Nat) : Rat) * eq_ 0 m ≤ _
      have h2 := mul_le_l (Rat.le_of_lt hT) h1
      grind
    · show _ ≤ ((2 ^ P : Nat) : Rat) * ((0 : Rat) + 1)
      grind
  | succ j ih =>
    intro hj q hq
    have ih := ih (by omega)
    rw [Nat.pow_succ] at hq
    rcases Nat.lt_or_ge q (2 ^ j) with h1 | h1
    · obtain ⟨i1, i2⟩ := ih q h1
      have hn : 0 ≤ (q : Rat) * h := Rat.mul_nonneg (natR_nn _) hh
      rw [vS_low hPL hP hc h1, Nat.pow_succ]
      exact ⟨i1.mono hn (by omega), i2.mono hn (by omega)⟩
    · obtain ⟨d, rfl⟩ := Nat.exists_eq_add_of_le h1
      have hd : d < 2 ^ j := by omega
      obtain ⟨i1, i2⟩ := ih d hd
      obtain ⟨k1, k2⟩ := cS_ap hh hc hL hU j (by omega)
      have hT := Nat.pow_pos (n := P) (show 0 < 2 by omega)
      have hv := (vS_spec hPL hP hc j).2 d hd
      have hlt := cS_lt hc j
      have n1 : 0 ≤ (d : Rat) * h := Rat.mul_nonneg (natR_nn _) hh
      have n2 : 0 ≤ ((2 ^ j : Nat) : Rat) * h := Rat.mul_nonneg (natR_nn _) hh
      have e : ((2 ^ j + d : Nat) : Rat) * h = (d : Rat) * h + ((2 ^ j : Nat) : Rat) * h := by
        rw [Rat.natCast_add]; grind
      have e3 : 4 * 2 ^ (j + 1) - 4 = (4 * 2 ^ j - 4) + (4 * 2 ^ j - 2) + 2 := by have := Nat.pow_pos (n := j) (show 0 < 2 by omega); rw [Nat.pow_succ]; omega
      rw [vS_high hPL hP hc hd, Nat.shiftRight_eq_div_pow, e, e3]
      exact ⟨i1.mul n1 n2 k1 (err_lo hT hv (Nat.le_of_lt hlt)), i2.mul n1 n2 k2 (err_hi hT hv (Nat.le_of_lt hlt) (err_sq (j := j) (by omega) (by omega) (by omega)))⟩

/-- the sum of the first terms of e^(1/d) over facD -/
def serN (d : Nat) : Nat → Nat
  | 0 => 0
  | i + 1 => (serN d i + 1) * (d * (i + 1))
def facD (d : Nat) : Nat → Nat
  | 0 => 1
  | i + 1 => facD d i * (d * (i + 1))
theorem facD_pos {d : Nat} (hd : 0 < d) : ∀ i, 0 < facD d i := by
  intro i
  induction i with
  | zero => exact Nat.one_pos
  | succ i ih => exact Nat.mul_pos ih (Nat.mul_pos hd (Nat.succ_pos i))
theorem tq_fac {d : Nat} (hd : 0 < d) : ∀ i, tq (1 / (d : Rat)) i * (facD d i : Rat) = 1 := by
  have hd0 : (d : Rat) ≠ 0 := by exact_mod_cast (Nat.ne_of_gt hd)
  intro i
  induction i with
  | zero => show (1 : Rat) * ((1 : Nat) : Rat) = 1; grind
  | succ i ih =>
    have h1 := tq_step (1 / (d : Rat)) i
    have e : ((facD d (i + 1) : Nat) : Rat) = (facD d i : Rat) * ((d : Rat) * ((i + 1 : Nat) : Rat)) := by
      rw [facD, Rat.natCast_mul, Rat.natCast_mul]
    have h2 : (1 / (d : Rat)) * (d : Rat) = 1 := Rat.div_mul_cancel hd0
    rw [e]
    have : tq (1 / (d : Rat)) (i + 1) * ((facD d i : Rat) * ((d : Rat) * ((i + 1 : Nat) : Rat))) = (((i + 1 : Nat) : Rat) * tq (1 / (d : Rat)) (i + 1)) * (facD d i : Rat) * (d : Rat) := by grind
    rw [this, h1]
    grind
theorem eq_ser {d : Nat} (hd : 0 < d) : ∀ i, eq_ (1 / (d : Rat)) i * (facD d i : Rat) = (serN d i : Rat) := by
  intro i
  induction i with
  | zero => show (0 : Rat) * _ = ((0 : Nat) : Rat); grind
  | succ i ih =>
    have h1 := tq_fac hd i
    have e : eq_ (1 / (d : Rat)) (i + 1) = eq_ (1 / (d : Rat)) i + tq (1 / (d : Rat)) i := rfl
    have e1 : ((facD d (i + 1) : Nat) : Rat) = (facD d i : Rat) * ((d * (i + 1) : Nat) : Rat) := by rw [facD, Rat.natCast_mul]
    have e2 : ((serN d (i + 1) : Nat) : Rat) = ((serN d i : Rat) + 1) * ((d * (i + 1) : Nat) : Rat) := by rw [serN, Rat.natCast_mul, Rat.natCast_add]; rfl
    have key : ∀ u v g k : Rat, v * g = 1 → (u + v) * (g * k) = (u * g + 1) * k := fun u v g k hh => by
      have e3 : (u + v) * (g * k) = (u * g + v * g) * k := by grind
      rw [e3, hh]
    rw [e, e1, e2, ← ih]
    exact key _ _ _ _ h1
/-- the terms of e^h fall at least by half -/
theorem tq_half {h : Rat} (h0 : 0 ≤ h) (h1 : h ≤ 1) (i : Nat) : 2 * tq h (i + 2) ≤ tq h (i + 1) := by
  have e := tq_step h (i + 1)
  have n1 := tq_nn h0 (i + 1)
  have n2 := tq_nn h0 (i + 2)
  have c : (2 : Rat) ≤ ((i + 1 + 1 : Nat) : Rat) := by exact_mod_cast (show 2 ≤ i + 1 + 1 by omega)
  have a1 : 2 * tq h (i + 2) ≤ ((i + 1 + 1 : Nat) : Rat) * tq h (i + 2) := Rat.mul_le_mul_of_nonneg_right c n2
  have a2 : h * tq h (i + 1) ≤ 1 * tq h (i + 1) := Rat.mul_le_mul_of_nonneg_right h1 n1
  grind
theorem eq_tail {h : Rat} (h0 : 0 ≤ h) (h1 : h ≤ 1) (m : Nat) : ∀ k, eq_ h (m + 1 + k) + 2 * tq h (m + 1 + k) ≤ eq_ h (m + 1) + 2 * tq h (m + 1) := by
  intro k
  induction k with
  | zero => exact Rat.le_refl
  | succ k ih =>
    have e : eq_ h (m + 1 + (k + 1)) = eq_ h (m + 1 + k) + tq h (m + 1 + k) := rfl
    have h2 := tq_half h0 h1 (m + k)
    have e2 : m + k + 1 = m + 1 + k := by omega
    have e3 : m + k + 2 = m + 1 + (k + 1) := by omega
    rw [e2, e3] at h2
    rw [e]
    grind
theorem eq_bound {h : Rat} (h0 : 0 ≤ h) (h1 : h ≤ 1) (m k : Nat) : eq_ h k ≤ eq_ h (m + 1) + 2 * tq h (m + 1) := by
  rcases Nat.le_total k (m + 1) with h2 | h2
  · have := eq_mono h0 h2
    have := tq_nn h0 (m + 1)
    grind
  · obtain ⟨d, rfl⟩ := Nat.exists_eq_add_of_le h2
    have := eq_tail h0 h1 m d
    have := tq_nn h0 (m + 1 + d)
    grind
/-- e^(-1/d) in units of 2^-P -/
def c0 (P d : Nat) : Nat := 2 ^ P * facD d 40 / (serN d 40 + 2)
theorem c0_lo {P d : Nat} (hd : 0 < d) : ApL P (c0 P d) (1 / (d : Rat)) := by
  intro m
  have hd1 : (1 : Rat) ≤ (d : Rat) := by exact_mod_cast hd
  have hh : (1 / (d : Rat)) * (d : Rat) = 1 := Rat.div_mul_cancel (by grind)
  have h0 : 0 ≤ 1 / (d : Rat) := by rw [Rat.div_def, Rat.one_mul]; exact Rat.le_of_lt (Rat.inv_pos.2 (by grind))
  have h1 : 1 / (d : Rat) ≤ 1 := by
    have := mul_le_l h0 hd1
    grind
  have h2 := eq_bound h0 h1 39 m
  have h3 := eq_ser hd 40
  have h4 := tq_fac hd 40
  have h5 : c0 P d * (serN d 40 + 2) ≤ 2 ^ P * facD d 40 := Nat.div_mul_le_self _ _
  have h6 : (c0 P d : Rat) * ((serN d 40 : Rat) + 2) ≤ ((2 ^ P : Nat) : Rat) * (facD d 40 : Rat) := by exact_mod_cast h5
  have hf : (0 : Rat) < (facD d 40 : Rat) := by exact_mod_cast facD_pos hd 40
  generalize (facD d 40 : Rat) = f at *
  generalize (serN d 40 : Rat) = s at *
  have hn : (0 : Rat) ≤ (c0 P d : Rat) := natR_nn _
  generalize (c0 P d : Rat) = c at *
  generalize ((2 ^ P : Nat) : Rat) = T at *
  have h7 := Rat.mul_le_mul_of_nonneg_right (mul_le_l hn h2) (Rat.le_of_lt hf)
  have e1 : c * (eq_ (1 / (d : Rat)) (39 + 1) + 2 * tq (1 / (d : Rat)) (39 + 1)) * f = c * (eq_ (1 / (d : Rat)) 40 * f + 2 * (tq (1 / (d : Rat)) 40 * f)) := by
    show c * (eq_ (1 / (d : Rat)) 40 + 2 * tq (1 / (d : Rat)) 40) * f = _
    generalize eq_ (1 / (d : Rat)) 40 = u
    generalize tq (1 / (d : Rat)) 40 = v
    grind
  rw [e1, h3, h4] at h7
  refine Rat.le_of_mul_le_mul_right (Rat.le_trans h7 ?_) hf
  rw [Rat.mul_one]
  exact h6
theorem c0_hi {P d : Nat} (hd : 0 < d) (h : 2 ^ P * facD d 40 ≤ (c0 P d + 2) * serN d 40) : ApU P (c0 P d + 2) (1 / (d : Rat)) := by
  refine ⟨40, ?_⟩
  have h3 := eq_ser hd 40
  have h6 : ((2 ^ P : Nat) : Rat) * (facD d 40 : Rat) ≤ ((c0 P d + 2 : Nat) : Rat) * (serN d 40 : Rat) := by exact_mod_cast h
  have hf : (0 : Rat) < (facD d 40 : Rat) := by exact_mod_cast facD_pos hd 40
  rw [← h3] at h6
  generalize (facD d 40 : Rat) = f at *
  have h8 : ((2 ^ P : Nat) : Rat) * f ≤ ((c0 P d + 2 : Nat) : Rat) * eq_ (1 / (d : Rat)) 40 * f := by grind
  exact Rat.le_of_mul_le_mul_right h8 hf
end Go.Proofs.Ytnmomigaedfdoaa
