/- Checked by the kernel: for no x = a / d up to 64, d up to 256, 65 digits of e^-x in a row that begin behind one of the first 64 are alike (but for those ahead of the first 1). No program in sight. The sums of expo's series and the exponential: how near they are. No program in sight. -/
import Derived.Test.YtnmomigaedfdoaaEnC
import Derived.Test.YtnmomigaedfdoaaExB
namespace Go.Proofs.Ytnmomigaedfdoaa
set_option maxRecDepth 100000

def mD : Nat := (2 ^ 64 - 1) <<< 31
def nD (d : Nat) : Nat := Nat.log2 (64 * d) + 1
def testD (d : Nat) : Bool := Nat.ble (2 ^ 160 * facD d 40) ((c0 160 d + 2) * serN d 40) && Nat.ble (c0 160 d + 1) (2 ^ 160) && goodL 320 mD (vS 320 160 (c0 160 d) (nD d)) (nD d)
def testTo : Nat → Bool
  | 0 => true
  | d + 1 => testD (d + 1) && testTo d
theorem test_all : testTo 256 = true := by decide +kernel
theorem testTo_mem : ∀ n, testTo n = true → ∀ d, 1 ≤ d → d ≤ n → testD d = true := by
  intro n
  induction n with
  | zero => intro _ d h1 h2; omega
  | succ n ih =>
    intro h d h1 h2
    rw [testTo, Bool.and_eq_true] at h
    rcases Nat.lt_or_ge n d with h3 | h3
    · obtain rfl : d = n + 1 := by omega
      exact h.1
    · exact ih h.2 d h1 h3
/-- the 65 digits behind the digit k are not alike, or there is no 1 up to there -/
def FarK (v k : Nat) : Prop := v < 2 ^ (95 - k) ∨ (2 ^ (95 - k) ≤ v % 2 ^ (160 - k) ∧ v % 2 ^ (160 - k) + 2 ^ (95 - k) ≤ 2 ^ (160 - k))
theorem mD_bit {r : Nat} (h0 : 31 ≤ r) (h1 : r < 95) : mD.testBit r = true := by
  rw [mD, Nat.testBit_shiftLeft, Nat.testBit_two_pow_sub_one, decide_eq_true h0, decide_eq_true (by omega)]
  rfl
theorem mD_lt : mD < 2 ^ 320 := by decide +kernel
theorem expo_far {d a : Nat} (hd : 1 ≤ d) (hd2 : d ≤ 256) (ha : 1 ≤ a) (ha2 : a ≤ 64 * d) :
    ∃ v, v ≤ 2 ^ 160 ∧ ApL 160 (v - 131072) ((a : Rat) * (1 / (d : Rat))) ∧ ApU 160 (v + 131072) ((a : Rat) * (1 / (d : Rat))) ∧ ∀ k, 1 ≤ k → k ≤ 64 → FarK v k := by
  have ht := testTo_mem 256 test_all d hd hd2
  rw [testD, Bool.and_eq_true, Bool.and_eq_true] at ht
  obtain ⟨⟨t1, t2⟩, t3⟩ := ht
  have t1 := Nat.le_of_ble_eq_true t1
  have t2 := Nat.le_of_ble_eq_true t2
  have hh : (0 : Rat) ≤ 1 / (d : Rat) := by
    have hd1 : (1 : Rat) ≤ (d : Rat) := by exact_mod_cast hd
    rw [Rat.div_def, Rat.one_mul]; exact Rat.le_of_lt (Rat.inv_pos.2 (by grind))
  have hL : ApL 160 (c0 160 d - 2) (1 / (d : Rat)) := (c0_lo hd).mono hh (by omega)
  have hU := c0_hi hd t1
  have hn : nD d ≤ 15 := by
    have : Nat.log2 (64 * d) < 15 := by
      refine (Nat.log2_lt (by omega)).2 ?_
      show 64 * d < 32768
      omega
    rw [nD]; omega
  have haq : a < 2 ^ nD d := Nat.lt_of_le_of_lt ha2 Nat.lt_log2_self
  have e4 : 2 ^ nD d ≤ 2 ^ 15 := Nat.pow_le_pow_right (by omega) hn
  obtain ⟨p1, p2⟩ := vS_ap (L := 320) (by omega) (by omega) hh t2 hL hU (nD d) (by omega) a haq
  have hv := (vS_spec (L := 320) (by omega) (by omega) t2 (nD d)).2 a haq
  have hy : 0 ≤ (a : Rat) * (1 / (d : Rat)) := Rat.mul_nonneg (natR_nn _) hh
  have e5 : 2 ^ 15 = 32768 := by decide
  refine ⟨lnq 320 (vS 320 160 (c0 160 d) (nD d)) a, hv, p1.mono hy (by omega), p2.mono hy (by omega), fun k h1 h2 => ?_⟩
  have hg := lane_good (r := 95 - k) mD_lt t3 ha haq (mD_bit (by omega) (by omega)) (by omega) (Nat.lt_of_le_of_lt hv (Nat.pow_lt_pow_right (by omega) (by omega)))
  rw [show 95 - k + 65 = 160 - k by omega] at hg
  exact hg
end Go.Proofs.Ytnmomigaedfdoaa
namespace Go.Proofs.Ytnmomigaedfdoaa
set_option maxRecDepth 100000

/-- the number as a fraction -/
def xR (num den : Nat) : Rat := (num : Rat) / (den : Rat)
section
variable {num den : Nat}
theorem xR_mul (h0 : 0 < den) : xR num den * (den : Rat) = (num : Rat) := by
  have hd : (den : Rat) ≠ 0 := by exact_mod_cast (Nat.ne_of_gt h0)
  exact Rat.div_mul_cancel hd
theorem xR_nn (h0 : 0 < den) : 0 ≤ xR num den := by
  rw [xR, Rat.div_def]
  exact Rat.mul_nonneg (natR_nn _) (Rat.le_of_lt (Rat.inv_pos.2 (by exact_mod_cast h0)))
/-- one term, rounded down -/
theorem down_le (h0 : 0 < den) (i t : Nat) : ((t * num / (den * (i + 1)) : Nat) : Rat) * ((i + 1 : Nat) : Rat) ≤ (t : Rat) * xR num den ∧ (t : Rat) * xR num den ≤ ((t * num / (den * (i + 1)) : Nat) : Rat) * ((i + 1 : Nat) : Rat) + ((i + 1 : Nat) : Rat) := by
  have hc : 0 < den * (i + 1) := Nat.mul_pos h0 (Nat.succ_pos i)
  have h1 := Nat.div_add_mod (t * num) (den * (i + 1))
  have h2 := Nat.mod_lt (t * num) hc
  have hd : (0 : Rat) < (den : Rat) := by exact_mod_cast h0
  have hx := xR_mul (num := num) h0
  generalize xR num den = x at *
  generalize hq : t * num / (den * (i + 1)) = q at *
  have a1 : q * (den * (i + 1)) ≤ t * num := by rw [Nat.mul_comm]; omega
  have a2 : t * num ≤ q * (den * (i + 1)) + den * (i + 1) := by rw [Nat.mul_comm q]; omega
  have b1 : (q : Rat) * ((den : Rat) * ((i + 1 : Nat) : Rat)) ≤ (t : Rat) * (num : Rat) := by exact_mod_cast a1
  have b2 : (t : Rat) * (num : Rat) ≤ (q : Rat) * ((den : Rat) * ((i + 1 : Nat) : Rat)) + (den : Rat) * ((i + 1 : Nat) : Rat) := by exact_mod_cast a2
  generalize ((i + 1 : Nat) : Rat) = k at *
  generalize (q : Rat) = Q at *
  generalize (t : Rat) = U at *
  constructor
  · refine Rat.le_of_mul_le_mul_right (c := (den : Rat)) ?_ hd
    have e1 : Q * k * (den : Rat) = Q * ((den : Rat) * k) := by grind
    have e2 : U * x * (den : Rat) = U * (num : Rat) := by rw [← hx]; grind
    rw [e1, e2]; exact b1
  · refine Rat.le_of_mul_le_mul_right (c := (den : Rat)) ?_ hd
    have e1 : (Q * k + k) * (den : Rat) = Q * ((den : Rat) * k) + (den : Rat) * k := by grind
    have e2 : U * x * (den : Rat) = U * (num : Rat) := by rw [← hx]; grind
    rw [e1, e2]; exact b2
/-- one term, rounded up -/
def upE (t num c : Nat) : Nat := if t * num % c = 0 then t * num / c else t * num / c + 1
theorem up_le (h0 : 0 < den) (i t : Nat) : (t : Rat) * xR num den ≤ (upE t num (den * (i + 1)) : Rat) * ((i + 1 : Nat) : Rat) ∧ (upE t num (den * (i + 1)) : Rat) * ((i + 1 : Nat) : Rat) ≤ (t : Rat) * xR num den + ((i + 1 : Nat) : Rat) := by
  obtain ⟨h1, h2⟩ := down_le (num := num) h0 i t
  rw [upE]
  split
  · rename_i hr
    refine ⟨?_, by have := natR_nn (i + 1); grind⟩
    have hd : (0 : Rat) < (den : Rat) := by exact_mod_cast h0
    have hx := xR_mul (num := num) h0
    have h3 := Nat.div_add_mod (t * num) (den * (i + 1))
    rw [hr, Nat.add_zero] at h3
    generalize t * num / (den * (i + 1)) = q at *
    have b1 : (t : Rat) * (num : Rat) = (den : Rat) * ((i + 1 : Nat) : Rat) * (q : Rat) := by exact_mod_cast h3.symm
    refine Rat.le_of_mul_le_mul_right (c := (den : Rat)) ?_ hd
    have e2 : (t : Rat) * xR num den * (den : Rat) = (t : Rat) * (num : Rat) := by rw [← hx]; grind
    rw [e2, b1]
    have e3 : (den : Rat) * ((i + 1 : Nat) : Rat) * (q : Rat) = (q : Rat) * ((i + 1 : Nat) : Rat) * (den : Rat) := by grind
    rw [e3]
    exact Rat.le_refl
  · have e : ((t * num / (den * (i + 1)) + 1 : Nat) : Rat) * ((i + 1 : Nat) : Rat) = ((t * num / (den * (i + 1)) : Nat) : Rat) * ((i + 1 : Nat) : Rat) + ((i + 1 : Nat) : Rat) := by
      rw [Rat.natCast_add]
      show (_ + 1) * _ = _
      grind
    rw [e]
    exact ⟨h2, by grind⟩
/-- the terms enclose the exact ones -/
theorem tE_enc (h0 : 0 < den) (one : Nat) : ∀ i, ((tE num den one i).lo : Rat) ≤ (one : Rat) * tq (xR num den) i ∧ (one : Rat) * tq (xR num den) i ≤ ((tE num den one i).hi : Rat) := by
  intro i
  have hx := xR_nn (num := num) h0
  induction i with
  | zero =>
    have e : (one : Rat) * tq (xR num den) 0 = (one : Rat) := by show (one : Rat) * 1 = _; grind
    rw [e]
    exact ⟨Rat.le_refl, Rat.le_refl⟩
  | succ i ih =>
    obtain ⟨i1, i2⟩ := ih
    have hk := nat_pos i
    have ht := tq_step (xR num den) i
    have g1 := (down_le (num := num) h0 i (tE num den one i).lo).1
    have g2 := (up_le (num := num) h0 i (tE num den one i).hi).1
    have e1 : (tE num den one (i + 1)).lo = (tE num den one i).lo * num / (den * (i + 1)) := rfl
    have e2 : (tE num den one (i + 1)).hi = upE (tE num den one i).hi num (den * (i + 1)) := rfl
    rw [e1, e2]
    generalize ((i + 1 : Nat) : Rat) = k at *
    generalize (((tE num den one i).lo * num / (den * (i + 1)) : Nat) : Rat) = A at *
    generalize ((upE (tE num den one i).hi num (den * (i + 1)) : Nat) : Rat) = B at *
    have m1 := Rat.mul_le_mul_of_nonneg_right i1 hx
    have m2 := Rat.mul_le_mul_of_nonneg_right i2 hx
    have e3 : (one : Rat) * tq (xR num den) (i + 1) * k = (one : Rat) * tq (xR num den) i * xR num den := by
      have : (one : Rat) * tq (xR num den) (i + 1) * k = (one : Rat) * (k * tq (xR num den) (i + 1)) := by grind
      rw [this, ht]; grind
    constructor
    · refine Rat.le_of_mul_le_mul_right (c := k) ?_ hk
      rw [e3]; exact Rat.le_trans g1 m1
    · refine Rat.le_of_mul_le_mul_right (c := k) ?_ hk
      rw [e3]; exact Rat.le_trans m2 g2
/-- x times a sum -/
theorem x_eq_le {x : Rat} (hx : 0 ≤ x) : ∀ i, x * eq_ x i ≤ ((i + 1 : Nat) : Rat) * (eq_ x (i + 1) - 1) := by
  have one_le : ∀ i, 1 ≤ eq_ x (i + 1) := fun i => by
    have h := eq_mono hx (show 1 ≤ i + 1 by omega)
    have e : eq_ x 1 = 1 := by show (0 : Rat) + 1 = 1; grind
    rw [e] at h; exact h
  intro i
  induction i with
  | zero =>
    have e : eq_ x 1 = 1 := by show (0 : Rat) + 1 = 1; grind
    have e0 : eq_ x 0 = 0 := rfl
    rw [e, e0]; grind
  | succ i ih =>
    have e : eq_ x (i + 1) = eq_ x i + tq x i := rfl
    have e2 : eq_ x (i + 1 + 1) = eq_ x (i + 1) + tq x (i + 1) := rfl
    have h1 := tq_step x i
    have h2 := one_le (i + 1)
    have c : ((i + 1 + 1 : Nat) : Rat) = ((i + 1 : Nat) : Rat) + 1 := by rw [Rat.natCast_add]; rfl
    rw [c]
    generalize ((i + 1 : Nat) : Rat) = k at *
    generalize eq_ x (i + 1 + 1) = S2 at *
    generalize eq_ x (i + 1) = S1 at *
    generalize eq_ x i = S0 at *
    generalize tq x (i + 1) = t1 at *
    generalize tq x i = t0 at *
    subst e
    subst e2
    have a : x * (S0 + t0) = x * S0 + k * t1 := by rw [h1]; grind
    rw [a]
    have b : (k + 1) * (S0 + t0 + t1 - 1) = k * (S0 + t0 - 1) + k * t1 + (S0 + t0 + t1 - 1) := by grind
    rw [b]
    grind
/-- how far the bounds of a term are apart -/
theorem tE_wid (h0 : 0 < den) (one : Nat) : ∀ i, ((tE num den one i).hi : Rat) ≤ ((tE num den one i).lo : Rat) + 2 * eq_ (xR num den) i := by
  intro i
  have hx := xR_nn (num := num) h0
  induction i with
  | zero => show (one : Rat) ≤ (one : Rat) + 2 * 0; grind
  | succ i ih =>
    have hk := nat_pos i
    have g1 := (down_le (num := num) h0 i (tE num den one i).lo).2
    have g2 := (up_le (num := num) h0 i (tE num den one i).hi).2
    have g3 := x_eq_le hx i
    have e1 : (tE num den one (i + 1)).lo = (tE num den one i).lo * num / (den * (i + 1)) := rfl
    have e2 : (tE num den one (i + 1)).hi = upE (tE num den one i).hi num (den * (i + 1)) := rfl
    rw [e1, e2]
    generalize ((i + 1 : Nat) : Rat) = k at *
    generalize (((tE num den one i).lo * num / (den * (i + 1)) : Nat) : Rat) = A at *
    generalize ((upE (tE num den one i).hi num (den * (i + 1)) : Nat) : Rat) = B at *
    generalize ((tE num den one i).lo : Rat) = C at *
    generalize ((tE num den one i).hi : Rat) = D at *
    generalize eq_ (xR num den) (i + 1) = S1 at *
    generalize eq_ (xR num den) i = S0 at *
    generalize xR num den = x at *
    have m2 := Rat.mul_le_mul_of_nonneg_right ih hx
    refine Rat.le_of_mul_le_mul_right (c := k) ?_ hk
    have e3 : (C + 2 * S0) * x = C * x + 2 * (x * S0) := by grind
    have e4 : (A + 2 * S1) * k = A * k + 2 * (k * (S1 - 1)) + 2 * k := by grind
    rw [e4]
    rw [e3] at m2
    grind
end
end Go.Proofs.Ytnmomigaedfdoaa
