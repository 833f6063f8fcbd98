/- The sums of expo's series and the exponential: how near they are. No program in sight. -/
import Derived.Test.YtnmomigaedfdoaaEnD
import Derived.Test.YtnmomigaedfdoaaExB
namespace Go.Proofs.Ytnmomigaedfdoaa
set_option maxRecDepth 100000

/-- the number as a fraction -/
def xR (num den : Nat) : Rat := (num : Rat) / (den : Rat)
section
variable {num den : Nat}
theorem xR_mul (h0 : 0 < den) : xR num den * (den : Rat) = (num : Rat) := by
  have hd : (den : Rat) ≠ 0 := by exact_mod_cast (Nat.ne_of_gt h0)
  exact Rat.div_mul_cancel hd
theorem xR_nn (h0 : 0 < den) : 0 ≤ xR num den := by
  rw [xR, Rat.div_def]
  exact Rat.mul_nonneg (natR_nn _) (Rat.le_of_lt (Rat.inv_pos.2 (by exact_mod_cast h0)))
/-- one term, rounded down -/
theorem down_le (h0 : 0 < den) (i t : Nat) : ((t * num / (den * (i + 1)) : Nat) : Rat) * ((i + 1 : Nat) : Rat) ≤ (t : Rat) * xR num den ∧ (t : Rat) * xR num den ≤ ((t * num / (den * (i + 1)) : Nat) : Rat) * ((i + 1 : Nat) : Rat) + ((i + 1 : Nat) : Rat) := by
  have hc : 0 < den * (i + 1) := Nat.mul_pos h0 (Nat.succ_pos i)
  have h1 := Nat.div_add_mod (t * num) (den * (i + 1))
  have h2 := Nat.mod_lt (t * num) hc
  have hd : (0 : Rat) < (den : Rat) := by exact_mod_cast h0
  have hx := xR_mul (num := num) h0
  generalize xR num den = x at *
  generalize hq : t * num / (den * (i + 1)) = q at *
  have a1 : q * (den * (i + 1)) ≤ t * num := by rw [Nat.mul_comm]; omega
  have a2 : t * num ≤ q * (den * (i + 1)) + den * (i + 1) := by rw [Nat.mul_comm q]; omega
  have b1 : (q : Rat) * ((den : Rat) * ((i + 1 : Nat) : Rat)) ≤ (t : Rat) * (num : Rat) := by exact_mod_cast a1
  have b2 : (t : Rat) * (num : Rat) ≤ (q : Rat) * ((den : Rat) * ((i + 1 : Nat) : Rat)) + (den : Rat) * ((i + 1 : Nat) : Rat) := by exact_mod_cast a2
  generalize ((i + 1 : Nat) : Rat) = k at *
  generalize (q : Rat) = Q at *
  generalize (t : Rat) = U at *
  constructor
  · refine Rat.le_of_mul_le_mul_right (c := (den : Rat)) ?_ hd
    have e1 : Q * k * (den : Rat) = Q * ((den : Rat) * k) := by grind
    have e2 : U * x * (den : Rat) = U * (num : Rat) := by rw [← hx]; grind
    rw [e1, e2]; exact b1
  · refine Rat.le_of_mul_le_mul_right (c := (den : Rat)) ?_ hd
    have e1 : (Q * k + k) * (den : Rat) = Q * ((den : Rat) * k) + (den : Rat) * k := by grind
    have e2 : U * x * (den : Rat) = U * (num : Rat) := by rw [← hx]; grind
    rw [e1, e2]; exact b2
/-- one term, rounded up -/
def upE (t num c : Nat) : Nat := if t * num % c = 0 then t * num / c else t * num / c + 1
theorem up_le (h0 : 0 < den) (i t : Nat) : (t : Rat) * xR num den ≤ (upE t num (den * (i + 1)) : Rat) * ((i + 1 : Nat) : Rat) ∧ (upE t num (den * (i + 1)) : Rat) * ((i + 1 : Nat) : Rat) ≤ (t : Rat) * xR num den + ((i + 1 : Nat) : Rat) := by
  obtain ⟨h1, h2⟩ := down_le (num := num) h0 i t
  rw [upE]
  split
  · rename_i hr
    refine ⟨?_, by have := natR_nn (i + 1); grind⟩
    have hd : (0 : Rat) < (den : Rat) := by exact_mod_cast h0
    have hx := xR_mul (num := num) h0
    have h3 := Nat.div_add_mod (t * num) (den * (i + 1))
    rw [hr, Nat.add_zero] at h3
    generalize t * num / (den * (i + 1)) = q at *
    have b1 : (t : Rat) * (num : Rat) = (den : Rat) * ((i + 1 : Nat) : Rat) * (q : Rat) := by exact_mod_cast h3.symm
    refine Rat.le_of_mul_le_mul_right (c := (den : Rat)) ?_ hd
    have e2 : (t : Rat) * xR num den * (den : Rat) = (t : Rat) * (num : Rat) := by rw [← hx]; grind
    rw [e2, b1]
    have e3 : (den : Rat) * ((i + 1 : Nat) : Rat) * (q : Rat) = (q : Rat) * ((i + 1 : Nat) : Rat) * (den : Rat) := by grind
    rw [e3]
    exact Rat.le_refl
  · have e : ((t * num / (den * (i + 1)) + 1 : Nat) : Rat) * ((i + 1 : Nat) : Rat) = ((t * num / (den * (i + 1)) : Nat) : Rat) * ((i + 1 : Nat) : Rat) + ((i + 1 : Nat) : Rat) := by
      rw [Rat.natCast_add]
      show (_ + 1) * _ = _
      grind
    rw [e]
    exact ⟨h2, by grind⟩
/-- the terms enclose the exact ones -/
theorem tE_enc (h0 : 0 < den) (one : Nat) : ∀ i, ((tE num den one i).lo : Rat) ≤ (one : Rat) * tq (xR num den) i ∧ (one : Rat) * tq (xR num den) i ≤ ((tE num den one i).hi : Rat) := by
  intro i
  have hx := xR_nn (num := num) h0
  induction i with
  | zero =>
    have e : (one : Rat) * tq (xR num den) 0 = (one : Rat) := by show (one : Rat) * 1 = _; grind
    rw [e]
    exact ⟨Rat.le_refl, Rat.le_refl⟩
  | succ i ih =>
    obtain ⟨i1, i2⟩ := ih
    have hk := nat_pos i
    have ht := tq_step (xR num den) i
    have g1 := (down_le (num := num) h0 i (tE num den one i).lo).1
    have g2 := (up_le (num := num) h0 i (tE num den one i).hi).1
    have e1 : (tE num den one (i + 1)).lo = (tE num den one i).lo * num / (den * (i + 1)) := rfl
    have e2 : (tE num den one (i + 1)).hi = upE (tE num den one i).hi num (den * (i + 1)) := rfl
    rw [e1, e2]
    generalize ((i + 1 : Nat) : Rat) = k at *
    generalize (((tE num den one i).lo * num / (den * (i + 1)) : Nat) : Rat) = A at *
    generalize ((upE (tE num den one i).hi num (den * (i + 1)) : Nat) : Rat) = B at *
    have m1 := Rat.mul_le_mul_of_nonneg_right i1 hx
    have m2 := Rat.mul_le_mul_of_nonneg_right i2 hx
    have e3 : (one : Rat) * tq (xR num den) (i + 1) * k = (one : Rat) * tq (xR num den) i * xR num den := by
      have : (one : Rat) * tq (xR num den) (i + 1) * k = (one : Rat) * (k * tq (xR num den) (i + 1)) := by grind
      rw [this, ht]; grind
    constructor
    · refine Rat.le_of_mul_le_mul_right (c := k) ?_ hk
      rw [e3]; exact Rat.le_trans g1 m1
    · refine Rat.le_of_mul_le_mul_right (c := k) ?_ hk
      rw [e3]; exact Rat.le_trans m2 g2
/-- x times a sum -/
theorem x_eq_le {x : Rat} (hx : 0 ≤ x) : ∀ i, x * eq_ x i ≤ ((i + 1 : Nat) : Rat) * (eq_ x (i + 1) - 1) := by
  have one_le : ∀ i, 1 ≤ eq_ x (i + 1) := fun i => by
    have h := eq_mono hx (show 1 ≤ i + 1 by omega)
    have e : eq_ x 1 = 1 := by show (0 : Rat) + 1 = 1; grind
    rw [e] at h; exact h
  intro i
  induction i with
  | zero =>
    have e : eq_ x 1 = 1 := by show (0 : Rat) + 1 = 1; grind
    have e0 : eq_ x 0 = 0 := rfl
    rw [e, e0]; grind
  | succ i ih =>
    have e : eq_ x (i + 1) = eq_ x i + tq x i := rfl
    have e2 : eq_ x (i + 1 + 1) = eq_ x (i + 1) + tq x (i + 1) := rfl
    have h1 := tq_step x i
    have h2 := one_le (i + 1)
    have c : ((i + 1 + 1 : Nat) : Rat) = ((i + 1 : Nat) : Rat) + 1 := by rw [Rat.natCast_add]; rfl
    rw [c]
    generalize ((i + 1 : Nat) : Rat) = k at *
    generalize eq_ x (i + 1 + 1) = S2 at *
    generalize eq_ x (i + 1) = S1 at *
    generalize eq_ x i = S0 at *
    generalize tq x (i + 1) = t1 at *
    generalize tq x i = t0 at *
    subst e
    subst e2
    have a : x * (S0 + t0) = x * S0 + k * t1 := by rw [h1]; grind
    rw [a]
    have b : (k + 1) * (S0 + t0 + t1 - 1) = k * (S0 + t0 - 1) + k * t1 + (S0 + t0 + t1 - 1) := by grind
    rw [b]
    grind
/-- how far the bounds of a term are apart -/
theorem tE_wid (h0 : 0 < den) (one : Nat) : ∀ i, ((tE num den one i).hi : Rat) ≤ ((tE num den one i).lo : Rat) + 2 * eq_ (xR num den) i := by
  intro i
  have hx := xR_nn (num := num) h0
  induction i with
  | zero => show (one : Rat) ≤ (one : Rat) + 2 * 0; grind
  | succ i ih =>
    have hk := nat_pos i
    have g1 := (down_le (num := num) h0 i (tE num den one i).lo).2
    have g2 := (up_le (num := num) h0 i (tE num den one i).hi).2
    have g3 := x_eq_le hx i
    have e1 : (tE num den one (i + 1)).lo = (tE num den one i).lo * num / (den * (i + 1)) := rfl
    have e2 : (tE num den one (i + 1)).hi = upE (tE num den one i).hi num (den * (i + 1)) := rfl
    rw [e1, e2]
    generalize ((i + 1 : Nat) : Rat) = k at *
    generalize (((tE num den one i).lo * num / (den * (i + 1)) : Nat) : Rat) = A at *
    generalize ((upE (tE num den one i).hi num (den * (i + 1)) : Nat) : Rat) = B at *
    generalize ((tE num den one i).lo : Rat) = C at *
    generalize ((tE num den one i).hi : Rat) = D at *
    generalize eq_ (xR num den) (i + 1) = S1 at *
    generalize eq_ (xR num den) i = S0 at *
    generalize xR num den = x at *
    have m2 := Rat.mul_le_mul_of_nonneg_right ih hx
    refine Rat.le_of_mul_le_mul_right (c := k) ?_ hk
    have e3 : (C + 2 * S0) * x = C * x + 2 * (x * S0) := by grind
    have e4 : (A + 2 * S1) * k = A * k + 2 * (k * (S1 - 1)) + 2 * k := by grind
    rw [e4]
    rw [e3] at m2
    grind
end
end Go.Proofs.Ytnmomigaedfdoaa
