/- The sums of expo's series and the exponential: how near they are. No program in sight. The sums of expo's series and the exponential, and what floor tells of it. No program in sight. What expo's floor is for e^-x, x = num / den up to 64, den up to 256. No program in sight. Lanes again: sums, differences and products of two rows of lanes. No program in sight. The sums e^-x (1 + x + .. + x^n / n!), n in the lanes, and how a step from x to x + 1/d keeps them near. No program in sight. Where the digits change, the program's two floors agree at the third precision at the latest; and what they say then. No program in sight. -/
import Derived.Test.YtnmomigaedfdoaaEnD
import Derived.Test.YtnmomigaedfdoaaExF
import Derived.Test.YtnmomigaedfdoaaEnC
namespace Go.Proofs.Ytnmomigaedfdoaa
set_option maxRecDepth 100000

/-- the number as a fraction -/
def xR (num den : Nat) : Rat := (num : Rat) / (den : Rat)
section
variable {num den : Nat}
theorem xR_mul (h0 : 0 < den) : xR num den * (den : Rat) = (num : Rat) := by
  have hd : (den : Rat) ≠ 0 := by exact_mod_cast (Nat.ne_of_gt h0)
  exact Rat.div_mul_cancel hd
theorem xR_nn (h0 : 0 < den) : 0 ≤ xR num den := by
  rw [xR, Rat.div_def]
  exact Rat.mul_nonneg (natR_nn _) (Rat.le_of_lt (Rat.inv_pos.2 (by exact_mod_cast h0)))
/-- one term, rounded down -/
theorem down_le (h0 : 0 < den) (i t : Nat) : ((t * num / (den * (i + 1)) : Nat) : Rat) * ((i + 1 : Nat) : Rat) ≤ (t : Rat) * xR num den ∧ (t : Rat) * xR num den ≤ ((t * num / (den * (i + 1)) : Nat) : Rat) * ((i + 1 : Nat) : Rat) + ((i + 1 : Nat) : Rat) := by
  have hc : 0 < den * (i + 1) := Nat.mul_pos h0 (Nat.succ_pos i)
  have h1 := Nat.div_add_mod (t * num) (den * (i + 1))
  have h2 := Nat.mod_lt (t * num) hc
  have hd : (0 : Rat) < (den : Rat) := by exact_mod_cast h0
  have hx := xR_mul (num := num) h0
  generalize xR num den = x at *
  generalize hq : t * num / (den * (i + 1)) = q at *
  have a1 : q * (den * (i + 1)) ≤ t * num := by rw [Nat.mul_comm]; omega
  have a2 : t * num ≤ q * (den * (i + 1)) + den * (i + 1) := by rw [Nat.mul_comm q]; omega
  have b1 : (q : Rat) * ((den : Rat) * ((i + 1 : Nat) : Rat)) ≤ (t : Rat) * (num : Rat) := by exact_mod_cast a1
  have b2 : (t : Rat) * (num : Rat) ≤ (q : Rat) * ((den : Rat) * ((i + 1 : Nat) : Rat)) + (den : Rat) * ((i + 1 : Nat) : Rat) := by exact_mod_cast a2
  generalize ((i + 1 : Nat) : Rat) = k at *
  generalize (q : Rat) = Q at *
  generalize (t : Rat) = U at *
  constructor
  · refine Rat.le_of_mul_le_mul_right (c := (den : Rat)) ?_ hd
    have e1 : Q * k * (den : Rat) = Q * ((den : Rat) * k) := by grind
    have e2 : U * x * (den : Rat) = U * (num : Rat) := by rw [← hx]; grind
    rw [e1, e2]; exact b1
  · refine Rat.le_of_mul_le_mul_right (c := (den : Rat)) ?_ hd
    have e1 : (Q * k + k) * (den : Rat) = Q * ((den : Rat) * k) + (den : Rat) * k := by grind
    have e2 : U * x * (den : Rat) = U * (num : Rat) := by rw [← hx]; grind
    rw [e1, e2]; exact b2
/-- one term, rounded up -/
def upE (t num c : Nat) : Nat := if t * num % c = 0 then t * num / c else t * num / c + 1
theorem up_le (h0 : 0 < den) (i t : Nat) : (t : Rat) * xR num den ≤ (upE t num (den * (i + 1)) : Rat) * ((i + 1 : Nat) : Rat) ∧ (upE t num (den * (i + 1)) : Rat) * ((i + 1 : Nat) : Rat) ≤ (t : Rat) * xR num den + ((i + 1 : Nat) : Rat) := by
  obtain ⟨h1, h2⟩ := down_le (num := num) h0 i t
  rw [upE]
  split
  · rename_i hr
    refine ⟨?_, by have := natR_nn (i + 1); grind⟩
    have hd : (0 : Rat) < (den : Rat) := by exact_mod_cast h0
    have hx := xR_mul (num := num) h0
    have h3 := Nat.div_add_mod (t * num) (den * (i + 1))
    rw [hr, Nat.add_zero] at h3
    generalize t * num / (den * (i + 1)) = q at *
    have b1 : (t : Rat) * (num : Rat) = (den : Rat) * ((i + 1 : Nat) : Rat) * (q : Rat) := by exact_mod_cast h3.symm
    refine Rat.le_of_mul_le_mul_right (c := (den : Rat)) ?_ hd
    have e2 : (t : Rat) * xR num den * (den : Rat) = (t : Rat) * (num : Rat) := by rw [← hx]; grind
    rw [e2, b1]
    have e3 : (den : Rat) * ((i + 1 : Nat) : Rat) * (q : Rat) = (q : Rat) * ((i + 1 : Nat) : Rat) * (den : Rat) := by grind
    rw [e3]
    exact Rat.le_refl
  · have e : ((t * num / (den * (i + 1)) + 1 : Nat) : Rat) * ((i + 1 : Nat) : Rat) = ((t * num / (den * (i + 1)) : Nat) : Rat) * ((i + 1 : Nat) : Rat) + ((i + 1 : Nat) : Rat) := by
      rw [Rat.natCast_add]
      show (_ + 1) * _ = _
      grind
    rw [e]
    exact ⟨h2, by grind⟩
/-- the terms enclose the exact ones -/
theorem tE_enc (h0 : 0 < den) (one : Nat) : ∀ i, ((tE num den one i).lo : Rat) ≤ (one : Rat) * tq (xR num den) i ∧ (one : Rat) * tq (xR num den) i ≤ ((tE num den one i).hi : Rat) := by
  intro i
  have hx := xR_nn (num := num) h0
  induction i with
  | zero =>
    have e : (one : Rat) * tq (xR num den) 0 = (one : Rat) := by show (one : Rat) * 1 = _; grind
    rw [e]
    exact ⟨Rat.le_refl, Rat.le_refl⟩
  | succ i ih =>
    obtain ⟨i1, i2⟩ := ih
    have hk := nat_pos i
    have ht := tq_step (xR num den) i
    have g1 := (down_le (num := num) h0 i (tE num den one i).lo).1
    have g2 := (up_le (num := num) h0 i (tE num den one i).hi).1
    have e1 : (tE num den one (i + 1)).lo = (tE num den one i).lo * num / (den * (i + 1)) := rfl
    have e2 : (tE num den one (i + 1)).hi = upE (tE num den one i).hi num (den * (i + 1)) := rfl
    rw [e1, e2]
    generalize ((i + 1 : Nat) : Rat) = k at *
    generalize (((tE num den one i).lo * num / (den * (i + 1)) : Nat) : Rat) = A at *
    generalize ((upE (tE num den one i).hi num (den * (i + 1)) : Nat) : Rat) = B at *
    have m1 := Rat.mul_le_mul_of_nonneg_right i1 hx
    have m2 := Rat.mul_le_mul_of_nonneg_right i2 hx
    have e3 : (one : Rat) * tq (xR num den) (i + 1) * k = (one : Rat) * tq (xR num den) i * xR num den := by
      have : (one : Rat) * tq (xR num den) (i + 1) * k = (one : Rat) * (k * tq (xR num den) (i + 1)) := by grind
      rw [this, ht]; grind
    constructor
    · refine Rat.le_of_mul_le_mul_right (c := k) ?_ hk
      rw [e3]; exact Rat.le_trans g1 m1
    · refine Rat.le_of_mul_le_mul_right (c := k) ?_ hk
      rw [e3]; exact Rat.le_trans m2 g2
/-- x times a sum -/
theorem x_eq_le {x : Rat} (hx : 0 ≤ x) : ∀ i, x * eq_ x i ≤ ((i + 1 : Nat) : Rat) * (eq_ x (i + 1) - 1) := by
  have one_le : ∀ i, 1 ≤ eq_ x (i + 1) := fun i => by
    have h := eq_mono hx (show 1 ≤ i + 1 by omega)
    have e : eq_ x 1 = 1 := by show (0 : Rat) + 1 = 1; grind
    rw [e] at h; exact h
  intro i
  induction i with
  | zero =>
    have e : eq_ x 1 = 1 := by show (0 : Rat) + 1 = 1; grind
    have e0 : eq_ x 0 = 0 := rfl
    rw [e, e0]; grind
  | succ i ih =>
    have e : eq_ x (i + 1) = eq_ x i + tq x i := rfl
    have e2 : eq_ x (i + 1 + 1) = eq_ x (i + 1) + tq x (i + 1) := rfl
    have h1 := tq_step x i
    have h2 := one_le (i + 1)
    have c : ((i + 1 + 1 : Nat) : Rat) = ((i + 1 : Nat) : Rat) + 1 := by rw [Rat.natCast_add]; rfl
    rw [c]
    generalize ((i + 1 : Nat) : Rat) = k at *
    generalize eq_ x (i + 1 + 1) = S2 at *
    generalize eq_ x (i + 1) = S1 at *
    generalize eq_ x i = S0 at *
    generalize tq x (i + 1) = t1 at *
    generalize tq x i = t0 at *
    subst e
    subst e2
    have a : x * (S0 + t0) = x * S0 + k * t1 := by rw [h1]; grind
    rw [a]
    have b : (k + 1) * (S0 + t0 + t1 - 1) = k * (S0 + t0 - 1) + k * t1 + (S0 + t0 + t1 - 1) := by grind
    rw [b]
    grind
/-- how far the bounds of a term are apart -/
theorem tE_wid (h0 : 0 < den) (one : Nat) : ∀ i, ((tE num den one i).hi : Rat) ≤ ((tE num den one i).lo : Rat) + 2 * eq_ (xR num den) i := by
  intro i
  have hx := xR_nn (num := num) h0
  induction i with
  | zero => show (one : Rat) ≤ (one : Rat) + 2 * 0; grind
  | succ i ih =>
    have hk := nat_pos i
    have g1 := (down_le (num := num) h0 i (tE num den one i).lo).2
    have g2 := (up_le (num := num) h0 i (tE num den one i).hi).2
    have g3 := x_eq_le hx i
    have e1 : (tE num den one (i + 1)).lo = (tE num den one i).lo * num / (den * (i + 1)) := rfl
    have e2 : (tE num den one (i + 1)).hi = upE (tE num den one i).hi num (den * (i + 1)) := rfl
    rw [e1, e2]
    generalize ((i + 1 : Nat) : Rat) = k at *
    generalize (((tE num den one i).lo * num / (den * (i + 1)) : Nat) : Rat) = A at *
    generalize ((upE (tE num den one i).hi num (den * (i + 1)) : Nat) : Rat) = B at *
    generalize ((tE num den one i).lo : Rat) = C at *
    generalize ((tE num den one i).hi : Rat) = D at *
    generalize eq_ (xR num den) (i + 1) = S1 at *
    generalize eq_ (xR num den) i = S0 at *
    generalize xR num den = x at *
    have m2 := Rat.mul_le_mul_of_nonneg_right ih hx
    refine Rat.le_of_mul_le_mul_right (c := k) ?_ hk
    have e3 : (C + 2 * S0) * x = C * x + 2 * (x * S0) := by grind
    have e4 : (A + 2 * S1) * k = A * k + 2 * (k * (S1 - 1)) + 2 * k := by grind
    rw [e4]
    rw [e3] at m2
    grind
end
end Go.Proofs.Ytnmomigaedfdoaa
namespace Go.Proofs.Ytnmomigaedfdoaa
set_option maxRecDepth 100000

section
variable {num den : Nat}
theorem eq_one_le {x : Rat} (hx : 0 ≤ x) (i : Nat) : 1 ≤ eq_ x (i + 1) := by
  have h := eq_mono hx (show 1 ≤ i + 1 by omega)
  have e : eq_ x 1 = 1 := by show (0 : Rat) + 1 = 1; grind
  rw [e] at h; exact h
theorem allE_enc (h0 : 0 < den) (one : Nat) : ∀ m, ((allE num den one m).lo : Rat) ≤ (one : Rat) * eq_ (xR num den) m ∧ (one : Rat) * eq_ (xR num den) m ≤ ((allE num den one m).hi : Rat) := by
  intro m
  induction m with
  | zero => exact ⟨by show ((0 : Nat) : Rat) ≤ (one : Rat) * 0; grind, by show (one : Rat) * 0 ≤ ((0 : Nat) : Rat); grind⟩
  | succ m ih =>
    have h := tE_enc (num := num) h0 one m
    have e : eq_ (xR num den) (m + 1) = eq_ (xR num den) m + tq (xR num den) m := rfl
    have e1 : (((allE num den one (m + 1)).lo : Nat) : Rat) = ((allE num den one m).lo : Rat) + ((tE num den one m).lo : Rat) := Rat.natCast_add _ _
    have e2 : (((allE num den one (m + 1)).hi : Nat) : Rat) = ((allE num den one m).hi : Rat) + ((tE num den one m).hi : Rat) := Rat.natCast_add _ _
    rw [e, e1, e2]
    grind
theorem allE_wid (h0 : 0 < den) (one : Nat) : ∀ m, ((allE num den one m).hi : Rat) ≤ ((allE num den one m).lo : Rat) + 2 * (m : Rat) * eq_ (xR num den) m := by
  have hx := xR_nn (num := num) h0
  intro m
  induction m with
  | zero => show ((0 : Nat) : Rat) ≤ ((0 : Nat) : Rat) + 2 * ((0 : Nat) : Rat) * 0; grind
  | succ m ih =>
    have h := tE_wid (num := num) h0 one m
    have e1 : (((allE num den one (m + 1)).lo : Nat) : Rat) = ((allE num den one m).lo : Rat) + ((tE num den one m).lo : Rat) := Rat.natCast_add _ _
    have e2 : (((allE num den one (m + 1)).hi : Nat) : Rat) = ((allE num den one m).hi : Rat) + ((tE num den one m).hi : Rat) := Rat.natCast_add _ _
    have h2 := eq_mono hx (show m ≤ m + 1 by omega)
    have h3 := mul_le_l (show (0 : Rat) ≤ 2 * (m : Rat) by have := natR_nn m; grind) h2
    have c : ((m + 1 : Nat) : Rat) = (m : Rat) + 1 := Rat.natCast_add _ _
    rw [e1, e2, c]
    generalize eq_ (xR num den) (m + 1) = S1 at *
    generalize eq_ (xR num den) m = S0 at *
    generalize (m : Rat) = k at *
    have e3 : 2 * (k + 1) * S1 = 2 * k * S1 + 2 * S1 := by grind
    rw [e3]
    grind
/-- behind twice x the terms fall at least by half -/
theorem tq_half2 {x : Rat} (hx : 0 ≤ x) {i : Nat} (h : 2 * x ≤ ((i + 1 : Nat) : Rat)) : 2 * tq x (i + 1) ≤ tq x i := by
  have e := tq_step x i
  have hk := nat_pos i
  have n0 := tq_nn hx i
  generalize ((i + 1 : Nat) : Rat) = k at *
  generalize tq x (i + 1) = t1 at *
  generalize tq x i = t0 at *
  refine Rat.le_of_mul_le_mul_right (c := k) ?_ hk
  have e1 : 2 * t1 * k = 2 * x * t0 := by
    have : 2 * t1 * k = 2 * (k * t1) := by grind
    rw [this, e]; grind
  have h2 := Rat.mul_le_mul_of_nonneg_right h n0
  rw [e1]
  have e2 : t0 * k = k * t0 := by grind
  rw [e2]; exact h2
theorem eq_tail2 {x : Rat} (hx : 0 ≤ x) {m : Nat} (h : 2 * x ≤ ((m + 1 : Nat) : Rat)) : ∀ k, eq_ x (m + 1 + k) + tq x (m + k) ≤ eq_ x (m + 1) + tq x m := by
  intro k
  induction k with
  | zero => exact Rat.le_refl
  | succ k ih =>
    have e : eq_ x (m + 1 + (k + 1)) = eq_ x (m + 1 + k) + tq x (m + 1 + k) := rfl
    have c : ((m + 1 : Nat) : Rat) ≤ ((m + k + 1 : Nat) : Rat) := by exact_mod_cast (show m + 1 ≤ m + k + 1 by omega)
    have h2 := tq_half2 hx (i := m + k) (Rat.le_trans h c)
    rw [show m + k + 1 = m + 1 + k by omega] at h2
    rw [e, show m + (k + 1) = m + 1 + k by omega]
    grind
theorem eq_bound2 {x : Rat} (hx : 0 ≤ x) {m : Nat} (h : 2 * x ≤ ((m + 1 : Nat) : Rat)) (M : Nat) : eq_ x M ≤ eq_ x (m + 1) + tq x m := by
  have n0 := tq_nn hx m
  rcases Nat.le_total M (m + 1) with h2 | h2
  · have := eq_mono hx h2
    grind
  · obtain ⟨d, rfl⟩ := Nat.exists_eq_add_of_le h2
    have := eq_tail2 hx h d
    have := tq_nn hx (m + d)
    grind
/-- what the sums at a stop say: L and H stand for the two sums of all terms -/
structure Enc (x : Rat) (p I L H : Nat) : Prop where
  up : ∀ M, ((2 ^ p : Nat) : Rat) * eq_ x M ≤ (H : Rat)
  lo : (L : Rat) ≤ ((2 ^ p : Nat) : Rat) * eq_ x (I + 1)
  wid : 2 ^ p * H ≤ 2 ^ p * L + 131072 * H
  one : 2 ^ p ≤ L
  le : L ≤ H
theorem enc_stop {n p : Nat} (hx : XOk num den) (hn : n ≤ 256) : Enc (xR num den) p (stopI num den (2 ^ p) n) (sAE num den (2 ^ p) (stopI num den (2 ^ p) n)).lo (sAE num den (2 ^ p) (stopI num den (2 ^ p) n)).hi ∨ ¬ (tP num den (2 ^ p) (stopI num den (2 ^ p) n) = tE num den (2 ^ p) (stopI num den (2 ^ p) n)) := by
  by_cases ht : tP num den (2 ^ p) (stopI num den (2 ^ p) n) = tE num den (2 ^ p) (stopI num den (2 ^ p) n)
  · left
    have h0 := hx.d0
    obtain ⟨⟨_, hI1, hI2⟩, hI3, _⟩ := stop_spec (2 ^ p) hx hn
    rw [ht] at hI2
    generalize stopI num den (2 ^ p) n = I at *
    have hxn := xR_nn (num := num) h0
    have e1 : (sAE num den (2 ^ p) I).lo = (allE num den (2 ^ p) (I + 1)).lo := rfl
    have e2 : (sAE num den (2 ^ p) I).hi = (allE num den (2 ^ p) (I + 1)).hi + (tE num den (2 ^ p) I).hi := rfl
    obtain ⟨a1, a2⟩ := allE_enc (num := num) h0 (2 ^ p) (I + 1)
    have a3 := allE_wid (num := num) h0 (2 ^ p) (I + 1)
    have a4 := (tE_enc (num := num) h0 (2 ^ p) I).2
    have h2x : 2 * xR num den ≤ ((I + 1 : Nat) : Rat) := by
      have h5 := Nat.div_add_mod num den
      have h6 := Nat.mod_lt num h0
      have h7 : 2 * num ≤ (I + 1) * den := by
        have : (2 * (num / den) + 2) * den ≤ (I + 1) * den := Nat.mul_le_mul_right _ (by omega)
        have e : (2 * (num / den) + 2) * den = 2 * (den * (num / den)) + 2 * den := by grind
        omega
      have h8 : 2 * (num : Rat) ≤ ((I + 1 : Nat) : Rat) * (den : Rat) := by exact_mod_cast h7
      have hd : (0 : Rat) < (den : Rat) := by exact_mod_cast h0
      refine Rat.le_of_mul_le_mul_right (c := (den : Rat)) ?_ hd
      have e : 2 * xR num den * (den : Rat) = 2 * (num : Rat) := by rw [Rat.mul_assoc, xR_mul h0]
      rw [e]; exact h8
    have hT := two_pos p
    have cH : (((sAE num den (2 ^ p) I).hi : Nat) : Rat) = ((allE num den (2 ^ p) (I + 1)).hi : Rat) + ((tE num den (2 ^ p) I).hi : Rat) := Rat.natCast_add _ _
    have hup : ∀ M, ((2 ^ p : Nat) : Rat) * eq_ (xR num den) M ≤ ((sAE num den (2 ^ p) I).hi : Rat) := fun M => by
      have h1 := mul_le_l (Rat.le_of_lt hT) (eq_bound2 hxn h2x M)
      rw [cH]
      grind
    have hone : 2 ^ p ≤ (sAE num den (2 ^ p) I).lo := by rw [e1]; exact (tE_in_all num den (2 ^ p) (i := 0) (m := I + 1) (by omega)).1
    have hle : (sAE num den (2 ^ p) I).lo ≤ (sAE num den (2 ^ p) I).hi := by
      rw [e1, e2]
      have : ((allE num den (2 ^ p) (I + 1)).lo : Rat) ≤ ((allE num den (2 ^ p) (I + 1)).hi : Rat) := Rat.le_trans a1 a2
      have : (allE num den (2 ^ p) (I + 1)).lo ≤ (allE num den (2 ^ p) (I + 1)).hi := by exact_mod_cast this
      omega
    refine ⟨hup, by rw [e1]; exact a1, ?_, hone, hle⟩
    have k1 := hup (I + 1)
    have cl : (((sAE num den (2 ^ p) I).lo : Nat) : Rat) = ((allE num den (2 ^ p) (I + 1)).lo : Rat) := rfl
    have ht1 : ((tE num den (2 ^ p) I).hi : Rat) ≤ 1 := by exact_mod_cast (show (tE num den (2 ^ p) I).hi ≤ 1 by omega)
    have hTH : ((2 ^ p : Nat) : Rat) ≤ ((sAE num den (2 ^ p) I).hi : Rat) := by exact_mod_cast Nat.le_trans hone hle
    have cI : 2 * ((I + 1 : Nat) : Rat) + 1 ≤ 131072 := by exact_mod_cast (show 2 * (I + 1) + 1 ≤ 131072 by omega)
    have nI := natR_nn (I + 1)
    suffices hs : ((2 ^ p : Nat) : Rat) * ((sAE num den (2 ^ p) I).hi : Rat) ≤ ((2 ^ p : Nat) : Rat) * ((sAE num den (2 ^ p) I).lo : Rat) + 131072 * ((sAE num den (2 ^ p) I).hi : Rat) by
      exact_mod_cast hs
    have hwid : ((sAE num den (2 ^ p) I).hi : Rat) ≤ ((sAE num den (2 ^ p) I).lo : Rat) + 2 * ((I + 1 : Nat) : Rat) * eq_ (xR num den) (I + 1) + 1 := by rw [cH, cl]; grind
    generalize ((sAE num den (2 ^ p) I).hi : Rat) = H at *
    generalize ((sAE num den (2 ^ p) I).lo : Rat) = L at *
    generalize ((2 ^ p : Nat) : Rat) = T at *
    generalize ((I + 1 : Nat) : Rat) = k at *
    generalize eq_ (xR num den) (I + 1) = S at *
    have g1 := mul_le_l (Rat.le_of_lt hT) hwid
    have g2 : 2 * k * (T * S) ≤ 2 * k * H := mul_le_l (by grind) k1
    have hH : 0 ≤ H := Rat.le_trans (Rat.le_of_lt hT) hTH
    have g3 := Rat.mul_le_mul_of_nonneg_right cI hH
    have e5 : T * (L + 2 * k * S + 1) = T * L + 2 * k * (T * S) + T := by grind
    have e6 : (2 * k + 1) * H = 2 * k * H + H := by grind
    rw [e5] at g1
    rw [e6] at g3
    grind
  · exact Or.inr ht
end
end Go.Proofs.Ytnmomigaedfdoaa
namespace Go.Proofs.Ytnmomigaedfdoaa
set_option maxRecDepth 100000

theorem enc_at {num den n p : Nat} (hx : XOk num den) (hn : n ≤ 256) (h0 : 40 ≤ p) (h1 : p ≤ 16130) :
    Enc (xR num den) p (stopI num den (2 ^ p) n) (sAE num den (2 ^ p) (stopI num den (2 ^ p) n)).lo (sAE num den (2 ^ p) (stopI num den (2 ^ p) n)).hi := by
  have hp := pOk h0 h1
  rw [shO_ok (by omega)] at hp
  obtain ⟨_, hI, _⟩ := stop_spec (2 ^ p) hx hn
  exact (enc_stop hx hn).resolve_right fun k => k (tP_eq hx hp _ (by omega))
/-- where the digits behind the k-th are not alike, the two floors agree -/
theorem floor_agree {x : Rat} {p I L H k v : Nat} (h : Enc x p I L H) (hv : v ≤ 2 ^ 160) (hlo : ApL 160 (v - 131072) x) (hhi : ApU 160 (v + 131072) x) (k1 : 1 ≤ k) (k2 : k ≤ 64) (hf : FarK v k) (hp : p = 2 * (k + 48)) :
    2 ^ p * 2 ^ k / H = 2 ^ p * 2 ^ k / L := by
  obtain ⟨T, hT⟩ : ∃ T, 2 ^ p = T := ⟨_, rfl⟩
  obtain ⟨R, hR⟩ : ∃ R, 2 ^ (160 - k) = R := ⟨_, rfl⟩
  obtain ⟨G, hG⟩ : ∃ G, 2 ^ (95 - k) = G := ⟨_, rfl⟩
  obtain ⟨Z, hZ⟩ : ∃ Z, (2 : Nat) ^ 160 = Z := ⟨_, rfl⟩
  obtain ⟨K, hK⟩ : ∃ K, (2 : Nat) ^ k = K := ⟨_, rfl⟩
  have hLn : 0 < L := Nat.lt_of_lt_of_le (Nat.pow_pos (by omega)) h.one
  have hHn : 0 < H := Nat.lt_of_lt_of_le hLn h.le
  have hTp := two_pos p
  have hZp := two_pos 160
  have r1 : R * K = Z := by rw [← hR, ← hK, ← hZ, ← Nat.pow_add]; congr 1; omega
  have r2 : 2147483648 ≤ G := by rw [← hG]; exact Nat.pow_le_pow_right (n := 2) (by omega) (show 31 ≤ 95 - k by omega)
  have r3 : 2 * G ≤ R := by
    rw [← hG, ← hR, Nat.mul_comm, ← Nat.pow_succ]; exact Nat.pow_le_pow_right (by omega) (by omega)
  have r4 : 131072 * (8 * Z) ≤ T * (G - 131072) := by
    have a1 : 2 ^ (94 - k) ≤ G - 131072 := by
      have e : G = 2 * 2 ^ (94 - k) := by rw [← hG, show 95 - k = 94 - k + 1 by omega, Nat.pow_succ, Nat.mul_comm]
      omega
    refine Nat.le_trans ?_ (Nat.mul_le_mul_left T a1)
    rw [← hT, ← hZ, ← Nat.pow_add]
    exact Nat.le_trans (Nat.le_of_eq (show 131072 * (8 * 2 ^ 160) = 2 ^ 180 by decide)) (Nat.pow_le_pow_right (by omega) (by omega))
  have hT0 : 262144 ≤ T := by rw [← hT]; exact Nat.pow_le_pow_right (n := 2) (by omega) (show 18 ≤ p by omega)
  have hGZ : G ≤ Z := by rw [← hG, ← hZ]; exact Nat.pow_le_pow_right (by omega) (by omega)
  have hZ0 : 0 < Z := by rw [← hZ]; exact Nat.pow_pos (by omega)
  -- v and the two sums
  have f1 : (v - 131072) * L ≤ Z * T := by
    have a := hlo (I + 1)
    have b := mul_le_l (natR_nn (v - 131072)) h.lo
    rw [hZ] at a
    rw [hT] at b
    have c := Rat.mul_le_mul_of_nonneg_right a (natR_nn T)
    have e : ((v - 131072 : Nat) : Rat) * ((T : Rat) * eq_ x (I + 1)) = ((v - 131072 : Nat) : Rat) * eq_ x (I + 1) * (T : Rat) := by grind
    rw [e] at b
    have d := Rat.le_trans b c
    exact_mod_cast d
  have f2 : Z * T ≤ (v + 131072) * H := by
    obtain ⟨M, a⟩ := hhi
    have b := mul_le_l (natR_nn (v + 131072)) (h.up M)
    rw [hZ] at a
    rw [hT] at b
    have c := Rat.mul_le_mul_of_nonneg_right a (natR_nn T)
    have e : ((v + 131072 : Nat) : Rat) * ((T : Rat) * eq_ x M) = ((v + 131072 : Nat) : Rat) * eq_ x M * (T : Rat) := by grind
    rw [e] at b
    have d := Rat.le_trans c b
    exact_mod_cast d
  have hw := h.wid
  have ho := h.one
  have hle := h.le
  rw [hT] at hw ho
  rw [hZ] at hv
  rw [FarK, hR, hG] at hf
  rw [hT, hK]
  clear hlo hhi hTp hZp hT hR hG hZ hK h
  have hH2 : H ≤ 2 * L := by
    have a : 262144 * (H - L) ≤ T * (H - L) := Nat.mul_le_mul_right _ hT0
    have e : T * H = T * L + T * (H - L) := by rw [← Nat.mul_add]; congr 1; omega
    omega
  have hR0 : 0 < R := by omega
  obtain ⟨m, u, hvm, hu⟩ : ∃ m u, v = R * m + u ∧ u = v % R := ⟨v / R, v % R, (Nat.div_add_mod v R).symm, rfl⟩
  have huR : u < R := by rw [hu]; exact Nat.mod_lt _ hR0
  have hfar : (m = 0 ∧ v + G ≤ R) ∨ (G ≤ u ∧ u + G ≤ R) := by
    rcases hf with h1 | ⟨h1, h2⟩
    · refine Or.inl ⟨?_, by omega⟩
      rcases Nat.eq_zero_or_pos m with h3 | h3
      · exact h3
      · have := Nat.mul_le_mul_left R h3
        omega
    · rw [← hu] at h1 h2
      exact Or.inr ⟨h1, h2⟩
  have hGE : 131072 ≤ G := by omega
  obtain ⟨g, hg⟩ : ∃ g, G = g + 131072 := ⟨G - 131072, by omega⟩
  rw [hg, Nat.add_sub_cancel] at r4
  obtain ⟨W, hW⟩ : ∃ W, H = L + W := ⟨H - L, by omega⟩
  have hTW : T * W ≤ 131072 * (2 * L) := by
    have e : T * H = T * L + T * W := by rw [hW, Nat.mul_add]
    have : 131072 * H ≤ 131072 * (2 * L) := Nat.mul_le_mul_left _ hH2
    omega
  -- (a)
  have ga : m * H ≤ T * K := by
    rcases hfar with ⟨h1, _⟩ | ⟨h1, _⟩
    · rw [h1, Nat.zero_mul]; exact Nat.zero_le _
    · have hmv : R * m + G ≤ v := by omega
      have s1 : (R * m + g) * L ≤ Z * T := Nat.le_trans (Nat.mul_le_mul_right _ (by omega)) f1
      have s2 : R * m * (T * W) ≤ Z * (131072 * (2 * L)) := Nat.mul_le_mul (by omega) hTW
      have s3 : 131072 * (8 * Z) * L ≤ T * g * L := Nat.mul_le_mul_right _ r4
      have s4 : T * (R * m * H) ≤ T * (Z * T) := by
        have e1 : T * (R * m * H) = T * (R * m * L) + R * m * (T * W) := by rw [hW]; grind
        have e2 : T * ((R * m + g) * L) = T * (R * m * L) + T * g * L := by grind
        have e3 : Z * (131072 * (2 * L)) * 4 = 131072 * (8 * Z) * L := by grind
        have s5 := Nat.mul_le_mul_left T s1
        omega
      have s6 := Nat.le_of_mul_le_mul_left s4 (show 0 < T by omega)
      rw [← r1] at s6
      have e4 : R * m * H = R * (m * H) := by grind
      have e5 : R * K * T = R * (T * K) := by grind
      rw [e4, e5] at s6
      exact Nat.le_of_mul_le_mul_left s6 hR0
  -- (b)
  have gb : T * K < (m + 1) * L := by
    have hmv : v + G ≤ R * (m + 1) := by
      rw [Nat.mul_add, Nat.mul_one]
      rcases hfar with ⟨h1, h2⟩ | ⟨_, h2⟩
      · omega
      · omega
    have s1 : (v + G) * L ≤ R * (m + 1) * L := Nat.mul_le_mul_right _ hmv
    have s2 : (v + 131072) * (T * W) ≤ 2 * Z * (131072 * (2 * L)) := Nat.mul_le_mul (by omega) hTW
    have s3 : 131072 * (8 * Z) * L ≤ T * g * L := Nat.mul_le_mul_right _ r4
    have s4 : T * (Z * T) < T * (R * (m + 1) * L) := by
      have e1 : T * ((v + 131072) * H) = T * ((v + 131072) * L) + (v + 131072) * (T * W) := by rw [hW]; grind
      have e2 : T * ((v + G) * L) = T * ((v + 131072) * L) + T * g * L := by rw [hg]; grind
      have e3 : 2 * Z * (131072 * (2 * L)) * 2 = 131072 * (8 * Z) * L := by grind
      have s5 := Nat.mul_le_mul_left T s1
      have s6 := Nat.mul_le_mul_left T f2
      have s7 : 0 < 2 * Z * (131072 * (2 * L)) := Nat.mul_pos (by omega) (by omega)
      omega
    have s6 := Nat.lt_of_mul_lt_mul_left s4
    rw [← r1] at s6
    have e4 : R * (m + 1) * L = R * ((m + 1) * L) := by grind
    have e5 : R * K * T = R * (T * K) := by grind
    rw [e4, e5] at s6
    exact Nat.lt_of_mul_lt_mul_left s6
  have q1 : m ≤ T * K / H := (Nat.le_div_iff_mul_le hHn).2 ga
  have q2 : T * K / L < m + 1 := (Nat.div_lt_iff_lt_mul hLn).2 gb
  have q3 : T * K / H ≤ T * K / L := Nat.div_le_div_left hle hLn
  omega
end Go.Proofs.Ytnmomigaedfdoaa
namespace Go.Proofs.Ytnmomigaedfdoaa
set_option maxRecDepth 100000

theorem low_add {L A B : Nat} : ∀ q, (∀ i, i < q → lnq L A i + lnq L B i < 2 ^ L) → A % 2 ^ (L * q) + B % 2 ^ (L * q) < 2 ^ (L * q) := by
  intro q
  induction q with
  | zero => intro _; rw [Nat.mul_zero, Nat.pow_zero, Nat.mod_one, Nat.mod_one]; omega
  | succ q ih =>
    intro h
    have h1 := ih fun i hi => h i (by omega)
    have h2 := h q (by omega)
    rw [mod_lane, mod_lane, Nat.mul_add L q 1, Nat.pow_add, Nat.mul_one]
    generalize lnq L A q = x at *
    generalize lnq L B q = y at *
    have h3 : 2 ^ (L * q) * (x + y + 1) ≤ 2 ^ (L * q) * 2 ^ L := Nat.mul_le_mul_left _ h2
    rw [Nat.mul_add, Nat.mul_add, Nat.mul_one] at h3
    omega
theorem add_lane {L A B q : Nat} (h : ∀ i, i ≤ q → lnq L A i + lnq L B i < 2 ^ L) : lnq L (A + B) q = lnq L A q + lnq L B q := by
  have h1 := low_add (L := L) (A := A) (B := B) q fun i hi => h i (by omega)
  have h2 := h q (Nat.le_refl _)
  have hp : 0 < 2 ^ (L * q) := Nat.pow_pos (by omega)
  have e : (A + B) / 2 ^ (L * q) = A / 2 ^ (L * q) + B / 2 ^ (L * q) := by
    have e1 := Nat.mod_add_div A (2 ^ (L * q))
    have e2 := Nat.mod_add_div B (2 ^ (L * q))
    have e3 : A + B = (A % 2 ^ (L * q) + B % 2 ^ (L * q)) + 2 ^ (L * q) * (A / 2 ^ (L * q) + B / 2 ^ (L * q)) := by rw [Nat.mul_add]; omega
    rw [e3, Nat.add_mul_div_left _ _ hp, Nat.div_eq_of_lt h1, Nat.zero_add]
  show (A + B) / 2 ^ (L * q) % 2 ^ L = A / 2 ^ (L * q) % 2 ^ L + B / 2 ^ (L * q) % 2 ^ L
  rw [e, Nat.add_mod]
  exact Nat.mod_eq_of_lt h2
theorem sub_lane {L A B q : Nat} (h : ∀ i, i ≤ q → lnq L B i ≤ lnq L A i) (hBA : B ≤ A) : lnq L (A - B) q = lnq L A q - lnq L B q := by
  -- the row of the differences, from below
  have low : ∀ j, (∀ i, i < j → lnq L B i ≤ lnq L A i) → B % 2 ^ (L * j) ≤ A % 2 ^ (L * j) := by
    intro j
    induction j with
    | zero => intro _; rw [Nat.mul_zero, Nat.pow_zero, Nat.mod_one, Nat.mod_one]; exact Nat.le_refl _
    | succ j ih =>
      intro hh
      rw [mod_lane, mod_lane]
      have h1 := ih fun i hi => hh i (by omega)
      have h2 := Nat.mul_le_mul_left (2 ^ (L * j)) (hh j (by omega))
      omega
  have h1 := low q fun i hi => h i (by omega)
  have h2 := h q (Nat.le_refl _)
  have hp : 0 < 2 ^ (L * q) := Nat.pow_pos (by omega)
  have hA := Nat.mod_add_div A (2 ^ (L * q))
  have hB := Nat.mod_add_div B (2 ^ (L * q))
  have hd : B / 2 ^ (L * q) ≤ A / 2 ^ (L * q) := Nat.div_le_div_right hBA
  have e : (A - B) / 2 ^ (L * q) = A / 2 ^ (L * q) - B / 2 ^ (L * q) := by
    have hm : A % 2 ^ (L * q) < 2 ^ (L * q) := Nat.mod_lt _ hp
    obtain ⟨k, hk⟩ := Nat.exists_eq_add_of_le hd
    have e3 : A - B = (A % 2 ^ (L * q) - B % 2 ^ (L * q)) + 2 ^ (L * q) * k := by
      rw [hk, Nat.mul_add] at hA
      omega
    rw [e3, Nat.add_mul_div_left _ _ hp, Nat.div_eq_of_lt (by omega), hk]
    omega
  show (A - B) / 2 ^ (L * q) % 2 ^ L = A / 2 ^ (L * q) % 2 ^ L - B / 2 ^ (L * q) % 2 ^ L
  rw [e]
  have h3 : B / 2 ^ (L * q) % 2 ^ L ≤ A / 2 ^ (L * q) % 2 ^ L := h2
  generalize A / 2 ^ (L * q) = a at *
  generalize B / 2 ^ (L * q) = b at *
  have ha := Nat.mod_add_div a (2 ^ L)
  have hb := Nat.mod_add_div b (2 ^ L)
  have hq : b / 2 ^ L ≤ a / 2 ^ L := Nat.div_le_div_right hd
  obtain ⟨k, hk⟩ := Nat.exists_eq_add_of_le hq
  have hm : a % 2 ^ L < 2 ^ L := Nat.mod_lt _ (Nat.pow_pos (by omega))
  have e3 : a - b = (a % 2 ^ L - b % 2 ^ L) + 2 ^ L * k := by
    rw [hk, Nat.mul_add] at ha
    omega
  rw [e3, Nat.add_mul_mod_self_left, Nat.mod_eq_of_lt (by omega)]
theorem shl_lane (L x j q : Nat) : lnq L (x <<< (L * j)) q = if q < j then 0 else lnq L x (q - j) := by
  refine Nat.eq_of_testBit_eq fun s => ?_
  by_cases hs : s < L
  · rw [bit_lnq, decide_eq_true hs, Bool.true_and, Nat.testBit_shiftLeft]
    split
    · rename_i h
      have h1 := Nat.mul_le_mul_left L (show q + 1 ≤ j from h)
      rw [Nat.mul_add, Nat.mul_one] at h1
      rw [decide_eq_false (by omega), Bool.false_and, Nat.zero_testBit]
    · rename_i h
      obtain ⟨d, rfl⟩ := Nat.exists_eq_add_of_le (Nat.le_of_not_lt h)
      rw [Nat.mul_add, decide_eq_true (by omega), Bool.true_and, bit_lnq, decide_eq_true hs, Bool.true_and]
      congr 1
      rw [show j + d - j = d by omega]
      omega
  · rw [bit_lnq, decide_eq_false hs, Bool.false_and]
    split
    · rw [Nat.zero_testBit]
    · rw [bit_lnq, decide_eq_false hs, Bool.false_and]
theorem lnq_zero (L q : Nat) : lnq L 0 q = 0 := by rw [lnq, Nat.zero_div, Nat.zero_mod]
theorem lnq_mod {L x N q : Nat} (h : q < N) : lnq L (x % 2 ^ (L * N)) q = lnq L x q := by
  have h1 := Nat.mul_le_mul_left L (show q + 1 ≤ N from h)
  rw [Nat.mul_add, Nat.mul_one] at h1
  refine Nat.eq_of_testBit_eq fun s => ?_
  rw [bit_lnq, bit_lnq]
  by_cases hs : s < L
  · rw [Nat.testBit_mod_two_pow, decide_eq_true (show L * q + s < L * N by omega), Bool.true_and]
  · rw [decide_eq_false hs, Bool.false_and, Bool.false_and]
/-- m in n lanes -/
def repN (L m : Nat) : Nat → Nat
  | 0 => 0
  | n + 1 => repN L m n + m <<< (L * n)
theorem repN_ln {L m : Nat} (hm : m < 2 ^ L) : ∀ n q, lnq L (repN L m n) q = if q < n then m else 0 := by
  have h0 : ∀ q, lnq L m q = if q = 0 then m else 0 := fun q => by
    cases q with
    | zero =>
      rw [if_pos rfl, lnq, Nat.mul_zero, Nat.pow_zero, Nat.div_one, Nat.mod_eq_of_lt hm]
    | succ q =>
      rw [if_neg (by omega), lnq, Nat.div_eq_of_lt, Nat.zero_mod]
      refine Nat.lt_of_lt_of_le hm (Nat.pow_le_pow_right (by omega) ?_)
      exact Nat.le_mul_of_pos_right _ (by omega)
  intro n
  induction n with
  | zero => intro q; rw [if_neg (by omega)]; exact lnq_zero L q
  | succ n ih =>
    have hs : ∀ i, lnq L (m <<< (L * n)) i = if i = n then m else 0 := fun i => by
      rw [shl_lane]
      split
      · rw [if_neg (by omega)]
      · rw [h0]
        by_cases hi : i = n
        · rw [if_pos hi, if_pos (by omega)]
        · rw [if_neg hi, if_neg (by omega)]
    intro q
    rw [repN, add_lane, ih, hs]
    · by_cases h1 : q < n
      · rw [if_pos h1, if_neg (by omega), if_pos (by omega), Nat.add_zero]
      · by_cases h2 : q = n
        · rw [if_neg h1, if_pos h2, if_pos (by omega), Nat.zero_add]
        · rw [if_neg h1, if_neg h2, if_neg (by omega)]
    · intro i _
      rw [ih, hs]
      by_cases h1 : i < n
      · rw [if_pos h1, if_neg (by omega)]; omega
      · rw [if_neg h1]
        split <;> omega
theorem repN_bit {L m n q s : Nat} (hm : m < 2 ^ L) (hs : s < L) : (repN L m n).testBit (L * q + s) = if q < n then m.testBit s else false := by
  have h := bit_lnq L (repN L m n) q s
  rw [repN_ln hm, decide_eq_true hs, Bool.true_and] at h
  rw [← h]
  split
  · rfl
  · exact Nat.zero_testBit s
/-- numbers in lanes, from a function -/
def pkF (L : Nat) (f : Nat → Nat) : Nat → Nat
  | 0 => 0
  | j + 1 => pkF L f j + f j <<< (L * j)
/-- one lane of a product -/
def convS (L F : Nat) (f : Nat → Nat) (n : Nat) : Nat → Nat
  | 0 => 0
  | j + 1 => convS L F f n j + if j ≤ n then f j * lnq L F (n - j) else 0
def sumF (f : Nat → Nat) : Nat → Nat
  | 0 => 0
  | j + 1 => sumF f j + f j
theorem convS_le {L F : Nat} {f : Nat → Nat} {B : Nat} (hF : ∀ q, lnq L F q ≤ B) (n : Nat) : ∀ j, convS L F f n j ≤ sumF f j * B := by
  intro j
  induction j with
  | zero => exact Nat.zero_le _
  | succ j ih =>
    rw [convS, sumF, Nat.add_mul]
    refine Nat.add_le_add ih ?_
    split
    · exact Nat.mul_le_mul_left _ (hF _)
    · exact Nat.zero_le _
theorem sumF_mono (f : Nat → Nat) {i j : Nat} (h : i ≤ j) : sumF f i ≤ sumF f j := by
  induction j with
  | zero => obtain rfl : i = 0 := by omega
            exact Nat.le_refl _
  | succ j ih =>
    rcases Nat.lt_or_ge i (j + 1) with h1 | h1
    · exact Nat.le_trans (ih (by omega)) (Nat.le_add_right _ _)
    · obtain rfl : i = j + 1 := by omega
      exact Nat.le_refl _
theorem conv_lane {L F : Nat} {f : Nat → Nat} {B J : Nat} (hF : ∀ q, lnq L F q ≤ B) (hB : sumF f J * B < 2 ^ L) : ∀ j, j ≤ J → ∀ n, lnq L (F * pkF L f j) n = convS L F f n j := by
  have hle : ∀ j, j ≤ J → sumF f j * B < 2 ^ L := fun j hj => Nat.lt_of_le_of_lt (Nat.mul_le_mul_right B (sumF_mono f hj)) hB
  intro j
  induction j with
  | zero => intro _ n; rw [pkF, Nat.mul_zero, lnq_zero]; rfl
  | succ j ih =>
    intro hj n
    have hj1 := hle (j + 1) hj
    have e : F * pkF L f (j + 1) = F * pkF L f j + (F * f j) <<< (L * j) := by
      rw [pkF, Nat.mul_add, Nat.shiftLeft_eq, Nat.shiftLeft_eq, Nat.mul_assoc]
    have hm : ∀ i, lnq L (F * f j) i = lnq L F i * f j := fun i => mul_lane fun k _ => by
      refine Nat.lt_of_le_of_lt ?_ hj1
      rw [sumF, Nat.add_mul, Nat.mul_comm]
      exact Nat.le_trans (Nat.mul_le_mul_left _ (hF k)) (Nat.le_add_left _ _)
    have hs : ∀ i, lnq L ((F * f j) <<< (L * j)) i = if j ≤ i then f j * lnq L F (i - j) else 0 := fun i => by
      rw [shl_lane]
      by_cases h : j ≤ i
      · rw [if_neg (by omega), if_pos h, hm, Nat.mul_comm]
      · rw [if_pos (by omega), if_neg h]
    rw [e, add_lane, ih (by omega), hs]
    · rfl
    · intro i _
      rw [ih (by omega), hs]
      exact Nat.lt_of_le_of_lt (convS_le (j := j + 1) hF i) hj1
end Go.Proofs.Ytnmomigaedfdoaa
namespace Go.Proofs.Ytnmomigaedfdoaa
set_option maxRecDepth 100000

/-- z units of 1/T are at most s e^-y -/
def GL (T z : Nat) (s y : Rat) : Prop := ∀ m, (z : Rat) * eq_ y m ≤ (T : Rat) * s
/-- z units of 1/T are at least s e^-y -/
def GU (T z : Nat) (s y : Rat) : Prop := ∃ m, (T : Rat) * s ≤ (z : Rat) * eq_ y m
section
variable {T z z' : Nat} {s s' y y' : Rat}
theorem GL.add (h : GL T z s y) (h' : GL T z' s' y) : GL T (z + z') (s + s') y := fun m => by
  have h1 := h m
  have h2 := h' m
  rw [Rat.natCast_add, Rat.mul_add, Rat.add_mul]
  grind
theorem GU.up (hy : 0 ≤ y) (h : GU T z s y) : ∃ m, ∀ k, m ≤ k → (T : Rat) * s ≤ (z : Rat) * eq_ y k := by
  obtain ⟨m, hm⟩ := h
  exact ⟨m, fun k hk => Rat.le_trans hm (mul_le_l (natR_nn z) (eq_mono hy hk))⟩
theorem GU.add (hy : 0 ≤ y) (h : GU T z s y) (h' : GU T z' s' y) : GU T (z + z') (s + s') y := by
  obtain ⟨m, hm⟩ := h.up hy
  obtain ⟨k, hk⟩ := h'.up hy
  have h1 := hm (max m k) (by omega)
  have h2 := hk (max m k) (by omega)
  refine ⟨max m k, ?_⟩
  rw [Rat.natCast_add, Rat.mul_add, Rat.add_mul]
  grind
theorem GL.mono (hy : 0 ≤ y) (h : GL T z' s y) (hz : z ≤ z') : GL T z s y := fun m =>
  Rat.le_trans (Rat.mul_le_mul_of_nonneg_right (by exact_mod_cast hz) (eq_nn hy m)) (h m)
theorem GL.more (h : GL T z s y) (hs : s ≤ s') : GL T z s' y := fun m => Rat.le_trans (h m) (mul_le_l (natR_nn T) hs)
theorem GU.mono (hy : 0 ≤ y) (h : GU T z s y) (hz : z ≤ z') : GU T z' s y := by
  obtain ⟨m, hm⟩ := h
  exact ⟨m, Rat.le_trans hm (Rat.mul_le_mul_of_nonneg_right (by exact_mod_cast hz) (eq_nn hy m))⟩
theorem GU.less (h : GU T z s' y) (hs : s ≤ s') : GU T z s y := by
  obtain ⟨m, hm⟩ := h
  exact ⟨m, Rat.le_trans (mul_le_l (natR_nn T) hs) hm⟩
theorem GL.mul (hy : 0 ≤ y) (hy' : 0 ≤ y') (_hs : 0 ≤ s) (h : GL T z s y) (h' : GL T z' s' y') : GL (T * T) (z * z') (s * s') (y + y') := fun m => by
  have h1 := eq_prod_le hy hy' m
  have h2 := h m
  have h3 := h' m
  have n1 := eq_nn hy m
  have n2 := eq_nn hy' m
  have a1 : (z : Rat) * (z' : Rat) * eq_ (y + y') m ≤ (z : Rat) * (z' : Rat) * (eq_ y m * eq_ y' m) := mul_le_l (Rat.mul_nonneg (natR_nn z) (natR_nn z')) h1
  have a2 : (z : Rat) * eq_ y m * ((z' : Rat) * eq_ y' m) ≤ (T : Rat) * s * ((T : Rat) * s') := mul_le_mul_nn (Rat.mul_nonneg (natR_nn z) n1) (Rat.le_trans (Rat.mul_nonneg (natR_nn z') n2) h3) h2 h3
  rw [Rat.natCast_mul, Rat.natCast_mul]
  have e : (z : Rat) * eq_ y m * ((z' : Rat) * eq_ y' m) = (z : Rat) * (z' : Rat) * (eq_ y m * eq_ y' m) := by grind
  have e2 : (T : Rat) * s * ((T : Rat) * s') = (T : Rat) * (T : Rat) * (s * s') := by grind
  rw [e, e2] at a2
  exact Rat.le_trans a1 a2
theorem GU.mul (hy : 0 ≤ y) (hy' : 0 ≤ y') (hs : 0 ≤ s) (_hs' : 0 ≤ s') (h : GU T z s y) (h' : GU T z' s' y') : GU (T * T) (z * z') (s * s') (y + y') := by
  obtain ⟨m, h2⟩ := h
  obtain ⟨k, h3⟩ := h'
  have h1 := eq_prod_ge hy hy' m k
  have n1 := eq_nn hy m
  have n2 := eq_nn hy' k
  refine ⟨m + k, ?_⟩
  have a1 : (z : Rat) * (z' : Rat) * (eq_ y m * eq_ y' k) ≤ (z : Rat) * (z' : Rat) * eq_ (y + y') (m + k) := mul_le_l (Rat.mul_nonneg (natR_nn z) (natR_nn z')) h1
  have a2 : (T : Rat) * s * ((T : Rat) * s') ≤ (z : Rat) * eq_ y m * ((z' : Rat) * eq_ y' k) := mul_le_mul_nn (Rat.mul_nonneg (natR_nn T) hs) (Rat.mul_nonneg (natR_nn z') n2) h2 h3
  rw [Rat.natCast_mul, Rat.natCast_mul]
  have e : (z : Rat) * eq_ y m * ((z' : Rat) * eq_ y' k) = (z : Rat) * (z' : Rat) * (eq_ y m * eq_ y' k) := by grind
  have e2 : (T : Rat) * s * ((T : Rat) * s') = (T : Rat) * (T : Rat) * (s * s') := by grind
  rw [e, e2] at a2
  exact Rat.le_trans a2 a1
theorem GL.scale (hT : 0 < T) (hy : 0 ≤ y) {w : Nat} (h : GL (T * T) z s y) (hw : w * T ≤ z) : GL T w s y := fun m => by
  have h1 := h m
  have hw' : (w : Rat) * (T : Rat) ≤ (z : Rat) := by exact_mod_cast hw
  have hT' : (0 : Rat) < (T : Rat) := by exact_mod_cast hT
  have a := Rat.mul_le_mul_of_nonneg_right hw' (eq_nn hy m)
  rw [Rat.natCast_mul] at h1
  refine Rat.le_of_mul_le_mul_right (c := (T : Rat)) ?_ hT'
  have e1 : (w : Rat) * eq_ y m * (T : Rat) = (w : Rat) * (T : Rat) * eq_ y m := by grind
  have e2 : (T : Rat) * s * (T : Rat) = (T : Rat) * (T : Rat) * s := by grind
  rw [e1, e2]
  exact Rat.le_trans a h1
theorem GU.scale (hT : 0 < T) (hy : 0 ≤ y) {w : Nat} (h : GU (T * T) z s y) (hw : z ≤ w * T) : GU T w s y := by
  obtain ⟨m, h1⟩ := h
  refine ⟨m, ?_⟩
  have hw' : (z : Rat) ≤ (w : Rat) * (T : Rat) := by exact_mod_cast hw
  have hT' : (0 : Rat) < (T : Rat) := by exact_mod_cast hT
  have a := Rat.mul_le_mul_of_nonneg_right hw' (eq_nn hy m)
  rw [Rat.natCast_mul] at h1
  refine Rat.le_of_mul_le_mul_right (c := (T : Rat)) ?_ hT'
  have e1 : (w : Rat) * eq_ y m * (T : Rat) = (w : Rat) * (T : Rat) * eq_ y m := by grind
  have e2 : (T : Rat) * s * (T : Rat) = (T : Rat) * (T : Rat) * s := by grind
  rw [e1, e2]
  exact Rat.le_trans h1 a
end
/-- e^(-1/d) / (d^j j!) in units of 2^-P -/
def kapF (P d j : Nat) : Nat := c0 P d / facD d j
section
variable {P d : Nat}
theorem inv_nn (hd : 0 < d) : (0 : Rat) ≤ 1 / (d : Rat) := by
  have hd1 : (1 : Rat) ≤ (d : Rat) := by exact_mod_cast hd
  rw [Rat.div_def, Rat.one_mul]; exact Rat.le_of_lt (Rat.inv_pos.2 (by grind))
theorem inv_le (hd : 0 < d) : 1 / (d : Rat) ≤ 1 := by
  have hd1 : (1 : Rat) ≤ (d : Rat) := by exact_mod_cast hd
  have hh : (1 / (d : Rat)) * (d : Rat) = 1 := Rat.div_mul_cancel (by grind)
  have := mul_le_l (inv_nn hd) hd1
  grind
theorem kap_lo (hd : 0 < d) (j : Nat) : GL (2 ^ P) (kapF P d j) (tq (1 / (d : Rat)) j) (1 / (d : Rat)) := fun m => by
  have h1 := c0_lo (P := P) hd m
  have h2 := tq_fac hd j
  have h3 : kapF P d j * facD d j ≤ c0 P d := Nat.div_mul_le_self _ _
  have h4 : (kapF P d j : Rat) * (facD d j : Rat) ≤ (c0 P d : Rat) := by exact_mod_cast h3
  have hf : (0 : Rat) < (facD d j : Rat) := by exact_mod_cast facD_pos hd j
  have n1 := eq_nn (inv_nn hd) m
  have a := Rat.mul_le_mul_of_nonneg_right h4 n1
  refine Rat.le_of_mul_le_mul_right (c := (facD d j : Rat)) ?_ hf
  have e1 : (kapF P d j : Rat) * eq_ (1 / (d : Rat)) m * (facD d j : Rat) = (kapF P d j : Rat) * (facD d j : Rat) * eq_ (1 / (d : Rat)) m := by grind
  have e2 : ((2 ^ P : Nat) : Rat) * tq (1 / (d : Rat)) j * (facD d j : Rat) = ((2 ^ P : Nat) : Rat) := by rw [Rat.mul_assoc, h2, Rat.mul_one]
  rw [e1, e2]
  exact Rat.le_trans a h1
theorem kap_hi (hd : 0 < d) (h : 2 ^ P * facD d 40 ≤ (c0 P d + 2) * serN d 40) (j : Nat) : GU (2 ^ P) (kapF P d j + 3) (tq (1 / (d : Rat)) j) (1 / (d : Rat)) := by
  obtain ⟨m, h1⟩ := c0_hi hd h
  refine ⟨m, ?_⟩
  have h2 := tq_fac hd j
  have h3 : c0 P d + 2 ≤ (kapF P d j + 3) * facD d j := by
    have hp := facD_pos hd j
    have a := Nat.div_add_mod (c0 P d) (facD d j)
    have b := Nat.mod_lt (c0 P d) hp
    have e : (kapF P d j + 3) * facD d j = facD d j * (c0 P d / facD d j) + 3 * facD d j := by rw [kapF]; grind
    omega
  have h4 : ((c0 P d + 2 : Nat) : Rat) ≤ ((kapF P d j + 3 : Nat) : Rat) * (facD d j : Rat) := by exact_mod_cast h3
  have hf : (0 : Rat) < (facD d j : Rat) := by exact_mod_cast facD_pos hd j
  have n1 := eq_nn (inv_nn hd) m
  have a := Rat.mul_le_mul_of_nonneg_right h4 n1
  refine Rat.le_of_mul_le_mul_right (c := (facD d j : Rat)) ?_ hf
  have e1 : ((kapF P d j + 3 : Nat) : Rat) * eq_ (1 / (d : Rat)) m * (facD d j : Rat) = ((kapF P d j + 3 : Nat) : Rat) * (facD d j : Rat) * eq_ (1 / (d : Rat)) m := by grind
  have e2 : ((2 ^ P : Nat) : Rat) * tq (1 / (d : Rat)) j * (facD d j : Rat) = ((2 ^ P : Nat) : Rat) := by rw [Rat.mul_assoc, h2, Rat.mul_one]
  rw [e1, e2]
  exact Rat.le_trans h1 a
theorem kap_sums (hd : 0 < d) : ∀ J, GL (2 ^ P) (sumF (kapF P d) J) (eq_ (1 / (d : Rat)) J) (1 / (d : Rat)) := by
  intro J
  induction J with
  | zero => intro m; show ((0 : Nat) : Rat) * _ ≤ _ * (0 : Rat); grind
  | succ J ih => exact ih.add (kap_lo hd J)
theorem kap_sum (hd : 0 < d) (J : Nat) : sumF (kapF P d) J ≤ 2 ^ P := by
  cases J with
  | zero => exact Nat.zero_le _
  | succ J =>
    have h := kap_sums (P := P) hd (J + 1) (J + 1)
    have h1 : 1 ≤ eq_ (1 / (d : Rat)) (J + 1) := by
      have a := eq_mono (inv_nn hd) (show 1 ≤ J + 1 by omega)
      have e : eq_ (1 / (d : Rat)) 1 = 1 := by show (0 : Rat) + 1 = 1; grind
      rw [e] at a; exact a
    have h2 := Rat.le_of_mul_le_mul_right h (by grind)
    exact_mod_cast h2
end
end Go.Proofs.Ytnmomigaedfdoaa
namespace Go.Proofs.Ytnmomigaedfdoaa
set_option maxRecDepth 100000

/-- the two floors agree -/
theorem agree2 {x : Rat} {p I L H k lo hi D m : Nat} (h : Enc x p I L H) (hw : 2 ^ p * hi ≤ 2 ^ p * lo + 131072 * H) (hle : lo ≤ hi) (hD : D ≤ 2 ^ 135) (f2 : 2 ^ 135 * lo ≤ (D + 65536) * H) (k2 : k ≤ 63) (hp : p = (k + 48) * 2 ^ 2)
    (hm : m = 0 ∨ (m * 2 ^ (135 - k) + 2 ^ 23 ≤ D ∧ (D - 65536) * L ≤ 2 ^ 135 * hi)) (hf : D + 2 ^ 23 ≤ (m + 1) * 2 ^ (135 - k)) : lo * 2 ^ k / H = hi * 2 ^ k / L := by
  obtain ⟨T, hT⟩ : ∃ T, 2 ^ p = T := ⟨_, rfl⟩
  obtain ⟨R, hR⟩ : ∃ R, 2 ^ (135 - k) = R := ⟨_, rfl⟩
  obtain ⟨Z, hZ⟩ : ∃ Z, (2 : Nat) ^ 135 = Z := ⟨_, rfl⟩
  obtain ⟨K, hK⟩ : ∃ K, (2 : Nat) ^ k = K := ⟨_, rfl⟩
  have hLn : 0 < L := Nat.lt_of_lt_of_le (Nat.pow_pos (by omega)) h.one
  have hHn : 0 < H := Nat.lt_of_lt_of_le hLn h.le
  have r1 : R * K = Z := by rw [← hR, ← hK, ← hZ, ← Nat.pow_add]; congr 1; omega
  have hR0 : 0 < R := by rw [← hR]; exact Nat.pow_pos (by omega)
  have hZ0 : 0 < Z := by rw [← hZ]; exact Nat.pow_pos (by omega)
  have hZ1 : 65536 ≤ Z := by rw [← hZ]; exact Nat.pow_le_pow_right (n := 2) (by omega) (show 16 ≤ 135 by omega)
  have hT0 : 262144 ≤ T := by rw [← hT]; exact Nat.pow_le_pow_right (n := 2) (by omega) (show 18 ≤ p by omega)
  have r4 : 131072 * (32 * Z) ≤ T * 8323072 := by
    have a : 2 ^ 157 ≤ T := by rw [← hT]; exact Nat.pow_le_pow_right (by omega) (by omega)
    have b : 131072 * (32 * Z) ≤ 2 ^ 157 * 8323072 := by rw [← hZ]; decide
    exact Nat.le_trans b (Nat.mul_le_mul_right _ a)
  have e23 : 2 ^ 23 = 8388608 := by decide
  have hwid := h.wid
  have hLH := h.le
  rw [hT] at hw hwid
  rw [hZ] at hD f2 hm
  rw [hR] at hm hf
  rw [e23] at hm hf
  rw [hK]
  clear hT hR hZ hK h e23
  have hH2 : H ≤ 2 * L := by
    have a : 262144 * (H - L) ≤ T * (H - L) := Nat.mul_le_mul_right _ hT0
    have e : T * H = T * L + T * (H - L) := by rw [← Nat.mul_add]; congr 1; omega
    omega
  obtain ⟨W, hW⟩ : ∃ W, H = L + W := ⟨H - L, by omega⟩
  have hTW : T * W ≤ 131072 * (2 * L) := by
    have e : T * H = T * L + T * W := by rw [hW, Nat.mul_add]
    have : 131072 * H ≤ 131072 * (2 * L) := Nat.mul_le_mul_left _ hH2
    omega
  have s3 : 131072 * (32 * Z) * L ≤ T * 8323072 * L := Nat.mul_le_mul_right _ r4
  have hZw : T * (Z * hi) ≤ T * (Z * lo) + Z * (131072 * (2 * L)) := by
    have a := Nat.mul_le_mul_left Z hw
    have b := Nat.mul_le_mul_left (Z * 131072) hH2
    have e1 : Z * (T * hi) = T * (Z * hi) := by grind
    have e2 : Z * (T * lo + 131072 * H) = T * (Z * lo) + Z * 131072 * H := by grind
    have e3 : Z * 131072 * (2 * L) = Z * (131072 * (2 * L)) := by grind
    omega
  have e0 : Z * (131072 * (2 * L)) * 16 = 131072 * (32 * Z) * L := by grind
  have p0 : 0 < Z * (131072 * (2 * L)) := Nat.mul_pos hZ0 (by omega)
  -- (a)
  have ga : m * H ≤ lo * K := by
    rcases hm with h1 | ⟨h1, f1⟩
    · rw [h1, Nat.zero_mul]; exact Nat.zero_le _
    · have s1 : (m * R + 8323072) * L ≤ Z * hi := Nat.le_trans (Nat.mul_le_mul_right _ (by omega)) f1
      have s2 : m * R * (T * W) ≤ Z * (131072 * (2 * L)) := Nat.mul_le_mul (by omega) hTW
      have s4 : T * (m * R * H) ≤ T * (Z * lo) := by
        have e1 : T * (m * R * H) = T * (m * R * L) + m * R * (T * W) := by rw [hW]; grind
        have e2 : T * ((m * R + 8323072) * L) = T * (m * R * L) + T * 8323072 * L := by grind
        have s5 := Nat.mul_le_mul_left T s1
        omega
      have s6 := Nat.le_of_mul_le_mul_left s4 (show 0 < T by omega)
      rw [← r1] at s6
      have e4 : m * R * H = R * (m * H) := by grind
      have e5 : R * K * lo = R * (lo * K) := by grind
      rw [e4, e5] at s6
      exact Nat.le_of_mul_le_mul_left s6 hR0
  -- (b)
  have gb : hi * K < (m + 1) * L := by
    have s1 : (D + 8388608) * L ≤ (m + 1) * R * L := Nat.mul_le_mul_right _ hf
    have s2 : (D + 65536) * (T * W) ≤ 2 * Z * (131072 * (2 * L)) := by
      exact Nat.mul_le_mul (by omega) hTW
    have s4 : T * (Z * hi) < T * ((m + 1) * R * L) := by
      have e1 : T * ((D + 65536) * H) = T * ((D + 65536) * L) + (D + 65536) * (T * W) := by rw [hW]; grind
      have e2 : T * ((D + 8388608) * L) = T * ((D + 65536) * L) + T * 8323072 * L := by grind
      have e3 : 2 * Z * (131072 * (2 * L)) = 2 * (Z * (131072 * (2 * L))) := by grind
      have s5 := Nat.mul_le_mul_left T s1
      have s6 := Nat.mul_le_mul_left T f2
      omega
    have s6 := Nat.lt_of_mul_lt_mul_left s4
    rw [← r1] at s6
    have e4 : (m + 1) * R * L = R * ((m + 1) * L) := by grind
    have e5 : R * K * hi = R * (hi * K) := by grind
    rw [e4, e5] at s6
    exact Nat.lt_of_mul_lt_mul_left s6
  have q1 : m ≤ lo * K / H := (Nat.le_div_iff_mul_le hHn).2 ga
  have q2 : hi * K / L < m + 1 := (Nat.div_lt_iff_lt_mul hLn).2 gb
  have q3 : lo * K / H ≤ hi * K / L := Nat.le_trans (Nat.div_le_div_left hLH hLn) (Nat.div_le_div_right (Nat.mul_le_mul_right K hle))
  omega
/-- q units of 1 / K are at most s e^-x, and q + 1 are more -/
def Flo (K q : Nat) (x : Rat) (s : Nat → Rat) : Prop := ∃ M0, ∀ M, M0 ≤ M → (q : Rat) * eq_ x M ≤ (K : Rat) * s M ∧ (K : Rat) * s M < ((q + 1 : Nat) : Rat) * eq_ x M
section
variable {x : Rat} {p I L H K q lo hi : Nat}
theorem told_hi (h : Enc x p I L H) (hx : 0 ≤ x) (hL : 0 < L) (hq : hi * K / L = q) {s : Rat} (h2 : ((2 ^ p : Nat) : Rat) * s ≤ (hi : Rat)) (M : Nat) (hM : I + 1 ≤ M) : (K : Rat) * s < ((q + 1 : Nat) : Rat) * eq_ x M := by
  have a := Nat.div_add_mod (hi * K) L
  have b := Nat.mod_lt (hi * K) hL
  rw [hq] at a
  have c : hi * K < (q + 1) * L := by rw [Nat.add_mul, Nat.one_mul, Nat.mul_comm q]; omega
  have c' : (hi : Rat) * (K : Rat) < ((q + 1 : Nat) : Rat) * (L : Rat) := by exact_mod_cast c
  have d := mul_le_l (natR_nn (q + 1)) h.lo
  have e := mul_le_l (natR_nn (q + 1)) (mul_le_l (natR_nn (2 ^ p)) (eq_mono hx hM))
  have g := Rat.mul_le_mul_of_nonneg_right h2 (natR_nn K)
  have hT := two_pos p
  generalize ((2 ^ p : Nat) : Rat) = T at *
  generalize ((q + 1 : Nat) : Rat) = q1 at *
  have e1 : (K : Rat) * s * T = T * s * (K : Rat) := by grind
  have e2 : q1 * eq_ x M * T = q1 * (T * eq_ x M) := by grind
  have r : (K : Rat) * s * T < q1 * eq_ x M * T := by
    rw [e1, e2]
    have r2 := Rat.le_trans d e
    generalize q1 * (T * eq_ x M) = u at *
    generalize T * s * (K : Rat) = w at *
    grind
  apply Classical.byContradiction
  intro k
  have k2 := Rat.mul_le_mul_of_nonneg_right (Rat.not_lt.1 k) (Rat.le_of_lt hT)
  grind
theorem told_lo (h : Enc x p I L H) (hq : lo * K / H = q) {s : Rat} (h1 : (lo : Rat) ≤ ((2 ^ p : Nat) : Rat) * s) (M : Nat) : (q : Rat) * eq_ x M ≤ (K : Rat) * s := by
  have a := Nat.div_mul_le_self (lo * K) H
  rw [hq] at a
  have a' : (q : Rat) * (H : Rat) ≤ (lo : Rat) * (K : Rat) := by exact_mod_cast a
  have b := mul_le_l (natR_nn q) (h.up M)
  have g := Rat.mul_le_mul_of_nonneg_right h1 (natR_nn K)
  have hT := two_pos p
  generalize ((2 ^ p : Nat) : Rat) = T at *
  refine Rat.le_of_mul_le_mul_right (c := T) ?_ hT
  have e1 : (K : Rat) * s * T = T * s * (K : Rat) := by grind
  have e2 : (q : Rat) * eq_ x M * T = (q : Rat) * (T * eq_ x M) := by grind
  rw [e1, e2]
  exact Rat.le_trans b (Rat.le_trans a' g)
/-- a number s e^-x -/
theorem told_c (h : Enc x p I L H) (hx : 0 ≤ x) (hL : 0 < L) (hq : lo * K / H = q) (hq2 : hi * K / L = q) {s : Rat} (h1 : (lo : Rat) ≤ ((2 ^ p : Nat) : Rat) * s) (h2 : ((2 ^ p : Nat) : Rat) * s ≤ (hi : Rat)) : Flo K q x (fun _ => s) :=
  ⟨I + 1, fun M hM => ⟨told_lo h hq h1 M, told_hi h hx hL hq2 h2 M hM⟩⟩
/-- 1 - c e^-x -/
theorem told_t (h : Enc x p I L H) (hx : 0 ≤ x) (hL : 0 < L) (hq : lo * K / H = q) (hq2 : hi * K / L = q) {c : Rat} (hc : 0 ≤ c) (h1 : (lo : Rat) ≤ ((2 ^ p : Nat) : Rat) * (eq_ x (I + 1) - c)) (h2 : ∀ M, ((2 ^ p : Nat) : Rat) * (eq_ x M - c) ≤ (hi : Rat)) : Flo K q x (fun M => eq_ x M - c) := by
  refine ⟨I + 1, fun M hM => ⟨?_, told_hi h hx hL hq2 (h2 M) M hM⟩⟩
  have a := told_lo h hq h1 (I + 1)
  have b := eq_mono hx hM
  have o := eq_one_le hx I
  have hqK : (q : Rat) ≤ (K : Rat) := by
    refine Rat.le_of_mul_le_mul_right (c := eq_ x (I + 1)) ?_ (by grind)
    have := Rat.mul_nonneg (natR_nn K) hc
    grind
  have d := mul_le_l (show (0 : Rat) ≤ (K : Rat) - (q : Rat) by grind) b
  show (q : Rat) * eq_ x M ≤ (K : Rat) * (eq_ x M - c)
  grind
end
/-- which precision tells -/
theorem floorM_some {num den n k kind : Nat} (h2 : (fAt num den n k kind ((k + 48) * 2 ^ 2)).1 = (fAt num den n k kind ((k + 48) * 2 ^ 2)).2) :
    ∃ j, j ≤ 2 ∧ (fAt num den n k kind ((k + 48) * 2 ^ j)).1 = (fAt num den n k kind ((k + 48) * 2 ^ j)).2 ∧ floorM num den n k kind = (fAt num den n k kind ((k + 48) * 2 ^ j)).1 := by
  by_cases h0 : (fAt num den n k kind ((k + 48) * 2 ^ 0)).1 = (fAt num den n k kind ((k + 48) * 2 ^ 0)).2
  · exact ⟨0, by omega, h0, floorM_at (by omega) (fun i hi => by omega) h0⟩
  · by_cases h1 : (fAt num den n k kind ((k + 48) * 2 ^ 1)).1 = (fAt num den n k kind ((k + 48) * 2 ^ 1)).2
    · exact ⟨1, by omega, h1, floorM_at (by omega) (fun i hi => (show i = 0 by omega) ▸ h0) h1⟩
    · refine ⟨2, by omega, h2, floorM_at (by omega) (fun i hi => ?_) h2⟩
      rcases (show i = 0 ∨ i = 1 by omega) with rfl | rfl
      · exact h0
      · exact h1
end Go.Proofs.Ytnmomigaedfdoaa
