/- The sums of expo's series and the exponential, and what floor tells of it. No program in sight. -/
import Derived.Test.YtnmomigaedfdoaaEnE
namespace Go.Proofs.Ytnmomigaedfdoaa
set_option maxRecDepth 100000

section
variable {num den : Nat}
theorem allE_enc (h0 : 0 < den) (one : Nat) : ∀ m, ((allE num den one m).lo : Rat) ≤ (one : Rat) * eq_ (xR num den) m ∧ (one : Rat) * eq_ (xR num den) m ≤ ((allE num den one m).hi : Rat) := by
  intro m
  induction m with
  | zero => exact ⟨by show ((0 : Nat) : Rat) ≤ (one : Rat) * 0; grind, by show (one : Rat) * 0 ≤ ((0 : Nat) : Rat); grind⟩
  | succ m ih =>
    have h := tE_enc (num := num) h0 one m
    have e : eq_ (xR num den) (m + 1) = eq_ (xR num den) m + tq (xR num den) m := rfl
    have e1 : (((allE num den one (m + 1)).lo : Nat) : Rat) = ((allE num den one m).lo : Rat) + ((tE num den one m).lo : Rat) := Rat.natCast_add _ _
    have e2 : (((allE num den one (m + 1)).hi : Nat) : Rat) = ((allE num den one m).hi : Rat) + ((tE num den one m).hi : Rat) := Rat.natCast_add _ _
    rw [e, e1, e2]
    grind
theorem allE_wid (h0 : 0 < den) (one : Nat) : ∀ m, ((allE num den one m).hi : Rat) ≤ ((allE num den one m).lo : Rat) + 2 * (m : Rat) * eq_ (xR num den) m := by
  have hx := xR_nn (num := num) h0
  intro m
  induction m with
  | zero => show ((0 : Nat) : Rat) ≤ ((0 : Nat) : Rat) + 2 * ((0 : Nat) : Rat) * 0; grind
  | succ m ih =>
    have h := tE_wid (num := num) h0 one m
    have e1 : (((allE num den one (m + 1)).lo : Nat) : Rat) = ((allE num den one m).lo : Rat) + ((tE num den one m).lo : Rat) := Rat.natCast_add _ _
    have e2 : (((allE num den one (m + 1)).hi : Nat) : Rat) = ((allE num den one m).hi : Rat) + ((tE num den one m).hi : Rat) := Rat.natCast_add _ _
    have h2 := eq_mono hx (show m ≤ m + 1 by omega)
    have h3 := mul_le_l (show (0 : Rat) ≤ 2 * (m : Rat) by have := natR_nn m; grind) h2
    have c : ((m + 1 : Nat) : Rat) = (m : Rat) + 1 := Rat.natCast_add _ _
    rw [e1, e2, c]
    generalize eq_ (xR num den) (m + 1) = S1 at *
    generalize eq_ (xR num den) m = S0 at *
    generalize (m : Rat) = k at *
    have e3 : 2 * (k + 1) * S1 = 2 * k * S1 + 2 * S1 := by grind
    rw [e3]
    grind
/-- behind twice x the terms fall at least by half -/
theorem tq_half2 {x : Rat} (hx : 0 ≤ x) {i : Nat} (h : 2 * x ≤ ((i + 1 : Nat) : Rat)) : 2 * tq x (i + 1) ≤ tq x i := by
  have e := tq_step x i
  have hk := nat_pos i
  have n0 := tq_nn hx i
  generalize ((i + 1 : Nat) : Rat) = k at *
  generalize tq x (i + 1) = t1 at *
  generalize tq x i = t0 at *
  refine Rat.le_of_mul_le_mul_right (c := k) ?_ hk
  have e1 : 2 * t1 * k = 2 * x * t0 := by
    have : 2 * t1 * k = 2 * (k * t1) := by grind
    rw [this, e]; grind
  have h2 := Rat.mul_le_mul_of_nonneg_right h n0
  rw [e1]
  have e2 : t0 * k = k * t0 := by grind
  rw [e2]; exact h2
theorem eq_tail2 {x : Rat} (hx : 0 ≤ x) {m : Nat} (h : 2 * x ≤ ((m + 1 : Nat) : Rat)) : ∀ k, eq_ x (m + 1 + k) + tq x (m + k) ≤ eq_ x (m + 1) + tq x m := by
  intro k
  induction k with
  | zero => exact Rat.le_refl
  | succ k ih =>
    have e : eq_ x (m + 1 + (k + 1)) = eq_ x (m + 1 + k) + tq x (m + 1 + k) := rfl
    have c : ((m + 1 : Nat) : Rat) ≤ ((m + k + 1 : Nat) : Rat) := by exact_mod_cast (show m + 1 ≤ m + k + 1 by omega)
    have h2 := tq_half2 hx (i := m + k) (Rat.le_trans h c)
    rw [show m + k + 1 = m + 1 + k by omega] at h2
    rw [e, show m + (k + 1) = m + 1 + k by omega]
    grind
theorem eq_bound2 {x : Rat} (hx : 0 ≤ x) {m : Nat} (h : 2 * x ≤ ((m + 1 : Nat) : Rat)) (M : Nat) : eq_ x M ≤ eq_ x (m + 1) + tq x m := by
  have n0 := tq_nn hx m
  rcases Nat.le_total M (m + 1) with h2 | h2
  · have := eq_mono hx h2
    grind
  · obtain ⟨d, rfl⟩ := Nat.exists_eq_add_of_le h2
    have := eq_tail2 hx h d
    have := tq_nn hx (m + d)
    grind
/-- what the sums at a stop say: L and H stand for the two sums of all terms -/
structure Enc (x : Rat) (p I L H : Nat) : Prop where
  up : ∀ M, ((2 ^ p : Nat) : Rat) * eq_ x M ≤ (H : Rat)
  lo : (L : Rat) ≤ ((2 ^ p : Nat) : Rat) * eq_ x (I + 1)
  wid : 2 ^ p * H ≤ 2 ^ p * L + 131072 * H
  one : 2 ^ p ≤ L
  le : L ≤ H
theorem enc_stop {n p : Nat} (hx : XOk num den) (hn : n ≤ 256) : Enc (xR num den) p (stopI num den (2 ^ p) n) (sAE num den (2 ^ p) (stopI num den (2 ^ p) n)).lo (sAE num den (2 ^ p) (stopI num den (2 ^ p) n)).hi ∨ ¬ (tP num den (2 ^ p) (stopI num den (2 ^ p) n) = tE num den (2 ^ p) (stopI num den (2 ^ p) n)) := by
  by_cases ht : tP num den (2 ^ p) (stopI num den (2 ^ p) n) = tE num den (2 ^ p) (stopI num den (2 ^ p) n)
  · left
    have h0 := hx.d0
    obtain ⟨⟨_, hI1, hI2⟩, hI3, _⟩ := stop_spec (2 ^ p) hx hn
    rw [ht] at hI2
    generalize stopI num den (2 ^ p) n = I at *
    have hxn := xR_nn (num := num) h0
    have e1 : (sAE num den (2 ^ p) I).lo = (allE num den (2 ^ p) (I + 1)).lo := rfl
    have e2 : (sAE num den (2 ^ p) I).hi = (allE num den (2 ^ p) (I + 1)).hi + (tE num den (2 ^ p) I).hi := rfl
    obtain ⟨a1, a2⟩ := allE_enc (num := num) h0 (2 ^ p) (I + 1)
    have a3 := allE_wid (num := num) h0 (2 ^ p) (I + 1)
    have a4 := (tE_enc (num := num) h0 (2 ^ p) I).2
    have h2x : 2 * xR num den ≤ ((I + 1 : Nat) : Rat) := by
      have h5 := Nat.div_add_mod num den
      have h6 := Nat.mod_lt num h0
      have h7 : 2 * num ≤ (I + 1) * den := by
        have : (2 * (num / den) + 2) * den ≤ (I + 1) * den := Nat.mul_le_mul_right _ (by omega)
        have e : (2 * (num / den) + 2) * den = 2 * (den * (num / den)) + 2 * den := by grind
        omega
      have h8 : 2 * (num : Rat) ≤ ((I + 1 : Nat) : Rat) * (den : Rat) := by exact_mod_cast h7
      have hd : (0 : Rat) < (den : Rat) := by exact_mod_cast h0
      refine Rat.le_of_mul_le_mul_right (c := (den : Rat)) ?_ hd
      have e : 2 * xR num den * (den : Rat) = 2 * (num : Rat) := by rw [Rat.mul_assoc, xR_mul h0]
      rw [e]; exact h8
    have hT := two_pos p
    have cH : (((sAE num den (2 ^ p) I).hi : Nat) : Rat) = ((allE num den (2 ^ p) (I + 1)).hi : Rat) + ((tE num den (2 ^ p) I).hi : Rat) := Rat.natCast_add _ _
    have hup : ∀ M, ((2 ^ p : Nat) : Rat) * eq_ (xR num den) M ≤ ((sAE num den (2 ^ p) I).hi : Rat) := fun M => by
      have h1 := mul_le_l (Rat.le_of_lt hT) (eq_bound2 hxn h2x M)
      rw [cH]
      grind
    have hone : 2 ^ p ≤ (sAE num den (2 ^ p) I).lo := by rw [e1]; exact (tE_in_all num den (2 ^ p) (i := 0) (m := I + 1) (by omega)).1
    have hle : (sAE num den (2 ^ p) I).lo ≤ (sAE num den (2 ^ p) I).hi := by
      rw [e1, e2]
      have : ((allE num den (2 ^ p) (I + 1)).lo : Rat) ≤ ((allE num den (2 ^ p) (I + 1)).hi : Rat) := Rat.le_trans a1 a2
      have : (allE num den (2 ^ p) (I + 1)).lo ≤ (allE num den (2 ^ p) (I + 1)).hi := by exact_mod_cast this
      omega
    refine ⟨hup, by rw [e1]; exact a1, ?_, hone, hle⟩
    have k1 := hup (I + 1)
    have cl : (((sAE num den (2 ^ p) I).lo : Nat) : Rat) = ((allE num den (2 ^ p) (I + 1)).lo : Rat) := rfl
    have ht1 : ((tE num den (2 ^ p) I).hi : Rat) ≤ 1 := by exact_mod_cast (show (tE num den (2 ^ p) I).hi ≤ 1 by omega)
    have hTH : ((2 ^ p : Nat) : Rat) ≤ ((sAE num den (2 ^ p) I).hi : Rat) := by exact_mod_cast Nat.le_trans hone hle
    have cI : 2 * ((I + 1 : Nat) : Rat) + 1 ≤ 131072 := by exact_mod_cast (show 2 * (I + 1) + 1 ≤ 131072 by omega)
    have nI := natR_nn (I + 1)
    suffices hs : ((2 ^ p : Nat) : Rat) * ((sAE num den (2 ^ p) I).hi : Rat) ≤ ((2 ^ p : Nat) : Rat) * ((sAE num den (2 ^ p) I).lo : Rat) + 131072 * ((sAE num den (2 ^ p) I).hi : Rat) by
      exact_mod_cast hs
    have hwid : ((sAE num den (2 ^ p) I).hi : Rat) ≤ ((sAE num den (2 ^ p) I).lo : Rat) + 2 * ((I + 1 : Nat) : Rat) * eq_ (xR num den) (I + 1) + 1 := by rw [cH, cl]; grind
    generalize ((sAE num den (2 ^ p) I).hi : Rat) = H at *
    generalize ((sAE num den (2 ^ p) I).lo : Rat) = L at *
    generalize ((2 ^ p : Nat) : Rat) = T at *
    generalize ((I + 1 : Nat) : Rat) = k at *
    generalize eq_ (xR num den) (I + 1) = S at *
    have g1 := mul_le_l (Rat.le_of_lt hT) hwid
    have g2 : 2 * k * (T * S) ≤ 2 * k * H := mul_le_l (by grind) k1
    have hH : 0 ≤ H := Rat.le_trans (Rat.le_of_lt hT) hTH
    have g3 := Rat.mul_le_mul_of_nonneg_right cI hH
    have e5 : T * (L + 2 * k * S + 1) = T * L + 2 * k * (T * S) + T := by grind
    have e6 : (2 * k + 1) * H = 2 * k * H + H := by grind
    rw [e5] at g1
    rw [e6] at g3
    grind
  · exact Or.inr ht
end
end Go.Proofs.Ytnmomigaedfdoaa
