/- Shifting numbers by limbs and bits: plain arithmetic. -/
import Derived.Test.YtnmomigaedfdoaaBase
import Derived.Test.YtnmomigaedfdoaaDivV
namespace Go.Proofs.Ytnmomigaedfdoaa
set_option maxRecDepth 100000

theorem two_pow_split (k : Nat) : 2 ^ k = pw (k / 32) * 2 ^ (k % 32) := by
  unfold pw
  rw [show (4294967296 : Nat) = 2 ^ 32 from rfl, ← Nat.pow_mul, ← Nat.pow_add, Nat.div_add_mod]
/-- zeros below -/
theorem nv_low_zeros (k : Nat) (O : List Nat) : nv (List.replicate k 0 ++ O) = nv O * pw k := by
  rw [nv_append, nv_replicate, List.length_replicate, Nat.zero_add, Nat.mul_comm]
theorem nv_shift_up {O : List Nat} {m k : Nat} (h : nv O = m * 2 ^ (k % 32)) : nv (List.replicate (k / 32) 0 ++ O) = m * 2 ^ k := by
  rw [nv_low_zeros, h, two_pow_split k, Nat.mul_assoc, Nat.mul_comm (2 ^ (k % 32))]
/-- a limb of a number that is shifted down by whole limbs and some bits -/
theorem down_limb {X : List Nat} (hu : U32 X) {wh s i : Nat} (hs : s < 32) (hi : wh + i < X.length) : (X.getD (wh + i + 1) 0 * 4294967296 + X[wh + i]) / 2 ^ s % 4294967296 = nv X / (pw wh * 2 ^ s) / pw i % 4294967296 := by
  have h1 := nv_drop_div X hu (wh + i) (by omega)
  have hp : 0 < 2 ^ s := Nat.pow_pos (by omega)
  have e : nv X / (pw wh * 2 ^ s) / pw i = nv X / pw (wh + i) / 2 ^ s := by
    rw [Nat.div_div_eq_div_mul, Nat.div_div_eq_div_mul, pw_add]
    congr 1
    rw [Nat.mul_assoc, Nat.mul_comm (2 ^ s), ← Nat.mul_assoc]
  rw [e, h1]
  rcases Nat.lt_or_ge (wh + i + 1) X.length with h2 | h2
  · rw [List.drop_eq_getElem_cons hi, List.drop_eq_getElem_cons h2, nv_cons, nv_cons]
    rw [List.getD_eq_getElem?_getD, List.getElem?_eq_getElem h2, Option.getD_some]
    exact shift_limb (hu.at _ hi) (hu.at _ h2) hs
  · rw [List.drop_eq_getElem_cons hi, List.drop_eq_nil_of_le h2, nv_cons, nv_nil]
    rw [List.getD_eq_getElem?_getD, List.getElem?_eq_none h2, Option.getD_none]
    simp
theorem nv_shift_down {X R : List Nat} (hu : U32 X) {k : Nat} (hk : k / 32 < X.length) (hl : R.length = X.length - k / 32) (h : ∀ t (ht : t < R.length), R[t] = nv X / (pw (k / 32) * 2 ^ (k % 32)) / pw t % 4294967296) : nv R = nv X / 2 ^ k := by
  rw [nv_digits _ _ R hl h, ← two_pow_split]
  apply Nat.mod_eq_of_lt
  rw [Nat.div_lt_iff_lt_mul (Nat.pow_pos (by omega))]
  have h1 := nv_lt hu
  refine Nat.lt_of_lt_of_le h1 ?_
  rw [two_pow_split, ← Nat.mul_assoc, ← pw_add, show X.length - k / 32 + k / 32 = X.length from by omega]
  exact Nat.le_mul_of_pos_right _ (Nat.pow_pos (by omega))
theorem shift_down_far {X : List Nat} (hu : U32 X) {k : Nat} (hk : X.length ≤ k / 32) : nv X / 2 ^ k = 0 := by
  apply Nat.div_eq_of_lt
  have h1 := nv_lt hu
  rw [two_pow_split]
  refine Nat.lt_of_lt_of_le h1 (Nat.le_trans (pw_le hk) (Nat.le_mul_of_pos_right _ (Nat.pow_pos (by omega))))
end Go.Proofs.Ytnmomigaedfdoaa
