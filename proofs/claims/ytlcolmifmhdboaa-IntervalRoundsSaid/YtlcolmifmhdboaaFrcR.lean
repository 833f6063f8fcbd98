/- Rounding to multiples of 1/P: what lies below, what above. No program in sight. -/
import Derived.Test.YtlcolmifmhdboaaLwB
import Derived.Test.YtlcolmifmhdboaaRfI
namespace Go.Proofs.Ytlcolmifmhdboaa

set_option maxRecDepth 100000 in
theorem mk_mul (a : Int) {P : Nat} (hP : P ≠ 0) : mkRat a P * (P : Rat) = (a : Rat) := by
  rw [Rat.mkRat_eq_div]
  exact Rat.div_mul_cancel (by intro e; exact hP (Rat.natCast_eq_zero_iff.1 e))
set_option maxRecDepth 100000 in
theorem P_pos {P : Nat} (hP : P ≠ 0) : (0 : Rat) < (P : Rat) := Rat.natCast_pos.2 (Nat.pos_of_ne_zero hP)
set_option maxRecDepth 100000 in
theorem rnd_lo (q : Rat) {P : Nat} (hP : P ≠ 0) : ¬ q < mkRat (q * (P : Rat)).floor P := fun h => by
  have h1 := mul_lt_pos h (P_pos hP)
  rw [mk_mul _ hP] at h1
  have h2 := Rat.floor_le (q * (P : Rat))
  grind
set_option maxRecDepth 100000 in
theorem rnd_next (q : Rat) {P : Nat} (hP : P ≠ 0) : q < mkRat (q * (P : Rat)).floor P + mkRat 1 P := by
  have h2 := Rat.lt_floor_add_one (q * (P : Rat))
  rcases tri q (mkRat (q * (P : Rat)).floor P + mkRat 1 P) with h | h | h
  · exact h
  · exfalso
    have h1 : q * (P : Rat) = (mkRat (q * (P : Rat)).floor P + mkRat 1 P) * (P : Rat) := congrArg (· * (P : Rat)) h
    rw [Rat.add_mul, mk_mul _ hP, mk_mul _ hP] at h1
    rw [Rat.intCast_add] at h2
    grind
  · exfalso
    have h1 := mul_lt_pos h (P_pos hP)
    rw [Rat.add_mul, mk_mul _ hP, mk_mul _ hP] at h1
    rw [Rat.intCast_add] at h2
    grind
set_option maxRecDepth 100000 in
theorem rnd_hi (q : Rat) {P : Nat} (hP : P ≠ 0) : ¬ mkRat (q * (P : Rat)).ceil P < q := fun h => by
  have h1 := mul_lt_pos h (P_pos hP)
  rw [mk_mul _ hP] at h1
  have h2 := (Rat.ceil_le_iff (x := q * (P : Rat)) (y := (q * (P : Rat)).ceil)).1 (Int.le_refl _)
  grind
set_option maxRecDepth 100000 in
theorem rnd_alt (q : Rat) {P : Nat} (_hP : P ≠ 0) : mkRat (q * (P : Rat)).floor P = mkRat (q * (P : Rat)).ceil P ∨ mkRat (q * (P : Rat)).ceil P = mkRat (q * (P : Rat)).floor P + mkRat 1 P := by
  generalize q * (P : Rat) = t
  have h1 := Rat.floor_le t
  have h2 := Rat.lt_floor_add_one t
  have h3 : t.ceil ≤ t.floor + 1 := Rat.ceil_le_iff.2 (by grind)
  have h4 : t.floor ≤ t.ceil := by
    have := (Rat.ceil_le_iff (x := t) (y := t.ceil)).1 (Int.le_refl _)
    have h5 : (t.floor : Rat) ≤ (t.ceil : Rat) := by grind
    exact Rat.intCast_le_intCast.1 h5
  rcases Int.lt_or_le t.floor t.ceil with h | h
  · right
    have e : t.ceil = t.floor + 1 := by omega
    rw [e, Rat.mkRat_eq_div, Rat.mkRat_eq_div, Rat.mkRat_eq_div, Rat.intCast_add, Rat.div_def, Rat.div_def, Rat.div_def, Rat.add_mul]
  · left
    have e : t.ceil = t.floor := by omega
    rw [e]
set_option maxRecDepth 100000 in
theorem den_dvd (a : Int) {P : Nat} (hP : P ≠ 0) : (mkRat a P).den ∣ P := by
  rw [Rat.den_mkRat, if_neg hP]
  exact Nat.div_dvd_of_dvd (Nat.gcd_dvd_left _ _)
end Go.Proofs.Ytlcolmifmhdboaa
