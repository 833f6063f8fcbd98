/- The order of rational numbers, as Cmp tells it. No program in sight. -/
import Derived.Test.YtlcolmifmhdboaaFrcU
namespace Go.Proofs.Ytlcolmifmhdboaa

set_option maxRecDepth 100000 in
theorem cmpQ_lt {p q : Rat} (h : p < q) : cmpQ p q = -1 := by rw [cmpQ, if_pos h]
set_option maxRecDepth 100000 in
theorem cmpQ_gt {p q : Rat} (h : q < p) : cmpQ p q = 1 := by rw [cmpQ, if_neg (by grind), if_pos h]
set_option maxRecDepth 100000 in
theorem cmpQ_eq {p q : Rat} (h : p = q) : cmpQ p q = 0 := by subst h; rw [cmpQ, if_neg (by grind), if_neg (by grind)]
set_option maxRecDepth 100000 in
theorem tri (p q : Rat) : p < q ∨ p = q ∨ q < p := by grind
set_option maxRecDepth 100000 in
theorem cmpQ_cases (p q : Rat) : (p < q ∧ cmpQ p q = -1) ∨ (p = q ∧ cmpQ p q = 0) ∨ (q < p ∧ cmpQ p q = 1) := by
  rcases tri p q with h | h | h
  · exact .inl ⟨h, cmpQ_lt h⟩
  · exact .inr (.inl ⟨h, cmpQ_eq h⟩)
  · exact .inr (.inr ⟨h, cmpQ_gt h⟩)
set_option maxRecDepth 100000 in
theorem cmpQ_swap (p q : Rat) : cmpQ q p = - cmpQ p q := by
  rcases tri p q with h | h | h
  · rw [cmpQ_lt h, cmpQ_gt h]; rfl
  · rw [cmpQ_eq h, cmpQ_eq h.symm]; rfl
  · rw [cmpQ_gt h, cmpQ_lt h]
set_option maxRecDepth 100000 in
theorem cmpQ_add (p q r : Rat) : cmpQ (p + r) (q + r) = cmpQ p q := by
  rcases tri p q with h | h | h
  · rw [cmpQ_lt h, cmpQ_lt (by grind)]
  · rw [cmpQ_eq h, cmpQ_eq (by rw [h])]
  · rw [cmpQ_gt h, cmpQ_gt (by grind)]
set_option maxRecDepth 100000 in
theorem mul_lt_pos {p q r : Rat} (h : p < q) (hr : 0 < r) : p * r < q * r := Rat.mul_lt_mul_of_pos_right h hr
set_option maxRecDepth 100000 in
theorem mul_lt_neg {p q r : Rat} (h : p < q) (hr : r < 0) : q * r < p * r := by
  have := mul_lt_pos h (r := -r) (by grind)
  grind
set_option maxRecDepth 100000 in
theorem cmpQ_mul (p q r : Rat) : cmpQ (p * r) (q * r) = cmpQ p q * cmpQ r 0 := by
  rcases tri r 0 with hr | hr | hr
  · rw [cmpQ_lt hr]
    rcases tri p q with h | h | h
    · rw [cmpQ_lt h, cmpQ_gt (mul_lt_neg h hr)]; rfl
    · rw [cmpQ_eq h, cmpQ_eq (by rw [h])]; rfl
    · rw [cmpQ_gt h, cmpQ_lt (mul_lt_neg h hr)]; rfl
  · rw [cmpQ_eq hr, Int.mul_zero, cmpQ_eq (by rw [hr, Rat.mul_zero, Rat.mul_zero])]
  · rw [cmpQ_gt hr, Int.mul_one]
    rcases tri p q with h | h | h
    · rw [cmpQ_lt h, cmpQ_lt (mul_lt_pos h hr)]
    · rw [cmpQ_eq h, cmpQ_eq (by rw [h])]
    · rw [cmpQ_gt h, cmpQ_gt (mul_lt_pos h hr)]
set_option maxRecDepth 100000 in
/-- the nine ways in which three numbers can lie -/
theorem cmpQ_three (p q r : Rat) : (cmpQ p q = -1 ∨ cmpQ p q = 0 ∨ cmpQ p q = 1) ∧ (cmpQ q r = -1 ∨ cmpQ q r = 0 ∨ cmpQ q r = 1) ∧ (cmpQ p r = -1 ∨ cmpQ p r = 0 ∨ cmpQ p r = 1) ∧
    (cmpQ p q ≤ 0 → cmpQ q r ≤ 0 → cmpQ p r ≤ 0) ∧ (0 ≤ cmpQ p q → 0 ≤ cmpQ q r → 0 ≤ cmpQ p r) := by
  rcases cmpQ_cases p q with ⟨h1, e1⟩ | ⟨h1, e1⟩ | ⟨h1, e1⟩ <;> rcases cmpQ_cases q r with ⟨h2, e2⟩ | ⟨h2, e2⟩ | ⟨h2, e2⟩ <;> rcases cmpQ_cases p r with ⟨h3, e3⟩ | ⟨h3, e3⟩ | ⟨h3, e3⟩ <;> rw [e1, e2, e3] <;>
    first | (refine ⟨?_, ?_, ?_, ?_, ?_⟩ <;> omega) | (exfalso; grind)
end Go.Proofs.Ytlcolmifmhdboaa
