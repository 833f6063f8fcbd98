/- Intervals of rational numbers: what the laws without the reference say. No program in sight. -/
import Derived.Test.YtlcolmifmhdboaaOpenI
namespace Go.Proofs.Ytlcolmifmhdboaa

set_option maxRecDepth 100000 in
theorem loL_le (l : List Rat) (q : Rat) : loL l q ≤ q ∧ ∀ p ∈ l, loL l q ≤ p := by
  induction l generalizing q with
  | nil => exact ⟨Rat.le_refl, fun p h => nomatch h⟩
  | cons x l ih =>
    have h := ih (if x ≤ q then x else q)
    rw [loL]
    constructor
    · have := h.1; grind
    · intro p hp
      rcases List.mem_cons.1 hp with rfl | hp
      · have := h.1; grind
      · exact h.2 p hp
set_option maxRecDepth 100000 in
theorem hiL_ge (l : List Rat) (q : Rat) : q ≤ hiL l q ∧ ∀ p ∈ l, p ≤ hiL l q := by
  induction l generalizing q with
  | nil => exact ⟨Rat.le_refl, fun p h => nomatch h⟩
  | cons x l ih =>
    have h := ih (if q ≤ x then x else q)
    rw [hiL]
    constructor
    · have := h.1; grind
    · intro p hp
      rcases List.mem_cons.1 hp with rfl | hp
      · have := h.1; grind
      · exact h.2 p hp
set_option maxRecDepth 100000 in
theorem loP_le {ps : List Rat} {p : Rat} (h : p ∈ ps) : loP ps ≤ p := by
  cases ps with
  | nil => cases h
  | cons x l =>
    rcases List.mem_cons.1 h with rfl | h
    · exact (loL_le l p).1
    · exact (loL_le l x).2 p h
set_option maxRecDepth 100000 in
theorem hiP_ge {ps : List Rat} {p : Rat} (h : p ∈ ps) : p ≤ hiP ps := by
  cases ps with
  | nil => cases h
  | cons x l =>
    rcases List.mem_cons.1 h with rfl | h
    · exact (hiL_ge l p).1
    · exact (hiL_ge l x).2 p h
set_option maxRecDepth 100000 in
theorem loL_mem (l : List Rat) (q : Rat) : loL l q = q ∨ loL l q ∈ l := by
  induction l generalizing q with
  | nil => exact .inl rfl
  | cons x l ih =>
    rw [loL]
    rcases ih (if x ≤ q then x else q) with h | h
    · rw [h]
      by_cases hx : x ≤ q
      · rw [if_pos hx]; exact .inr (by simp)
      · rw [if_neg hx]; exact .inl rfl
    · exact .inr (List.mem_cons_of_mem _ h)
set_option maxRecDepth 100000 in
theorem hiL_mem (l : List Rat) (q : Rat) : hiL l q = q ∨ hiL l q ∈ l := by
  induction l generalizing q with
  | nil => exact .inl rfl
  | cons x l ih =>
    rw [hiL]
    rcases ih (if q ≤ x then x else q) with h | h
    · rw [h]
      by_cases hx : q ≤ x
      · rw [if_pos hx]; exact .inr (by simp)
      · rw [if_neg hx]; exact .inl rfl
    · exact .inr (List.mem_cons_of_mem _ h)
set_option maxRecDepth 100000 in
theorem loP_mem {ps : List Rat} (h : ps ≠ []) : loP ps ∈ ps := by
  cases ps with
  | nil => exact absurd rfl h
  | cons x l =>
    rcases loL_mem l x with h | h
    · show loL l x ∈ _; rw [h]; simp
    · exact List.mem_cons_of_mem _ h
set_option maxRecDepth 100000 in
theorem hiP_mem {ps : List Rat} (h : ps ≠ []) : hiP ps ∈ ps := by
  cases ps with
  | nil => exact absurd rfl h
  | cons x l =>
    rcases hiL_mem l x with h | h
    · show hiL l x ∈ _; rw [h]; simp
    · exact List.mem_cons_of_mem _ h
set_option maxRecDepth 100000 in
theorem lin_lo {a p b : Rat} (t : Rat) (h1 : a ≤ p) (h2 : p ≤ b) : a * t ≤ p * t ∨ b * t ≤ p * t := by
  rcases Rat.le_total (a := 0) (b := t) with h | h
  · exact .inl (Rat.mul_le_mul_of_nonneg_right h1 h)
  · right
    have := Rat.mul_le_mul_of_nonneg_right h2 (c := -t) (by grind)
    rw [Rat.mul_neg, Rat.mul_neg] at this
    grind
set_option maxRecDepth 100000 in
theorem lin_hi {a p b : Rat} (t : Rat) (h1 : a ≤ p) (h2 : p ≤ b) : p * t ≤ a * t ∨ p * t ≤ b * t := by
  rcases Rat.le_total (a := 0) (b := t) with h | h
  · exact .inr (Rat.mul_le_mul_of_nonneg_right h2 h)
  · left
    have := Rat.mul_le_mul_of_nonneg_right h1 (c := -t) (by grind)
    rw [Rat.mul_neg, Rat.mul_neg] at this
    grind
/-- the products of the ends -/
def corn (a b c d : Rat) : List Rat := [c * a, c * b, d * a, d * b]
set_option maxRecDepth 100000 in
theorem corn_lo {a b c d p q : Rat} (h1 : a ≤ p) (h2 : p ≤ b) (h3 : c ≤ q) (h4 : q ≤ d) : loP (corn a b c d) ≤ p * q := by
  have m1 : loP (corn a b c d) ≤ c * a := loP_le (by simp [corn])
  have m2 : loP (corn a b c d) ≤ c * b := loP_le (by simp [corn])
  have m3 : loP (corn a b c d) ≤ d * a := loP_le (by simp [corn])
  have m4 : loP (corn a b c d) ≤ d * b := loP_le (by simp [corn])
  generalize loP (corn a b c d) = m at *
  rw [Rat.mul_comm p q]
  rcases lin_lo p h3 h4 with h | h
  · rw [Rat.mul_comm c p] at h
    rcases lin_lo c h1 h2 with k | k
    · rw [Rat.mul_comm a c] at k; grind
    · rw [Rat.mul_comm b c] at k; grind
  · rw [Rat.mul_comm d p] at h
    rcases lin_lo d h1 h2 with k | k
    · rw [Rat.mul_comm a d] at k; grind
    · rw [Rat.mul_comm b d] at k; grind
set_option maxRecDepth 100000 in
theorem corn_hi {a b c d p q : Rat} (h1 : a ≤ p) (h2 : p ≤ b) (h3 : c ≤ q) (h4 : q ≤ d) : p * q ≤ hiP (corn a b c d) := by
  have m1 : c * a ≤ hiP (corn a b c d) := hiP_ge (by simp [corn])
  have m2 : c * b ≤ hiP (corn a b c d) := hiP_ge (by simp [corn])
  have m3 : d * a ≤ hiP (corn a b c d) := hiP_ge (by simp [corn])
  have m4 : d * b ≤ hiP (corn a b c d) := hiP_ge (by simp [corn])
  generalize hiP (corn a b c d) = m at *
  rw [Rat.mul_comm p q]
  rcases lin_hi p h3 h4 with h | h
  · rw [Rat.mul_comm c p] at h
    rcases lin_hi c h1 h2 with k | k
    · rw [Rat.mul_comm a c] at k; grind
    · rw [Rat.mul_comm b c] at k; grind
  · rw [Rat.mul_comm d p] at h
    rcases lin_hi d h1 h2 with k | k
    · rw [Rat.mul_comm a d] at k; grind
    · rw [Rat.mul_comm b d] at k; grind
set_option maxRecDepth 100000 in
theorem wq_in {a : Ix} {n : Nat} (hv : a.v) (hn : n ≤ 255) : a.lo.q ≤ wq a n ∧ wq a n ≤ a.hi.q := by
  have h0 := at_0 n
  have h1 := at_1 hn
  have hd : 0 ≤ a.hi.q - a.lo.q := by have := hv.2.2; grind
  have e1 := Rat.mul_nonneg hd h0
  have e2 := Rat.mul_le_mul_of_nonneg_left h1 hd
  rw [Rat.mul_one] at e2
  rw [wq]
  generalize (a.hi.q - a.lo.q) * atQ n = z at *
  constructor <;> grind
set_option maxRecDepth 100000 in
theorem wq_mono {a : Ix} {m n : Nat} (hv : a.v) (h : m ≤ n) : wq a m ≤ wq a n := by
  have hd : 0 ≤ a.hi.q - a.lo.q := by have := hv.2.2; grind
  have ha : atQ m ≤ atQ n := by
    have e1 : ∀ k : Nat, atQ k = qv false k 255 := fun k => by rw [atQ, qv, ← Rat.divInt_ofNat]; rfl
    rw [e1, e1, ← Rat.not_lt, qv_lt (by omega) (by omega)]
    simp [sg]; omega
  have e := Rat.mul_le_mul_of_nonneg_left ha hd
  rw [wq, wq]
  generalize (a.hi.q - a.lo.q) * atQ m = y at *
  generalize (a.hi.q - a.lo.q) * atQ n = z at *
  grind
end Go.Proofs.Ytlcolmifmhdboaa
