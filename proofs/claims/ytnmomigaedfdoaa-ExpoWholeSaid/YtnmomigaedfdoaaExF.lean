/- The series of expo without overflow: what its terms and sums are up to the precision that fits. No program in sight. The walk of expo.floor. -/
import Derived.Test.YtnmomigaedfdoaaFrA
import Derived.Test.YtnmomigaedfdoaaExE
namespace Go.Proofs.Ytnmomigaedfdoaa
set_option maxRecDepth 100000

/-- the terms as they are without limits -/
def tE (num den one : Nat) : Nat → Pr
  | 0 => ⟨one, one⟩
  | i + 1 => ⟨(tE num den one i).lo * num / (den * (i + 1)), if (tE num den one i).hi * num % (den * (i + 1)) = 0 then (tE num den one i).hi * num / (den * (i + 1)) else (tE num den one i).hi * num / (den * (i + 1)) + 1⟩
/-- no term of a number up to 64 is greater -/
def uB (one : Nat) : Nat → Nat
  | 0 => one
  | i + 1 => 64 * uB one i / (i + 1) + 1
theorem ceil_le {a c : Nat} (b : Nat) (hc : 0 < c) (h : a ≤ b * c) : (if a % c = 0 then a / c else a / c + 1) ≤ b := by
  have h1 := Nat.div_add_mod a c
  split
  · exact Nat.le_of_mul_le_mul_right (Nat.le_trans (Nat.div_mul_le_self a c) h) hc
  · rename_i hm
    have h2 : c * (a / c) < b * c := by omega
    have h3 : a / c < b := Nat.lt_of_mul_lt_mul_right (a := c) (by rw [Nat.mul_comm]; exact h2)
    omega
theorem div_mul_bd {t num den i : Nat} (hx : num ≤ 64 * den) : t * num ≤ (64 * t / (i + 1) + 1) * (den * (i + 1)) := by
  have h1 : t * num ≤ 64 * t * den := by
    have := Nat.mul_le_mul_left t hx
    have e : t * (64 * den) = 64 * t * den := by grind
    omega
  have h2 := Nat.div_add_mod (64 * t) (i + 1)
  have h3 := Nat.mod_lt (64 * t) (show 0 < i + 1 by omega)
  have h4 : 64 * t ≤ (64 * t / (i + 1) + 1) * (i + 1) := by
    have e : (64 * t / (i + 1) + 1) * (i + 1) = (i + 1) * (64 * t / (i + 1)) + (i + 1) := by grind
    omega
  have h5 := Nat.mul_le_mul_right den h4
  have e : (64 * t / (i + 1) + 1) * (i + 1) * den = (64 * t / (i + 1) + 1) * (den * (i + 1)) := by grind
  omega
theorem tE_hi {num den : Nat} (one : Nat) (h0 : 0 < den) (hx : num ≤ 64 * den) : ∀ i, (tE num den one i).hi ≤ uB one i := by
  intro i
  induction i with
  | zero => exact Nat.le_refl _
  | succ i ih =>
    rw [tE, uB]
    refine ceil_le _ (Nat.mul_pos h0 (by omega)) (Nat.le_trans (div_mul_bd (i := i) hx) (Nat.mul_le_mul_right _ ?_))
    have := Nat.div_le_div_right (c := i + 1) (Nat.mul_le_mul_left 64 ih)
    omega
theorem tE_lo_hi (num den one : Nat) : ∀ i, (tE num den one i).lo ≤ (tE num den one i).hi := by
  intro i
  induction i with
  | zero => exact Nat.le_refl _
  | succ i ih =>
    rw [tE]
    have := Nat.div_le_div_right (c := den * (i + 1)) (Nat.mul_le_mul_right num ih)
    show (tE num den one i).lo * num / (den * (i + 1)) ≤ (if (tE num den one i).hi * num % (den * (i + 1)) = 0 then (tE num den one i).hi * num / (den * (i + 1)) else (tE num den one i).hi * num / (den * (i + 1)) + 1)
    split <;> omega
/-- a bound for the bound: one times a constant, and a constant -/
def cB : Nat → Nat
  | 0 => 1
  | i + 1 => (64 * cB i + i) / (i + 1)
def dB : Nat → Nat
  | 0 => 0
  | i + 1 => (64 * dB i + i) / (i + 1) + 1
theorem ceil_add (x y one m : Nat) (hm : 0 < m) : (64 * (one * x + y)) / m ≤ one * ((64 * x + (m - 1)) / m) + (64 * y + (m - 1)) / m := by
  have h1 : ∀ z, 64 * z ≤ m * ((64 * z + (m - 1)) / m) := fun z => by
    have h2 := Nat.div_add_mod (64 * z + (m - 1)) m
    have h3 := Nat.mod_lt (64 * z + (m - 1)) hm
    omega
  have hx := Nat.mul_le_mul_left one (h1 x)
  have hy := h1 y
  refine Nat.div_le_of_le_mul ?_
  have e1 : 64 * (one * x + y) = one * (64 * x) + 64 * y := by grind
  have e2 : m * (one * ((64 * x + (m - 1)) / m) + (64 * y + (m - 1)) / m) = one * (m * ((64 * x + (m - 1)) / m)) + m * ((64 * y + (m - 1)) / m) := by grind
  omega
theorem uB_le (one : Nat) : ∀ i, uB one i ≤ one * cB i + dB i := by
  intro i
  induction i with
  | zero => show one ≤ one * 1 + 0; omega
  | succ i ih =>
    rw [uB, cB, dB]
    have h1 := Nat.div_le_div_right (c := i + 1) (Nat.mul_le_mul_left 64 ih)
    have h2 := ceil_add (cB i) (dB i) one (i + 1) (by omega)
    rw [Nat.add_sub_cancel] at h2
    omega
theorem cdB_low : ∀ i, i ≤ 64 → cB i ≤ 19807040628566084398385987584 ∧ dB i ≤ 19807040628566084398385987584 := by
  have h : (List.range 65).all (fun i => decide (cB i ≤ 19807040628566084398385987584 ∧ dB i ≤ 19807040628566084398385987584)) = true := by decide +kernel
  intro i hi
  have := List.all_eq_true.1 h i (List.mem_range.2 (by omega))
  exact of_decide_eq_true this
theorem cdB_high : ∀ k, cB (64 + k) ≤ 19807040628566084398385987584 ∧ dB (64 + k) ≤ 19807040628566084398385987584 + k := by
  have key : ∀ c k, (64 * c + (64 + k)) / (64 + k + 1) ≤ c := fun c k => by
    refine Nat.le_of_lt_succ ((Nat.div_lt_iff_lt_mul (by omega)).2 ?_)
    have e : (c + 1) * (64 + k + 1) = 64 * c + c * k + c + (64 + k + 1) := by grind
    rw [Nat.succ_eq_add_one, e]; omega
  intro k
  induction k with
  | zero => exact cdB_low 64 (by omega)
  | succ k ih =>
    obtain ⟨h1, h2⟩ := ih
    rw [← Nat.add_assoc, cB, dB]
    have h3 := key (cB (64 + k)) k
    have h4 := key (dB (64 + k)) k
    exact ⟨by omega, by omega⟩
theorem uB_bd (one i : Nat) : uB one i ≤ one * 19807040628566084398385987584 + 19807040628566084398385987584 + i := by
  refine Nat.le_trans (uB_le one i) ?_
  rcases Nat.lt_or_ge i 64 with h | h
  · obtain ⟨h1, h2⟩ := cdB_low i (by omega)
    have := Nat.mul_le_mul_left one h1
    omega
  · obtain ⟨k, rfl⟩ : ∃ k, i = 64 + k := ⟨i - 64, by omega⟩
    obtain ⟨h1, h2⟩ := cdB_high k
    have := Nat.mul_le_mul_left one h1
    omega
/-- numbers of at most so many bits have few limbs -/
theorem len_bits {n b : Nat} (h : n < 2 ^ b) {k : Nat} (hk : b ≤ 32 * k) : (lim n).length ≤ k := lim_len_le (Nat.lt_of_lt_of_le h (Nat.pow_le_pow_right (by omega) hk))
/-- the precision at which nothing overflows -/
structure POk (one p : Nat) : Prop where
  one : one ≤ 2 ^ p
  p0 : 40 ≤ p
  p1 : p ≤ 16130
theorem two94 : 2 ^ 94 = 19807040628566084398385987584 := by decide
theorem uB_pow {one p i : Nat} (h : POk one p) (hi : i ≤ 50000) : uB one i < 2 ^ (p + 96) := by
  refine Nat.lt_of_le_of_lt (uB_bd one i) ?_
  rw [← two94]
  have h1 : 2 ^ p * 2 ^ 94 = 2 ^ (p + 94) := (Nat.pow_add 2 p 94).symm
  have h2 : 2 ^ 94 ≤ 2 ^ (p + 94) := Nat.pow_le_pow_right (by omega) (by omega)
  have h3 : 2 ^ (p + 96) = 4 * 2 ^ (p + 94) := by rw [show p + 96 = 2 + (p + 94) by omega, Nat.pow_add]
  have h4 := Nat.mul_le_mul_right (2 ^ 94) h.one
  have h5 : 50000 < 2 ^ 94 := by decide
  rw [h1] at h4
  omega
theorem pow_mul_lt {a b x y : Nat} (h : a < 2 ^ x) (k : b < 2 ^ y) : a * b < 2 ^ (x + y) := by
  rw [Nat.pow_add]
  exact Nat.lt_of_le_of_lt (Nat.mul_le_mul_left a (Nat.le_of_lt k)) (Nat.mul_lt_mul_of_pos_right h (Nat.pow_pos (by omega)))
theorem two64 : 2 ^ 64 = 18446744073709551616 := by decide
/-- the terms are as they are without limits -/
theorem tP_eq {num den one p : Nat} (hx : XOk num den) (hp : POk one p) : ∀ i, i ≤ 50000 → tP num den one i = tE num den one i := by
  intro i
  induction i with
  | zero => intro _; rfl
  | succ i ih =>
    intro hi
    rw [tP, tE, ih (by omega)]
    have hh : (tE num den one i).hi < 2 ^ (p + 96) := Nat.lt_of_le_of_lt (tE_hi one hx.d0 hx.le i) (uB_pow hp (by omega))
    have hl : (tE num den one i).lo < 2 ^ (p + 96) := Nat.lt_of_le_of_lt (tE_lo_hi num den one i) hh
    have hn : num < 2 ^ 64 := by rw [two64]; exact hx.n1
    have hp1 := hp.p1
    have hby : mulO den (i + 1) = den * (i + 1) := mulO_ok (Nat.le_trans (by_len hx.d1 (by omega)) (by omega)) (Nat.le_trans (lim_len_le (k := 2) hx.d1) (by omega)) (Nat.le_trans (lim_len_le (k := 2) (by omega)) (by omega))
    have hbl : (lim (den * (i + 1))).length ≤ 512 := Nat.le_trans (by_len hx.d1 (by omega)) (by omega)
    have hb0 : den * (i + 1) ≠ 0 := Nat.ne_of_gt (Nat.mul_pos hx.d0 (by omega))
    have key : ∀ t, t < 2 ^ (p + 96) → mulO t num = t * num ∧ (lim (t * num)).length ≤ 512 := fun t ht => by
      have h1 : (lim (t * num)).length ≤ 512 := len_bits (pow_mul_lt ht hn) (by omega)
      exact ⟨mulO_ok h1 (len_bits ht (by omega)) (Nat.le_trans (lim_len_le (k := 2) hx.n1) (by omega)), h1⟩
    obtain ⟨k1, k2⟩ := key _ hl
    obtain ⟨k3, k4⟩ := key _ hh
    rw [hby, downO, upO, k1, k3, divO_ok k2 hbl, divO_ok k4 hbl, modO_ok k4 hbl hb0]
    by_cases hm : (tE num den one i).hi * num % (den * (i + 1)) = 0
    · rw [if_pos hm, if_pos hm]
    · rw [if_neg hm, if_neg hm]
      have h2 := tE_hi one hx.d0 hx.le (i + 1)
      rw [tE] at h2
      have h2 : (tE num den one i).hi * num / (den * (i + 1)) + 1 ≤ uB one (i + 1) := by
        have h3 : (if (tE num den one i).hi * num % (den * (i + 1)) = 0 then (tE num den one i).hi * num / (den * (i + 1)) else (tE num den one i).hi * num / (den * (i + 1)) + 1) ≤ uB one (i + 1) := h2
        rwa [if_neg hm] at h3
      have h4 : (tE num den one i).hi * num / (den * (i + 1)) + 1 < 2 ^ (p + 96) := Nat.lt_of_le_of_lt h2 (uB_pow hp (by omega))
      rw [addO_ok (len_bits h4 (by omega)) (len_bits (Nat.lt_trans (Nat.lt_succ_self _) h4) (by omega)) (Nat.le_trans (lim_len_le (k := 1) (by omega)) (by omega))]
def allE (num den one : Nat) : Nat → Pr
  | 0 => ⟨0, 0⟩
  | i + 1 => ⟨(allE num den one i).lo + (tE num den one i).lo, (allE num den one i).hi + (tE num den one i).hi⟩
def restE (num den one n : Nat) : Nat → Pr
  | 0 => ⟨0, 0⟩
  | i + 1 => if n < i then ⟨(restE num den one n i).lo + (tE num den one i).lo, (restE num den one n i).hi + (tE num den one i).hi⟩ else restE num den one n i
section
variable {num den one p n : Nat}
theorem tE_bd (hx : XOk num den) (hp : POk one p) {i : Nat} (hi : i ≤ 50000) : (tE num den one i).hi < 2 ^ (p + 96) := Nat.lt_of_le_of_lt (tE_hi one hx.d0 hx.le i) (uB_pow hp hi)
theorem allE_bd (hx : XOk num den) (hp : POk one p) : ∀ i, i ≤ 50000 → (allE num den one i).lo ≤ (allE num den one i).hi ∧ (allE num den one i).hi ≤ i * 2 ^ (p + 96) := by
  intro i
  induction i with
  | zero => intro _; exact ⟨Nat.le_refl _, Nat.zero_le _⟩
  | succ i ih =>
    intro hi
    obtain ⟨h1, h2⟩ := ih (by omega)
    have h3 := tE_bd hx hp (i := i) (by omega)
    have h4 := tE_lo_hi num den one i
    show (allE num den one i).lo + (tE num den one i).lo ≤ (allE num den one i).hi + (tE num den one i).hi ∧ (allE num den one i).hi + (tE num den one i).hi ≤ (i + 1) * 2 ^ (p + 96)
    rw [Nat.add_mul, Nat.one_mul]
    exact ⟨by omega, by omega⟩
theorem restE_le (num den one n : Nat) : ∀ i, (restE num den one n i).lo ≤ (allE num den one i).lo ∧ (restE num den one n i).hi ≤ (allE num den one i).hi ∧ (restE num den one n i).lo ≤ (restE num den one n i).hi := by
  intro i
  induction i with
  | zero => exact ⟨Nat.le_refl _, Nat.le_refl _, Nat.le_refl _⟩
  | succ i ih =>
    obtain ⟨h1, h2, h3⟩ := ih
    have h4 := tE_lo_hi num den one i
    rw [restE]
    show _ ≤ (allE num den one i).lo + (tE num den one i).lo ∧ _ ≤ (allE num den one i).hi + (tE num den one i).hi ∧ _
    split
    · exact ⟨by show (restE num den one n i).lo + (tE num den one i).lo ≤ _; omega, by show (restE num den one n i).hi + (tE num den one i).hi ≤ _; omega, by show (restE num den one n i).lo + (tE num den one i).lo ≤ (restE num den one n i).hi + (tE num den one i).hi; omega⟩
    · exact ⟨by omega, by omega, h3⟩
theorem mul_pow_lt {i a : Nat} (h : i < 65536) : i * 2 ^ a < 2 ^ (a + 16) := by
  rw [Nat.pow_add, Nat.mul_comm]
  exact Nat.mul_lt_mul_of_pos_left h (Nat.pow_pos (by omega))
theorem sum_len (hp : POk one p) {a : Nat} (h : a ≤ 50001 * 2 ^ (p + 96)) : (lim a).length ≤ 512 := by
  have hp1 := hp.p1
  exact len_bits (Nat.lt_of_le_of_lt h (mul_pow_lt (by omega))) (by omega)
theorem addO_sum (hp : POk one p) {a b : Nat} (h : a + b ≤ 50001 * 2 ^ (p + 96)) : addO a b = a + b :=
  addO_ok (sum_len hp h) (sum_len hp (by omega)) (sum_len hp (by omega))
theorem allP_eq (hx : XOk num den) (hp : POk one p) : ∀ i, i ≤ 50000 → allP num den one i = allE num den one i := by
  intro i
  induction i with
  | zero => intro _; rfl
  | succ i ih =>
    intro hi
    obtain ⟨h1, h2⟩ := allE_bd hx hp (i + 1) hi
    have h3 : (allE num den one i).hi + (tE num den one i).hi ≤ (i + 1) * 2 ^ (p + 96) := h2
    have h4 : (allE num den one i).lo + (tE num den one i).lo ≤ (allE num den one i).hi + (tE num den one i).hi := h1
    have h5 := Nat.mul_le_mul_right (2 ^ (p + 96)) (show i + 1 ≤ 50001 by omega)
    rw [allP, allE, ih (by omega), tP_eq hx hp i (by omega), plusP, addO_sum hp (by omega), addO_sum hp (by omega)]
theorem restP_eq (hx : XOk num den) (hp : POk one p) (n : Nat) : ∀ i, i ≤ 50000 → restP num den one n i = restE num den one n i := by
  intro i
  induction i with
  | zero => intro _; rfl
  | succ i ih =>
    intro hi
    rw [restP, restE, ih (by omega), tP_eq hx hp i (by omega)]
    by_cases hn : n < i
    · rw [if_pos hn, if_pos hn, plusP]
      obtain ⟨_, h2⟩ := allE_bd hx hp (i + 1) hi
      obtain ⟨h3, h4, h5⟩ := restE_le num den one n (i + 1)
      rw [restE, if_pos hn] at h3 h4 h5
      have h6 : (restE num den one n i).hi + (tE num den one i).hi ≤ (allE num den one (i + 1)).hi := h4
      have h7 : (restE num den one n i).lo + (tE num den one i).lo ≤ (restE num den one n i).hi + (tE num den one i).hi := h5
      have h8 := Nat.mul_le_mul_right (2 ^ (p + 96)) (show i + 1 ≤ 50001 by omega)
      rw [addO_sum hp (by omega), addO_sum hp (by omega)]
    · rw [if_neg hn, if_neg hn]
/-- the sums that the series hands back, without limits -/
def sAE (num den one I : Nat) : Pr := ⟨(allE num den one (I + 1)).lo, (allE num den one (I + 1)).hi + (tE num den one I).hi⟩
def sRE (num den one n I : Nat) : Pr := ⟨(restE num den one n (I + 1)).lo, (restE num den one n (I + 1)).hi + (tE num den one I).hi⟩
theorem sAE_bd (hx : XOk num den) (hp : POk one p) {I : Nat} (hI : I ≤ 40000) : (sAE num den one I).hi ≤ 50001 * 2 ^ (p + 96) := by
  obtain ⟨_, h2⟩ := allE_bd hx hp (I + 1) (by omega)
  have h3 := tE_bd hx hp (i := I) (by omega)
  have h5 := Nat.mul_le_mul_right (2 ^ (p + 96)) (show I + 1 + 1 ≤ 50001 by omega)
  rw [Nat.add_mul, Nat.one_mul] at h5
  show (allE num den one (I + 1)).hi + (tE num den one I).hi ≤ _
  omega
theorem plusP_mk (a : Pr) (x y : Nat) : plusP a ⟨x, y⟩ = ⟨addO a.lo x, addO a.hi y⟩ := rfl
theorem sumA_eq (hx : XOk num den) (hp : POk one p) (hn : n ≤ 256) : sumA num den one n = sAE num den one (stopI num den one n) := by
  obtain ⟨_, hI, _⟩ := stop_spec one hx hn
  have h1 := sAE_bd hx hp hI
  have h2 : (allE num den one (stopI num den one n + 1)).hi + (tE num den one (stopI num den one n)).hi ≤ 50001 * 2 ^ (p + 96) := h1
  have h3 := (allE_bd hx hp (stopI num den one n + 1) (by omega)).1
  rw [sumA, allP_eq hx hp _ (by omega), tP_eq hx hp _ (by omega), plusP_mk, sAE, addO_sum hp (by omega), addO_sum hp h2, Nat.add_zero]
theorem sumR_eq (hx : XOk num den) (hp : POk one p) (hn : n ≤ 256) : sumR num den one n = sRE num den one n (stopI num den one n) := by
  obtain ⟨_, hI, _⟩ := stop_spec one hx hn
  have h1 := sAE_bd hx hp hI
  have h2 : (allE num den one (stopI num den one n + 1)).hi + (tE num den one (stopI num den one n)).hi ≤ 50001 * 2 ^ (p + 96) := h1
  obtain ⟨h3, h4, h5⟩ := restE_le num den one n (stopI num den one n + 1)
  rw [sumR, restP_eq hx hp _ _ (by omega), tP_eq hx hp _ (by omega), plusP_mk, sRE, addO_sum hp (by omega), addO_sum hp (by omega), Nat.add_zero]
end
theorem shO_ok {p : Nat} (h : p ≤ 16350) : shO p = 2 ^ p := by
  have h1 : ¬ 512 < (lim 1).length := by have := lim_len_le (n := 1) (k := 1) (by omega); omega
  have h2 : (lim (1 * 2 ^ p)).length ≤ 512 := by rw [Nat.one_mul]; exact len_bits (b := p + 1) (Nat.pow_lt_pow_right (by omega) (by omega)) (by omega)
  rw [shO, shiftS_up h1 (by omega) (by omega), sizS_fits h2, Nat.one_mul]
theorem pOk {p : Nat} (h0 : 40 ≤ p) (h1 : p ≤ 16130) : POk (shO p) p := ⟨by rw [shO_ok (by omega)]; exact Nat.le_refl _, h0, h1⟩
/-- the number that is asked for, without limits -/
def partE (num den one n I kind : Nat) : Pr := if kind = 0 then ⟨one, one⟩ else if kind = 1 then tE num den one n else sRE num den one n I
theorem tE_in_all (num den one : Nat) {i m : Nat} (h : i < m) : (tE num den one i).lo ≤ (allE num den one m).lo ∧ (tE num den one i).hi ≤ (allE num den one m).hi := by
  induction m with
  | zero => omega
  | succ m ih =>
    show _ ≤ (allE num den one m).lo + (tE num den one m).lo ∧ _ ≤ (allE num den one m).hi + (tE num den one m).hi
    rcases Nat.lt_or_ge i m with h1 | h1
    · have := ih h1
      exact ⟨by omega, by omega⟩
    · obtain rfl : i = m := by omega
      exact ⟨by omega, by omega⟩
theorem partE_le (num den one n I kind : Nat) (hn : n < I) : (partE num den one n I kind).lo ≤ (sAE num den one I).lo ∧ (partE num den one n I kind).hi ≤ (sAE num den one I).hi ∧ (partE num den one n I kind).lo ≤ (partE num den one n I kind).hi := by
  have h0 := tE_in_all num den one (i := 0) (m := I + 1) (by omega)
  have h1 := tE_in_all num den one (i := n) (m := I + 1) (by omega)
  obtain ⟨h3, h4, h5⟩ := restE_le num den one n (I + 1)
  have h6 := tE_lo_hi num den one n
  have e1 : (sAE num den one I).lo = (allE num den one (I + 1)).lo := rfl
  have e2 : (sAE num den one I).hi = (allE num den one (I + 1)).hi + (tE num den one I).hi := rfl
  have e3 : (sRE num den one n I).lo = (restE num den one n (I + 1)).lo := rfl
  have e4 : (sRE num den one n I).hi = (restE num den one n (I + 1)).hi + (tE num den one I).hi := rfl
  rw [partE]
  split
  · exact ⟨by rw [e1]; exact h0.1, by rw [e2]; exact Nat.le_trans h0.2 (Nat.le_add_right _ _), Nat.le_refl _⟩
  · split
    · exact ⟨by rw [e1]; exact h1.1, by rw [e2]; omega, h6⟩
    · exact ⟨by rw [e1, e3]; exact h3, by rw [e2, e4]; omega, by rw [e3, e4]; omega⟩
/-- the two floors at a precision that fits -/
theorem fAt_eq {num den n bits kind p : Nat} (hx : XOk num den) (hn : n ≤ 256) (hb : bits ≤ 64) (h0 : 40 ≤ p) (h1 : p ≤ 16130) :
    fAt num den n bits kind p = ((partE num den (2 ^ p) n (stopI num den (2 ^ p) n) kind).lo * 2 ^ bits / (sAE num den (2 ^ p) (stopI num den (2 ^ p) n)).hi, (partE num den (2 ^ p) n (stopI num den (2 ^ p) n) kind).hi * 2 ^ bits / (sAE num den (2 ^ p) (stopI num den (2 ^ p) n)).lo) := by
  have hp := pOk h0 h1
  have e1 : shO p = 2 ^ p := shO_ok (by omega)
  rw [e1] at hp
  obtain ⟨hE, hI, _⟩ := stop_spec (2 ^ p) hx hn
  have hpart : partP num den (2 ^ p) n kind = partE num den (2 ^ p) n (stopI num den (2 ^ p) n) kind := by
    rw [partP, partE, tP_eq hx hp n (by omega), sumR_eq hx hp hn]
  have hA := sAE_bd hx hp hI
  obtain ⟨k1, k2, k3⟩ := partE_le num den (2 ^ p) n (stopI num den (2 ^ p) n) kind hE.1
  have hAl : (sAE num den (2 ^ p) (stopI num den (2 ^ p) n)).lo ≤ (sAE num den (2 ^ p) (stopI num den (2 ^ p) n)).hi := by
    have := (allE_bd hx hp (stopI num den (2 ^ p) n + 1) (by omega)).1
    show (allE num den (2 ^ p) (stopI num den (2 ^ p) n + 1)).lo ≤ (allE num den (2 ^ p) (stopI num den (2 ^ p) n + 1)).hi + (tE num den (2 ^ p) (stopI num den (2 ^ p) n)).hi
    omega
  have hbb : (lim (2 ^ bits)).length ≤ 512 := len_bits (b := bits + 1) (Nat.pow_lt_pow_right (by omega) (by omega)) (by omega)
  have key : ∀ t, t ≤ 50001 * 2 ^ (p + 96) → mulO t (2 ^ bits) = t * 2 ^ bits ∧ (lim (t * 2 ^ bits)).length ≤ 512 := fun t ht => by
    have h2 : t < 2 ^ (p + 96 + 16) := Nat.lt_of_le_of_lt ht (mul_pow_lt (by omega))
    have h3 : (lim (t * 2 ^ bits)).length ≤ 512 := len_bits (pow_mul_lt h2 (Nat.pow_lt_pow_right (a := 2) (m := bits) (n := 65) (by omega) (by omega))) (by omega)
    exact ⟨mulO_ok h3 (sum_len hp ht) hbb, h3⟩
  obtain ⟨a1, a2⟩ := key _ (show (partE num den (2 ^ p) n (stopI num den (2 ^ p) n) kind).lo ≤ _ by omega)
  obtain ⟨a3, a4⟩ := key _ (show (partE num den (2 ^ p) n (stopI num den (2 ^ p) n) kind).hi ≤ _ by omega)
  rw [fAt, e1, shO_ok (p := bits) (by omega), hpart, sumA_eq hx hp hn, downO, downO, a1, a3, divO_ok a2 (sum_len hp hA), divO_ok a4 (sum_len hp (by omega))]
/-- the precisions that floor comes to -/
theorem prec_ok : ∀ b j, 49 ≤ b → b ≤ 112 → j ≤ 12 → (40 ≤ b * 2 ^ j ∧ b * 2 ^ j ≤ 16130) ∨ 16384 ≤ b * 2 ^ j := by
  have h : (List.range 113).all (fun b => (List.range 13).all (fun j => decide (49 ≤ b → (40 ≤ b * 2 ^ j ∧ b * 2 ^ j ≤ 16130) ∨ 16384 ≤ b * 2 ^ j))) = true := by decide +kernel
  intro b j h0 h1 h2
  have h3 := List.all_eq_true.1 h b (List.mem_range.2 (by omega))
  have h4 := List.all_eq_true.1 h3 j (List.mem_range.2 (by omega))
  exact of_decide_eq_true h4 h0
theorem fAt_le {num den n bits kind p : Nat} (hx : XOk num den) (hn : n ≤ 256) (hb : bits ≤ 64) (hp : (40 ≤ p ∧ p ≤ 16130) ∨ 16384 ≤ p) : (fAt num den n bits kind p).1 ≤ 2 ^ bits := by
  rcases hp with ⟨h0, h1⟩ | h0
  · rw [fAt_eq hx hn hb h0 h1]
    obtain ⟨hE, hI, _⟩ := stop_spec (2 ^ p) hx hn
    obtain ⟨k1, _, _⟩ := partE_le num den (2 ^ p) n (stopI num den (2 ^ p) n) kind hE.1
    have hpo := pOk h0 h1
    rw [shO_ok (by omega)] at hpo
    have hAl := (allE_bd hx hpo (stopI num den (2 ^ p) n + 1) (by omega)).1
    refine Nat.div_le_of_le_mul ?_
    refine Nat.mul_le_mul_right _ (Nat.le_trans k1 ?_)
    show (allE num den (2 ^ p) (stopI num den (2 ^ p) n + 1)).lo ≤ (allE num den (2 ^ p) (stopI num den (2 ^ p) n + 1)).hi + (tE num den (2 ^ p) (stopI num den (2 ^ p) n)).hi
    omega
  · have e : sumA num den (shO p) n = ⟨0, 0⟩ := by rw [shO_big h0, sumA, allP_zero, tP_zero, plusP, addO_zero]
    rw [fAt, e, downO, downO]
    show divO _ 0 ≤ _
    rw [divO_zero]; exact Nat.zero_le _
theorem floorG_le {num den n bits kind b : Nat} (hx : XOk num den) (hn : n ≤ 256) (hb : bits ≤ 64) (b0 : 49 ≤ b) (b1 : b ≤ 112) : ∀ f j, j + f ≤ 13 → floorG num den n bits kind f (b * 2 ^ j) ≤ 2 ^ bits := by
  intro f
  induction f with
  | zero => intro j _; exact Nat.zero_le _
  | succ f ih =>
    intro j hj
    rw [floorG]
    split
    · exact fAt_le hx hn hb (prec_ok b j b0 b1 (by omega))
    · rw [Nat.mul_assoc, ← Nat.pow_succ]; exact ih (j + 1) (by omega)
theorem floorM_le {num den n bits kind : Nat} (hx : XOk num den) (hn : n ≤ 256) (b0 : 1 ≤ bits) (b1 : bits ≤ 64) : floorM num den n bits kind ≤ 2 ^ bits := by
  have := floorG_le (kind := kind) hx hn b1 (b := bits + 48) (by omega) (by omega) 12 0 (by omega)
  rwa [Nat.pow_zero, Nat.mul_one] at this
/-- where floor stands: at the precision b 2^j, nothing before it having told -/
theorem floorG_at {num den n bits kind b : Nat} : ∀ f j, (∀ i, i < j → ¬ (fAt num den n bits kind (b * 2 ^ i)).1 = (fAt num den n bits kind (b * 2 ^ i)).2) → floorG num den n bits kind (f + j) b = floorG num den n bits kind f (b * 2 ^ j) := by
  intro f j
  induction j generalizing f with
  | zero => intro _; rw [Nat.pow_zero, Nat.mul_one, Nat.add_zero]
  | succ j ih =>
    intro h
    have h1 := ih (f + 1) (fun i hi => h i (by omega))
    rw [show f + (j + 1) = f + 1 + j by omega, h1, floorG, if_neg (h j (by omega)), Nat.mul_assoc, ← Nat.pow_succ]
theorem floorM_at {num den n bits kind j : Nat} (hj : j ≤ 11) (h : ∀ i, i < j → ¬ (fAt num den n bits kind ((bits + 48) * 2 ^ i)).1 = (fAt num den n bits kind ((bits + 48) * 2 ^ i)).2) (he : (fAt num den n bits kind ((bits + 48) * 2 ^ j)).1 = (fAt num den n bits kind ((bits + 48) * 2 ^ j)).2) :
    floorM num den n bits kind = (fAt num den n bits kind ((bits + 48) * 2 ^ j)).1 := by
  have h1 := floorG_at (num := num) (den := den) (n := n) (bits := bits) (kind := kind) (b := bits + 48) (12 - j) j h
  rw [floorM, show 12 = 12 - j + j by omega, h1, show 12 - j = 11 - j + 1 by omega, floorG, if_pos he]
/-- at the latest at b 2^9 it tells -/
theorem told_by {num den n bits kind j : Nat} (hj : 9 ≤ j) (hb : 1 ≤ bits) : (fAt num den n bits kind ((bits + 48) * 2 ^ j)).1 = (fAt num den n bits kind ((bits + 48) * 2 ^ j)).2 := by
  refine fAt_big ?_
  have h1 : 2 ^ 9 ≤ 2 ^ j := Nat.pow_le_pow_right (by omega) hj
  have h2 := Nat.mul_le_mul (show 49 ≤ bits + 48 by omega) h1
  omega
end Go.Proofs.Ytnmomigaedfdoaa
namespace Go.Proofs.Ytnmomigaedfdoaa
set_option maxRecDepth 100000
open Go.RowKit

theorem cmp3_dec {a b : Nat} : (cmp3 a b == 0) = decide (a = b) := by
  unfold cmp3
  by_cases h1 : a < b
  · rw [if_pos h1, decide_eq_false (by omega)]; rfl
  · rw [if_neg h1]
    by_cases h2 : b < a
    · rw [if_pos h2, decide_eq_false (by omega)]; rfl
    · rw [if_neg h2, decide_eq_true (by omega)]; rfl
theorem pow_le_9 {j : Nat} (h : j ≤ 9) : 2 ^ j ≤ 512 := by
  have := Nat.pow_le_pow_right (n := 2) (by omega) h
  omega
theorem alloc3 {w : World} {a b c : Px} (oa : a.ok w) (ob : b.ok w) (oc : c.ok w) (t : TypeId) :
    Pv (((w.alloc (.cells a.cells t)).alloc (.cells b.cells t)).alloc (.cells c.cells t)) w.heap.size a ∧ Pv (((w.alloc (.cells a.cells t)).alloc (.cells b.cells t)).alloc (.cells c.cells t)) (w.heap.size + 1) b ∧ Pv (((w.alloc (.cells a.cells t)).alloc (.cells b.cells t)).alloc (.cells c.cells t)) (w.heap.size + 1 + 1) c ∧ Below w.heap.size w (((w.alloc (.cells a.cells t)).alloc (.cells b.cells t)).alloc (.cells c.cells t)) ∧ (((w.alloc (.cells a.cells t)).alloc (.cells b.cells t)).alloc (.cells c.cells t)).heap.size = w.heap.size + 1 + 1 + 1 := by
  obtain ⟨v1, b1⟩ := pv_alloc oa t
  have z1 := size_al w (.cells a.cells t)
  replace ob := ob.below b1
  replace oc := oc.below b1
  generalize (w.alloc (.cells a.cells t)) = w1 at v1 b1 z1 ob oc ⊢
  obtain ⟨v2, b2⟩ := pv_alloc ob t
  have z2 := size_al w1 (.cells b.cells t)
  replace oc := oc.below b2
  replace v1 := v1.below b2
  replace b1 := below_on b1 b2 b1.size
  rw [z1] at v2 z2
  generalize (w1.alloc (.cells b.cells t)) = w2 at v1 v2 b1 z2 oc ⊢
  obtain ⟨v3, b3⟩ := pv_alloc oc t
  have z3 := size_al w2 (.cells c.cells t)
  rw [z2] at v3 z3
  exact ⟨v1.below b3, v2.below b3, v3, below_on b1 b3 b1.size, z3⟩
set_option maxHeartbeats 6400000 in
theorem xfloor_any (w : World) (x : Fx) (num den n bits kind : Nat) (hx : x.ok w) (hn : x.xs = lim num) (hd : x.ys = lim den) (ho : XOk num den) (hn2 : n ≤ 256) (hb0 : 1 ≤ bits) (hb1 : bits ≤ 64) (hk : kind ≤ 2) :
    Calls Try.prog 64 #[x.val, .int .i64 (n : Int), .int .i64 (bits : Int), .int .i64 (kind : Int)] w fun e w' => ∃ A' c', e = .returned (.slice A' (lim (floorM num den n bits kind)).length c') ∧ Nt w' A' c' (lim (floorM num den n bits kind)) ∧ Below w.heap.size w w' := by
  have HO := Lib.hid ho
  have HN := Lib.hid hn
  have HD := Lib.hid hd
  clear ho hn hd
  go_enter Try.func64, Try.ntmps64
  go_upto_region 1 with fail
  have q := (qv_alloc hx 26).1
  have bw := (qv_alloc hx 26).2
  clear hx
  generalize (w.alloc (.cells x.cells 26)) = w1 at q bw ⊢
  obtain ⟨g, hg⟩ : ∃ g, w.heap.size = g := ⟨_, rfl⟩
  rw [hg] at q ⊢
  go_wp2_with fail
  go_loopw [9] (fun pv wr => ∃ (j P : Nat), j ≤ 9 ∧ P = (bits + 48) * 2 ^ j ∧ pv = .int .i64 P ∧ (∀ i, i < j → ¬ (fAt num den n bits kind ((bits + 48) * 2 ^ i)).1 = (fAt num den n bits kind ((bits + 48) * 2 ^ i)).2) ∧ Qv wr g x ∧ Below w.heap.size w wr) (fun pv _ => 200000 - (intOf pv).toNat)
  case atStart => exact ⟨0, bits + 48, by omega, by simp, by go_num, fun i h => by omega, q, bw⟩
  case round =>
    clear q bw
    obtain ⟨j, P, hj, hP, rfl, hno, q, bw⟩ := hrel
    have HNO := Lib.hid hno
    have HPE := Lib.hid hP
    have hp2 : P ≤ 57344 := by
      rw [hP]
      have := Nat.mul_le_mul (show bits + 48 ≤ 112 by omega) (pow_le_9 hj)
      omega
    have hp3 : 49 ≤ P := by
      rw [hP]
      have := Nat.mul_le_mul (show 49 ≤ bits + 48 by omega) (Nat.one_le_two_pow (n := j))
      omega
    clear hno hP
    have c0 := q.c0
    have c1 := q.c1
    have c2 := q.c2
    go_wp2_with fail
    refine (xseries_any wr x num den n P q.ok HN.out HD.out HO.out hn2 (by omega)).mono ?_
    rintro _ w2 ⟨a, b, c, rfl, ha, hb, hc, oa, ob, oc, bb⟩
    have HA := Lib.hid ha
    have HB := Lib.hid hb
    have HC := Lib.hid hc
    replace q := q.below bb
    replace bw := below_on bw bb bw.size
    clear c0 c1 c2 bb ha hb hc
    go_upto_region 4 with fail
    have h3 := alloc3 oa ob oc 97
    have bb := h3.2.2.2.1
    replace q := q.below bb
    replace bw := below_on bw bb bw.size
    obtain ⟨v10, v11, v12, _, hz⟩ := h3
    clear bb oa ob oc
    generalize (((w2.alloc (.cells #[.slice a.A (lim a.lo).length a.c, .slice a.D (lim a.hi).length a.d] 97)).alloc (.cells #[.slice b.A (lim b.lo).length b.c, .slice b.D (lim b.hi).length b.d] 97)).alloc (.cells #[.slice c.A (lim c.lo).length c.c, .slice c.D (lim c.hi).length c.d] 97)) = w3 at q v10 v11 v12 bw hz ⊢
    generalize w2.heap.size = g10 at v10 v11 v12 hz ⊢
    go_wp2_with fail
    refine (make_any w3 1 (by omega)).mono ?_
    rintro _ w4 ⟨A1, c1, rfl, n1, bb⟩
    replace q := q.below bb
    replace v10 := v10.below bb
    replace v11 := v11.below bb
    replace v12 := v12.below bb
    replace bw := below_on bw bb bw.size
    have hz1 := bb.size
    clear bb
    go_wp2_with fail
    refine (nsh_any w4 A1 c1 P n1).mono ?_
    rintro _ w5 ⟨A2, c2, E2, rfl, n2, bb⟩
    replace q := q.below bb
    replace v10 := v10.below bb
    replace v11 := v11.below bb
    replace v12 := v12.below bb
    replace bw := below_on bw bb bw.size
    have hz2 := bb.size
    clear bb n1
    go_upto_block 2 with fail
    have hok : (⟨A2, c2, shO P, A2, c2, shO P⟩ : Px).ok w5 := ⟨n2, n2⟩
    have v15 := (pv_alloc hok 97).1
    have bb := (pv_alloc hok 97).2
    have h15 : g10 + 1 + 1 < w5.heap.size := by omega
    have hw5 : w.heap.size ≤ w5.heap.size := bw.size
    have hgq := q.lt
    replace q := q.below bb
    replace v10 := v10.below bb
    replace v11 := v11.below bb
    replace v12 := v12.below bb
    replace bw := below_on bw bb bw.size
    clear bb hok n2 hz hz1 hz2
    generalize (w5.alloc (.cells #[.slice A2 (lim (shO P)).length c2, .slice A2 (lim (shO P)).length c2] 97)) = w6 at q v10 v11 v12 v15 bw ⊢
    generalize w5.heap.size = g15 at v15 h15 hw5 hgq ⊢
    have Q := Lib.hid q
    have V12 := Lib.hid v12
    have HBW := Lib.hid bw
    go_cut [] (fun wx => ∃ y : Px, y.pr = partP num den (shO P) n kind ∧ Pv wx g15 y ∧ Qv wx g x ∧ Pv wx (g10 + 1 + 1) c ∧ Below w.heap.size w wx)
    case first =>
      rcases (show kind = 0 ∨ kind = 1 ∨ kind = 2 by omega) with h0 | h0 | h0
      · have e1 : ((kind : Int) == 1) = false := beq_eq_false_iff_ne.2 (by omega)
        have e2 : ((kind : Int) == 2) = false := beq_eq_false_iff_ne.2 (by omega)
        have HP : Hid (partP num den (shO P) n kind = ⟨shO P, shO P⟩) := Lib.hid (by rw [partP, if_pos h0])
        clear h0
        go_wp2_with fail
        go_meet
        case rel => exact ⟨_, HP.out.symm, v15, q, v12, bw⟩
      · have e1 : ((kind : Int) == 1) = true := by simp [h0]
        have HP : Hid (partP num den (shO P) n kind = tP num den (shO P) n) := Lib.hid (by rw [partP, if_neg (by omega), if_pos h0])
        clear h0
        have p0 := v10.c0
        have p1 := v10.c1
        have q0 := v15.c0
        have q1 := v15.c1
        have r0 := v15.f0
        have r1 := v15.f1
        have hput := v15.put v10.ok
        have hfar := v12.far v15 (v0 := .slice a.A (lim a.lo).length a.c) (v1 := .slice a.D (lim a.hi).length a.d) (by omega)
        have hfq := q.far v15 (v0 := .slice a.A (lim a.lo).length a.c) (v1 := .slice a.D (lim a.hi).length a.d) (by omega)
        have hbw := set2_below (v0 := .slice a.A (lim a.lo).length a.c) (v1 := .slice a.D (lim a.hi).length a.d) bw hw5
        go_wp2_with fail
        go_meet
        case rel => exact ⟨a, by rw [HA.out, HP.out], hput, hfq, hfar, hbw⟩
      · have e1 : ((kind : Int) == 1) = false := beq_eq_false_iff_ne.2 (by omega)
        have e2 : ((kind : Int) == 2) = true := by simp [h0]
        have HP : Hid (partP num den (shO P) n kind = sumR num den (shO P) n) := Lib.hid (by rw [partP, if_neg (by omega), if_neg (by omega)])
        clear h0
        have p0 := v11.c0
        have p1 := v11.c1
        have q0 := v15.c0
        have q1 := v15.c1
        have r0 := v15.f0
        have r1 := v15.f1
        have hput := v15.put v11.ok
        have hfar := v12.far v15 (v0 := .slice b.A (lim b.lo).length b.c) (v1 := .slice b.D (lim b.hi).length b.d) (by omega)
        have hfq := q.far v15 (v0 := .slice b.A (lim b.lo).length b.c) (v1 := .slice b.D (lim b.hi).length b.d) (by omega)
        have hbw := set2_below (v0 := .slice b.A (lim b.lo).length b.c) (v1 := .slice b.D (lim b.hi).length b.d) bw hw5
        go_wp2_with fail
        go_meet
        case rel => exact ⟨b, by rw [HB.out, HP.out], hput, hfq, hfar, hbw⟩
    case rest =>
      obtain ⟨y, hy, v15, q, v12, bw⟩ := hcut
      have HY := Lib.hid hy
      clear hy Q V12 HBW v10 v11
      go_wp2_with fail
      refine (make_any _ 1 (by omega)).mono ?_
      rintro _ w7 ⟨A3, c3, rfl, n1, bb⟩
      replace q := q.below bb
      replace v12 := v12.below bb
      replace v15 := v15.below bb
      replace bw := below_on bw bb bw.size
      clear bb
      go_wp2_with fail
      refine (nsh_any w7 A3 c3 bits n1).mono ?_
      rintro _ w8 ⟨A4, c4, E4, rfl, n4, bb⟩
      have Q := Lib.hid (q.below bb)
      have V12 := Lib.hid (v12.below bb)
      have V15 := Lib.hid (v15.below bb)
      have HBW := Lib.hid (below_on bw bb bw.size)
      have N4 := Lib.hid n4
      clear bb n1 n4 q v12 v15 bw
      go_upto_region 12 with fail
      go_cut [18, 19] (fun s18 s19 wx => ∃ (A5 A6 : Option Addr) (c5 c6 : Nat), s18 = .slice A5 (lim (fAt num den n bits kind P).1).length c5 ∧ s19 = .slice A6 (lim (fAt num den n bits kind P).2).length c6 ∧ Nt wx A5 c5 (lim (fAt num den n bits kind P).1) ∧ Nt wx A6 c6 (lim (fAt num den n bits kind P).2) ∧ Below w8.heap.size w8 wx)
      case first =>
        have e1 : (fAt num den n bits kind P).1 = downO y.lo (shO bits) c.hi := by
          have h1 := congrArg Pr.lo HY.out
          have h2 := congrArg Pr.hi HC.out
          show downO _ _ _ = _
          rw [← h1, ← h2]
        have e2 : (fAt num den n bits kind P).2 = downO y.hi (shO bits) c.lo := by
          have h1 := congrArg Pr.hi HY.out
          have h2 := congrArg Pr.lo HC.out
          show downO _ _ _ = _
          rw [← h1, ← h2]
        have E1 := Lib.hid e1
        have E2 := Lib.hid e2
        clear e1 e2
        refine wp_region_held_drew (S := fun w' => (w'.cell? ⟨g15, 0, none⟩ = some (.slice y.A (lim y.lo).length y.c) ∧ w'.cell? ⟨g15, 1, none⟩ = some (.slice y.D (lim y.hi).length y.d)) ∧ w'.cell? ⟨g10 + 1 + 1, 0, none⟩ = some (.slice c.A (lim c.lo).length c.c) ∧ w'.cell? ⟨g10 + 1 + 1, 1, none⟩ = some (.slice c.D (lim c.hi).length c.d)) (by kernel_rfl) ⟨⟨(V15.out.below ((Below.refl w8.heap.size w8).drew)).c0, (V15.out.below ((Below.refl w8.heap.size w8).drew)).c1⟩, (V12.out.below ((Below.refl w8.heap.size w8).drew)).c0, (V12.out.below ((Below.refl w8.heap.size w8).drew)).c1⟩ (fun hHeld => ?_)
        have bz := (Below.refl w8.heap.size w8).drew
        generalize w8.drew = wd at *
        refine tkw 0 (.pointer (some ⟨g15, 0, none⟩)) rfl (by kernel_rfl) (by kernel_rfl) (by kernel_rfl) (fun _ _ _ h => h) ⟨by rfl, ?_⟩ (by assumption) ?_
        ·intro w hSw; go_simp; (try with_reducible rfl)
        try simp only [Act.put, tzA, tzB, tzD, tzE, tzF]
        refine tkw 1 (.slice y.A (lim y.lo).length y.c) rfl (by kernel_rfl) (by kernel_rfl) (by kernel_rfl) (fun _ _ _ h => h) ⟨by rfl, ?_⟩ (by assumption) ?_
        ·intro w hSw; (try dsimp only at hSw); obtain ⟨⟨s0, s1⟩, _⟩ := hSw; go_simp; (try with_reducible rfl)
        try simp only [Act.put, tzA, tzB, tzC, tzD, tzE, tzF]
        refine tkw 2 (.slice A4 (lim (shO bits)).length c4) rfl (by kernel_rfl) (by kernel_rfl) (by kernel_rfl) (fun _ _ _ h => h) ⟨by rfl, ?_⟩ (by assumption) ?_
        ·intro w hSw; go_simp; (try with_reducible rfl)
        try simp only [Act.put, tzA, tzB, tzC, tzD, tzE, tzF]
        refine tkw 3 (.pointer (some ⟨g10 + 1 + 1, 1, none⟩)) rfl (by kernel_rfl) (by kernel_rfl) (by kernel_rfl) (fun _ _ _ h => h) ⟨by rfl, ?_⟩ (by assumption) ?_
        ·intro w hSw; go_simp; (try with_reducible rfl)
        try simp only [Act.put, tzA, tzB, tzC, tzD, tzE, tzF]
        refine tkw 4 (.slice c.D (lim c.hi).length c.d) rfl (by kernel_rfl) (by kernel_rfl) (by kernel_rfl) (fun _ _ _ h => h) ⟨by rfl, ?_⟩ (by assumption) ?_
        ·intro w hSw; (try dsimp only at hSw); obtain ⟨_, s0, s1⟩ := hSw; go_simp; (try with_reducible rfl)
        try simp only [Act.put, tzA, tzB, tzC, tzD, tzE, tzF]
        refine tkw 6 (.pointer (some ⟨g15, 1, none⟩)) rfl (by kernel_rfl) (by kernel_rfl) (by kernel_rfl) (fun _ _ _ h => h) ⟨by rfl, ?_⟩ (by assumption) ?_
        ·intro w hSw; go_simp; (try with_reducible rfl)
        try simp only [Act.put, tzA, tzB, tzC, tzD, tzE, tzF]
        refine tkw 7 (.slice y.D (lim y.hi).length y.d) rfl (by kernel_rfl) (by kernel_rfl) (by kernel_rfl) (fun _ _ _ h => h) ⟨by rfl, ?_⟩ (by assumption) ?_
        ·intro w hSw; (try dsimp only at hSw); obtain ⟨⟨s0, s1⟩, _⟩ := hSw; go_simp; (try with_reducible rfl)
        try simp only [Act.put, tzA, tzB, tzC, tzD, tzE, tzF]
        refine tkw 8 (.slice A4 (lim (shO bits)).length c4) rfl (by kernel_rfl) (by kernel_rfl) (by kernel_rfl) (fun _ _ _ h => h) ⟨by rfl, ?_⟩ (by assumption) ?_
        ·intro w hSw; go_simp; (try with_reducible rfl)
        try simp only [Act.put, tzA, tzB, tzC, tzD, tzE, tzF]
        refine tkw 9 (.pointer (some ⟨g10 + 1 + 1, 0, none⟩)) rfl (by kernel_rfl) (by kernel_rfl) (by kernel_rfl) (fun _ _ _ h => h) ⟨by rfl, ?_⟩ (by assumption) ?_
        ·intro w hSw; go_simp; (try with_reducible rfl)
        try simp only [Act.put, tzA, tzB, tzC, tzD, tzE, tzF]
        refine tkw 10 (.slice c.A (lim c.lo).length c.c) rfl (by kernel_rfl) (by kernel_rfl) (by kernel_rfl) (fun _ _ _ h => h) ⟨by rfl, ?_⟩ (by assumption) ?_
        ·intro w hSw; (try dsimp only at hSw); obtain ⟨_, s0, s1⟩ := hSw; go_simp; (try with_reducible rfl)
        try simp only [Act.put, tzA, tzB, tzC, tzD, tzE, tzF]
        refine wpAnyH_ready (rs := [5]) (by kernel_rfl) (by simp) ?_
        refine AllReadyH.cons rfl (fun K hK => ?_) ?_
        ·go_simp
         go_at_call 92
         refine (xdown_any wd _ _ _ _ _ _ y.lo (shO bits) c.hi (V15.out.below bz).ok.lo (N4.out.below bz) (V12.out.below bz).ok.hi).mono ?_
         rintro _ wd ⟨A5, c5, rfl, m5, bb⟩
         try replace m5 := m5.below bb
         try replace m6 := m6.below bb
         replace bz := below_on bz bb bz.size
         clear bb
         refine hK.out _ _ ⟨⟨(V15.out.below bz).c0, (V15.out.below bz).c1⟩, (V12.out.below bz).c0, (V12.out.below bz).c1⟩ (fun hHeld => ?_)
         clear hK K
         try simp only [Act.put]
         try simp only [tzD, tzE, tzF]
         refine wpAnyH_ready (rs := [11]) (by kernel_rfl) (by simp) ?_
         refine AllReadyH.cons rfl (fun K hK => ?_) ?_
         ·go_simp
          go_at_call 92
          refine (xdown_any wd _ _ _ _ _ _ y.hi (shO bits) c.lo (V15.out.below bz).ok.hi (N4.out.below bz) (V12.out.below bz).ok.lo).mono ?_
          rintro _ wd ⟨A6, c6, rfl, m6, bb⟩
          try replace m5 := m5.below bb
          try replace m6 := m6.below bb
          replace bz := below_on bz bb bz.size
          clear bb
          refine hK.out _ _ ⟨⟨(V15.out.below bz).c0, (V15.out.below bz).c1⟩, (V12.out.below bz).c0, (V12.out.below bz).c1⟩ (fun hHeld => ?_)
          clear hK K
          try simp only [Act.put]
          try simp only [tzD, tzE, tzF]
          refine wpAnyH_ready (rs := [12]) (by kernel_rfl) (by simp) ?_
          refine AllReadyH.cons rfl (fun K hK => ?_) ?_
          ·go_simp
           refine hK.out _ _ ⟨⟨(V15.out.below bz).c0, (V15.out.below bz).c1⟩, (V12.out.below bz).c0, (V12.out.below bz).c1⟩ (fun hHeld => ?_)
           clear hK K
           try simp only [Act.put]
           try simp only [tzD, tzE, tzF]
           refine wpAnyH_ready (rs := [13]) (by kernel_rfl) (by simp) ?_
           refine AllReadyH.cons rfl (fun K hK => ?_) ?_
           ·go_simp
            refine hK.out _ _ ⟨⟨(V15.out.below bz).c0, (V15.out.below bz).c1⟩, (V12.out.below bz).c0, (V12.out.below bz).c1⟩ (fun hHeld => ?_)
            clear hK K
            try simp only [Act.put]
            try simp only [tzD, tzE, tzF]
            refine wpAnyH_done (by kernel_rfl) ?_ _
            go_wp2_with fail
            go_meet
            case rel => exact ⟨A5, A6, c5, c6, by rw [E1.out], by rw [E2.out], by rw [E1.out]; exact m5, by rw [E2.out]; exact m6, bz⟩
           exact AllReadyH.nil
          exact AllReadyH.nil
         exact AllReadyH.nil
        exact AllReadyH.nil
      case rest =>
        obtain ⟨A5, A6, c5, c6, rfl, rfl, n5, n6, bb⟩ := hcut
        have q := Q.out.below bb
        have bw := below_on HBW.out bb HBW.out.size
        obtain ⟨u, hu⟩ : ∃ u, (fAt num den n bits kind P).1 = u := ⟨_, rfl⟩
        obtain ⟨v, hv⟩ : ∃ v, (fAt num den n bits kind P).2 = v := ⟨_, rfl⟩
        rw [hu] at n5 ⊢
        rw [hv] at n6 ⊢
        have HU := Lib.hid hu
        have HV := Lib.hid hv
        clear hu hv bb Q V12 V15 HBW
        obtain ⟨z, hz⟩ : ∃ z, cmp3 u v = z := ⟨_, rfl⟩
        go_wp2_with fail
        refine (ncmp_any _ A5 A6 c5 c6 u v z n5 n6 hz).mono ?_
        rintro _ w9 ⟨rfl, qt⟩
        have bb := qt.keep
        replace q := q.below bb
        replace bw := below_on bw bb bw.size
        replace n5 := n5.below bb
        have HZ : Hid ((z == 0) = decide (u = v)) := Lib.hid (by rw [← hz, cmp3_dec])
        clear bb qt n6 hz
        by_cases huv : u = v
        · have e0 : (z == 0) = true := by rw [HZ.out, decide_eq_true huv]
          have HF : Hid (floorM num den n bits kind = u) := Lib.hid (by
            rw [floorM_at (j := j) (by omega) HNO.out (by rw [← HPE.out, HU.out, HV.out, huv]), ← HPE.out, HU.out])
          clear huv
          go_wp2_with fail
          go_ret
          exact ⟨A5, c5, by rw [HF.out]; rfl, by rw [HF.out]; exact n5, bw⟩
        · have e0 : (z == 0) = false := by rw [HZ.out, decide_eq_false huv]
          have hj8 : j < 9 := by
            rcases Nat.lt_or_ge j 9 with h | h
            · exact h
            · exfalso
              have := told_by (num := num) (den := den) (n := n) (bits := bits) (kind := kind) h hb0
              rw [← HPE.out, HU.out, HV.out] at this
              exact huv this
          have HN2 : Hid (∀ i, i < j + 1 → ¬ (fAt num den n bits kind ((bits + 48) * 2 ^ i)).1 = (fAt num den n bits kind ((bits + 48) * 2 ^ i)).2) := Lib.hid (fun i hi => by
            rcases Nat.lt_or_ge i j with h1 | h1
            · exact HNO.out i h1
            · obtain rfl : i = j := by omega
              rw [← HPE.out, HU.out, HV.out]; exact huv)
          clear huv n5
          go_wp2_with fail
          go_roundw
          case rel => exact ⟨j + 1, P * 2, by omega, by rw [HPE.out, Nat.pow_succ, Nat.mul_assoc], by go_num, HN2.out, q, bw⟩
          case measure => simp [intOf]; omega
end Go.Proofs.Ytnmomigaedfdoaa
