/- Lanes again: sums, differences and products of two rows of lanes. No program in sight. The sums e^-x (1 + x + .. + x^n / n!), n in the lanes, and how a step from x to x + 1/d keeps them near. No program in sight. -/
import Derived.Test.YtnmomigaedfdoaaEnC
namespace Go.Proofs.Ytnmomigaedfdoaa
set_option maxRecDepth 100000

theorem low_add {L A B : Nat} : ∀ q, (∀ i, i < q → lnq L A i + lnq L B i < 2 ^ L) → A % 2 ^ (L * q) + B % 2 ^ (L * q) < 2 ^ (L * q) := by
  intro q
  induction q with
  | zero => intro _; rw [Nat.mul_zero, Nat.pow_zero, Nat.mod_one, Nat.mod_one]; omega
  | succ q ih =>
    intro h
    have h1 := ih fun i hi => h i (by omega)
    have h2 := h q (by omega)
    rw [mod_lane, mod_lane, Nat.mul_add L q 1, Nat.pow_add, Nat.mul_one]
    generalize lnq L A q = x at *
    generalize lnq L B q = y at *
    have h3 : 2 ^ (L * q) * (x + y + 1) ≤ 2 ^ (L * q) * 2 ^ L := Nat.mul_le_mul_left _ h2
    rw [Nat.mul_add, Nat.mul_add, Nat.mul_one] at h3
    omega
theorem add_lane {L A B q : Nat} (h : ∀ i, i ≤ q → lnq L A i + lnq L B i < 2 ^ L) : lnq L (A + B) q = lnq L A q + lnq L B q := by
  have h1 := low_add (L := L) (A := A) (B := B) q fun i hi => h i (by omega)
  have h2 := h q (Nat.le_refl _)
  have hp : 0 < 2 ^ (L * q) := Nat.pow_pos (by omega)
  have e : (A + B) / 2 ^ (L * q) = A / 2 ^ (L * q) + B / 2 ^ (L * q) := by
    have e1 := Nat.mod_add_div A (2 ^ (L * q))
    have e2 := Nat.mod_add_div B (2 ^ (L * q))
    have e3 : A + B = (A % 2 ^ (L * q) + B % 2 ^ (L * q)) + 2 ^ (L * q) * (A / 2 ^ (L * q) + B / 2 ^ (L * q)) := by rw [Nat.mul_add]; omega
    rw [e3, Nat.add_mul_div_left _ _ hp, Nat.div_eq_of_lt h1, Nat.zero_add]
  show (A + B) / 2 ^ (L * q) % 2 ^ L = A / 2 ^ (L * q) % 2 ^ L + B / 2 ^ (L * q) % 2 ^ L
  rw [e, Nat.add_mod]
  exact Nat.mod_eq_of_lt h2
theorem sub_lane {L A B q : Nat} (h : ∀ i, i ≤ q → lnq L B i ≤ lnq L A i) (hBA : B ≤ A) : lnq L (A - B) q = lnq L A q - lnq L B q := by
  -- the row of the differences, from below
  have low : ∀ j, (∀ i, i < j → lnq L B i ≤ lnq L A i) → B % 2 ^ (L * j) ≤ A % 2 ^ (L * j) := by
    intro j
    induction j with
    | zero => intro _; rw [Nat.mul_zero, Nat.pow_zero, Nat.mod_one, Nat.mod_one]; exact Nat.le_refl _
    | succ j ih =>
      intro hh
      rw [mod_lane, mod_lane]
      have h1 := ih fun i hi => hh i (by omega)
      have h2 := Nat.mul_le_mul_left (2 ^ (L * j)) (hh j (by omega))
      omega
  have h1 := low q fun i hi => h i (by omega)
  have h2 := h q (Nat.le_refl _)
  have hp : 0 < 2 ^ (L * q) := Nat.pow_pos (by omega)
  have hA := Nat.mod_add_div A (2 ^ (L * q))
  have hB := Nat.mod_add_div B (2 ^ (L * q))
  have hd : B / 2 ^ (L * q) ≤ A / 2 ^ (L * q) := Nat.div_le_div_right hBA
  have e : (A - B) / 2 ^ (L * q) = A / 2 ^ (L * q) - B / 2 ^ (L * q) := by
    have hm : A % 2 ^ (L * q) < 2 ^ (L * q) := Nat.mod_lt _ hp
    obtain ⟨k, hk⟩ := Nat.exists_eq_add_of_le hd
    have e3 : A - B = (A % 2 ^ (L * q) - B % 2 ^ (L * q)) + 2 ^ (L * q) * k := by
      rw [hk, Nat.mul_add] at hA
      omega
    rw [e3, Nat.add_mul_div_left _ _ hp, Nat.div_eq_of_lt (by omega), hk]
    omega
  show (A - B) / 2 ^ (L * q) % 2 ^ L = A / 2 ^ (L * q) % 2 ^ L - B / 2 ^ (L * q) % 2 ^ L
  rw [e]
  have h3 : B / 2 ^ (L * q) % 2 ^ L ≤ A / 2 ^ (L * q) % 2 ^ L := h2
  generalize A / 2 ^ (L * q) = a at *
  generalize B / 2 ^ (L * q) = b at *
  have ha := Nat.mod_add_div a (2 ^ L)
  have hb := Nat.mod_add_div b (2 ^ L)
  have hq : b / 2 ^ L ≤ a / 2 ^ L := Nat.div_le_div_right hd
  obtain ⟨k, hk⟩ := Nat.exists_eq_add_of_le hq
  have hm : a % 2 ^ L < 2 ^ L := Nat.mod_lt _ (Nat.pow_pos (by omega))
  have e3 : a - b = (a % 2 ^ L - b % 2 ^ L) + 2 ^ L * k := by
    rw [hk, Nat.mul_add] at ha
    omega
  rw [e3, Nat.add_mul_mod_self_left, Nat.mod_eq_of_lt (by omega)]
theorem shl_lane (L x j q : Nat) : lnq L (x <<< (L * j)) q = if q < j then 0 else lnq L x (q - j) := by
  refine Nat.eq_of_testBit_eq fun s => ?_
  by_cases hs : s < L
  · rw [bit_lnq, decide_eq_true hs, Bool.true_and, Nat.testBit_shiftLeft]
    split
    · rename_i h
      have h1 := Nat.mul_le_mul_left L (show q + 1 ≤ j from h)
      rw [Nat.mul_add, Nat.mul_one] at h1
      rw [decide_eq_false (by omega), Bool.false_and, Nat.zero_testBit]
    · rename_i h
      obtain ⟨d, rfl⟩ := Nat.exists_eq_add_of_le (Nat.le_of_not_lt h)
      rw [Nat.mul_add, decide_eq_true (by omega), Bool.true_and, bit_lnq, decide_eq_true hs, Bool.true_and]
      congr 1
      rw [show j + d - j = d by omega]
      omega
  · rw [bit_lnq, decide_eq_false hs, Bool.false_and]
    split
    · rw [Nat.zero_testBit]
    · rw [bit_lnq, decide_eq_false hs, Bool.false_and]
theorem lnq_zero (L q : Nat) : lnq L 0 q = 0 := by rw [lnq, Nat.zero_div, Nat.zero_mod]
theorem lnq_mod {L x N q : Nat} (h : q < N) : lnq L (x % 2 ^ (L * N)) q = lnq L x q := by
  have h1 := Nat.mul_le_mul_left L (show q + 1 ≤ N from h)
  rw [Nat.mul_add, Nat.mul_one] at h1
  refine Nat.eq_of_testBit_eq fun s => ?_
  rw [bit_lnq, bit_lnq]
  by_cases hs : s < L
  · rw [Nat.testBit_mod_two_pow, decide_eq_true (show L * q + s < L * N by omega), Bool.true_and]
  · rw [decide_eq_false hs, Bool.false_and, Bool.false_and]
/-- m in n lanes -/
def repN (L m : Nat) : Nat → Nat
  | 0 => 0
  | n + 1 => repN L m n + m <<< (L * n)
theorem repN_ln {L m : Nat} (hm : m < 2 ^ L) : ∀ n q, lnq L (repN L m n) q = if q < n then m else 0 := by
  have h0 : ∀ q, lnq L m q = if q = 0 then m else 0 := fun q => by
    cases q with
    | zero =>
      rw [if_pos rfl, lnq, Nat.mul_zero, Nat.pow_zero, Nat.div_one, Nat.mod_eq_of_lt hm]
    | succ q =>
      rw [if_neg (by omega), lnq, Nat.div_eq_of_lt, Nat.zero_mod]
      refine Nat.lt_of_lt_of_le hm (Nat.pow_le_pow_right (by omega) ?_)
      exact Nat.le_mul_of_pos_right _ (by omega)
  intro n
  induction n with
  | zero => intro q; rw [if_neg (by omega)]; exact lnq_zero L q
  | succ n ih =>
    have hs : ∀ i, lnq L (m <<< (L * n)) i = if i = n then m else 0 := fun i => by
      rw [shl_lane]
      split
      · rw [if_neg (by omega)]
      · rw [h0]
        by_cases hi : i = n
        · rw [if_pos hi, if_pos (by omega)]
        · rw [if_neg hi, if_neg (by omega)]
    intro q
    rw [repN, add_lane, ih, hs]
    · by_cases h1 : q < n
      · rw [if_pos h1, if_neg (by omega), if_pos (by omega), Nat.add_zero]
      · by_cases h2 : q = n
        · rw [if_neg h1, if_pos h2, if_pos (by omega), Nat.zero_add]
        · rw [if_neg h1, if_neg h2, if_neg (by omega)]
    · intro i _
      rw [ih, hs]
      by_cases h1 : i < n
      · rw [if_pos h1, if_neg (by omega)]; omega
      · rw [if_neg h1]
        split <;> omega
theorem repN_bit {L m n q s : Nat} (hm : m < 2 ^ L) (hs : s < L) : (repN L m n).testBit (L * q + s) = if q < n then m.testBit s else false := by
  have h := bit_lnq L (repN L m n) q s
  rw [repN_ln hm, decide_eq_true hs, Bool.true_and] at h
  rw [← h]
  split
  · rfl
  · exact Nat.zero_testBit s
/-- numbers in lanes, from a function -/
def pkF (L : Nat) (f : Nat → Nat) : Nat → Nat
  | 0 => 0
  | j + 1 => pkF L f j + f j <<< (L * j)
/-- one lane of a product -/
def convS (L F : Nat) (f : Nat → Nat) (n : Nat) : Nat → Nat
  | 0 => 0
  | j + 1 => convS L F f n j + if j ≤ n then f j * lnq L F (n - j) else 0
def sumF (f : Nat → Nat) : Nat → Nat
  | 0 => 0
  | j + 1 => sumF f j + f j
theorem convS_le {L F : Nat} {f : Nat → Nat} {B : Nat} (hF : ∀ q, lnq L F q ≤ B) (n : Nat) : ∀ j, convS L F f n j ≤ sumF f j * B := by
  intro j
  induction j with
  | zero => exact Nat.zero_le _
  | succ j ih =>
    rw [convS, sumF, Nat.add_mul]
    refine Nat.add_le_add ih ?_
    split
    · exact Nat.mul_le_mul_left _ (hF _)
    · exact Nat.zero_le _
theorem sumF_mono (f : Nat → Nat) {i j : Nat} (h : i ≤ j) : sumF f i ≤ sumF f j := by
  induction j with
  | zero => obtain rfl : i = 0 := by omega
            exact Nat.le_refl _
  | succ j ih =>
    rcases Nat.lt_or_ge i (j + 1) with h1 | h1
    · exact Nat.le_trans (ih (by omega)) (Nat.le_add_right _ _)
    · obtain rfl : i = j + 1 := by omega
      exact Nat.le_refl _
theorem conv_lane {L F : Nat} {f : Nat → Nat} {B J : Nat} (hF : ∀ q, lnq L F q ≤ B) (hB : sumF f J * B < 2 ^ L) : ∀ j, j ≤ J → ∀ n, lnq L (F * pkF L f j) n = convS L F f n j := by
  have hle : ∀ j, j ≤ J → sumF f j * B < 2 ^ L := fun j hj => Nat.lt_of_le_of_lt (Nat.mul_le_mul_right B (sumF_mono f hj)) hB
  intro j
  induction j with
  | zero => intro _ n; rw [pkF, Nat.mul_zero, lnq_zero]; rfl
  | succ j ih =>
    intro hj n
    have hj1 := hle (j + 1) hj
    have e : F * pkF L f (j + 1) = F * pkF L f j + (F * f j) <<< (L * j) := by
      rw [pkF, Nat.mul_add, Nat.shiftLeft_eq, Nat.shiftLeft_eq, Nat.mul_assoc]
    have hm : ∀ i, lnq L (F * f j) i = lnq L F i * f j := fun i => mul_lane fun k _ => by
      refine Nat.lt_of_le_of_lt ?_ hj1
      rw [sumF, Nat.add_mul, Nat.mul_comm]
      exact Nat.le_trans (Nat.mul_le_mul_left _ (hF k)) (Nat.le_add_left _ _)
    have hs : ∀ i, lnq L ((F * f j) <<< (L * j)) i = if j ≤ i then f j * lnq L F (i - j) else 0 := fun i => by
      rw [shl_lane]
      by_cases h : j ≤ i
      · rw [if_neg (by omega), if_pos h, hm, Nat.mul_comm]
      · rw [if_pos (by omega), if_neg h]
    rw [e, add_lane, ih (by omega), hs]
    · rfl
    · intro i _
      rw [ih (by omega), hs]
      exact Nat.lt_of_le_of_lt (convS_le (j := j + 1) hF i) hj1
end Go.Proofs.Ytnmomigaedfdoaa
namespace Go.Proofs.Ytnmomigaedfdoaa
set_option maxRecDepth 100000

/-- z units of 1/T are at most s e^-y -/
def GL (T z : Nat) (s y : Rat) : Prop := ∀ m, (z : Rat) * eq_ y m ≤ (T : Rat) * s
/-- z units of 1/T are at least s e^-y -/
def GU (T z : Nat) (s y : Rat) : Prop := ∃ m, (T : Rat) * s ≤ (z : Rat) * eq_ y m
section
variable {T z z' : Nat} {s s' y y' : Rat}
theorem GL.add (h : GL T z s y) (h' : GL T z' s' y) : GL T (z + z') (s + s') y := fun m => by
  have h1 := h m
  have h2 := h' m
  rw [Rat.natCast_add, Rat.mul_add, Rat.add_mul]
  grind
theorem GU.up (hy : 0 ≤ y) (h : GU T z s y) : ∃ m, ∀ k, m ≤ k → (T : Rat) * s ≤ (z : Rat) * eq_ y k := by
  obtain ⟨m, hm⟩ := h
  exact ⟨m, fun k hk => Rat.le_trans hm (mul_le_l (natR_nn z) (eq_mono hy hk))⟩
theorem GU.add (hy : 0 ≤ y) (h : GU T z s y) (h' : GU T z' s' y) : GU T (z + z') (s + s') y := by
  obtain ⟨m, hm⟩ := h.up hy
  obtain ⟨k, hk⟩ := h'.up hy
  have h1 := hm (max m k) (by omega)
  have h2 := hk (max m k) (by omega)
  refine ⟨max m k, ?_⟩
  rw [Rat.natCast_add, Rat.mul_add, Rat.add_mul]
  grind
theorem GL.mono (hy : 0 ≤ y) (h : GL T z' s y) (hz : z ≤ z') : GL T z s y := fun m =>
  Rat.le_trans (Rat.mul_le_mul_of_nonneg_right (by exact_mod_cast hz) (eq_nn hy m)) (h m)
theorem GL.more (h : GL T z s y) (hs : s ≤ s') : GL T z s' y := fun m => Rat.le_trans (h m) (mul_le_l (natR_nn T) hs)
theorem GU.mono (hy : 0 ≤ y) (h : GU T z s y) (hz : z ≤ z') : GU T z' s y := by
  obtain ⟨m, hm⟩ := h
  exact ⟨m, Rat.le_trans hm (Rat.mul_le_mul_of_nonneg_right (by exact_mod_cast hz) (eq_nn hy m))⟩
theorem GU.less (h : GU T z s' y) (hs : s ≤ s') : GU T z s y := by
  obtain ⟨m, hm⟩ := h
  exact ⟨m, Rat.le_trans (mul_le_l (natR_nn T) hs) hm⟩
theorem GL.mul (hy : 0 ≤ y) (hy' : 0 ≤ y') (_hs : 0 ≤ s) (h : GL T z s y) (h' : GL T z' s' y') : GL (T * T) (z * z') (s * s') (y + y') := fun m => by
  have h1 := eq_prod_le hy hy' m
  have h2 := h m
  have h3 := h' m
  have n1 := eq_nn hy m
  have n2 := eq_nn hy' m
  have a1 : (z : Rat) * (z' : Rat) * eq_ (y + y') m ≤ (z : Rat) * (z' : Rat) * (eq_ y m * eq_ y' m) := mul_le_l (Rat.mul_nonneg (natR_nn z) (natR_nn z')) h1
  have a2 : (z : Rat) * eq_ y m * ((z' : Rat) * eq_ y' m) ≤ (T : Rat) * s * ((T : Rat) * s') := mul_le_mul_nn (Rat.mul_nonneg (natR_nn z) n1) (Rat.le_trans (Rat.mul_nonneg (natR_nn z') n2) h3) h2 h3
  rw [Rat.natCast_mul, Rat.natCast_mul]
  have e : (z : Rat) * eq_ y m * ((z' : Rat) * eq_ y' m) = (z : Rat) * (z' : Rat) * (eq_ y m * eq_ y' m) := by grind
  have e2 : (T : Rat) * s * ((T : Rat) * s') = (T : Rat) * (T : Rat) * (s * s') := by grind
  rw [e, e2] at a2
  exact Rat.le_trans a1 a2
theorem GU.mul (hy : 0 ≤ y) (hy' : 0 ≤ y') (hs : 0 ≤ s) (_hs' : 0 ≤ s') (h : GU T z s y) (h' : GU T z' s' y') : GU (T * T) (z * z') (s * s') (y + y') := by
  obtain ⟨m, h2⟩ := h
  obtain ⟨k, h3⟩ := h'
  have h1 := eq_prod_ge hy hy' m k
  have n1 := eq_nn hy m
  have n2 := eq_nn hy' k
  refine ⟨m + k, ?_⟩
  have a1 : (z : Rat) * (z' : Rat) * (eq_ y m * eq_ y' k) ≤ (z : Rat) * (z' : Rat) * eq_ (y + y') (m + k) := mul_le_l (Rat.mul_nonneg (natR_nn z) (natR_nn z')) h1
  have a2 : (T : Rat) * s * ((T : Rat) * s') ≤ (z : Rat) * eq_ y m * ((z' : Rat) * eq_ y' k) := mul_le_mul_nn (Rat.mul_nonneg (natR_nn T) hs) (Rat.mul_nonneg (natR_nn z') n2) h2 h3
  rw [Rat.natCast_mul, Rat.natCast_mul]
  have e : (z : Rat) * eq_ y m * ((z' : Rat) * eq_ y' k) = (z : Rat) * (z' : Rat) * (eq_ y m * eq_ y' k) := by grind
  have e2 : (T : Rat) * s * ((T : Rat) * s') = (T : Rat) * (T : Rat) * (s * s') := by grind
  rw [e, e2] at a2
  exact Rat.le_trans a2 a1
theorem GL.scale (hT : 0 < T) (hy : 0 ≤ y) {w : Nat} (h : GL (T * T) z s y) (hw : w * T ≤ z) : GL T w s y := fun m => by
  have h1 := h m
  have hw' : (w : Rat) * (T : Rat) ≤ (z : Rat) := by exact_mod_cast hw
  have hT' : (0 : Rat) < (T : Rat) := by exact_mod_cast hT
  have a := Rat.mul_le_mul_of_nonneg_right hw' (eq_nn hy m)
  rw [Rat.natCast_mul] at h1
  refine Rat.le_of_mul_le_mul_right (c := (T : Rat)) ?_ hT'
  have e1 : (w : Rat) * eq_ y m * (T : Rat) = (w : Rat) * (T : Rat) * eq_ y m := by grind
  have e2 : (T : Rat) * s * (T : Rat) = (T : Rat) * (T : Rat) * s := by grind
  rw [e1, e2]
  exact Rat.le_trans a h1
theorem GU.scale (hT : 0 < T) (hy : 0 ≤ y) {w : Nat} (h : GU (T * T) z s y) (hw : z ≤ w * T) : GU T w s y := by
  obtain ⟨m, h1⟩ := h
  refine ⟨m, ?_⟩
  have hw' : (z : Rat) ≤ (w : Rat) * (T : Rat) := by exact_mod_cast hw
  have hT' : (0 : Rat) < (T : Rat) := by exact_mod_cast hT
  have a := Rat.mul_le_mul_of_nonneg_right hw' (eq_nn hy m)
  rw [Rat.natCast_mul] at h1
  refine Rat.le_of_mul_le_mul_right (c := (T : Rat)) ?_ hT'
  have e1 : (w : Rat) * eq_ y m * (T : Rat) = (w : Rat) * (T : Rat) * eq_ y m := by grind
  have e2 : (T : Rat) * s * (T : Rat) = (T : Rat) * (T : Rat) * s := by grind
  rw [e1, e2]
  exact Rat.le_trans h1 a
end
/-- e^(-1/d) / (d^j j!) in units of 2^-P -/
def kapF (P d j : Nat) : Nat := c0 P d / facD d j
section
variable {P d : Nat}
theorem inv_nn (hd : 0 < d) : (0 : Rat) ≤ 1 / (d : Rat) := by
  have hd1 : (1 : Rat) ≤ (d : Rat) := by exact_mod_cast hd
  rw [Rat.div_def, Rat.one_mul]; exact Rat.le_of_lt (Rat.inv_pos.2 (by grind))
theorem inv_le (hd : 0 < d) : 1 / (d : Rat) ≤ 1 := by
  have hd1 : (1 : Rat) ≤ (d : Rat) := by exact_mod_cast hd
  have hh : (1 / (d : Rat)) * (d : Rat) = 1 := Rat.div_mul_cancel (by grind)
  have := mul_le_l (inv_nn hd) hd1
  grind
theorem kap_lo (hd : 0 < d) (j : Nat) : GL (2 ^ P) (kapF P d j) (tq (1 / (d : Rat)) j) (1 / (d : Rat)) := fun m => by
  have h1 := c0_lo (P := P) hd m
  have h2 := tq_fac hd j
  have h3 : kapF P d j * facD d j ≤ c0 P d := Nat.div_mul_le_self _ _
  have h4 : (kapF P d j : Rat) * (facD d j : Rat) ≤ (c0 P d : Rat) := by exact_mod_cast h3
  have hf : (0 : Rat) < (facD d j : Rat) := by exact_mod_cast facD_pos hd j
  have n1 := eq_nn (inv_nn hd) m
  have a := Rat.mul_le_mul_of_nonneg_right h4 n1
  refine Rat.le_of_mul_le_mul_right (c := (facD d j : Rat)) ?_ hf
  have e1 : (kapF P d j : Rat) * eq_ (1 / (d : Rat)) m * (facD d j : Rat) = (kapF P d j : Rat) * (facD d j : Rat) * eq_ (1 / (d : Rat)) m := by grind
  have e2 : ((2 ^ P : Nat) : Rat) * tq (1 / (d : Rat)) j * (facD d j : Rat) = ((2 ^ P : Nat) : Rat) := by rw [Rat.mul_assoc, h2, Rat.mul_one]
  rw [e1, e2]
  exact Rat.le_trans a h1
theorem kap_hi (hd : 0 < d) (h : 2 ^ P * facD d 40 ≤ (c0 P d + 2) * serN d 40) (j : Nat) : GU (2 ^ P) (kapF P d j + 3) (tq (1 / (d : Rat)) j) (1 / (d : Rat)) := by
  obtain ⟨m, h1⟩ := c0_hi hd h
  refine ⟨m, ?_⟩
  have h2 := tq_fac hd j
  have h3 : c0 P d + 2 ≤ (kapF P d j + 3) * facD d j := by
    have hp := facD_pos hd j
    have a := Nat.div_add_mod (c0 P d) (facD d j)
    have b := Nat.mod_lt (c0 P d) hp
    have e : (kapF P d j + 3) * facD d j = facD d j * (c0 P d / facD d j) + 3 * facD d j := by rw [kapF]; grind
    omega
  have h4 : ((c0 P d + 2 : Nat) : Rat) ≤ ((kapF P d j + 3 : Nat) : Rat) * (facD d j : Rat) := by exact_mod_cast h3
  have hf : (0 : Rat) < (facD d j : Rat) := by exact_mod_cast facD_pos hd j
  have n1 := eq_nn (inv_nn hd) m
  have a := Rat.mul_le_mul_of_nonneg_right h4 n1
  refine Rat.le_of_mul_le_mul_right (c := (facD d j : Rat)) ?_ hf
  have e1 : ((kapF P d j + 3 : Nat) : Rat) * eq_ (1 / (d : Rat)) m * (facD d j : Rat) = ((kapF P d j + 3 : Nat) : Rat) * (facD d j : Rat) * eq_ (1 / (d : Rat)) m := by grind
  have e2 : ((2 ^ P : Nat) : Rat) * tq (1 / (d : Rat)) j * (facD d j : Rat) = ((2 ^ P : Nat) : Rat) := by rw [Rat.mul_assoc, h2, Rat.mul_one]
  rw [e1, e2]
  exact Rat.le_trans h1 a
theorem kap_sums (hd : 0 < d) : ∀ J, GL (2 ^ P) (sumF (kapF P d) J) (eq_ (1 / (d : Rat)) J) (1 / (d : Rat)) := by
  intro J
  induction J with
  | zero => intro m; show ((0 : Nat) : Rat) * _ ≤ _ * (0 : Rat); grind
  | succ J ih => exact ih.add (kap_lo hd J)
theorem kap_sum (hd : 0 < d) (J : Nat) : sumF (kapF P d) J ≤ 2 ^ P := by
  cases J with
  | zero => exact Nat.zero_le _
  | succ J =>
    have h := kap_sums (P := P) hd (J + 1) (J + 1)
    have h1 : 1 ≤ eq_ (1 / (d : Rat)) (J + 1) := by
      have a := eq_mono (inv_nn hd) (show 1 ≤ J + 1 by omega)
      have e : eq_ (1 / (d : Rat)) 1 = 1 := by show (0 : Rat) + 1 = 1; grind
      rw [e] at a; exact a
    have h2 := Rat.le_of_mul_le_mul_right h (by grind)
    exact_mod_cast h2
end
end Go.Proofs.Ytnmomigaedfdoaa
