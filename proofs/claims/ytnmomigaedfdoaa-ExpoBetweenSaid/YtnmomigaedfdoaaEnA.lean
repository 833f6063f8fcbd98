/- Many numbers in the lanes of one: how they are multiplied at once, and how one looks for long runs of equal digits in all of them. No program in sight. -/
import Derived.Test.YtnmomigaedfdoaaBase
namespace Go.Proofs.Ytnmomigaedfdoaa
set_option maxRecDepth 100000

/-- the lane q, L digits wide -/
def lnq (L v q : Nat) : Nat := v / 2 ^ (L * q) % 2 ^ L
theorem bit_lnq (L v q s : Nat) : (lnq L v q).testBit s = (decide (s < L) && v.testBit (L * q + s)) := by
  rw [lnq, Nat.testBit_mod_two_pow, Nat.testBit_div_two_pow, Nat.add_comm s]
/-- the lanes of two numbers side by side -/
theorem cat_lt {L V U N M : Nat} (hV : V < 2 ^ (L * N)) (hU : U < 2 ^ (L * M)) : V + U <<< (L * N) < 2 ^ (L * (N + M)) := by
  rw [Nat.shiftLeft_eq, Nat.mul_add, Nat.pow_add]
  have h1 : (U + 1) * 2 ^ (L * N) ≤ 2 ^ (L * M) * 2 ^ (L * N) := Nat.mul_le_mul_right _ hU
  rw [Nat.add_mul, Nat.one_mul, Nat.mul_comm (2 ^ (L * M))] at h1
  omega
theorem cat_bit {L V U N : Nat} (hV : V < 2 ^ (L * N)) (i : Nat) : (V + U <<< (L * N)).testBit i = if i < L * N then V.testBit i else U.testBit (i - L * N) := by
  rw [Nat.add_comm, Nat.shiftLeft_eq, Nat.mul_comm, Nat.testBit_two_pow_mul_add _ hV]
theorem cat_low {L V U N q : Nat} (hV : V < 2 ^ (L * N)) (hq : q < N) : lnq L (V + U <<< (L * N)) q = lnq L V q := by
  refine Nat.eq_of_testBit_eq fun s => ?_
  rw [bit_lnq, bit_lnq]
  by_cases hs : s < L
  · have h1 := Nat.mul_le_mul_left L (show q + 1 ≤ N from hq)
    rw [Nat.mul_add, Nat.mul_one] at h1
    rw [cat_bit hV, if_pos (by omega)]
  · rw [decide_eq_false hs, Bool.false_and, Bool.false_and]
theorem cat_high {L V U N q : Nat} (hV : V < 2 ^ (L * N)) : lnq L (V + U <<< (L * N)) (N + q) = lnq L U q := by
  refine Nat.eq_of_testBit_eq fun s => ?_
  rw [bit_lnq, bit_lnq]
  rw [cat_bit hV, Nat.mul_add, if_neg (by omega)]
  congr 2
  omega
/-- 2^j lanes that hold m -/
def rep (L m : Nat) : Nat → Nat
  | 0 => m
  | j + 1 => rep L m j + (rep L m j) <<< (L * 2 ^ j)
theorem rep_lt {L m : Nat} (hm : m < 2 ^ L) : ∀ j, rep L m j < 2 ^ (L * 2 ^ j) := by
  intro j
  induction j with
  | zero => show m < 2 ^ (L * 2 ^ 0); rw [Nat.pow_zero, Nat.mul_one]; exact hm
  | succ j ih =>
    have h := cat_lt ih ih
    rw [← Nat.two_mul] at h
    rwa [Nat.pow_succ, Nat.mul_comm (2 ^ j) 2]
theorem rep_ln {L m : Nat} (hm : m < 2 ^ L) : ∀ j q, q < 2 ^ j → lnq L (rep L m j) q = m := by
  intro j
  induction j with
  | zero =>
    intro q hq
    obtain rfl : q = 0 := by rw [Nat.pow_zero] at hq; omega
    show m / 2 ^ (L * 0) % 2 ^ L = m
    rw [Nat.mul_zero, Nat.pow_zero, Nat.div_one, Nat.mod_eq_of_lt hm]
  | succ j ih =>
    intro q hq
    rw [Nat.pow_succ] at hq
    rw [rep]
    rcases Nat.lt_or_ge q (2 ^ j) with h | h
    · rw [cat_low (rep_lt hm j) h]; exact ih q h
    · obtain ⟨d, rfl⟩ := Nat.exists_eq_add_of_le h
      rw [cat_high (rep_lt hm j)]; exact ih d (by omega)
theorem rep_bit {L m j q s : Nat} (hm : m < 2 ^ L) (hq : q < 2 ^ j) (hs : s < L) : (rep L m j).testBit (L * q + s) = m.testBit s := by
  have h := bit_lnq L (rep L m j) q s
  rw [rep_ln hm j q hq, decide_eq_true hs, Bool.true_and] at h
  exact h.symm
/-- all lanes times c -/
theorem mod_lane (L V q : Nat) : V % 2 ^ (L * (q + 1)) = V % 2 ^ (L * q) + 2 ^ (L * q) * lnq L V q := by
  rw [Nat.mul_add, Nat.pow_add, Nat.mod_mul, lnq, Nat.mul_one]
theorem low_mul {L V c : Nat} : ∀ q, (∀ i, i < q → lnq L V i * c < 2 ^ L) → V % 2 ^ (L * q) * c < 2 ^ (L * q) := by
  intro q
  induction q with
  | zero => intro _; rw [Nat.mul_zero, Nat.pow_zero, Nat.mod_one, Nat.zero_mul]; omega
  | succ q ih =>
    intro h
    have h1 := ih fun i hi => h i (by omega)
    have h2 := h q (by omega)
    rw [mod_lane, Nat.add_mul, Nat.mul_assoc, Nat.mul_add L q 1, Nat.pow_add, Nat.mul_one]
    generalize lnq L V q * c = y at h2 ⊢
    have h3 : 2 ^ (L * q) * (y + 1) ≤ 2 ^ (L * q) * 2 ^ L := Nat.mul_le_mul_left _ h2
    rw [Nat.mul_add, Nat.mul_one] at h3
    omega
theorem mul_lane {L V c q : Nat} (h : ∀ i, i ≤ q → lnq L V i * c < 2 ^ L) : lnq L (V * c) q = lnq L V q * c := by
  have h1 := low_mul (V := V) (c := c) q fun i hi => h i (by omega)
  have h2 := h q (Nat.le_refl _)
  have e1 : V * c = V % 2 ^ (L * q) * c + 2 ^ (L * q) * (V / 2 ^ (L * q) * c) := by
    have := Nat.mod_add_div V (2 ^ (L * q))
    rw [← Nat.mul_assoc, ← Nat.add_mul, this]
  have e2 : V * c / 2 ^ (L * q) = V / 2 ^ (L * q) * c := by
    rw [e1, Nat.add_mul_div_left _ _ (Nat.pow_pos (by omega)), Nat.div_eq_of_lt h1, Nat.zero_add]
  have e3 : lnq L (V * c) q = V / 2 ^ (L * q) * c % 2 ^ L := by
    show V * c / 2 ^ (L * q) % 2 ^ L = _
    rw [e2]
  rw [e3]
  show V / 2 ^ (L * q) * c % 2 ^ L = V / 2 ^ (L * q) % 2 ^ L * c
  have e4 := Nat.mod_add_div (V / 2 ^ (L * q)) (2 ^ L)
  have e5 : V / 2 ^ (L * q) * c = V / 2 ^ (L * q) % 2 ^ L * c + 2 ^ L * (V / 2 ^ (L * q) / 2 ^ L * c) := by rw [← Nat.mul_assoc, ← Nat.add_mul, e4]
  rw [e5, Nat.add_mul_mod_self_left]
  exact Nat.mod_eq_of_lt h2
/-- every digit or'ed with the 2^j - 1 that stand left of it -/
def foldr2 (x : Nat) : Nat → Nat
  | 0 => x
  | j + 1 => foldr2 x j ||| (foldr2 x j) >>> (2 ^ j)
theorem fold_bit (x : Nat) : ∀ j i, (foldr2 x j).testBit i = true ↔ ∃ s, s < 2 ^ j ∧ x.testBit (i + s) = true := by
  intro j
  induction j with
  | zero =>
    intro i
    rw [Nat.pow_zero]
    exact ⟨fun h => ⟨0, by omega, h⟩, fun ⟨s, hs, h⟩ => by have e : s = 0 := (by omega); rw [e] at h; exact h⟩
  | succ j ih =>
    intro i
    rw [foldr2, Nat.testBit_or, Nat.testBit_shiftRight, Bool.or_eq_true, ih i, ih (2 ^ j + i), Nat.pow_succ]
    constructor
    · rintro (⟨s, hs, h⟩ | ⟨s, hs, h⟩)
      · exact ⟨s, by omega, h⟩
      · exact ⟨2 ^ j + s, by omega, by rw [show i + (2 ^ j + s) = 2 ^ j + i + s by omega]; exact h⟩
    · rintro ⟨s, hs, h⟩
      rcases Nat.lt_or_ge s (2 ^ j) with h1 | h1
      · exact Or.inl ⟨s, h1, h⟩
      · obtain ⟨d, rfl⟩ := Nat.exists_eq_add_of_le h1
        exact Or.inr ⟨d, by omega, by rw [show 2 ^ j + i + d = i + (2 ^ j + d) by omega]; exact h⟩
/-- the 192 digits from here on to the left -/
def smear (x : Nat) : Nat := foldr2 x 7 ||| (foldr2 x 7) >>> 64
theorem smear_bit {x i : Nat} (h : (smear x).testBit i = false) : ∀ s, s < 192 → x.testBit (i + s) = false := by
  intro s hs
  cases hb : x.testBit (i + s) with
  | false => rfl
  | true =>
    have : (smear x).testBit i = true := by
      rw [smear, Nat.testBit_or, Nat.testBit_shiftRight, Bool.or_eq_true, fold_bit, fold_bit]
      rcases Nat.lt_or_ge s 128 with h1 | h1
      · exact Or.inl ⟨s, by omega, hb⟩
      · exact Or.inr ⟨s - 64, by omega, by rw [show 64 + i + (s - 64) = i + s by omega]; exact hb⟩
    rw [h] at this
    exact absurd this (by decide)
def maskN (L m n : Nat) : Nat := (rep L m n >>> L) <<< L
theorem mask_bit {L m n q s : Nat} (hm : m < 2 ^ L) (h1 : 1 ≤ q) (hq : q < 2 ^ n) (hs : s < L) : (maskN L m n).testBit (L * q + s) = m.testBit s := by
  obtain ⟨d, rfl⟩ := Nat.exists_eq_add_of_le h1
  rw [maskN, Nat.testBit_shiftLeft, Nat.testBit_shiftRight, Nat.mul_add, Nat.mul_one, decide_eq_true (by omega), Bool.true_and]
  have e : L + (L + L * d + s - L) = L * (1 + d) + s := by rw [Nat.mul_add, Nat.mul_one]; omega
  rw [e, rep_bit hm hq hs]
/-- where m has a digit, the 65 digits from it on to the left are not all alike in any lane but the first; or the lane has none there -/
def goodL (L m V n : Nat) : Bool := ((smear V &&& maskN L m n) &&& foldr2 (V ^^^ (V >>> 1)) 6) == (smear V &&& maskN L m n)
theorem lane_good {L m V n q r : Nat} (hm : m < 2 ^ L) (hg : goodL L m V n = true) (h1 : 1 ≤ q) (hq : q < 2 ^ n) (hmr : m.testBit r = true) (hr : r + 192 ≤ L) (hv : lnq L V q < 2 ^ (r + 192)) :
    lnq L V q < 2 ^ r ∨ (2 ^ r ≤ lnq L V q % 2 ^ (r + 65) ∧ lnq L V q % 2 ^ (r + 65) + 2 ^ r ≤ 2 ^ (r + 65)) := by
  have hM := mask_bit (n := n) hm h1 hq (show r < L by omega)
  rw [hmr] at hM
  have hE : ((smear V &&& maskN L m n) &&& foldr2 (V ^^^ (V >>> 1)) 6).testBit (L * q + r) = (smear V &&& maskN L m n).testBit (L * q + r) := by
    rw [eq_of_beq hg]
  rw [Nat.testBit_and, Nat.testBit_and, hM, Bool.and_true] at hE
  generalize hw : lnq L V q = v at hv ⊢
  have hbit : ∀ t, r + t < L → v.testBit (r + t) = V.testBit (L * q + r + t) := fun t ht => by
    rw [← hw, bit_lnq, decide_eq_true ht, Bool.true_and, Nat.add_assoc]
  cases hS : (smear V).testBit (L * q + r) with
  | false =>
    left
    have h2 := smear_bit hS
    refine Nat.lt_pow_two_of_testBit _ fun j hj => ?_
    obtain ⟨t, rfl⟩ := Nat.exists_eq_add_of_le hj
    rcases Nat.lt_or_ge t 192 with h3 | h3
    · rw [hbit t (by omega)]; exact h2 t h3
    · exact Nat.testBit_lt_two_pow (Nat.lt_of_lt_of_le hv (Nat.pow_le_pow_right (by omega) (by omega)))
  | true =>
    right
    rw [hS, Bool.true_and] at hE
    obtain ⟨s, hs, hx⟩ := (fold_bit _ 6 _).1 hE
    rw [Nat.testBit_xor, Nat.testBit_shiftRight] at hx
    have hs64 : s < 64 := hs
    rw [← hbit s (by omega), show 1 + (L * q + r + s) = L * q + r + (s + 1) by omega, ← hbit (s + 1) (by omega)] at hx
    obtain ⟨u, hu⟩ : ∃ u, v / 2 ^ r % 2 ^ 65 = u := ⟨_, rfl⟩
    have hub : ∀ t, t < 65 → u.testBit t = v.testBit (r + t) := fun t ht => by
      rw [← hu, Nat.testBit_mod_two_pow, Nat.testBit_div_two_pow, decide_eq_true ht, Bool.true_and, Nat.add_comm]
    rw [← hub s (by omega), ← hub (s + 1) (by omega)] at hx
    have hu0 : u ≠ 0 := by
      rintro rfl
      rw [Nat.zero_testBit, Nat.zero_testBit] at hx
      exact absurd hx (by decide)
    have hu1 : u ≠ 2 ^ 65 - 1 := by
      rintro rfl
      rw [Nat.testBit_two_pow_sub_one, Nat.testBit_two_pow_sub_one, decide_eq_true (by omega), decide_eq_true (by omega)] at hx
      exact absurd hx (by decide)
    have hul : u < 2 ^ 65 := by rw [← hu]; exact Nat.mod_lt _ (Nat.pow_pos (by omega))
    have e : v % 2 ^ (r + 65) = v % 2 ^ r + 2 ^ r * u := by rw [Nat.pow_add, Nat.mod_mul, hu]
    have hlo : v % 2 ^ r < 2 ^ r := Nat.mod_lt _ (Nat.pow_pos (by omega))
    have g1 : 2 ^ r * 1 ≤ 2 ^ r * u := Nat.mul_le_mul_left _ (by omega)
    have g2 : 2 ^ r * (u + 2) ≤ 2 ^ r * 2 ^ 65 := Nat.mul_le_mul_left _ (by omega)
    rw [e, Nat.pow_add 2 r 65]
    rw [Nat.mul_add] at g2
    omega
end Go.Proofs.Ytnmomigaedfdoaa
