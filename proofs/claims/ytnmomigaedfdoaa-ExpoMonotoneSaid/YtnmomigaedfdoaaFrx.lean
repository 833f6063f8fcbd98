/- The series of expo in whole numbers, with the operations' limits: a number that has too many limbs becomes 0. No program in sight. Fractions as rational numbers. No program in sight. Fractions as the program holds them. -/
import Derived.Test.YtnmomigaedfdoaaShT
import Derived.Test.YtnmomigaedfdoaaNatL
import Derived.Test.YtnmomigaedfdoaaNatD
namespace Go.Proofs.Ytnmomigaedfdoaa
set_option maxRecDepth 100000

def addO (a b : Nat) : Nat := nv (addS a b).1
def mulO (a b : Nat) : Nat := nv (mulS a b).1
def divO (a b : Nat) : Nat := nv (divS a b).1
def modO (a b : Nat) : Nat := nv (divS a b).2.1
def shO (k : Nat) : Nat := nv (shiftS 1 (k : Int)).1
theorem sizS_lim (n : Nat) : (sizS n).1 = lim (nv (sizS n).1) := by
  rw [sizS]
  split
  · show ([] : List Nat) = lim 0; rw [lim_zero]
  · show lim n = lim (nv (lim n)); rw [nv_lim]
theorem nil_lim : ([] : List Nat) = lim (nv []) := by show ([] : List Nat) = lim 0; rw [lim_zero]
theorem addS_lim (a b : Nat) : (addS a b).1 = lim (addO a b) := by
  rw [addO, addS]
  split
  · exact nil_lim
  · exact sizS_lim _
theorem mulS_lim (a b : Nat) : (mulS a b).1 = lim (mulO a b) := by
  rw [mulO, mulS]
  split
  · exact nil_lim
  · exact sizS_lim _
theorem divS_lim (a b : Nat) : (divS a b).1 = lim (divO a b) ∧ (divS a b).2.1 = lim (modO a b) := by
  rw [divO, modO, divS]
  split
  · exact ⟨nil_lim, nil_lim⟩
  · split
    · exact ⟨nil_lim, nil_lim⟩
    · exact ⟨by show lim _ = lim (nv (lim _)); rw [nv_lim], by show lim _ = lim (nv (lim _)); rw [nv_lim]⟩
theorem shS_lim (k : Nat) : (shiftS 1 (k : Int)).1 = lim (shO k) := by
  rw [shO, shiftS]
  split
  · exact nil_lim
  · split
    · exact nil_lim
    · split
      · exact sizS_lim _
      · show lim _ = lim (nv (lim _)); rw [nv_lim]
theorem sizS_le (n : Nat) : nv (sizS n).1 ≤ n := by
  rw [sizS]
  split
  · exact Nat.zero_le _
  · show nv (lim n) ≤ n; rw [nv_lim]; exact Nat.le_refl _
theorem addO_le (a b : Nat) : addO a b ≤ a + b := by
  rw [addO, addS]
  split
  · exact Nat.zero_le _
  · exact sizS_le _
theorem mulO_le (a b : Nat) : mulO a b ≤ a * b := by
  rw [mulO, mulS]
  split
  · exact Nat.zero_le _
  · exact sizS_le _
theorem divO_le (a b : Nat) : divO a b ≤ a / b := by
  rw [divO, divS]
  split
  · exact Nat.zero_le _
  · split
    · exact Nat.zero_le _
    · show nv (lim (a / b)) ≤ _; rw [nv_lim]; exact Nat.le_refl _
theorem divO_zero (a : Nat) : divO a 0 = 0 := by
  have := divO_le a 0
  rw [Nat.div_zero] at this; omega
theorem modO_zero_left (b : Nat) : modO 0 b = 0 := by
  rw [modO, divS]
  split
  · rfl
  · split
    · rfl
    · show nv (lim (0 % b)) = 0; rw [nv_lim, Nat.zero_mod]
theorem mulO_zero (b : Nat) : mulO 0 b = 0 := by have := mulO_le 0 b; omega
theorem divO_zero_left (b : Nat) : divO 0 b = 0 := by have := divO_le 0 b; rw [Nat.zero_div] at this; omega
/-- how many limbs a number below a power has -/
theorem lim_len_le {n k : Nat} (h : n < 2 ^ (32 * k)) : (lim n).length ≤ k := by
  induction k generalizing n with
  | zero => have : n = 0 := by simpa using h
            subst this; rw [lim_zero]; simp
  | succ k ih =>
    by_cases h0 : n = 0
    · subst h0; rw [lim_zero]; simp
    · rw [lim_pos h0, List.length_cons]
      have e : 2 ^ (32 * (k + 1)) = 4294967296 * 2 ^ (32 * k) := by rw [Nat.mul_add, Nat.pow_add]; omega
      have := ih (n := n / 4294967296) (by
        rw [Nat.div_lt_iff_lt_mul (by omega)]
        rw [e] at h
        rwa [Nat.mul_comm])
      omega
theorem lt_of_lim_len {n k : Nat} (h : (lim n).length ≤ k) : n < 2 ^ (32 * k) := by
  induction k generalizing n with
  | zero =>
    by_cases h0 : n = 0
    · subst h0; simp
    · rw [lim_pos h0] at h; simp at h
  | succ k ih =>
    by_cases h0 : n = 0
    · subst h0; exact Nat.pow_pos (by omega)
    · rw [lim_pos h0, List.length_cons] at h
      have e : 2 ^ (32 * (k + 1)) = 4294967296 * 2 ^ (32 * k) := by rw [Nat.mul_add, Nat.pow_add]; omega
      have := ih (n := n / 4294967296) (by omega)
      rw [e]
      rw [Nat.div_lt_iff_lt_mul (by omega)] at this
      rwa [Nat.mul_comm] at this
theorem sizS_fits {n : Nat} (h : (lim n).length ≤ 512) : nv (sizS n).1 = n := by rw [sizS, if_neg (by omega)]; exact nv_lim n
theorem addO_ok {a b : Nat} (h : (lim (a + b)).length ≤ 512) (ha : (lim a).length ≤ 512) (hb : (lim b).length ≤ 512) : addO a b = a + b := by
  rw [addO, addS, if_neg (by omega)]; exact sizS_fits h
theorem mulO_ok {a b : Nat} (h : (lim (a * b)).length ≤ 512) (ha : (lim a).length ≤ 512) (hb : (lim b).length ≤ 512) : mulO a b = a * b := by
  rw [mulO, mulS, if_neg (by omega)]; exact sizS_fits h
theorem divO_ok {a b : Nat} (ha : (lim a).length ≤ 512) (hb : (lim b).length ≤ 512) : divO a b = a / b := by
  rw [divO, divS, if_neg (by omega)]
  split
  · rename_i h; subst h; rw [Nat.div_zero]; rfl
  · exact nv_lim _
theorem modO_ok {a b : Nat} (ha : (lim a).length ≤ 512) (hb : (lim b).length ≤ 512) (h0 : b ≠ 0) : modO a b = a % b := by
  rw [modO, divS, if_neg (by omega), if_neg h0]; exact nv_lim _
theorem sizS_len (n : Nat) : (lim (nv (sizS n).1)).length ≤ 512 := by
  rw [← sizS_lim, sizS]
  split
  · simp
  · rename_i h; show (lim n).length ≤ 512; omega
theorem addO_len (a b : Nat) : (lim (addO a b)).length ≤ 512 := by
  rw [addO, addS]
  split
  · show (lim 0).length ≤ _; rw [lim_zero]; simp
  · exact sizS_len _
theorem mulO_len (a b : Nat) : (lim (mulO a b)).length ≤ 512 := by
  rw [mulO, mulS]
  split
  · show (lim 0).length ≤ _; rw [lim_zero]; simp
  · exact sizS_len _

/-- a number between two bounds -/
structure Pr where
  lo : Nat
  hi : Nat
def plusP (a b : Pr) : Pr := ⟨addO a.lo b.lo, addO a.hi b.hi⟩
def downO (a b c : Nat) : Nat := divO (mulO a b) c
def upO (a b c : Nat) : Nat := if modO (mulO a b) c = 0 then divO (mulO a b) c else addO (divO (mulO a b) c) 1
/-- the terms of the series of num / den in units of which there are one in 1 -/
def tP (num den one : Nat) : Nat → Pr
  | 0 => ⟨one, one⟩
  | i + 1 => ⟨downO (tP num den one i).lo num (mulO den (i + 1)), upO (tP num den one i).hi num (mulO den (i + 1))⟩
/-- the sum of the first i terms -/
def allP (num den one : Nat) : Nat → Pr
  | 0 => ⟨0, 0⟩
  | i + 1 => plusP (allP num den one i) (tP num den one i)
/-- those of them behind the term n -/
def restP (num den one n : Nat) : Nat → Pr
  | 0 => ⟨0, 0⟩
  | i + 1 => if n < i then plusP (restP num den one n i) (tP num den one i) else restP num den one n i
/-- may the series end at term i -/
def endP (num den one n : Nat) (i : Nat) : Prop := n < i ∧ 2 * (num / den) + 2 < i ∧ (tP num den one i).hi < 2
instance (num den one n i : Nat) : Decidable (endP num den one n i) := inferInstanceAs (Decidable (_ ∧ _ ∧ _))
/-- the first that holds from i on, within so many -/
def firstN (p : Nat → Prop) [DecidablePred p] : Nat → Nat → Nat
  | 0, i => i
  | f + 1, i => if p i then i else firstN p f (i + 1)
theorem firstN_spec (p : Nat → Prop) [DecidablePred p] : ∀ f i, (∃ j, i ≤ j ∧ j ≤ i + f ∧ p j) → p (firstN p f i) ∧ i ≤ firstN p f i ∧ firstN p f i ≤ i + f ∧ ∀ k, i ≤ k → k < firstN p f i → ¬ p k := by
  intro f
  induction f with
  | zero =>
    rintro i ⟨j, h1, h2, h3⟩
    obtain rfl : j = i := by omega
    exact ⟨h3, Nat.le_refl _, Nat.le_refl _, fun k h4 h5 => by rw [firstN] at h5; omega⟩
  | succ f ih =>
    rintro i ⟨j, h1, h2, h3⟩
    rw [firstN]
    by_cases hp : p i
    · rw [if_pos hp]
      exact ⟨hp, Nat.le_refl _, by omega, fun k h4 h5 => by omega⟩
    · rw [if_neg hp]
      have hij : i ≠ j := fun e => hp (by rw [e]; exact h3)
      obtain ⟨k1, k2, k3, k4⟩ := ih (i + 1) ⟨j, by omega, by omega, h3⟩
      refine ⟨k1, by omega, by omega, fun k h4 h5 => ?_⟩
      by_cases hk : k = i
      · rw [hk]; exact hp
      · exact k4 k (by omega) h5
def stopI (num den one n : Nat) : Nat := firstN (endP num den one n) 40000 0
theorem up_half {t num den i : Nat} (hd : (lim (den * (i + 1))).length ≤ 512) (hd1 : (lim den).length ≤ 512) (hi1 : (lim (i + 1)).length ≤ 512) (h0 : 0 < den) (h : 2 * num ≤ den * (i + 1)) : upO t num (mulO den (i + 1)) ≤ (t + 1) / 2 := by
  rw [mulO_ok hd hd1 hi1]
  have hc : 0 < den * (i + 1) := Nat.mul_pos h0 (by omega)
  obtain ⟨c, hcc⟩ : ∃ c, den * (i + 1) = c := ⟨_, rfl⟩
  rw [hcc] at h hc hd ⊢
  obtain ⟨m, hm⟩ : ∃ m, mulO t num = m := ⟨_, rfl⟩
  have h1 : m ≤ t * num := by rw [← hm]; exact mulO_le _ _
  have hml : (lim m).length ≤ 512 := by rw [← hm]; exact mulO_len _ _
  have h2 : 2 * m ≤ t * c := by
    have : t * (2 * num) ≤ t * c := Nat.mul_le_mul_left t h
    have e : t * (2 * num) = 2 * (t * num) := by grind
    omega
  rw [upO, hm]
  by_cases hr : modO m c = 0
  · rw [if_pos hr]
    refine Nat.le_trans (divO_le m c) ?_
    have h3 : m / c ≤ t / 2 := by
      rw [Nat.le_div_iff_mul_le (by omega)]
      have : m / c * 2 * c ≤ t * c := by
        have := Nat.div_mul_le_self m c
        have e : m / c * 2 * c = 2 * (m / c * c) := by grind
        omega
      exact Nat.le_of_mul_le_mul_right this hc
    omega
  · rw [if_neg hr]
    refine Nat.le_trans (addO_le _ _) ?_
    have h3 := divO_le m c
    have hr2 : m % c ≠ 0 := by rw [modO_ok hml hd (by omega)] at hr; exact hr
    have h4 : m / c < (t + 1) / 2 := by
      have h5 := Nat.div_add_mod m c
      have h6 : 2 * (c * (m / c)) + 2 * (m % c) ≤ t * c := by omega
      have h7 : 2 * (m / c) < t := by
        apply Nat.lt_of_mul_lt_mul_right (a := c)
        have e : 2 * (m / c) * c = 2 * (c * (m / c)) := by grind
        omega
      omega
    omega
theorem lim_len_mono {a b : Nat} (h : a ≤ b) {k : Nat} (hb : (lim b).length ≤ k) : (lim a).length ≤ k := lim_len_le (Nat.lt_of_le_of_lt h (lt_of_lim_len hb))
theorem divO_len (a b : Nat) : (lim (divO a b)).length ≤ 512 := by
  by_cases h : (lim a).length ≤ 512
  · exact lim_len_mono (Nat.le_trans (divO_le a b) (Nat.div_le_self a b)) h
  · rw [divO, divS, if_pos (by omega)]
    show (lim 0).length ≤ _; rw [lim_zero]; simp
theorem upO_len (a b c : Nat) : (lim (upO a b c)).length ≤ 512 := by
  rw [upO]
  split
  · exact divO_len _ _
  · exact addO_len _ _
/-- numbers that may be arguments of the series -/
structure XOk (num den : Nat) : Prop where
  d0 : 0 < den
  d1 : den < 18446744073709551616
  n1 : num < 18446744073709551616
  le : num ≤ 64 * den
theorem by_len {den i : Nat} (h : den < 18446744073709551616) (hi : i ≤ 100000) : (lim (den * (i + 1))).length ≤ 4 := by
  refine lim_len_le ?_
  have : den * (i + 1) < 18446744073709551616 * 18446744073709551616 := Nat.mul_lt_mul_of_lt_of_le h (by omega) (by omega)
  omega
theorem half_pow {H t k : Nat} (h : t ≤ 1 + H / 2 ^ k) : (t + 1) / 2 ≤ 1 + H / 2 ^ (k + 1) := by
  rw [Nat.pow_succ, ← Nat.div_div_eq_div_mul]
  omega
theorem stop_half {num den i0 : Nat} (one : Nat) (hx : XOk num den) (h1 : 2 * (num / den) + 2 < i0 + 1) (h2 : i0 ≤ 256) : ∀ k, k ≤ 20000 → (tP num den one (i0 + 1 + k)).hi ≤ 1 + (tP num den one (i0 + 1)).hi / 2 ^ k := by
  intro k
  induction k with
  | zero => intro _; simp
  | succ k ih =>
    intro hk
    have hs : (tP num den one (i0 + 1 + k + 1)).hi ≤ ((tP num den one (i0 + 1 + k)).hi + 1) / 2 := by
      rw [tP]
      refine up_half (i := i0 + 1 + k) (Nat.le_trans (by_len hx.d1 (by omega)) (by omega)) (Nat.le_trans (lim_len_le (k := 2) hx.d1) (by omega)) (Nat.le_trans (lim_len_le (k := 2) (by omega)) (by omega)) hx.d0 ?_
      have h5 := Nat.div_add_mod num den
      have h6 := Nat.mod_lt num hx.d0
      have h7 : den * (2 * (num / den) + 2) ≤ den * (i0 + 1 + k + 1) := Nat.mul_le_mul_left _ (by omega)
      have e : den * (2 * (num / den) + 2) = 2 * (den * (num / den)) + 2 * den := by grind
      omega
    exact Nat.le_trans hs (half_pow (ih (by omega)))
theorem stop_ex {num den n : Nat} (one : Nat) (hx : XOk num den) (hn : n ≤ 256) : ∃ j, 0 ≤ j ∧ j ≤ 0 + 40000 ∧ endP num den one n j := by
  have hw : num / den ≤ 64 := Nat.div_le_of_le_mul (by rw [Nat.mul_comm]; exact hx.le)
  obtain ⟨i0, h0, h1, h2⟩ : ∃ i0, n < i0 + 1 ∧ 2 * (num / den) + 2 < i0 + 1 ∧ i0 ≤ 256 := ⟨max n (2 * (num / den) + 2), by omega, by omega, by omega⟩
  obtain ⟨K, hK⟩ : ∃ K, K = 512 := ⟨_, rfl⟩
  have hH : (tP num den one (i0 + 1)).hi < 2 ^ (32 * K) := lt_of_lim_len (by rw [hK]; exact upO_len _ _ _)
  have h3 := stop_half one hx h1 h2 (32 * K) (by omega)
  rw [Nat.div_eq_of_lt hH] at h3
  exact ⟨i0 + 1 + 32 * K, by omega, by omega, by omega, by omega, by omega⟩
theorem stop_spec {num den n : Nat} (one : Nat) (hx : XOk num den) (hn : n ≤ 256) : endP num den one n (stopI num den one n) ∧ stopI num den one n ≤ 40000 ∧ ∀ k, k < stopI num den one n → ¬ endP num den one n k := by
  obtain ⟨h1, h2, h3, h4⟩ := firstN_spec (endP num den one n) 40000 0 (stop_ex one hx hn)
  exact ⟨h1, by rw [stopI]; omega, fun k hk => h4 k (Nat.zero_le _) hk⟩
/-- the sums that the series hands back -/
def sumA (num den one n : Nat) : Pr := plusP (allP num den one (stopI num den one n + 1)) ⟨0, (tP num den one (stopI num den one n)).hi⟩
def sumR (num den one n : Nat) : Pr := plusP (restP num den one n (stopI num den one n + 1)) ⟨0, (tP num den one (stopI num den one n)).hi⟩
/-- which number is asked for: 0 the exponential, 1 the weight, 2 the tail -/
def partP (num den one n kind : Nat) : Pr := if kind = 0 then ⟨one, one⟩ else if kind = 1 then tP num den one n else sumR num den one n
/-- the two floors at the precision p -/
def fAt (num den n bits kind p : Nat) : Nat × Nat := (downO (partP num den (shO p) n kind).lo (shO bits) (sumA num den (shO p) n).hi, downO (partP num den (shO p) n kind).hi (shO bits) (sumA num den (shO p) n).lo)
def floorG (num den n bits kind : Nat) : Nat → Nat → Nat
  | 0, _ => 0
  | f + 1, p => if (fAt num den n bits kind p).1 = (fAt num den n bits kind p).2 then (fAt num den n bits kind p).1 else floorG num den n bits kind f (p * 2)
def floorM (num den n bits kind : Nat) : Nat := floorG num den n bits kind 12 (bits + 48)
theorem shO_big {p : Nat} (h : 16384 ≤ p) : shO p = 0 := by
  rw [shO, shiftS]
  have h1 : ¬ 512 < (lim 1).length := by have := lim_len_le (n := 1) (k := 1) (by omega); omega
  by_cases h2 : 16384 < p
  · rw [if_pos (.inr ⟨by omega, by omega⟩)]; rfl
  · have hp : p = 32 * 512 := by omega
    rw [if_neg (fun h => by rcases h with h | h; exact h1 h; omega), if_neg (by omega), if_pos (by omega), sizS, if_pos]
    · rfl
    · apply Classical.byContradiction
      intro h3
      have h4 := lt_of_lim_len (n := 1 * 2 ^ (Int.toNat (p : Int))) (k := 512) (by omega)
      rw [Nat.one_mul, Int.toNat_natCast, ← hp] at h4
      exact absurd h4 (Nat.lt_irrefl _)
theorem tP_zero (num den : Nat) : ∀ i, tP num den 0 i = ⟨0, 0⟩ := by
  intro i
  induction i with
  | zero => rfl
  | succ i ih => rw [tP, ih, downO, upO, mulO_zero, modO_zero_left, if_pos rfl, divO_zero_left]
theorem addO_zero : addO 0 0 = 0 := by have := addO_le 0 0; omega
theorem allP_zero (num den : Nat) : ∀ i, allP num den 0 i = ⟨0, 0⟩ := by
  intro i
  induction i with
  | zero => rfl
  | succ i ih => rw [allP, ih, tP_zero, plusP, addO_zero]
theorem fAt_big {num den n bits kind p : Nat} (h : 16384 ≤ p) : (fAt num den n bits kind p).1 = (fAt num den n bits kind p).2 := by
  have e : sumA num den (shO p) n = ⟨0, 0⟩ := by rw [shO_big h, sumA, allP_zero, tP_zero, plusP, addO_zero]
  rw [fAt, e, downO, downO, divO_zero, divO_zero]
end Go.Proofs.Ytnmomigaedfdoaa
namespace Go.Proofs.Ytnmomigaedfdoaa
set_option maxRecDepth 100000

theorem bits2_lim (n k : Nat) : bits2 n ≤ 32 * k ↔ (lim n).length ≤ k := by rw [bits2_le, lim_length_le, pw_two]
/-- a number with its sign -/
def sg (b : Bool) (n : Nat) : Int := if b then -(n : Int) else n
/-- the value of a fraction -/
def qv (b : Bool) (n d : Nat) : Rat := mkRat (sg b n) d
theorem sg_natAbs (b : Bool) (n : Nat) : (sg b n).natAbs = n := by cases b <;> simp [sg]
theorem sg_eq_zero {b : Bool} {n : Nat} : sg b n = 0 ↔ n = 0 := by cases b <;> simp [sg]
theorem sg_lt (b : Bool) (n : Nat) : decide (sg b n < 0) = (b && decide (n ≠ 0)) := by
  cases b
  · simp [sg]
  · simp only [sg, if_true, Bool.true_and, decide_eq_decide]; omega
theorem sg_div {b : Bool} {n g : Nat} (h : g ∣ n) : sg b n / (g : Int) = sg b (n / g) := by
  obtain ⟨k, rfl⟩ := h
  rcases Nat.eq_zero_or_pos g with h0 | h0
  · subst h0; simp [sg]
  · rw [Nat.mul_div_cancel_left _ h0]
    cases b
    · simp only [sg]
      rw [Int.natCast_mul]
      exact Int.mul_ediv_cancel_left _ (by omega)
    · simp only [sg, if_true]
      rw [Int.natCast_mul, ← Int.mul_neg]
      exact Int.mul_ediv_cancel_left _ (by omega)
theorem qv_num {b : Bool} {n d : Nat} (hd : d ≠ 0) : (qv b n d).num = sg b (n / Nat.gcd n d) := by
  rw [qv, Rat.num_mkRat, if_neg hd, sg_natAbs, Nat.gcd_comm, sg_div (Nat.gcd_dvd_left n d)]
theorem qv_abs {b : Bool} {n d : Nat} (hd : d ≠ 0) : (qv b n d).num.natAbs = n / Nat.gcd n d := by rw [qv_num hd, sg_natAbs]
theorem qv_den {b : Bool} {n d : Nat} (hd : d ≠ 0) : (qv b n d).den = d / Nat.gcd n d := by
  rw [qv, Rat.den_mkRat, if_neg hd, sg_natAbs, Nat.gcd_comm]
theorem qv_neg' {b : Bool} {n d : Nat} (hd : d ≠ 0) : decide ((qv b n d).num < 0) = (b && decide (n / Nat.gcd n d ≠ 0)) := by rw [qv_num hd, sg_lt]
/-- too many limbs -/
def bigQ (q : Rat) : Prop := 128 < (lim q.num.natAbs).length ∨ 128 < (lim q.den).length
instance (q : Rat) : Decidable (bigQ q) := inferInstanceAs (Decidable (_ ∨ _))
/-- the fraction of a rational number, and the error -/
def frS (q : Rat) : Bool × List Nat × List Nat × Int := if bigQ q then (false, [], [], 2) else (decide (q.num < 0), lim q.num.natAbs, lim q.den, 0)
/-- a fraction that may be an argument -/
def Vf (n d : Nat) : Prop := d ≠ 0 ∧ (lim d).length ≤ 128 ∧ (lim n).length ≤ 128
instance (n d : Nat) : Decidable (Vf n d) := inferInstanceAs (Decidable (_ ∧ _))
theorem sg_mulr (b : Bool) (n d : Nat) : sg b n * (d : Int) = sg b (n * d) := by cases b <;> simp [sg, Int.neg_mul]
theorem qv_zero {b : Bool} {n d : Nat} (hd : d ≠ 0) : qv b n d = 0 ↔ n = 0 := by
  rw [qv, Rat.mkRat_eq_zero hd, sg_eq_zero]
/-- the comparison of rational numbers -/
def cmpQ (p q : Rat) : Int := if p < q then -1 else if q < p then 1 else 0
theorem qv_lt {b b' : Bool} {n d n' d' : Nat} (h : d ≠ 0) (h' : d' ≠ 0) : qv b n d < qv b' n' d' ↔ sg b (n * d') < sg b' (n' * d) := by
  rw [Rat.lt_iff_sub_pos]
  have e : qv b' n' d' - qv b n d = mkRat (sg b' n' * d - sg b n * d') (d' * d) := by
    rw [qv, qv, ← Rat.divInt_ofNat, ← Rat.divInt_ofNat, Rat.divInt_sub_divInt _ _ (by omega) (by omega), ← Int.natCast_mul, Rat.divInt_ofNat]
  rw [e, sg_mulr, sg_mulr, Rat.lt_iff_le_and_ne, ← Rat.divInt_ofNat]
  have hp : (0 : Int) < ((d' * d : Nat) : Int) := by have := Nat.mul_pos (Nat.pos_of_ne_zero h') (Nat.pos_of_ne_zero h); omega
  rw [Rat.divInt_nonneg_iff_of_pos_right hp, Rat.divInt_ofNat]
  have hne : (0 : Rat) ≠ mkRat (sg b' (n' * d) - sg b (n * d')) (d' * d) ↔ sg b' (n' * d) - sg b (n * d') ≠ 0 := by
    rw [ne_comm]
    exact Rat.mkRat_ne_zero (by have := Nat.mul_pos (Nat.pos_of_ne_zero h') (Nat.pos_of_ne_zero h); omega)
  rw [hne]
  omega
theorem cmpQ_qv {b b' : Bool} {n d n' d' : Nat} (h : d ≠ 0) (h' : d' ≠ 0) : cmpQ (qv b n d) (qv b' n' d') = if sg b (n * d') < sg b' (n' * d) then -1 else if sg b' (n' * d) < sg b (n * d') then 1 else 0 := by
  unfold cmpQ
  simp only [qv_lt h h', qv_lt h' h]
/-- what Cmp reckons -/
theorem cmpQ_code {b b' : Bool} {n d n' d' : Nat} (h : d ≠ 0) (h' : d' ≠ 0) :
    cmpQ (qv b n d) (qv b' n' d') = if (b && decide (n ≠ 0)) && (b' && decide (n' ≠ 0)) then - cmp3 (n * d') (n' * d) else if b && decide (n ≠ 0) then -1 else if b' && decide (n' ≠ 0) then 1 else cmp3 (n * d') (n' * d) := by
  rw [cmpQ_qv h h']
  have e1 : n * d' = 0 ↔ n = 0 := by rw [Nat.mul_eq_zero]; omega
  have e2 : n' * d = 0 ↔ n' = 0 := by rw [Nat.mul_eq_zero]; omega
  have hc := Nat.lt_trichotomy (n * d') (n' * d)
  generalize n * d' = x at *
  generalize n' * d = y at *
  unfold cmp3
  cases b <;> cases b' <;> simp only [sg, Bool.false_and, Bool.true_and, Bool.and_false, if_true, if_false, Bool.false_eq_true, decide_eq_true_eq, ne_eq, Bool.and_eq_true] <;> (repeat' split) <;> omega
end Go.Proofs.Ytnmomigaedfdoaa
namespace Go.Proofs.Ytnmomigaedfdoaa
set_option maxRecDepth 100000
open Go.RowKit

/-- a fraction: its sign, and where its numbers lie -/
structure Fx where
  b : Bool
  A : Option Addr
  c : Nat
  xs : List Nat
  D : Option Addr
  d : Nat
  ys : List Nat
abbrev Fx.val (x : Fx) : Value := .agg #[.bool x.b, .slice x.A x.xs.length x.c, .slice x.D x.ys.length x.d]
abbrev Fx.cells (x : Fx) : Array Value := #[.bool x.b, .slice x.A x.xs.length x.c, .slice x.D x.ys.length x.d]
/-- the nil fraction -/
abbrev Fx.nil : Fx := ⟨false, none, 0, [], none, 0, []⟩
structure Fx.ok (x : Fx) (w : World) : Prop where
  num : Nt w x.A x.c x.xs
  den : Nt w x.D x.d x.ys
theorem Fx.ok.below {x : Fx} {w w' : World} (h : x.ok w) (hb : Below w.heap.size w w') : x.ok w' := ⟨h.num.below hb, h.den.below hb⟩
theorem Fx.nil_ok (w : World) : Fx.nil.ok w := ⟨Nt.nil _ _ _ (by show 0 ≤ _; omega), Nt.nil _ _ _ (by show 0 ≤ _; omega)⟩
def Fx.v (x : Fx) : Prop := Vf (nv x.xs) (nv x.ys)
instance (x : Fx) : Decidable x.v := inferInstanceAs (Decidable (Vf _ _))
def Fx.q (x : Fx) : Rat := qv x.b (nv x.xs) (nv x.ys)
/-- what a call hands back: a fraction and an error -/
def FracRes (w : World) (s : Bool × List Nat × List Nat × Int) (e : Ending) (w' : World) : Prop :=
  ∃ x : Fx, e = .returned (.tuple #[x.val, .int .i64 s.2.2.2]) ∧ (x.b = s.1 ∧ x.xs = s.2.1 ∧ x.ys = s.2.2.1) ∧ x.ok w' ∧ Below w.heap.size w w'
/-- what a call hands back: a fraction -/
def FracNew (w : World) (s : Bool × List Nat × List Nat) (e : Ending) (w' : World) : Prop :=
  ∃ x : Fx, e = .returned x.val ∧ (x.b = s.1 ∧ x.xs = s.2.1 ∧ x.ys = s.2.2) ∧ x.ok w' ∧ Below w.heap.size w w'
end Go.Proofs.Ytnmomigaedfdoaa
