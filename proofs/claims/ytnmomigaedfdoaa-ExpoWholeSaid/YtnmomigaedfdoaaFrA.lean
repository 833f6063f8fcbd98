/- The series of expo in whole numbers, with the operations' limits: a number that has too many limbs becomes 0. No program in sight. Fractions as rational numbers. No program in sight. Fractions as the program holds them. The walks of package fraction: zero, minus, times, Valid, lowest, Reduce. -/
import Derived.Test.YtnmomigaedfdoaaNatL
import Derived.Test.YtnmomigaedfdoaaNatH
import Derived.Deep.CutBlock
import Derived.Deep.DeepCutAuto
namespace Go.Proofs.Ytnmomigaedfdoaa
set_option maxRecDepth 100000

def addO (a b : Nat) : Nat := nv (addS a b).1
def mulO (a b : Nat) : Nat := nv (mulS a b).1
def divO (a b : Nat) : Nat := nv (divS a b).1
def modO (a b : Nat) : Nat := nv (divS a b).2.1
def shO (k : Nat) : Nat := nv (shiftS 1 (k : Int)).1
theorem sizS_lim (n : Nat) : (sizS n).1 = lim (nv (sizS n).1) := by
  rw [sizS]
  split
  · show ([] : List Nat) = lim 0; rw [lim_zero]
  · show lim n = lim (nv (lim n)); rw [nv_lim]
theorem nil_lim : ([] : List Nat) = lim (nv []) := by show ([] : List Nat) = lim 0; rw [lim_zero]
theorem addS_lim (a b : Nat) : (addS a b).1 = lim (addO a b) := by
  rw [addO, addS]
  split
  · exact nil_lim
  · exact sizS_lim _
theorem mulS_lim (a b : Nat) : (mulS a b).1 = lim (mulO a b) := by
  rw [mulO, mulS]
  split
  · exact nil_lim
  · exact sizS_lim _
theorem divS_lim (a b : Nat) : (divS a b).1 = lim (divO a b) ∧ (divS a b).2.1 = lim (modO a b) := by
  rw [divO, modO, divS]
  split
  · exact ⟨nil_lim, nil_lim⟩
  · split
    · exact ⟨nil_lim, nil_lim⟩
    · exact ⟨by show lim _ = lim (nv (lim _)); rw [nv_lim], by show lim _ = lim (nv (lim _)); rw [nv_lim]⟩
theorem shS_lim (k : Nat) : (shiftS 1 (k : Int)).1 = lim (shO k) := by
  rw [shO, shiftS]
  split
  · exact nil_lim
  · split
    · exact nil_lim
    · split
      · exact sizS_lim _
      · show lim _ = lim (nv (lim _)); rw [nv_lim]
theorem sizS_le (n : Nat) : nv (sizS n).1 ≤ n := by
  rw [sizS]
  split
  · exact Nat.zero_le _
  · show nv (lim n) ≤ n; rw [nv_lim]; exact Nat.le_refl _
theorem addO_le (a b : Nat) : addO a b ≤ a + b := by
  rw [addO, addS]
  split
  · exact Nat.zero_le _
  · exact sizS_le _
theorem mulO_le (a b : Nat) : mulO a b ≤ a * b := by
  rw [mulO, mulS]
  split
  · exact Nat.zero_le _
  · exact sizS_le _
theorem divO_le (a b : Nat) : divO a b ≤ a / b := by
  rw [divO, divS]
  split
  · exact Nat.zero_le _
  · split
    · exact Nat.zero_le _
    · show nv (lim (a / b)) ≤ _; rw [nv_lim]; exact Nat.le_refl _
theorem divO_zero (a : Nat) : divO a 0 = 0 := by
  have := divO_le a 0
  rw [Nat.div_zero] at this; omega
theorem modO_zero_left (b : Nat) : modO 0 b = 0 := by
  rw [modO, divS]
  split
  · rfl
  · split
    · rfl
    · show nv (lim (0 % b)) = 0; rw [nv_lim, Nat.zero_mod]
theorem mulO_zero (b : Nat) : mulO 0 b = 0 := by have := mulO_le 0 b; omega
theorem divO_zero_left (b : Nat) : divO 0 b = 0 := by have := divO_le 0 b; rw [Nat.zero_div] at this; omega
/-- how many limbs a number below a power has -/
theorem lim_len_le {n k : Nat} (h : n < 2 ^ (32 * k)) : (lim n).length ≤ k := by
  induction k generalizing n with
  | zero => have : n = 0 := by simpa using h
            subst this; rw [lim_zero]; simp
  | succ k ih =>
    by_cases h0 : n = 0
    · subst h0; rw [lim_zero]; simp
    · rw [lim_pos h0, List.length_cons]
      have e : 2 ^ (32 * (k + 1)) = 4294967296 * 2 ^ (32 * k) := by rw [Nat.mul_add, Nat.pow_add]; omega
      have := ih (n := n / 4294967296) (by
        rw [Nat.div_lt_iff_lt_mul (by omega)]
        rw [e] at h
        rwa [Nat.mul_comm])
      omega
theorem lt_of_lim_len {n k : Nat} (h : (lim n).length ≤ k) : n < 2 ^ (32 * k) := by
  induction k generalizing n with
  | zero =>
    by_cases h0 : n = 0
    · subst h0; simp
    · rw [lim_pos h0] at h; simp at h
  | succ k ih =>
    by_cases h0 : n = 0
    · subst h0; exact Nat.pow_pos (by omega)
    · rw [lim_pos h0, List.length_cons] at h
      have e : 2 ^ (32 * (k + 1)) = 4294967296 * 2 ^ (32 * k) := by rw [Nat.mul_add, Nat.pow_add]; omega
      have := ih (n := n / 4294967296) (by omega)
      rw [e]
      rw [Nat.div_lt_iff_lt_mul (by omega)] at this
      rwa [Nat.mul_comm] at this
theorem sizS_fits {n : Nat} (h : (lim n).length ≤ 512) : nv (sizS n).1 = n := by rw [sizS, if_neg (by omega)]; exact nv_lim n
theorem addO_ok {a b : Nat} (h : (lim (a + b)).length ≤ 512) (ha : (lim a).length ≤ 512) (hb : (lim b).length ≤ 512) : addO a b = a + b := by
  rw [addO, addS, if_neg (by omega)]; exact sizS_fits h
theorem mulO_ok {a b : Nat} (h : (lim (a * b)).length ≤ 512) (ha : (lim a).length ≤ 512) (hb : (lim b).length ≤ 512) : mulO a b = a * b := by
  rw [mulO, mulS, if_neg (by omega)]; exact sizS_fits h
theorem divO_ok {a b : Nat} (ha : (lim a).length ≤ 512) (hb : (lim b).length ≤ 512) : divO a b = a / b := by
  rw [divO, divS, if_neg (by omega)]
  split
  · rename_i h; subst h; rw [Nat.div_zero]; rfl
  · exact nv_lim _
theorem modO_ok {a b : Nat} (ha : (lim a).length ≤ 512) (hb : (lim b).length ≤ 512) (h0 : b ≠ 0) : modO a b = a % b := by
  rw [modO, divS, if_neg (by omega), if_neg h0]; exact nv_lim _
theorem sizS_len (n : Nat) : (lim (nv (sizS n).1)).length ≤ 512 := by
  rw [← sizS_lim, sizS]
  split
  · simp
  · rename_i h; show (lim n).length ≤ 512; omega
theorem addO_len (a b : Nat) : (lim (addO a b)).length ≤ 512 := by
  rw [addO, addS]
  split
  · show (lim 0).length ≤ _; rw [lim_zero]; simp
  · exact sizS_len _
theorem mulO_len (a b : Nat) : (lim (mulO a b)).length ≤ 512 := by
  rw [mulO, mulS]
  split
  · show (lim 0).length ≤ _; rw [lim_zero]; simp
  · exact sizS_len _

/-- a number between two bounds -/
structure Pr where
  lo : Nat
  hi : Nat
def plusP (a b : Pr) : Pr := ⟨addO a.lo b.lo, addO a.hi b.hi⟩
def downO (a b c : Nat) : Nat := divO (mulO a b) c
def upO (a b c : Nat) : Nat := if modO (mulO a b) c = 0 then divO (mulO a b) c else addO (divO (mulO a b) c) 1
/-- the terms of the series of num / den in units of which there are one in 1 -/
def tP (num den one : Nat) : Nat → Pr
  | 0 => ⟨one, one⟩
  | i + 1 => ⟨downO (tP num den one i).lo num (mulO den (i + 1)), upO (tP num den one i).hi num (mulO den (i + 1))⟩
/-- the sum of the first i terms -/
def allP (num den one : Nat) : Nat → Pr
  | 0 => ⟨0, 0⟩
  | i + 1 => plusP (allP num den one i) (tP num den one i)
/-- those of them behind the term n -/
def restP (num den one n : Nat) : Nat → Pr
  | 0 => ⟨0, 0⟩
  | i + 1 => if n < i then plusP (restP num den one n i) (tP num den one i) else restP num den one n i
/-- may the series end at term i -/
def endP (num den one n : Nat) (i : Nat) : Prop := n < i ∧ 2 * (num / den) + 2 < i ∧ (tP num den one i).hi < 2
instance (num den one n i : Nat) : Decidable (endP num den one n i) := inferInstanceAs (Decidable (_ ∧ _ ∧ _))
/-- the first that holds from i on, within so many -/
def firstN (p : Nat → Prop) [DecidablePred p] : Nat → Nat → Nat
  | 0, i => i
  | f + 1, i => if p i then i else firstN p f (i + 1)
theorem firstN_spec (p : Nat → Prop) [DecidablePred p] : ∀ f i, (∃ j, i ≤ j ∧ j ≤ i + f ∧ p j) → p (firstN p f i) ∧ i ≤ firstN p f i ∧ firstN p f i ≤ i + f ∧ ∀ k, i ≤ k → k < firstN p f i → ¬ p k := by
  intro f
  induction f with
  | zero =>
    rintro i ⟨j, h1, h2, h3⟩
    obtain rfl : j = i := by omega
    exact ⟨h3, Nat.le_refl _, Nat.le_refl _, fun k h4 h5 => by rw [firstN] at h5; omega⟩
  | succ f ih =>
    rintro i ⟨j, h1, h2, h3⟩
    rw [firstN]
    by_cases hp : p i
    · rw [if_pos hp]
      exact ⟨hp, Nat.le_refl _, by omega, fun k h4 h5 => by omega⟩
    · rw [if_neg hp]
      have hij : i ≠ j := fun e => hp (by rw [e]; exact h3)
      obtain ⟨k1, k2, k3, k4⟩ := ih (i + 1) ⟨j, by omega, by omega, h3⟩
      refine ⟨k1, by omega, by omega, fun k h4 h5 => ?_⟩
      by_cases hk : k = i
      · rw [hk]; exact hp
      · exact k4 k (by omega) h5
def stopI (num den one n : Nat) : Nat := firstN (endP num den one n) 40000 0
theorem up_half {t num den i : Nat} (hd : (lim (den * (i + 1))).length ≤ 512) (hd1 : (lim den).length ≤ 512) (hi1 : (lim (i + 1)).length ≤ 512) (h0 : 0 < den) (h : 2 * num ≤ den * (i + 1)) : upO t num (mulO den (i + 1)) ≤ (t + 1) / 2 := by
  rw [mulO_ok hd hd1 hi1]
  have hc : 0 < den * (i + 1) := Nat.mul_pos h0 (by omega)
  obtain ⟨c, hcc⟩ : ∃ c, den * (i + 1) = c := ⟨_, rfl⟩
  rw [hcc] at h hc hd ⊢
  obtain ⟨m, hm⟩ : ∃ m, mulO t num = m := ⟨_, rfl⟩
  have h1 : m ≤ t * num := by rw [← hm]; exact mulO_le _ _
  have hml : (lim m).length ≤ 512 := by rw [← hm]; exact mulO_len _ _
  have h2 : 2 * m ≤ t * c := by
    have : t * (2 * num) ≤ t * c := Nat.mul_le_mul_left t h
    have e : t * (2 * num) = 2 * (t * num) := by grind
    omega
  rw [upO, hm]
  by_cases hr : modO m c = 0
  · rw [if_pos hr]
    refine Nat.le_trans (divO_le m c) ?_
    have h3 : m / c ≤ t / 2 := by
      rw [Nat.le_div_iff_mul_le (by omega)]
      have : m / c * 2 * c ≤ t * c := by
        have := Nat.div_mul_le_self m c
        have e : m / c * 2 * c = 2 * (m / c * c) := by grind
        omega
      exact Nat.le_of_mul_le_mul_right this hc
    omega
  · rw [if_neg hr]
    refine Nat.le_trans (addO_le _ _) ?_
    have h3 := divO_le m c
    have hr2 : m % c ≠ 0 := by rw [modO_ok hml hd (by omega)] at hr; exact hr
    have h4 : m / c < (t + 1) / 2 := by
      have h5 := Nat.div_add_mod m c
      have h6 : 2 * (c * (m / c)) + 2 * (m % c) ≤ t * c := by omega
      have h7 : 2 * (m / c) < t := by
        apply Nat.lt_of_mul_lt_mul_right (a := c)
        have e : 2 * (m / c) * c = 2 * (c * (m / c)) := by grind
        omega
      omega
    omega
theorem lim_len_mono {a b : Nat} (h : a ≤ b) {k : Nat} (hb : (lim b).length ≤ k) : (lim a).length ≤ k := lim_len_le (Nat.lt_of_le_of_lt h (lt_of_lim_len hb))
theorem divO_len (a b : Nat) : (lim (divO a b)).length ≤ 512 := by
  by_cases h : (lim a).length ≤ 512
  · exact lim_len_mono (Nat.le_trans (divO_le a b) (Nat.div_le_self a b)) h
  · rw [divO, divS, if_pos (by omega)]
    show (lim 0).length ≤ _; rw [lim_zero]; simp
theorem upO_len (a b c : Nat) : (lim (upO a b c)).length ≤ 512 := by
  rw [upO]
  split
  · exact divO_len _ _
  · exact addO_len _ _
/-- numbers that may be arguments of the series -/
structure XOk (num den : Nat) : Prop where
  d0 : 0 < den
  d1 : den < 18446744073709551616
  n1 : num < 18446744073709551616
  le : num ≤ 64 * den
theorem by_len {den i : Nat} (h : den < 18446744073709551616) (hi : i ≤ 100000) : (lim (den * (i + 1))).length ≤ 4 := by
  refine lim_len_le ?_
  have : den * (i + 1) < 18446744073709551616 * 18446744073709551616 := Nat.mul_lt_mul_of_lt_of_le h (by omega) (by omega)
  omega
theorem half_pow {H t k : Nat} (h : t ≤ 1 + H / 2 ^ k) : (t + 1) / 2 ≤ 1 + H / 2 ^ (k + 1) := by
  rw [Nat.pow_succ, ← Nat.div_div_eq_div_mul]
  omega
theorem stop_half {num den i0 : Nat} (one : Nat) (hx : XOk num den) (h1 : 2 * (num / den) + 2 < i0 + 1) (h2 : i0 ≤ 256) : ∀ k, k ≤ 20000 → (tP num den one (i0 + 1 + k)).hi ≤ 1 + (tP num den one (i0 + 1)).hi / 2 ^ k := by
  intro k
  induction k with
  | zero => intro _; simp
  | succ k ih =>
    intro hk
    have hs : (tP num den one (i0 + 1 + k + 1)).hi ≤ ((tP num den one (i0 + 1 + k)).hi + 1) / 2 := by
      rw [tP]
      refine up_half (i := i0 + 1 + k) (Nat.le_trans (by_len hx.d1 (by omega)) (by omega)) (Nat.le_trans (lim_len_le (k := 2) hx.d1) (by omega)) (Nat.le_trans (lim_len_le (k := 2) (by omega)) (by omega)) hx.d0 ?_
      have h5 := Nat.div_add_mod num den
      have h6 := Nat.mod_lt num hx.d0
      have h7 : den * (2 * (num / den) + 2) ≤ den * (i0 + 1 + k + 1) := Nat.mul_le_mul_left _ (by omega)
      have e : den * (2 * (num / den) + 2) = 2 * (den * (num / den)) + 2 * den := by grind
      omega
    exact Nat.le_trans hs (half_pow (ih (by omega)))
theorem stop_ex {num den n : Nat} (one : Nat) (hx : XOk num den) (hn : n ≤ 256) : ∃ j, 0 ≤ j ∧ j ≤ 0 + 40000 ∧ endP num den one n j := by
  have hw : num / den ≤ 64 := Nat.div_le_of_le_mul (by rw [Nat.mul_comm]; exact hx.le)
  obtain ⟨i0, h0, h1, h2⟩ : ∃ i0, n < i0 + 1 ∧ 2 * (num / den) + 2 < i0 + 1 ∧ i0 ≤ 256 := ⟨max n (2 * (num / den) + 2), by omega, by omega, by omega⟩
  obtain ⟨K, hK⟩ : ∃ K, K = 512 := ⟨_, rfl⟩
  have hH : (tP num den one (i0 + 1)).hi < 2 ^ (32 * K) := lt_of_lim_len (by rw [hK]; exact upO_len _ _ _)
  have h3 := stop_half one hx h1 h2 (32 * K) (by omega)
  rw [Nat.div_eq_of_lt hH] at h3
  exact ⟨i0 + 1 + 32 * K, by omega, by omega, by omega, by omega, by omega⟩
theorem stop_spec {num den n : Nat} (one : Nat) (hx : XOk num den) (hn : n ≤ 256) : endP num den one n (stopI num den one n) ∧ stopI num den one n ≤ 40000 ∧ ∀ k, k < stopI num den one n → ¬ endP num den one n k := by
  obtain ⟨h1, h2, h3, h4⟩ := firstN_spec (endP num den one n) 40000 0 (stop_ex one hx hn)
  exact ⟨h1, by rw [stopI]; omega, fun k hk => h4 k (Nat.zero_le _) hk⟩
/-- the sums that the series hands back -/
def sumA (num den one n : Nat) : Pr := plusP (allP num den one (stopI num den one n + 1)) ⟨0, (tP num den one (stopI num den one n)).hi⟩
def sumR (num den one n : Nat) : Pr := plusP (restP num den one n (stopI num den one n + 1)) ⟨0, (tP num den one (stopI num den one n)).hi⟩
/-- which number is asked for: 0 the exponential, 1 the weight, 2 the tail -/
def partP (num den one n kind : Nat) : Pr := if kind = 0 then ⟨one, one⟩ else if kind = 1 then tP num den one n else sumR num den one n
/-- the two floors at the precision p -/
def fAt (num den n bits kind p : Nat) : Nat × Nat := (downO (partP num den (shO p) n kind).lo (shO bits) (sumA num den (shO p) n).hi, downO (partP num den (shO p) n kind).hi (shO bits) (sumA num den (shO p) n).lo)
def floorG (num den n bits kind : Nat) : Nat → Nat → Nat
  | 0, _ => 0
  | f + 1, p => if (fAt num den n bits kind p).1 = (fAt num den n bits kind p).2 then (fAt num den n bits kind p).1 else floorG num den n bits kind f (p * 2)
def floorM (num den n bits kind : Nat) : Nat := floorG num den n bits kind 12 (bits + 48)
theorem shO_big {p : Nat} (h : 16384 ≤ p) : shO p = 0 := by
  rw [shO, shiftS]
  have h1 : ¬ 512 < (lim 1).length := by have := lim_len_le (n := 1) (k := 1) (by omega); omega
  by_cases h2 : 16384 < p
  · rw [if_pos (.inr ⟨by omega, by omega⟩)]; rfl
  · have hp : p = 32 * 512 := by omega
    rw [if_neg (fun h => by rcases h with h | h; exact h1 h; omega), if_neg (by omega), if_pos (by omega), sizS, if_pos]
    · rfl
    · apply Classical.byContradiction
      intro h3
      have h4 := lt_of_lim_len (n := 1 * 2 ^ (Int.toNat (p : Int))) (k := 512) (by omega)
      rw [Nat.one_mul, Int.toNat_natCast, ← hp] at h4
      exact absurd h4 (Nat.lt_irrefl _)
theorem tP_zero (num den : Nat) : ∀ i, tP num den 0 i = ⟨0, 0⟩ := by
  intro i
  induction i with
  | zero => rfl
  | succ i ih => rw [tP, ih, downO, upO, mulO_zero, modO_zero_left, if_pos rfl, divO_zero_left]
theorem addO_zero : addO 0 0 = 0 := by have := addO_le 0 0; omega
theorem allP_zero (num den : Nat) : ∀ i, allP num den 0 i = ⟨0, 0⟩ := by
  intro i
  induction i with
  | zero => rfl
  | succ i ih => rw [allP, ih, tP_zero, plusP, addO_zero]
theorem fAt_big {num den n bits kind p : Nat} (h : 16384 ≤ p) : (fAt num den n bits kind p).1 = (fAt num den n bits kind p).2 := by
  have e : sumA num den (shO p) n = ⟨0, 0⟩ := by rw [shO_big h, sumA, allP_zero, tP_zero, plusP, addO_zero]
  rw [fAt, e, downO, downO, divO_zero, divO_zero]
end Go.Proofs.Ytnmomigaedfdoaa
namespace Go.Proofs.Ytnmomigaedfdoaa
set_option maxRecDepth 100000

theorem bits2_lim (n k : Nat) : bits2 n ≤ 32 * k ↔ (lim n).length ≤ k := by rw [bits2_le, lim_length_le, pw_two]
/-- a number with its sign -/
def sg (b : Bool) (n : Nat) : Int := if b then -(n : Int) else n
/-- the value of a fraction -/
def qv (b : Bool) (n d : Nat) : Rat := mkRat (sg b n) d
theorem sg_natAbs (b : Bool) (n : Nat) : (sg b n).natAbs = n := by cases b <;> simp [sg]
theorem sg_neg (b : Bool) (n : Nat) : sg (!b) n = - sg b n := by cases b <;> simp [sg]
theorem sg_eq_zero {b : Bool} {n : Nat} : sg b n = 0 ↔ n = 0 := by cases b <;> simp [sg]
theorem sg_lt (b : Bool) (n : Nat) : decide (sg b n < 0) = (b && decide (n ≠ 0)) := by
  cases b
  · simp [sg]
  · simp only [sg, if_true, Bool.true_and, decide_eq_decide]; omega
theorem sg_div {b : Bool} {n g : Nat} (h : g ∣ n) : sg b n / (g : Int) = sg b (n / g) := by
  obtain ⟨k, rfl⟩ := h
  rcases Nat.eq_zero_or_pos g with h0 | h0
  · subst h0; simp [sg]
  · rw [Nat.mul_div_cancel_left _ h0]
    cases b
    · simp only [sg]
      rw [Int.natCast_mul]
      exact Int.mul_ediv_cancel_left _ (by omega)
    · simp only [sg, if_true]
      rw [Int.natCast_mul, ← Int.mul_neg]
      exact Int.mul_ediv_cancel_left _ (by omega)
theorem sg_mul (a b : Bool) (m n : Nat) : sg a m * sg b n = sg (a != b) (m * n) := by
  cases a <;> cases b <;> simp [sg, Int.neg_mul, Int.mul_neg]
theorem sg_add (b : Bool) (m n : Nat) : sg b m + sg b n = sg b (m + n) := by cases b <;> simp [sg]; omega
theorem sg_sub {a b : Bool} (h : a ≠ b) {m n : Nat} (hle : n ≤ m) : sg a m + sg b n = sg a (m - n) := by
  cases a <;> cases b <;> simp [sg] at * <;> omega
theorem qv_num {b : Bool} {n d : Nat} (hd : d ≠ 0) : (qv b n d).num = sg b (n / Nat.gcd n d) := by
  rw [qv, Rat.num_mkRat, if_neg hd, sg_natAbs, Nat.gcd_comm, sg_div (Nat.gcd_dvd_left n d)]
theorem qv_abs {b : Bool} {n d : Nat} (hd : d ≠ 0) : (qv b n d).num.natAbs = n / Nat.gcd n d := by rw [qv_num hd, sg_natAbs]
theorem qv_den {b : Bool} {n d : Nat} (hd : d ≠ 0) : (qv b n d).den = d / Nat.gcd n d := by
  rw [qv, Rat.den_mkRat, if_neg hd, sg_natAbs, Nat.gcd_comm]
theorem qv_neg' {b : Bool} {n d : Nat} (hd : d ≠ 0) : decide ((qv b n d).num < 0) = (b && decide (n / Nat.gcd n d ≠ 0)) := by rw [qv_num hd, sg_lt]
/-- too many limbs -/
def bigQ (q : Rat) : Prop := 128 < (lim q.num.natAbs).length ∨ 128 < (lim q.den).length
instance (q : Rat) : Decidable (bigQ q) := inferInstanceAs (Decidable (_ ∨ _))
/-- the fraction of a rational number, and the error -/
def frS (q : Rat) : Bool × List Nat × List Nat × Int := if bigQ q then (false, [], [], 2) else (decide (q.num < 0), lim q.num.natAbs, lim q.den, 0)
/-- a fraction that may be an argument -/
def Vf (n d : Nat) : Prop := d ≠ 0 ∧ (lim d).length ≤ 128 ∧ (lim n).length ≤ 128
instance (n d : Nat) : Decidable (Vf n d) := inferInstanceAs (Decidable (_ ∧ _))
theorem qv_opp (b : Bool) (n d : Nat) : qv (!b) n d = - qv b n d := by rw [qv, qv, sg_neg, Rat.neg_mkRat]
theorem qv_add_same {b : Bool} {n d n' d' : Nat} (h : d ≠ 0) (h' : d' ≠ 0) : qv b n d + qv b n' d' = qv b (n * d' + n' * d) (d * d') := by
  rw [qv, qv, Rat.mkRat_add_mkRat _ _ h h', qv, ← sg_add]
  congr 1
  cases b <;> simp [sg, Int.natCast_mul, Int.neg_mul]
theorem sg_mulr (b : Bool) (n d : Nat) : sg b n * (d : Int) = sg b (n * d) := by cases b <;> simp [sg, Int.neg_mul]
theorem qv_add_ge {b b' : Bool} {n d n' d' : Nat} (h : d ≠ 0) (h' : d' ≠ 0) (hb : b ≠ b') (hle : n' * d ≤ n * d') : qv b n d + qv b' n' d' = qv b (n * d' - n' * d) (d * d') := by
  rw [qv, qv, Rat.mkRat_add_mkRat _ _ h h', qv, ← sg_sub hb hle, sg_mulr, sg_mulr]
theorem qv_add_lt {b b' : Bool} {n d n' d' : Nat} (h : d ≠ 0) (h' : d' ≠ 0) (hb : b ≠ b') (hle : n * d' ≤ n' * d) : qv b n d + qv b' n' d' = qv b' (n' * d - n * d') (d * d') := by
  rw [Rat.add_comm, qv_add_ge h' h hb.symm hle, Nat.mul_comm d' d]
theorem qv_mul (b b' : Bool) (n d n' d' : Nat) : qv b n d * qv b' n' d' = qv (b != b') (n * n') (d * d') := by
  rw [qv, qv, Rat.mkRat_mul_mkRat, qv, sg_mul]
theorem qv_inv {b : Bool} {n d : Nat} (_hn : n ≠ 0) : (qv b n d)⁻¹ = qv b d n := by
  rw [qv, qv, ← Rat.divInt_ofNat, Rat.inv_divInt, ← Rat.divInt_ofNat]
  cases b
  · simp [sg]
  · simp only [sg, if_true]
    rw [Rat.divInt_neg']
theorem qv_quo {b b' : Bool} {n d n' d' : Nat} (hn : n' ≠ 0) : qv b n d / qv b' n' d' = qv (b != b') (n * d') (d * n') := by
  rw [Rat.div_def, qv_inv hn, qv_mul]
theorem qv_zero {b : Bool} {n d : Nat} (hd : d ≠ 0) : qv b n d = 0 ↔ n = 0 := by
  rw [qv, Rat.mkRat_eq_zero hd, sg_eq_zero]
/-- the comparison of rational numbers -/
def cmpQ (p q : Rat) : Int := if p < q then -1 else if q < p then 1 else 0
theorem qv_lt {b b' : Bool} {n d n' d' : Nat} (h : d ≠ 0) (h' : d' ≠ 0) : qv b n d < qv b' n' d' ↔ sg b (n * d') < sg b' (n' * d) := by
  rw [Rat.lt_iff_sub_pos]
  have e : qv b' n' d' - qv b n d = mkRat (sg b' n' * d - sg b n * d') (d' * d) := by
    rw [qv, qv, ← Rat.divInt_ofNat, ← Rat.divInt_ofNat, Rat.divInt_sub_divInt _ _ (by omega) (by omega), ← Int.natCast_mul, Rat.divInt_ofNat]
  rw [e, sg_mulr, sg_mulr, Rat.lt_iff_le_and_ne, ← Rat.divInt_ofNat]
  have hp : (0 : Int) < ((d' * d : Nat) : Int) := by have := Nat.mul_pos (Nat.pos_of_ne_zero h') (Nat.pos_of_ne_zero h); omega
  rw [Rat.divInt_nonneg_iff_of_pos_right hp, Rat.divInt_ofNat]
  have hne : (0 : Rat) ≠ mkRat (sg b' (n' * d) - sg b (n * d')) (d' * d) ↔ sg b' (n' * d) - sg b (n * d') ≠ 0 := by
    rw [ne_comm]
    exact Rat.mkRat_ne_zero (by have := Nat.mul_pos (Nat.pos_of_ne_zero h') (Nat.pos_of_ne_zero h); omega)
  rw [hne]
  omega
theorem cmpQ_qv {b b' : Bool} {n d n' d' : Nat} (h : d ≠ 0) (h' : d' ≠ 0) : cmpQ (qv b n d) (qv b' n' d') = if sg b (n * d') < sg b' (n' * d) then -1 else if sg b' (n' * d) < sg b (n * d') then 1 else 0 := by
  unfold cmpQ
  simp only [qv_lt h h', qv_lt h' h]
/-- what Cmp reckons -/
theorem cmpQ_code {b b' : Bool} {n d n' d' : Nat} (h : d ≠ 0) (h' : d' ≠ 0) :
    cmpQ (qv b n d) (qv b' n' d') = if (b && decide (n ≠ 0)) && (b' && decide (n' ≠ 0)) then - cmp3 (n * d') (n' * d) else if b && decide (n ≠ 0) then -1 else if b' && decide (n' ≠ 0) then 1 else cmp3 (n * d') (n' * d) := by
  rw [cmpQ_qv h h']
  have e1 : n * d' = 0 ↔ n = 0 := by rw [Nat.mul_eq_zero]; omega
  have e2 : n' * d = 0 ↔ n' = 0 := by rw [Nat.mul_eq_zero]; omega
  have hc := Nat.lt_trichotomy (n * d') (n' * d)
  generalize n * d' = x at *
  generalize n' * d = y at *
  unfold cmp3
  cases b <;> cases b' <;> simp only [sg, Bool.false_and, Bool.true_and, Bool.and_false, if_true, if_false, Bool.false_eq_true, decide_eq_true_eq, ne_eq, Bool.and_eq_true] <;> (repeat' split) <;> omega
end Go.Proofs.Ytnmomigaedfdoaa
namespace Go.Proofs.Ytnmomigaedfdoaa
set_option maxRecDepth 100000
open Go.RowKit

/-- a fraction: its sign, and where its numbers lie -/
structure Fx where
  b : Bool
  A : Option Addr
  c : Nat
  xs : List Nat
  D : Option Addr
  d : Nat
  ys : List Nat
abbrev Fx.val (x : Fx) : Value := .agg #[.bool x.b, .slice x.A x.xs.length x.c, .slice x.D x.ys.length x.d]
abbrev Fx.cells (x : Fx) : Array Value := #[.bool x.b, .slice x.A x.xs.length x.c, .slice x.D x.ys.length x.d]
/-- the nil fraction -/
abbrev Fx.nil : Fx := ⟨false, none, 0, [], none, 0, []⟩
structure Fx.ok (x : Fx) (w : World) : Prop where
  num : Nt w x.A x.c x.xs
  den : Nt w x.D x.d x.ys
theorem Fx.ok.below {x : Fx} {w w' : World} (h : x.ok w) (hb : Below w.heap.size w w') : x.ok w' := ⟨h.num.below hb, h.den.below hb⟩
theorem Fx.nil_ok (w : World) : Fx.nil.ok w := ⟨Nt.nil _ _ _ (by show 0 ≤ _; omega), Nt.nil _ _ _ (by show 0 ≤ _; omega)⟩
def Fx.v (x : Fx) : Prop := Vf (nv x.xs) (nv x.ys)
instance (x : Fx) : Decidable x.v := inferInstanceAs (Decidable (Vf _ _))
def Fx.q (x : Fx) : Rat := qv x.b (nv x.xs) (nv x.ys)
/-- what a call hands back: a fraction and an error -/
def FracRes (w : World) (s : Bool × List Nat × List Nat × Int) (e : Ending) (w' : World) : Prop :=
  ∃ x : Fx, e = .returned (.tuple #[x.val, .int .i64 s.2.2.2]) ∧ (x.b = s.1 ∧ x.xs = s.2.1 ∧ x.ys = s.2.2.1) ∧ x.ok w' ∧ Below w.heap.size w w'
/-- what a call hands back: a fraction -/
def FracNew (w : World) (s : Bool × List Nat × List Nat) (e : Ending) (w' : World) : Prop :=
  ∃ x : Fx, e = .returned x.val ∧ (x.b = s.1 ∧ x.xs = s.2.1 ∧ x.ys = s.2.2) ∧ x.ok w' ∧ Below w.heap.size w w'
end Go.Proofs.Ytnmomigaedfdoaa
namespace Go.Proofs.Ytnmomigaedfdoaa
set_option maxRecDepth 100000
open Go.RowKit

/-- a block of three cells that can be written -/
structure Bk3 (w : World) (G : Nat) (v0 v1 v2 : Value) : Prop where
  c0 : w.cell? ⟨G, 0, none⟩ = some v0
  c1 : w.cell? ⟨G, 1, none⟩ = some v1
  c2 : w.cell? ⟨G, 2, none⟩ = some v2
  f0 : w.frozen? ⟨G, 0, none⟩ = false
  f1 : w.frozen? ⟨G, 1, none⟩ = false
  f2 : w.frozen? ⟨G, 2, none⟩ = false
  lt : G < w.heap.size
  blk : ∃ t fr, w.heap[G]? = some (.cells #[v0, v1, v2] t fr)
theorem Bk3.below {w w' : World} {G : Nat} {v0 v1 v2 : Value} (h : Bk3 w G v0 v1 v2) (hb : Below w.heap.size w w') : Bk3 w' G v0 v1 v2 :=
  ⟨(hb.cell (p := ⟨G, 0, none⟩) h.lt).trans h.c0, (hb.cell (p := ⟨G, 1, none⟩) h.lt).trans h.c1, (hb.cell (p := ⟨G, 2, none⟩) h.lt).trans h.c2,
   (hb.frozen (p := ⟨G, 0, none⟩) h.lt).trans h.f0, (hb.frozen (p := ⟨G, 1, none⟩) h.lt).trans h.f1, (hb.frozen (p := ⟨G, 2, none⟩) h.lt).trans h.f2, Nat.lt_of_lt_of_le h.lt hb.size,
   by obtain ⟨t, fr, e⟩ := h.blk; exact ⟨t, fr, (hb.block G h.lt).trans e⟩⟩
def isInt : Value → Bool | .int _ _ => true | _ => false
/-- limbs do not lie in such a block -/
theorem Nt.sep3 {w : World} {A : Option Addr} {c G : Nat} {xs : List Nat} {v0 v1 v2 : Value} (h : Nt w A c xs) (bk : Bk3 w G v0 v1 v2) (e0 : isInt v0 = false) (e1 : isInt v1 = false) (e2 : isInt v2 = false) (hx : 0 < xs.length) : ∀ ad, A = some ad → ad.block ≠ G := fun ad e hG => by
  obtain ⟨ad', e', _, hc, _⟩ := h.at 0 hx
  rw [e] at e'
  injection e' with e'
  subst e'
  obtain ⟨t, fr, hblk⟩ := bk.blk
  have hb0 : (ad.add 0).block = G := by rw [block_of_add]; exact hG
  unfold World.cell? at hc
  rw [hb0, hblk] at hc
  simp only at hc
  split at hc
  · cases hc
  · have : ∀ v ∈ [v0, v1, v2], isInt v = false := by intro v hv; simp at hv; rcases hv with rfl | rfl | rfl <;> assumption
    have hm := Array.mem_of_getElem? hc
    have := this (.int .u32 (xs[0] : Int)) (by simpa using hm)
    simp [isInt] at this
theorem Nt.nil_any {w : World} {A : Option Addr} {c : Nat} {xs : List Nat} (h : Nt w A c xs) (hx : xs.length = 0) (w' : World) : Nt w' A c xs := by
  obtain rfl := List.eq_nil_of_length_eq_zero hx
  exact ⟨h.cap, h.max, h.u, Rd.nil⟩
theorem fzero_any (w : World) (x : Fx) (b : Bool) (hx : Nt w x.A x.c x.xs) (hl : x.xs.length ≤ 10000) (hb : decide (nv x.xs = 0) = b) : Calls Try.prog 100 #[x.val] w fun e w' => e = .returned (.bool b) ∧ Below w.heap.size w w' := by
  have hbb : ((bits2 (nv x.xs) : Int) == 0) = b := by
    rw [← hb, Bool.eq_iff_iff, beq_iff_eq, decide_eq_true_eq]
    have : bits2 (nv x.xs) = 0 ↔ nv x.xs = 0 := by unfold bits2; split <;> omega
    omega
  have HB := Lib.hid hbb
  clear hb hbb
  go_enter Try.func100, Try.ntmps100
  go_wp2_with fail
  have bb := (Below.refl w.heap.size w).alloc (Nat.le_refl _) (.cells x.cells 26)
  refine (bits_any _ x.A x.c _ x.xs (hx.below bb) rfl (by omega)).mono ?_
  rintro e wn ⟨rfl, rfl⟩
  go_wp2_with fail
  go_ret
  exact ⟨ret_bool HB.out, bb⟩

theorem ftimes_any (w : World) (A D : Option Addr) (c d n m : Nat) (xs ys R : List Nat) (E : Int) (h : Nt w A c xs) (k : Nt w D d ys) (hn : n = xs.length) (hm : m = ys.length) (hr : mulS (nv xs) (nv ys) = (R, E)) :
    Calls Try.prog 99 #[.slice A n c, .slice D m d] w fun e w' => ∃ A' c', e = .returned (.slice A' R.length c') ∧ Nt w' A' c' R ∧ Below w.heap.size w w' := by
  have HR := Lib.hid hr; clear hr
  subst hn hm
  go_enter Try.func99, Try.ntmps99
  go_wp2_with fail
  refine (mul_any w A D c d _ _ xs ys R E h k rfl rfl HR.out).mono ?_
  rintro e wn ⟨A', c', rfl, n', bb⟩
  go_wp2_with fail
  go_ret
  exact ⟨A', c', rfl, n', bb⟩
theorem len_mulf {m n j k : Nat} (hm : (lim m).length ≤ j) (hn : (lim n).length ≤ k) : (lim (m * n)).length ≤ j + k := by
  rw [lim_length_le] at *
  rw [pw_add]
  exact Nat.mul_lt_mul'' hm hn
theorem len_addf {m n k : Nat} (hm : (lim m).length ≤ k) (hn : (lim n).length ≤ k) : (lim (m + n)).length ≤ k + 1 := by
  rw [lim_length_le] at *
  rw [pw_succ]; omega
theorem mulS_f {m n : Nat} (hm : (lim m).length ≤ 128) (hn : (lim n).length ≤ 128) : mulS m n = (lim (m * n), 0) := by
  have := len_mulf hm hn
  rw [mulS_ok (by omega) (by omega), sizS, if_neg (by omega)]
theorem ftimes_ok (w : World) (A D : Option Addr) (c d n m : Nat) (xs ys : List Nat) (h : Nt w A c xs) (k : Nt w D d ys) (hn : n = xs.length) (hm : m = ys.length) (h1 : (lim (nv xs)).length ≤ 128) (h2 : (lim (nv ys)).length ≤ 128) :
    Calls Try.prog 99 #[.slice A n c, .slice D m d] w fun e w' => ∃ A' c', e = .returned (.slice A' (lim (nv xs * nv ys)).length c') ∧ Nt w' A' c' (lim (nv xs * nv ys)) ∧ Below w.heap.size w w' :=
  ftimes_any w A D c d n m xs ys _ 0 h k hn hm (mulS_f h1 h2)

theorem fvalid_any (w : World) (x : Fx) (b : Bool) (hx : x.ok w) (hl : x.xs.length ≤ 10000) (hl2 : x.ys.length ≤ 10000) (hb : decide x.v = b) : Calls Try.prog 97 #[x.val] w fun e w' => e = .returned (.bool b) ∧ Below w.heap.size w w' := by
  have bb := (Below.refl w.heap.size w).alloc (Nat.le_refl _) (.cells x.cells 26)
  have nx := hx.num.below bb
  have ny := hx.den.below bb
  have e0 : 0 < bits2 (nv x.ys) ↔ nv x.ys ≠ 0 := by unfold bits2; split <;> omega
  have e1 := bits2_lim (nv x.ys) 128
  have e2 := bits2_lim (nv x.xs) 128
  have hv : x.v ↔ (0 < bits2 (nv x.ys) ∧ bits2 (nv x.ys) ≤ 4096 ∧ bits2 (nv x.xs) ≤ 4096) := ⟨fun ⟨a, b, c⟩ => ⟨e0.2 a, e1.2 b, e2.2 c⟩, fun ⟨a, b, c⟩ => ⟨e0.1 a, e1.1 b, e2.1 c⟩⟩
  have HB : Hid (decide (0 < bits2 (nv x.ys) ∧ bits2 (nv x.ys) ≤ 4096 ∧ bits2 (nv x.xs) ≤ 4096) = b) := Lib.hid (by rw [← hb]; exact decide_eq_decide.2 hv.symm)
  have hb1 : (bits2 (nv x.ys) : Int) ≤ 400000 := by
    have h1 := lim_length_le_length hx.den.u
    have h2 := (bits2_lim (nv x.ys) 10000).2 (by omega)
    omega
  have hb2 : (bits2 (nv x.xs) : Int) ≤ 400000 := by
    have h1 := lim_length_le_length hx.num.u
    have h2 := (bits2_lim (nv x.xs) 10000).2 (by omega)
    omega
  clear e0 e1 e2 hb hx hv
  obtain ⟨by_, hby⟩ : ∃ t, t = bits2 (nv x.ys) := ⟨_, rfl⟩
  obtain ⟨bx, hbx⟩ : ∃ t, t = bits2 (nv x.xs) := ⟨_, rfl⟩
  have C1 := fun w' (h' : Nt w' x.D x.d x.ys) => bits_any w' x.D x.d _ x.ys h' rfl (by omega)
  have C2 := fun w' (h' : Nt w' x.A x.c x.xs) => bits_any w' x.A x.c _ x.xs h' rfl (by omega)
  rw [← hby] at HB hb1 C1
  rw [← hbx] at HB hb2 C2
  have H1 := Lib.hid C1
  have H2 := Lib.hid C2
  clear hby hbx C1 C2
  by_cases h0 : 0 < by_
  · by_cases h4 : by_ ≤ 4096
    · by_cases h5 : bx ≤ 4096
      · go_enter Try.func97, Try.ntmps97
        go_wp2_with fail
        refine (H1.out _ ny).mono ?_
        rintro e wn ⟨rfl, rfl⟩
        go_wp2_with fail
        refine (H2.out _ nx).mono ?_
        rintro e wn ⟨rfl, rfl⟩
        go_wp2_with fail
        go_ret
        exact ⟨ret_bool (by rw [← HB.out]; simp [h0, h4, h5]; omega), bb⟩
      · have h5' : decide ((bx : Int) ≤ 4096) = false := decide_eq_false (by omega)
        have h5'' : decide (bx ≤ 4096) = false := decide_eq_false h5
        go_enter Try.func97, Try.ntmps97
        go_wp2_with fail
        refine (H1.out _ ny).mono ?_
        rintro e wn ⟨rfl, rfl⟩
        go_wp2_with fail
        refine (H2.out _ nx).mono ?_
        rintro e wn ⟨rfl, rfl⟩
        go_wp2_with fail
        go_ret
        exact ⟨ret_bool (by rw [← HB.out]; simp [h0, h4, h5]), bb⟩
    · have h4' : decide ((by_ : Int) ≤ 4096) = false := decide_eq_false (by omega)
      have h4'' : decide (by_ ≤ 4096) = false := decide_eq_false h4
      go_enter Try.func97, Try.ntmps97
      go_wp2_with fail
      refine (H1.out _ ny).mono ?_
      rintro e wn ⟨rfl, rfl⟩
      go_wp2_with fail
      go_ret
      exact ⟨ret_bool (by rw [← HB.out]; simp [h0, h4]), bb⟩
  · have h0' : decide (0 < (by_ : Int)) = false := decide_eq_false (by omega)
    have h0'' : decide (0 < by_) = false := decide_eq_false h0
    go_enter Try.func97, Try.ntmps97
    go_wp2_with fail
    refine (H1.out _ ny).mono ?_
    rintro e wn ⟨rfl, rfl⟩
    go_wp2_with fail
    go_ret
    exact ⟨ret_bool (by rw [← HB.out]; simp [h0'']), bb⟩
/-- the block of a fraction that is to be handed back -/
theorem bk3_new (w : World) : Bk3 (w.alloc (.cells #[.bool false, .slice none 0 0, .slice none 0 0] 26)) w.heap.size (.bool false) (.slice none 0 0) (.slice none 0 0) :=
  ⟨by go_simp, by go_simp, by go_simp, by go_simp, by go_simp, by go_simp, by simp, _, (0, 0), heap_alloc_new w _⟩
theorem bits2_gt_one (n : Nat) : 1 < bits2 n ↔ 1 < n := by
  have := bits2_le n 1
  rw [show (2 : Nat) ^ 1 = 2 from rfl] at this
  omega
theorem bits2_pos (n : Nat) : 0 < bits2 n ↔ n ≠ 0 := by unfold bits2; split <;> omega
theorem set3 {w wc : World} {a b c : Value} (h : Below w.heap.size w wc) : Below w.heap.size w (((wc.setCell ⟨w.heap.size, 0, none⟩ a).setCell ⟨w.heap.size, 1, none⟩ b).setCell ⟨w.heap.size, 2, none⟩ c) :=
  ((h.setCell (p := ⟨w.heap.size, 0, none⟩) (Nat.le_refl _) _).setCell (p := ⟨w.heap.size, 1, none⟩) (Nat.le_refl _) _).setCell (p := ⟨w.heap.size, 2, none⟩) (Nat.le_refl _) _
theorem nt_set3 {w : World} {A : Option Addr} {c G : Nat} {xs : List Nat} {v0 v1 v2 : Value} (h : Nt w A c xs) (hne : ∀ ad, A = some ad → ad.block ≠ G) : Nt (((w.setCell ⟨G, 0, none⟩ v0).setCell ⟨G, 1, none⟩ v1).setCell ⟨G, 2, none⟩ v2) A c xs :=
  nt_far (nt_far (nt_far h (fun a e => hne a e) _) (fun a e => hne a e) _) (fun a e => hne a e) _
set_option maxHeartbeats 800000 in
theorem flowest_any (w : World) (b : Bool) (A D : Option Addr) (c d n m : Nat) (xs ys : List Nat) (h : Nt w A c xs) (k : Nt w D d ys) (hn : n = xs.length) (hm : m = ys.length) (hd : nv ys ≠ 0) (l1 : xs.length ≤ 10000) (l2 : ys.length ≤ 10000) (l3 : (lim (nv xs)).length ≤ 512) (l4 : (lim (nv ys)).length ≤ 512) :
    Calls Try.prog 98 #[.bool b, .slice A n c, .slice D m d] w (FracRes w (frS (qv b (nv xs) (nv ys)))) := by
  subst hn hm
  obtain ⟨G, hG⟩ : ∃ G, G = Nat.gcd (nv xs) (nv ys) := ⟨_, rfl⟩
  have hG0 : 0 < G := by rw [hG]; exact Nat.gcd_pos_of_pos_right _ (Nat.pos_of_ne_zero hd)
  have hGl : (lim G).length ≤ 512 := by
    have := lim_length_mono (Nat.gcd_le_right (nv xs) (Nat.pos_of_ne_zero hd))
    rw [← hG] at this; omega
  obtain ⟨N, hN⟩ : ∃ N, N = nv xs / G := ⟨_, rfl⟩
  obtain ⟨M, hM⟩ : ∃ M, M = nv ys / G := ⟨_, rfl⟩
  have hqa := qv_abs (b := b) (n := nv xs) (d := nv ys) hd
  have hqd := qv_den (b := b) (n := nv xs) (d := nv ys) hd
  have hqn := qv_neg' (b := b) (n := nv xs) (d := nv ys) hd
  rw [← hG, ← hN] at hqa hqn
  rw [← hG, ← hM] at hqd
  have hF : frS (qv b (nv xs) (nv ys)) = if 128 < (lim N).length ∨ 128 < (lim M).length then (false, [], [], 2) else (b && decide (N ≠ 0), lim N, lim M, 0) := by
    unfold frS bigQ
    simp only [hqa, hqd, hqn]
  obtain ⟨S, hS⟩ : ∃ S, S = frS (qv b (nv xs) (nv ys)) := ⟨_, rfl⟩
  rw [← hS]
  rw [hF] at hS
  have HS := Lib.hid hS
  have HG := Lib.hid hG
  have HN := Lib.hid hN
  have HM := Lib.hid hM
  have HG0 := Lib.hid hG0
  have lN : (lim N).length ≤ 512 := by have := lim_length_mono (Nat.div_le_self (nv xs) G); rw [← hN] at this; omega
  have lM : (lim M).length ≤ 512 := by have := lim_length_mono (Nat.div_le_self (nv ys) G); rw [← hM] at this; omega
  have hd' : Hid (nv ys ≠ 0) := hd
  clear hqa hqd hqn hF hG hN hM hG0 hd hS
  go_enter Try.func98, Try.ntmps98
  go_wp2_with fail
  have bk := bk3_new w
  have bw := (Below.refl w.heap.size w).alloc (Nat.le_refl _) (.cells #[.bool false, .slice none 0 0, .slice none 0 0] 26)
  have na := h.below bw
  have nd := k.below bw
  revert bk bw na nd
  generalize (w.alloc (.cells #[.bool false, .slice none 0 0, .slice none 0 0] 26)) = w1
  intro bk bw na nd
  clear h k
  refine (gcd_any w1 A D c d _ _ xs ys (lim G) 0 na nd rfl rfl (by rw [gcdS_ok (by omega) (by omega), HG.out])).mono ?_
  rintro e w2 ⟨AG, cG, rfl, ng, bb⟩
  replace bk := bk.below bb
  try replace na := na.below bb
  try replace nd := nd.below bb
  replace bw := below_on bw bb bw.size
  clear bb
  go_wp2_with fail
  refine (bits_any w2 AG cG _ (lim G) ng rfl (by omega)).mono ?_
  rintro e wn ⟨rfl, rfl⟩
  rw [nv_lim]
  obtain ⟨tg, htg⟩ : ∃ tg, tg = bits2 G := ⟨_, rfl⟩
  rw [← htg]
  have htg1 : 1 < tg ↔ 1 < G := by rw [htg]; exact bits2_gt_one G
  clear htg
  go_upto_if 18 with fail
  go_cut [1, 2] (fun s1 s2 wx => ∃ (A1 D1 : Option Addr) (c1 d1 : Nat) (xs1 ys1 : List Nat), s1 = .slice A1 xs1.length c1 ∧ s2 = .slice D1 ys1.length d1 ∧ xs1.length ≤ 10000 ∧ ys1.length ≤ 10000 ∧ nv xs1 = N ∧ nv ys1 = M ∧ Nt wx A1 c1 xs1 ∧ Nt wx D1 d1 ys1 ∧ Below w2.heap.size w2 wx)
  case first =>
    by_cases hg : 1 < G
    · have hg1 : (1 : Int) < tg := by have := htg1.2 hg; omega
      have HG1 := Lib.hid hg
      clear hg htg1
      go_wp2_with fail
      refine (div_any w2 A AG c cG _ _ xs (lim G) (lim N) (lim (nv xs % G)) 0 na ng rfl rfl (by rw [nv_lim, divS_ok (by omega) (by omega) (by have := HG1.out; omega), HN.out])).mono ?_
      rintro e w3 ⟨A1, c1, A2, c2, rfl, n1, n2, b3⟩
      have ng3 := ng.below b3
      have nd3 := nd.below b3
      clear n2
      go_wp2_with fail
      refine (div_any w3 D AG d cG _ _ ys (lim G) (lim M) (lim (nv ys % G)) 0 nd3 ng3 rfl rfl (by rw [nv_lim, divS_ok (by omega) (by omega) (by have := HG1.out; omega), HM.out])).mono ?_
      rintro e w4 ⟨D1, d1, A4, c4, rfl, n3, n4, b4⟩
      have n1' := n1.below b4
      clear n4 n1 nd3 ng3
      go_wp2_with fail
      go_meet
      case rel => exact ⟨A1, D1, c1, d1, lim N, lim M, rfl, rfl, by omega, by omega, nv_lim N, nv_lim M, n1', n3, below_on b3 b4 b3.size⟩
    · have hg1 : decide ((1 : Int) < tg) = false := decide_eq_false (by omega)
      have hg2 : decide (1 < tg) = false := decide_eq_false (by omega)
      have hg3 : tg ≤ 1 := by omega
      have HG1 : Hid (G = 1) := Lib.hid (by have := HG0.out; omega)
      clear hg htg1
      go_wp2_with fail
      go_meet
      case rel => exact ⟨A, D, c, d, xs, ys, rfl, rfl, l1, l2, by rw [HN.out, HG1.out, Nat.div_one], by rw [HM.out, HG1.out, Nat.div_one], na, nd, Below.refl _ _⟩
  case rest =>
    obtain ⟨A1, D1, c1, d1, xs1, ys1, rfl, rfl, m1, m2, hv1, hv2, n1, n2, b2⟩ := hcut
    replace bk := bk.below b2
    replace bw := below_on bw b2 bw.size
    have hN1 : (lim (nv xs1)).length ≤ 512 := by rw [hv1]; exact lN
    have hM1 : (lim (nv ys1)).length ≤ 512 := by rw [hv2]; exact lM
    have C1 := fun w' (h' : Nt w' A1 c1 xs1) => bits_any w' A1 c1 _ xs1 h' rfl (by omega)
    have C2 := fun w' (h' : Nt w' D1 d1 ys1) => bits_any w' D1 d1 _ ys1 h' rfl (by omega)
    have T1 := fun w' (h' : Nt w' A1 c1 xs1) => trim_any w' A1 c1 _ xs1 h' rfl (by omega)
    have T2 := fun w' (h' : Nt w' D1 d1 ys1) => trim_any w' D1 d1 _ ys1 h' rfl (by omega)
    rw [hv1] at C1 T1
    rw [hv2] at C2 T2
    obtain ⟨bn, hbn⟩ : ∃ t, t = bits2 N := ⟨_, rfl⟩
    obtain ⟨bm, hbm⟩ : ∃ t, t = bits2 M := ⟨_, rfl⟩
    have q1 := bits2_lim N 128
    have q2 := bits2_lim M 128
    have q3 := bits2_pos N
    rw [← hbn] at C1 q1 q3
    rw [← hbm] at C2 q2
    have HC1 := Lib.hid C1
    have HC2 := Lib.hid C2
    have HT1 := Lib.hid T1
    have HT2 := Lib.hid T2
    have Q1 := Lib.hid q1
    have Q2 := Lib.hid q2
    have Q3 := Lib.hid q3
    have NA := Lib.hid na
    clear hv1 hv2 hbn hbm C1 C2 T1 T2 q1 q2 q3 na nd ng hN1 hM1 b2
    obtain ⟨k0, k1, k2, f0, f1, f2, klt, kblk⟩ := bk
    by_cases e1 : 4096 < bn
    · have e1' : (4096 : Int) < bn := by omega
      have HE : Hid (128 < (lim N).length ∨ 128 < (lim M).length) := Lib.hid (.inl (by have := Q1.out; omega))
      go_wp2_with fail
      refine (HC1.out _ n1).mono ?_
      rintro e wn ⟨rfl, rfl⟩
      go_wp2_with fail
      refine bodyPost_ret (v := .tuple #[Fx.nil.val, .int .i64 2]) (by simp [results, Try.results98, go_sem, k0, k1, k2]) rfl ?_
      rw [HS.out, if_pos HE.out]
      exact ⟨Fx.nil, rfl, ⟨rfl, rfl, rfl⟩, Fx.nil_ok _, set3 bw⟩
    · have e1' : decide ((4096 : Int) < bn) = false := decide_eq_false (by omega)
      have e1'' : decide (4096 < bn) = false := decide_eq_false e1
      by_cases e2 : 4096 < bm
      · have e2' : (4096 : Int) < bm := by omega
        have HE : Hid (128 < (lim N).length ∨ 128 < (lim M).length) := Lib.hid (.inr (by have := Q2.out; omega))
        go_wp2_with fail
        refine (HC1.out _ n1).mono ?_
        rintro e wn ⟨rfl, rfl⟩
        go_wp2_with fail
        refine (HC2.out _ n2).mono ?_
        rintro e wn ⟨rfl, rfl⟩
        go_wp2_with fail
        refine bodyPost_ret (v := .tuple #[Fx.nil.val, .int .i64 2]) (by simp [results, Try.results98, go_sem, k0, k1, k2]) rfl ?_
        rw [HS.out, if_pos HE.out]
        exact ⟨Fx.nil, rfl, ⟨rfl, rfl, rfl⟩, Fx.nil_ok _, set3 bw⟩
      · have e2' : decide ((4096 : Int) < bm) = false := decide_eq_false (by omega)
        have e2'' : decide (4096 < bm) = false := decide_eq_false e2
        have e1l : bn ≤ 4096 := by omega
        have e2l : bm ≤ 4096 := by omega
        have HE : Hid (¬ (128 < (lim N).length ∨ 128 < (lim M).length)) := Lib.hid (by have := Q1.out; have := Q2.out; omega)
        clear e1 e2
        cases b
        · skip
          go_wp2_with fail
          refine (HC1.out _ n1).mono ?_
          rintro e wn ⟨rfl, rfl⟩
          go_wp2_with fail
          refine (HC2.out _ n2).mono ?_
          rintro e wn ⟨rfl, rfl⟩
          go_wp2_with fail
          have n2' := n2
          refine (HT1.out _ n1).mono ?_
          rintro e w5 ⟨A5, c5, rfl, g5, b5⟩
          have n5 := g5.nt (lim_u32 _)
          have h5 : ∀ ad : Addr, A5 = some ad → ad.block ≠ w.heap.size := fun ad e => by have := (g5.form.2.2 ad e).1; omega
          have n2b := n2'.below b5
          have bk5 : Bk3 w5 w.heap.size _ _ _ := (Bk3.mk k0 k1 k2 f0 f1 f2 klt kblk).below b5
          have bw5 := below_on bw b5 bw.size
          clear g5 b5 k0 k1 k2 f0 f1 f2 n2' n2 n1 bw klt kblk
          go_wp2_with fail
          refine (HT2.out _ n2b).mono ?_
          rintro e w6 ⟨A6, c6, rfl, g6, b6⟩
          have n6 := g6.nt (lim_u32 _)
          have n5b := n5.below b6
          have h6 : ∀ ad : Addr, A6 = some ad → ad.block ≠ w.heap.size := fun ad e => by have := (g6.form.2.2 ad e).1; have := bk5.lt; omega
          obtain ⟨k0, k1, k2, f0, f1, f2, klt, _⟩ := bk5.below b6
          have bw6 := below_on bw5 b6 bw5.size
          have H5 := Lib.hid h5
          have H6 := Lib.hid h6
          clear g6 b6 n5 bk5 bw5 h5 h6
          go_wp2_with fail
          refine bodyPost_ret (v := .tuple #[(⟨false, A5, c5, lim N, A6, c6, lim M⟩ : Fx).val, .int .i64 0]) (by simp [results, Try.results98, go_sem, k0, k1, k2]) rfl ?_
          rw [HS.out, if_neg HE.out]
          exact ⟨⟨false, A5, c5, lim N, A6, c6, lim M⟩, rfl, ⟨rfl, rfl, rfl⟩, ⟨nt_set3 n5b H5.out, nt_set3 n6 H6.out⟩, set3 bw6⟩
        · by_cases h0 : 0 < bn
          · have h0' : (0 : Int) < bn := by omega
            have hb0 : (true && decide (N ≠ 0)) = true := by rw [decide_eq_true (Q3.out.1 h0)]; rfl
            have HB0 := Lib.hid hb0
            clear hb0
            skip
            go_wp2_with fail
            refine (HC1.out _ n1).mono ?_
            rintro e wn ⟨rfl, rfl⟩
            go_wp2_with fail
            refine (HC2.out _ n2).mono ?_
            rintro e wn ⟨rfl, rfl⟩
            go_wp2_with fail
            refine (HC1.out _ n1).mono ?_
            rintro e wn ⟨rfl, rfl⟩
            go_wp2_with fail
            have n2' := n2
            refine (HT1.out _ n1).mono ?_
            rintro e w5 ⟨A5, c5, rfl, g5, b5⟩
            have n5 := g5.nt (lim_u32 _)
            have h5 : ∀ ad : Addr, A5 = some ad → ad.block ≠ w.heap.size := fun ad e => by have := (g5.form.2.2 ad e).1; omega
            have n2b := n2'.below b5
            have bk5 : Bk3 w5 w.heap.size _ _ _ := (Bk3.mk k0 k1 k2 f0 f1 f2 klt kblk).below b5
            have bw5 := below_on bw b5 bw.size
            clear g5 b5 k0 k1 k2 f0 f1 f2 n2' n2 n1 bw klt kblk
            go_wp2_with fail
            refine (HT2.out _ n2b).mono ?_
            rintro e w6 ⟨A6, c6, rfl, g6, b6⟩
            have n6 := g6.nt (lim_u32 _)
            have n5b := n5.below b6
            have h6 : ∀ ad : Addr, A6 = some ad → ad.block ≠ w.heap.size := fun ad e => by have := (g6.form.2.2 ad e).1; have := bk5.lt; omega
            obtain ⟨k0, k1, k2, f0, f1, f2, klt, _⟩ := bk5.below b6
            have bw6 := below_on bw5 b6 bw5.size
            have H5 := Lib.hid h5
            have H6 := Lib.hid h6
            clear g6 b6 n5 bk5 bw5 h5 h6
            go_wp2_with fail
            refine bodyPost_ret (v := .tuple #[(⟨true, A5, c5, lim N, A6, c6, lim M⟩ : Fx).val, .int .i64 0]) (by simp [results, Try.results98, go_sem, k0, k1, k2]) rfl ?_
            rw [HS.out, if_neg HE.out]
            exact ⟨⟨true, A5, c5, lim N, A6, c6, lim M⟩, rfl, ⟨HB0.out.symm, rfl, rfl⟩, ⟨nt_set3 n5b H5.out, nt_set3 n6 H6.out⟩, set3 bw6⟩
          · have h0' : decide ((0 : Int) < bn) = false := decide_eq_false (by omega)
            have h0'' : decide (0 < bn) = false := decide_eq_false h0
            have h0l : bn ≤ 0 := by omega
            have hb0 : (true && decide (N ≠ 0)) = false := by rw [decide_eq_false (fun h => h0 (Q3.out.2 h))]; rfl
            have HB0 := Lib.hid hb0
            clear hb0 h0
            skip
            go_wp2_with fail
            refine (HC1.out _ n1).mono ?_
            rintro e wn ⟨rfl, rfl⟩
            go_wp2_with fail
            refine (HC2.out _ n2).mono ?_
            rintro e wn ⟨rfl, rfl⟩
            go_wp2_with fail
            refine (HC1.out _ n1).mono ?_
            rintro e wn ⟨rfl, rfl⟩
            go_wp2_with fail
            have n2' := n2
            refine (HT1.out _ n1).mono ?_
            rintro e w5 ⟨A5, c5, rfl, g5, b5⟩
            have n5 := g5.nt (lim_u32 _)
            have h5 : ∀ ad : Addr, A5 = some ad → ad.block ≠ w.heap.size := fun ad e => by have := (g5.form.2.2 ad e).1; omega
            have n2b := n2'.below b5
            have bk5 : Bk3 w5 w.heap.size _ _ _ := (Bk3.mk k0 k1 k2 f0 f1 f2 klt kblk).below b5
            have bw5 := below_on bw b5 bw.size
            clear g5 b5 k0 k1 k2 f0 f1 f2 n2' n2 n1 bw klt kblk
            go_wp2_with fail
            refine (HT2.out _ n2b).mono ?_
            rintro e w6 ⟨A6, c6, rfl, g6, b6⟩
            have n6 := g6.nt (lim_u32 _)
            have n5b := n5.below b6
            have h6 : ∀ ad : Addr, A6 = some ad → ad.block ≠ w.heap.size := fun ad e => by have := (g6.form.2.2 ad e).1; have := bk5.lt; omega
            obtain ⟨k0, k1, k2, f0, f1, f2, klt, _⟩ := bk5.below b6
            have bw6 := below_on bw5 b6 bw5.size
            have H5 := Lib.hid h5
            have H6 := Lib.hid h6
            clear g6 b6 n5 bk5 bw5 h5 h6
            go_wp2_with fail
            refine bodyPost_ret (v := .tuple #[(⟨false, A5, c5, lim N, A6, c6, lim M⟩ : Fx).val, .int .i64 0]) (by simp [results, Try.results98, go_sem, k0, k1, k2]) rfl ?_
            rw [HS.out, if_neg HE.out]
            exact ⟨⟨false, A5, c5, lim N, A6, c6, lim M⟩, rfl, ⟨HB0.out.symm, rfl, rfl⟩, ⟨nt_set3 n5b H5.out, nt_set3 n6 H6.out⟩, set3 bw6⟩
end Go.Proofs.Ytnmomigaedfdoaa
