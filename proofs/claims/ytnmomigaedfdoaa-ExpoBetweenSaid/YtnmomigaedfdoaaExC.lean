/- Max-min fair rates as pure lists: the rounds, what they keep, the certificate and that it is unique. No program in sight. Partial sums of the exponential series as fractions, and what the product of two of them is. No program in sight. -/
import Derived.Test.YtnmomigaedfdoaaUnT
namespace Go.Proofs.Ytnmomigaedfdoaa
set_option maxRecDepth 100000

/-- the sum of the first numbers of a row -/
def sumTo (g : Nat → Rat) : Nat → Rat
  | 0 => 0
  | n + 1 => sumTo g n + g n
theorem sumTo_congr {g h : Nat → Rat} {n : Nat} (e : ∀ i, i < n → g i = h i) : sumTo g n = sumTo h n := by
  induction n with
  | zero => rfl
  | succ n ih => rw [sumTo, sumTo, ih (fun i hi => e i (by omega)), e n (by omega)]
theorem sumTo_le {g h : Nat → Rat} {n : Nat} (e : ∀ i, i < n → g i ≤ h i) : sumTo g n ≤ sumTo h n := by
  induction n with
  | zero => exact Rat.le_refl
  | succ n ih =>
    have h1 := ih (fun i hi => e i (by omega))
    have h2 := e n (by omega)
    rw [sumTo, sumTo]; grind
theorem sumTo_add (g h : Nat → Rat) (n : Nat) : sumTo (fun i => g i + h i) n = sumTo g n + sumTo h n := by
  induction n with
  | zero => show (0 : Rat) = 0 + 0; grind
  | succ n ih => rw [sumTo, sumTo, sumTo, ih]; grind

/-- rates and who still rises -/
structure Rt where
  r : List Rat
  a : List Bool
/-- what a flow takes of a link -/
def tk (l : List Fl) (r : List Rat) (k : Int) (i : Nat) : Rat := if k ∈ lkA l i then r.getD i 0 else 0
/-- the load of a link -/
def ldq (l : List Fl) (r : List Rat) (k : Int) : Rat := sumTo (tk l r k) l.length
/-- what a flow that has stopped takes of a link -/
def tkS (l : List Fl) (s : Rt) (k : Int) (i : Nat) : Rat := if k ∈ lkA l i ∧ s.a.getD i false = false then s.r.getD i 0 else 0
/-- how many of the first flows use a link and rise -/
def cnt (l : List Fl) (s : Rt) (k : Int) : Nat → Nat
  | 0 => 0
  | i + 1 => cnt l s k i + if k ∈ lkA l i ∧ s.a.getD i false = true then 1 else 0
/-- the level at which a link is full -/
def lev (cp : Int → Int) (l : List Fl) (s : Rt) (k : Int) : Option Rat :=
  if cnt l s k l.length = 0 then none else some (((cp k : Rat) - sumTo (tkS l s k) l.length) / (cnt l s k l.length : Nat))
/-- the lesser of what was found and a number -/
def mn : Option Rat → Rat → Option Rat
  | none, x => some x
  | some y, x => if x < y then some x else some y
def lowK (cp : Int → Int) (l : List Fl) (s : Rt) : Nat → Option Rat
  | 0 => none
  | k + 1 => match lev cp l s (k : Int) with
    | none => lowK cp l s k
    | some x => mn (lowK cp l s k) x
def lowF (cp : Int → Int) (l : List Fl) (s : Rt) (n : Nat) : Nat → Option Rat
  | 0 => lowK cp l s n
  | i + 1 => if s.a.getD i false = true then mn (lowF cp l s n i) (lmA l i : Rat) else lowF cp l s n i
/-- does a flow stop at a level -/
def stopQ (cp : Int → Int) (l : List Fl) (s : Rt) (q : Rat) (i : Nat) : Prop := (lmA l i : Rat) = q ∨ ∃ k ∈ lkA l i, lev cp l s k = some q
instance (cp : Int → Int) (l : List Fl) (s : Rt) (q : Rat) (i : Nat) : Decidable (stopQ cp l s q i) := inferInstanceAs (Decidable (_ ∨ _))
/-- the first flows brought up to date; s0: the state at the round's start -/
def partR (cp : Int → Int) (l : List Fl) (s0 : Rt) (q : Rat) : Nat → Rt
  | 0 => s0
  | i + 1 => if s0.a.getD i false = true ∧ stopQ cp l s0 q i then ⟨(partR cp l s0 q i).r.set i q, (partR cp l s0 q i).a.set i false⟩ else partR cp l s0 q i
def roundR (cp : Int → Int) (l : List Fl) (n : Nat) (s : Rt) : Rt := partR cp l s ((lowF cp l s n l.length).getD 0) l.length
def itR (cp : Int → Int) (l : List Fl) (n : Nat) : Nat → Rt
  | 0 => ⟨List.replicate l.length 0, List.replicate l.length true⟩
  | k + 1 => if true ∈ (itR cp l n k).a then roundR cp l n (itR cp l n k) else itR cp l n k
def ratesM (cp : Int → Int) (l : List Fl) (n : Nat) : List Rat := (itR cp l n l.length).r

/-- rates that are proved max-min fair -/
structure Cert (cp : Int → Int) (l : List Fl) (n : Nat) (r : List Rat) : Prop where
  lo : r.length = l.length
  nn : ∀ i, i < l.length → 0 ≤ r.getD i 0 ∧ r.getD i 0 ≤ (lmA l i : Rat)
  cap : ∀ k : Nat, k < n → ldq l r (k : Int) ≤ (cp (k : Int) : Rat)
  held : ∀ i, i < l.length → r.getD i 0 = (lmA l i : Rat) ∨ ∃ k ∈ lkA l i, ldq l r k = (cp k : Rat) ∧ ∀ j, j < l.length → k ∈ lkA l j → r.getD j 0 ≤ r.getD i 0

end Go.Proofs.Ytnmomigaedfdoaa
namespace Go.Proofs.Ytnmomigaedfdoaa
set_option maxRecDepth 100000

/-- x^i / i! -/
def tq (x : Rat) : Nat → Rat
  | 0 => 1
  | i + 1 => tq x i * x / ((i + 1 : Nat) : Rat)
/-- the sum of the first terms -/
def eq_ (x : Rat) (m : Nat) : Rat := sumTo (tq x) m
theorem nat_pos (i : Nat) : (0 : Rat) < ((i + 1 : Nat) : Rat) := by exact_mod_cast Nat.succ_pos i
theorem nat_ne (i : Nat) : ((i + 1 : Nat) : Rat) ≠ 0 := fun h => by have := nat_pos i; rw [h] at this; exact absurd this (Rat.lt_irrefl)
theorem tq_step (x : Rat) (i : Nat) : ((i + 1 : Nat) : Rat) * tq x (i + 1) = x * tq x i := by
  rw [tq]
  have := nat_ne i
  rw [Rat.mul_comm, Rat.div_mul_cancel this, Rat.mul_comm]
/-- the terms of a product of two series -/
def conv (x h : Rat) (n i : Nat) : Rat := sumTo (fun j => tq x j * tq h (n - j)) i
theorem sumTo_mul (c : Rat) (g : Nat → Rat) (n : Nat) : sumTo (fun i => c * g i) n = c * sumTo g n := by
  induction n with
  | zero => show (0 : Rat) = c * 0; grind
  | succ n ih => rw [sumTo, sumTo, ih]; grind
theorem sumTo_shift (g : Nat → Rat) (n : Nat) : sumTo g (n + 1) = g 0 + sumTo (fun i => g (i + 1)) n := by
  induction n with
  | zero => rw [sumTo, sumTo, sumTo]; grind
  | succ n ih => rw [sumTo, ih, sumTo]; grind
/-- the binomial law -/
theorem conv_step (x h : Rat) (n : Nat) : ((n + 1 : Nat) : Rat) * conv x h (n + 1) (n + 2) = (x + h) * conv x h n (n + 1) := by
  have e1 : sumTo (fun j => (j : Rat) * (tq x j * tq h (n + 1 - j))) (n + 2) = x * conv x h n (n + 1) := by
    rw [sumTo_shift, conv, ← sumTo_mul]
    have : ((0 : Nat) : Rat) * (tq x 0 * tq h (n + 1 - 0)) = 0 := by grind
    rw [this]
    have e : sumTo (fun i => ((i + 1 : Nat) : Rat) * (tq x (i + 1) * tq h (n + 1 - (i + 1)))) (n + 1) = sumTo (fun i => x * (tq x i * tq h (n - i))) (n + 1) := sumTo_congr fun i _ => by
      show ((i + 1 : Nat) : Rat) * (tq x (i + 1) * tq h (n + 1 - (i + 1))) = x * (tq x i * tq h (n - i))
      rw [← Rat.mul_assoc, tq_step, Nat.add_sub_add_right, Rat.mul_assoc]
    rw [e]; grind
  have e2 : sumTo (fun j => ((n + 1 - j : Nat) : Rat) * (tq x j * tq h (n + 1 - j))) (n + 2) = h * conv x h n (n + 1) := by
    rw [sumTo, conv, ← sumTo_mul]
    have : ((n + 1 - (n + 1) : Nat) : Rat) * (tq x (n + 1) * tq h (n + 1 - (n + 1))) = 0 := by rw [Nat.sub_self]; grind
    rw [this]
    have e : sumTo (fun j => ((n + 1 - j : Nat) : Rat) * (tq x j * tq h (n + 1 - j))) (n + 1) = sumTo (fun j => h * (tq x j * tq h (n - j))) (n + 1) := sumTo_congr fun j hj => by
      show ((n + 1 - j : Nat) : Rat) * (tq x j * tq h (n + 1 - j)) = h * (tq x j * tq h (n - j))
      obtain ⟨d, hd⟩ : ∃ d, n - j = d := ⟨_, rfl⟩
      have : n + 1 - j = d + 1 := by omega
      rw [this, hd]
      have h1 := tq_step h d
      grind
    rw [e]; grind
  have e3 : ((n + 1 : Nat) : Rat) * conv x h (n + 1) (n + 2) = sumTo (fun j => (j : Rat) * (tq x j * tq h (n + 1 - j))) (n + 2) + sumTo (fun j => ((n + 1 - j : Nat) : Rat) * (tq x j * tq h (n + 1 - j))) (n + 2) := by
    rw [← sumTo_add, conv, ← sumTo_mul]
    refine sumTo_congr fun j hj => ?_
    have : ((n + 1 : Nat) : Rat) = (j : Rat) + ((n + 1 - j : Nat) : Rat) := by
      rw [← Rat.natCast_add]; congr 1; omega
    rw [this]; grind
  rw [e3, e1, e2]; grind
theorem conv_eq (x h : Rat) : ∀ n, conv x h n (n + 1) = tq (x + h) n := by
  intro n
  induction n with
  | zero => rw [conv, sumTo, sumTo]; show (0 : Rat) + 1 * 1 = 1; grind
  | succ n ih =>
    have h1 := conv_step x h n
    have h2 := tq_step (x + h) n
    rw [ih, ← h2] at h1
    have h3 := nat_ne n
    have h4 : ((n + 1 : Nat) : Rat) * (conv x h (n + 1) (n + 2) - tq (x + h) (n + 1)) = 0 := by grind
    rcases Rat.mul_eq_zero.1 h4 with h5 | h5
    · exact absurd h5 h3
    · grind
/-- a sum of products, summed the other way -/
theorem eq_conv (x h : Rat) : ∀ m, eq_ (x + h) m = sumTo (fun j => tq x j * eq_ h (m - j)) m := by
  intro m
  induction m with
  | zero => rfl
  | succ m ih =>
    have e : eq_ (x + h) (m + 1) = eq_ (x + h) m + tq (x + h) m := rfl
    rw [e, ih, ← conv_eq x h m]
    have e2 : sumTo (fun j => tq x j * eq_ h (m + 1 - j)) (m + 1) = sumTo (fun j => tq x j * eq_ h (m - j) + tq x j * tq h (m - j)) (m + 1) := sumTo_congr fun j hj => by
      obtain ⟨d, hd⟩ : ∃ d, m - j = d := ⟨_, rfl⟩
      have : m + 1 - j = d + 1 := by omega
      show tq x j * eq_ h (m + 1 - j) = tq x j * eq_ h (m - j) + tq x j * tq h (m - j)
      rw [this, hd]
      have e : eq_ h (d + 1) = eq_ h d + tq h d := rfl
      rw [e]; grind
    rw [e2, sumTo_add, sumTo]
    have e3 : tq x m * eq_ h (m - m) = 0 := by rw [Nat.sub_self]; show tq x m * 0 = 0; grind
    rw [e3, conv]; grind
theorem tq_nn {x : Rat} (h : 0 ≤ x) : ∀ i, 0 ≤ tq x i := by
  intro i
  induction i with
  | zero => rw [tq]; grind
  | succ i ih =>
    rw [tq, Rat.div_def]
    refine Rat.mul_nonneg (Rat.mul_nonneg ih h) ?_
    exact Rat.le_of_lt (Rat.inv_pos.2 (nat_pos i))
theorem eq_mono {x : Rat} (h : 0 ≤ x) {m k : Nat} (hk : m ≤ k) : eq_ x m ≤ eq_ x k := by
  induction k with
  | zero => obtain rfl : m = 0 := by omega
            exact Rat.le_refl
  | succ k ih =>
    rcases Nat.lt_or_ge m (k + 1) with h1 | h1
    · have h2 := ih (by omega)
      have h3 := tq_nn h k
      have e : eq_ x (k + 1) = eq_ x k + tq x k := rfl
      grind
    · obtain rfl : m = k + 1 := by omega
      exact Rat.le_refl
theorem eq_nn {x : Rat} (h : 0 ≤ x) (m : Nat) : 0 ≤ eq_ x m := eq_mono h (Nat.zero_le m)
theorem mul_le_l {a b c : Rat} (ha : 0 ≤ a) (h : b ≤ c) : a * b ≤ a * c := Rat.mul_le_mul_of_nonneg_left h ha
/-- the sum for x + h is at most the product -/
theorem eq_prod_le {x h : Rat} (hx : 0 ≤ x) (hh : 0 ≤ h) (m : Nat) : eq_ (x + h) m ≤ eq_ x m * eq_ h m := by
  have e : eq_ x m * eq_ h m = sumTo (fun j => eq_ h m * tq x j) m := by rw [sumTo_mul, Rat.mul_comm]; rfl
  rw [eq_conv, e]
  refine sumTo_le fun j hj => ?_
  show tq x j * eq_ h (m - j) ≤ eq_ h m * tq x j
  rw [Rat.mul_comm (eq_ h m)]
  exact mul_le_l (tq_nn hx j) (eq_mono hh (by omega))
theorem sumTo_mono {g : Nat → Rat} (h : ∀ i, 0 ≤ g i) {m k : Nat} (hk : m ≤ k) : sumTo g m ≤ sumTo g k := by
  induction k with
  | zero => obtain rfl : m = 0 := by omega
            exact Rat.le_refl
  | succ k ih =>
    rcases Nat.lt_or_ge m (k + 1) with h1 | h1
    · have h2 := ih (by omega)
      have h3 := h k
      rw [sumTo]; grind
    · obtain rfl : m = k + 1 := by omega
      exact Rat.le_refl
/-- and the product is at most the sum of twice as many terms -/
theorem eq_prod_ge {x h : Rat} (hx : 0 ≤ x) (hh : 0 ≤ h) (m k : Nat) : eq_ x m * eq_ h k ≤ eq_ (x + h) (m + k) := by
  have e : eq_ x m * eq_ h k = sumTo (fun j => eq_ h k * tq x j) m := by rw [sumTo_mul, Rat.mul_comm]; rfl
  rw [eq_conv, e]
  refine Rat.le_trans ?_ (sumTo_mono (fun i => Rat.mul_nonneg (tq_nn hx i) (eq_nn hh _)) (show m ≤ m + k by omega))
  refine sumTo_le fun j hj => ?_
  show eq_ h k * tq x j ≤ tq x j * eq_ h (m + k - j)
  rw [Rat.mul_comm (eq_ h k)]
  exact mul_le_l (tq_nn hx j) (eq_mono hh (by omega))
end Go.Proofs.Ytnmomigaedfdoaa
