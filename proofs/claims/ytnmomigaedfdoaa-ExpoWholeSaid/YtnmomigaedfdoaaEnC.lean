/- Flows that share links: the rounds of Units, as plain lists. No program in sight. Max-min fair rates as pure lists: the rounds, what they keep, the certificate and that it is unique. No program in sight. Partial sums of the exponential series as fractions, and what the product of two of them is. No program in sight. Powers of an exponential in the lanes of one number, and how near they are. No program in sight. The powers e^(-a/d) for all a up to 64 d, and that no 65 digits behind the first 64 are alike. No program in sight. -/
import Derived.Test.YtnmomigaedfdoaaEnA
namespace Go.Proofs.Ytnmomigaedfdoaa
set_option maxRecDepth 100000

/-- a flow: its links and its limit -/
abbrev Fl := List Int × Int
/-- what the flows that use a link have -/
def ld : List Fl → List Int → Int → Int
  | f :: l, o :: out, e => (f.1.count e : Int) * o + ld l out e
  | [], _, _ => 0
  | _ :: _, [], _ => 0
/-- the state: how many units each flow has, and which are finished -/
structure Un where
  out : List Int
  fin : List Bool
def lkA (l : List Fl) (i : Nat) : List Int := (l.getD i ([], 0)).1
def lmA (l : List Fl) (i : Nat) : Int := (l.getD i ([], 0)).2
/-- one of its links has nothing left -/
def fullU (cp : Int → Int) (l : List Fl) (out : List Int) (i : Nat) : Prop := ∃ e ∈ lkA l i, cp e - ld l out e = 0
instance (cp : Int → Int) (l : List Fl) (out : List Int) (i : Nat) : Decidable (fullU cp l out i) := inferInstanceAs (Decidable (∃ e ∈ lkA l i, cp e - ld l out e = 0))
def stepU (cp : Int → Int) (l : List Fl) (s : Un) (i : Nat) : Un :=
  if s.fin.getD i true = true then s
  else if lmA l i ≤ s.out.getD i 0 ∨ fullU cp l s.out i then ⟨s.out, s.fin.set i true⟩
  else ⟨s.out.set i (s.out.getD i 0 + 1), s.fin⟩
def partU (cp : Int → Int) (l : List Fl) (s : Un) : Nat → Un
  | 0 => s
  | i + 1 => stepU cp l (partU cp l s i) i
def itU (cp : Int → Int) (l : List Fl) : Nat → Un
  | 0 => ⟨List.replicate l.length 0, List.replicate l.length false⟩
  | k + 1 => partU cp l (itU cp l k) l.length
def allFin (s : Un) : Prop := ∀ i, i < s.fin.length → s.fin.getD i true = true

theorem getD_set {α : Type} (xs : List α) (i j : Nat) (v d : α) : (xs.set i v).getD j d = if i = j ∧ j < xs.length then v else xs.getD j d := by
  rw [List.getD_eq_getElem?_getD, List.getD_eq_getElem?_getD, List.getElem?_set]
  by_cases h : i = j
  · subst h
    by_cases h2 : i < xs.length
    · simp [h2]
    · simp [h2]
  · simp [h]
theorem getD_rep {α : Type} (n : Nat) (a d : α) (i : Nat) (h : i < n) : (List.replicate n a).getD i d = a := by
  rw [List.getD_eq_getElem?_getD, List.getElem?_replicate, if_pos h]; rfl
theorem ld_set (l : List Fl) : ∀ (out : List Int) (i : Nat) (v e : Int), i < out.length → ld l (out.set i v) e = ld l out e + ((lkA l i).count e : Int) * (v - out.getD i 0) := by
  induction l with
  | nil => intro out i v e _; simp [ld, lkA]
  | cons f l ih =>
    intro out i v e hi
    cases out with
    | nil => simp at hi
    | cons o out =>
      cases i with
      | zero => simp [ld, lkA, Int.mul_sub]; omega
      | succ i =>
        have := ih out i v e (by simpa using hi)
        simp only [List.set_cons_succ, ld, this]
        have e1 : lkA (f :: l) (i + 1) = lkA l i := by simp [lkA]
        have e2 : (o :: out).getD (i + 1) 0 = out.getD i 0 := by simp
        rw [e1, e2]; omega
theorem ld_rep (l : List Fl) (n : Nat) (e : Int) : ld l (List.replicate n 0) e = 0 := by
  induction l generalizing n with
  | nil => simp [ld]
  | cons f l ih => cases n with
    | zero => simp [ld]
    | succ n => simp [List.replicate_succ, ld, ih]
/-- what holds behind i flows of round k -/
structure UInv (cp : Int → Int) (l : List Fl) (k i : Nat) (s : Un) : Prop where
  lo : s.out.length = l.length
  lf : s.fin.length = l.length
  act : ∀ j, j < l.length → s.fin.getD j true = false → s.out.getD j 0 = (k : Int) + if j < i then 1 else 0
  bd : ∀ j, j < l.length → 0 ≤ s.out.getD j 0 ∧ s.out.getD j 0 ≤ lmA l j ∧ s.out.getD j 0 ≤ (k : Int) + if j < i then 1 else 0
  cap : ∀ j, j < l.length → ∀ e ∈ lkA l j, ld l s.out e ≤ cp e
  held : ∀ j, j < l.length → s.fin.getD j true = true → s.out.getD j 0 = lmA l j ∨ ∃ e ∈ lkA l j, ld l s.out e = cp e ∧ ∀ j', j' < l.length → e ∈ lkA l j' → s.out.getD j' 0 ≤ s.out.getD j 0 + 1
/-- a flow uses no link twice -/
def nodupL (l : List Fl) : Prop := ∀ i, i < l.length → ∀ e, (lkA l i).count e ≤ 1
theorem UInv.step {cp : Int → Int} {l : List Fl} {k i : Nat} {s : Un} (nd : nodupL l) (h : UInv cp l k i s) (hi : i < l.length) : UInv cp l k (i + 1) (stepU cp l s i) := by
  unfold stepU
  by_cases hf : s.fin.getD i true = true
  · rw [if_pos hf]
    refine ⟨h.lo, h.lf, fun j hj hjf => ?_, fun j hj => ?_, h.cap, h.held⟩
    · have := h.act j hj hjf
      have hne : j ≠ i := fun e => by subst e; rw [hf] at hjf; cases hjf
      rw [this]; split <;> split <;> omega
    · have := h.bd j hj
      refine ⟨this.1, this.2.1, ?_⟩
      have := this.2.2
      revert this
      split <;> split <;> omega
  · rw [if_neg hf]
    have hff : s.fin.getD i true = false := by simpa using hf
    have hact := h.act i hi hff
    rw [if_neg (Nat.lt_irrefl _), Int.add_zero] at hact
    by_cases hs : lmA l i ≤ s.out.getD i 0 ∨ fullU cp l s.out i
    · rw [if_pos hs]
      refine ⟨h.lo, by rw [List.length_set]; exact h.lf, fun j hj hjf => ?_, fun j hj => ?_, h.cap, fun j hj hjf => ?_⟩
      · rw [getD_set] at hjf
        split at hjf
        · cases hjf
        · rename_i hne
          have := h.act j hj hjf
          have hne : j ≠ i := fun e => hne ⟨e.symm, by rw [h.lf]; exact hj⟩
          show s.out.getD j 0 = _
          rw [this]; split <;> split <;> omega
      · have := h.bd j hj
        refine ⟨this.1, this.2.1, ?_⟩
        have := this.2.2
        show s.out.getD j 0 ≤ _
        revert this
        split <;> split <;> omega
      · show s.out.getD j 0 = lmA l j ∨ _
        by_cases hij : i = j
        · subst hij
          rcases hs with hs | ⟨e, he, hz⟩
          · left; have := (h.bd i hi).2.1; omega
          · right
            refine ⟨e, he, by show ld l s.out e = _; omega, fun j' hj' he' => ?_⟩
            have := (h.bd j' hj').2.2
            show s.out.getD j' 0 ≤ s.out.getD i 0 + 1
            rw [hact]
            revert this
            split <;> omega
        · have hjf' : s.fin.getD j true = true := by
            rw [getD_set, if_neg (by omega)] at hjf; exact hjf
          exact h.held j hj hjf'
    · rw [if_neg hs]
      have h1 : ¬ lmA l i ≤ s.out.getD i 0 := fun x => hs (.inl x)
      have h2 : ∀ e ∈ lkA l i, cp e - ld l s.out e ≠ 0 := fun e he x => hs (.inr ⟨e, he, x⟩)
      have hio : i < s.out.length := by rw [h.lo]; exact hi
      have hld : ∀ e, ld l (s.out.set i (s.out.getD i 0 + 1)) e = ld l s.out e + ((lkA l i).count e : Int) := by
        intro e
        rw [ld_set l s.out i _ e hio]
        have : s.out.getD i 0 + 1 - s.out.getD i 0 = 1 := by omega
        rw [this, Int.mul_one]
      have hget : ∀ j, j < l.length → (s.out.set i (s.out.getD i 0 + 1)).getD j 0 = if i = j then s.out.getD i 0 + 1 else s.out.getD j 0 := by
        intro j hj
        rw [getD_set]
        by_cases hij : i = j
        · subst hij; rw [if_pos ⟨rfl, hio⟩, if_pos rfl]
        · rw [if_neg (by omega), if_neg hij]
      refine ⟨by rw [List.length_set]; exact h.lo, h.lf, fun j hj hjf => ?_, fun j hj => ?_, fun j hj e he => ?_, fun j hj hjf => ?_⟩
      · show (s.out.set i _).getD j 0 = _
        rw [hget j hj]
        have := h.act j hj hjf
        by_cases hij : i = j
        · subst hij; rw [if_pos rfl, hact, if_pos (Nat.lt_succ_self _)]
        · rw [if_neg hij, this]; split <;> split <;> omega
      · show 0 ≤ (s.out.set i _).getD j 0 ∧ (s.out.set i _).getD j 0 ≤ _ ∧ (s.out.set i _).getD j 0 ≤ _
        rw [hget j hj]
        have := h.bd j hj
        by_cases hij : i = j
        · subst hij; rw [if_pos rfl, if_pos (Nat.lt_succ_self _)]; refine ⟨by omega, by omega, by omega⟩
        · rw [if_neg hij]
          refine ⟨this.1, this.2.1, ?_⟩
          have := this.2.2
          revert this
          split <;> split <;> omega
      · show ld l (s.out.set i _) e ≤ _
        rw [hld e]
        have hc := h.cap j hj e he
        by_cases hm : e ∈ lkA l i
        · have := h2 e hm
          have := nd i hi e
          omega
        · have : (lkA l i).count e = 0 := List.count_eq_zero.2 hm
          omega
      · show (s.out.set i _).getD j 0 = _ ∨ ∃ e ∈ lkA l j, ld l (s.out.set i _) e = _ ∧ ∀ j', j' < l.length → e ∈ lkA l j' → (s.out.set i _).getD j' 0 ≤ (s.out.set i _).getD j 0 + 1
        have hij : ¬ i = j := fun e => by subst e; exact hf hjf
        rcases h.held j hj hjf with h3 | ⟨e, he, hz, hm⟩
        · left; rw [hget j hj, if_neg hij]; exact h3
        · right
          have hni : e ∉ lkA l i := fun hx => h2 e hx (by omega)
          refine ⟨e, he, ?_, fun j' hj' he' => ?_⟩
          · rw [hld e]
            have : (lkA l i).count e = 0 := List.count_eq_zero.2 hni
            omega
          · have hne : ¬ i = j' := fun x => by subst x; exact hni he'
            rw [hget j' hj', if_neg hne, hget j hj, if_neg hij]
            exact hm j' hj' he'
theorem UInv.next {cp : Int → Int} {l : List Fl} {k : Nat} {s : Un} (h : UInv cp l k l.length s) : UInv cp l (k + 1) 0 s := by
  refine ⟨h.lo, h.lf, fun j hj hjf => ?_, fun j hj => ?_, h.cap, h.held⟩
  · have := h.act j hj hjf
    rw [if_pos hj] at this
    rw [this, if_neg (by omega)]; omega
  · have := h.bd j hj
    refine ⟨this.1, this.2.1, ?_⟩
    have := this.2.2
    rw [if_pos hj] at this
    rw [if_neg (by omega)]; omega
theorem UInv.part {cp : Int → Int} {l : List Fl} {k : Nat} {s : Un} (nd : nodupL l) (h : UInv cp l k 0 s) (i : Nat) (hi : i ≤ l.length) : UInv cp l k i (partU cp l s i) := by
  induction i with
  | zero => exact h
  | succ i ih => exact UInv.step nd (ih (by omega)) (by omega)
/-- limits and capacities that may be -/
def okFl (cp : Int → Int) (l : List Fl) : Prop := nodupL l ∧ ∀ j, j < l.length → 0 ≤ lmA l j ∧ lmA l j ≤ 4096 ∧ ∀ e ∈ lkA l j, 0 ≤ cp e
theorem UInv.it {cp : Int → Int} {l : List Fl} (h : okFl cp l) (k : Nat) : UInv cp l k 0 (itU cp l k) := by
  induction k with
  | zero =>
    refine ⟨by simp [itU], by simp [itU], fun j hj _ => ?_, fun j hj => ?_, fun j hj e he => ?_, fun j hj hjf => ?_⟩
    · show (List.replicate l.length (0 : Int)).getD j 0 = _; rw [getD_rep _ _ _ _ hj]; simp
    · show 0 ≤ (List.replicate l.length (0 : Int)).getD j 0 ∧ (List.replicate l.length (0 : Int)).getD j 0 ≤ _ ∧ (List.replicate l.length (0 : Int)).getD j 0 ≤ _
      rw [getD_rep _ _ _ _ hj]; exact ⟨by omega, (h.2 j hj).1, by simp⟩
    · show ld l (List.replicate l.length 0) e ≤ _
      rw [ld_rep]; exact (h.2 j hj).2.2 e he
    · have : (List.replicate l.length false).getD j true = true := hjf
      rw [getD_rep _ _ _ _ hj] at this; cases this
  | succ k ih => exact (UInv.part h.1 ih _ (Nat.le_refl _)).next
/-- the units that the flows get -/
def unitsM (cp : Int → Int) (l : List Fl) : List Int := (itU cp l 4097).out
end Go.Proofs.Ytnmomigaedfdoaa
namespace Go.Proofs.Ytnmomigaedfdoaa
set_option maxRecDepth 100000

/-- the sum of the first numbers of a row -/
def sumTo (g : Nat → Rat) : Nat → Rat
  | 0 => 0
  | n + 1 => sumTo g n + g n
theorem sumTo_congr {g h : Nat → Rat} {n : Nat} (e : ∀ i, i < n → g i = h i) : sumTo g n = sumTo h n := by
  induction n with
  | zero => rfl
  | succ n ih => rw [sumTo, sumTo, ih (fun i hi => e i (by omega)), e n (by omega)]
theorem sumTo_le {g h : Nat → Rat} {n : Nat} (e : ∀ i, i < n → g i ≤ h i) : sumTo g n ≤ sumTo h n := by
  induction n with
  | zero => exact Rat.le_refl
  | succ n ih =>
    have h1 := ih (fun i hi => e i (by omega))
    have h2 := e n (by omega)
    rw [sumTo, sumTo]; grind
theorem sumTo_add (g h : Nat → Rat) (n : Nat) : sumTo (fun i => g i + h i) n = sumTo g n + sumTo h n := by
  induction n with
  | zero => show (0 : Rat) = 0 + 0; grind
  | succ n ih => rw [sumTo, sumTo, sumTo, ih]; grind

/-- rates and who still rises -/
structure Rt where
  r : List Rat
  a : List Bool
/-- what a flow takes of a link -/
def tk (l : List Fl) (r : List Rat) (k : Int) (i : Nat) : Rat := if k ∈ lkA l i then r.getD i 0 else 0
/-- the load of a link -/
def ldq (l : List Fl) (r : List Rat) (k : Int) : Rat := sumTo (tk l r k) l.length
/-- what a flow that has stopped takes of a link -/
def tkS (l : List Fl) (s : Rt) (k : Int) (i : Nat) : Rat := if k ∈ lkA l i ∧ s.a.getD i false = false then s.r.getD i 0 else 0
/-- how many of the first flows use a link and rise -/
def cnt (l : List Fl) (s : Rt) (k : Int) : Nat → Nat
  | 0 => 0
  | i + 1 => cnt l s k i + if k ∈ lkA l i ∧ s.a.getD i false = true then 1 else 0
/-- the level at which a link is full -/
def lev (cp : Int → Int) (l : List Fl) (s : Rt) (k : Int) : Option Rat :=
  if cnt l s k l.length = 0 then none else some (((cp k : Rat) - sumTo (tkS l s k) l.length) / (cnt l s k l.length : Nat))
/-- the lesser of what was found and a number -/
def mn : Option Rat → Rat → Option Rat
  | none, x => some x
  | some y, x => if x < y then some x else some y
def lowK (cp : Int → Int) (l : List Fl) (s : Rt) : Nat → Option Rat
  | 0 => none
  | k + 1 => match lev cp l s (k : Int) with
    | none => lowK cp l s k
    | some x => mn (lowK cp l s k) x
def lowF (cp : Int → Int) (l : List Fl) (s : Rt) (n : Nat) : Nat → Option Rat
  | 0 => lowK cp l s n
  | i + 1 => if s.a.getD i false = true then mn (lowF cp l s n i) (lmA l i : Rat) else lowF cp l s n i
/-- does a flow stop at a level -/
def stopQ (cp : Int → Int) (l : List Fl) (s : Rt) (q : Rat) (i : Nat) : Prop := (lmA l i : Rat) = q ∨ ∃ k ∈ lkA l i, lev cp l s k = some q
instance (cp : Int → Int) (l : List Fl) (s : Rt) (q : Rat) (i : Nat) : Decidable (stopQ cp l s q i) := inferInstanceAs (Decidable (_ ∨ _))
/-- the first flows brought up to date; s0: the state at the round's start -/
def partR (cp : Int → Int) (l : List Fl) (s0 : Rt) (q : Rat) : Nat → Rt
  | 0 => s0
  | i + 1 => if s0.a.getD i false = true ∧ stopQ cp l s0 q i then ⟨(partR cp l s0 q i).r.set i q, (partR cp l s0 q i).a.set i false⟩ else partR cp l s0 q i
def roundR (cp : Int → Int) (l : List Fl) (n : Nat) (s : Rt) : Rt := partR cp l s ((lowF cp l s n l.length).getD 0) l.length
def itR (cp : Int → Int) (l : List Fl) (n : Nat) : Nat → Rt
  | 0 => ⟨List.replicate l.length 0, List.replicate l.length true⟩
  | k + 1 => if true ∈ (itR cp l n k).a then roundR cp l n (itR cp l n k) else itR cp l n k
def ratesM (cp : Int → Int) (l : List Fl) (n : Nat) : List Rat := (itR cp l n l.length).r

/-- rates that are proved max-min fair -/
structure Cert (cp : Int → Int) (l : List Fl) (n : Nat) (r : List Rat) : Prop where
  lo : r.length = l.length
  nn : ∀ i, i < l.length → 0 ≤ r.getD i 0 ∧ r.getD i 0 ≤ (lmA l i : Rat)
  cap : ∀ k : Nat, k < n → ldq l r (k : Int) ≤ (cp (k : Int) : Rat)
  held : ∀ i, i < l.length → r.getD i 0 = (lmA l i : Rat) ∨ ∃ k ∈ lkA l i, ldq l r k = (cp k : Rat) ∧ ∀ j, j < l.length → k ∈ lkA l j → r.getD j 0 ≤ r.getD i 0

end Go.Proofs.Ytnmomigaedfdoaa
namespace Go.Proofs.Ytnmomigaedfdoaa
set_option maxRecDepth 100000

/-- x^i / i! -/
def tq (x : Rat) : Nat → Rat
  | 0 => 1
  | i + 1 => tq x i * x / ((i + 1 : Nat) : Rat)
/-- the sum of the first terms -/
def eq_ (x : Rat) (m : Nat) : Rat := sumTo (tq x) m
theorem nat_pos (i : Nat) : (0 : Rat) < ((i + 1 : Nat) : Rat) := by exact_mod_cast Nat.succ_pos i
theorem nat_ne (i : Nat) : ((i + 1 : Nat) : Rat) ≠ 0 := fun h => by have := nat_pos i; rw [h] at this; exact absurd this (Rat.lt_irrefl)
theorem tq_step (x : Rat) (i : Nat) : ((i + 1 : Nat) : Rat) * tq x (i + 1) = x * tq x i := by
  rw [tq]
  have := nat_ne i
  rw [Rat.mul_comm, Rat.div_mul_cancel this, Rat.mul_comm]
/-- the terms of a product of two series -/
def conv (x h : Rat) (n i : Nat) : Rat := sumTo (fun j => tq x j * tq h (n - j)) i
theorem sumTo_mul (c : Rat) (g : Nat → Rat) (n : Nat) : sumTo (fun i => c * g i) n = c * sumTo g n := by
  induction n with
  | zero => show (0 : Rat) = c * 0; grind
  | succ n ih => rw [sumTo, sumTo, ih]; grind
theorem sumTo_shift (g : Nat → Rat) (n : Nat) : sumTo g (n + 1) = g 0 + sumTo (fun i => g (i + 1)) n := by
  induction n with
  | zero => rw [sumTo, sumTo, sumTo]; grind
  | succ n ih => rw [sumTo, ih, sumTo]; grind
/-- the binomial law -/
theorem conv_step (x h : Rat) (n : Nat) : ((n + 1 : Nat) : Rat) * conv x h (n + 1) (n + 2) = (x + h) * conv x h n (n + 1) := by
  have e1 : sumTo (fun j => (j : Rat) * (tq x j * tq h (n + 1 - j))) (n + 2) = x * conv x h n (n + 1) := by
    rw [sumTo_shift, conv, ← sumTo_mul]
    have : ((0 : Nat) : Rat) * (tq x 0 * tq h (n + 1 - 0)) = 0 := by grind
    rw [this]
    have e : sumTo (fun i => ((i + 1 : Nat) : Rat) * (tq x (i + 1) * tq h (n + 1 - (i + 1)))) (n + 1) = sumTo (fun i => x * (tq x i * tq h (n - i))) (n + 1) := sumTo_congr fun i _ => by
      show ((i + 1 : Nat) : Rat) * (tq x (i + 1) * tq h (n + 1 - (i + 1))) = x * (tq x i * tq h (n - i))
      rw [← Rat.mul_assoc, tq_step, Nat.add_sub_add_right, Rat.mul_assoc]
    rw [e]; grind
  have e2 : sumTo (fun j => ((n + 1 - j : Nat) : Rat) * (tq x j * tq h (n + 1 - j))) (n + 2) = h * conv x h n (n + 1) := by
    rw [sumTo, conv, ← sumTo_mul]
    have : ((n + 1 - (n + 1) : Nat) : Rat) * (tq x (n + 1) * tq h (n + 1 - (n + 1))) = 0 := by rw [Nat.sub_self]; grind
    rw [this]
    have e : sumTo (fun j => ((n + 1 - j : Nat) : Rat) * (tq x j * tq h (n + 1 - j))) (n + 1) = sumTo (fun j => h * (tq x j * tq h (n - j))) (n + 1) := sumTo_congr fun j hj => by
      show ((n + 1 - j : Nat) : Rat) * (tq x j * tq h (n + 1 - j)) = h * (tq x j * tq h (n - j))
      obtain ⟨d, hd⟩ : ∃ d, n - j = d := ⟨_, rfl⟩
      have : n + 1 - j = d + 1 := by omega
      rw [this, hd]
      have h1 := tq_step h d
      grind
    rw [e]; grind
  have e3 : ((n + 1 : Nat) : Rat) * conv x h (n + 1) (n + 2) = sumTo (fun j => (j : Rat) * (tq x j * tq h (n + 1 - j))) (n + 2) + sumTo (fun j => ((n + 1 - j : Nat) : Rat) * (tq x j * tq h (n + 1 - j))) (n + 2) := by
    rw [← sumTo_add, conv, ← sumTo_mul]
    refine sumTo_congr fun j hj => ?_
    have : ((n + 1 : Nat) : Rat) = (j : Rat) + ((n + 1 - j : Nat) : Rat) := by
      rw [← Rat.natCast_add]; congr 1; omega
    rw [this]; grind
  rw [e3, e1, e2]; grind
theorem conv_eq (x h : Rat) : ∀ n, conv x h n (n + 1) = tq (x + h) n := by
  intro n
  induction n with
  | zero => rw [conv, sumTo, sumTo]; show (0 : Rat) + 1 * 1 = 1; grind
  | succ n ih =>
    have h1 := conv_step x h n
    have h2 := tq_step (x + h) n
    rw [ih, ← h2] at h1
    have h3 := nat_ne n
    have h4 : ((n + 1 : Nat) : Rat) * (conv x h (n + 1) (n + 2) - tq (x + h) (n + 1)) = 0 := by grind
    rcases Rat.mul_eq_zero.1 h4 with h5 | h5
    · exact absurd h5 h3
    · grind
/-- a sum of products, summed the other way -/
theorem eq_conv (x h : Rat) : ∀ m, eq_ (x + h) m = sumTo (fun j => tq x j * eq_ h (m - j)) m := by
  intro m
  induction m with
  | zero => rfl
  | succ m ih =>
    have e : eq_ (x + h) (m + 1) = eq_ (x + h) m + tq (x + h) m := rfl
    rw [e, ih, ← conv_eq x h m]
    have e2 : sumTo (fun j => tq x j * eq_ h (m + 1 - j)) (m + 1) = sumTo (fun j => tq x j * eq_ h (m - j) + tq x j * tq h (m - j)) (m + 1) := sumTo_congr fun j hj => by
      obtain ⟨d, hd⟩ : ∃ d, m - j = d := ⟨_, rfl⟩
      have : m + 1 - j = d + 1 := by omega
      show tq x j * eq_ h (m + 1 - j) = tq x j * eq_ h (m - j) + tq x j * tq h (m - j)
      rw [this, hd]
      have e : eq_ h (d + 1) = eq_ h d + tq h d := rfl
      rw [e]; grind
    rw [e2, sumTo_add, sumTo]
    have e3 : tq x m * eq_ h (m - m) = 0 := by rw [Nat.sub_self]; show tq x m * 0 = 0; grind
    rw [e3, conv]; grind
theorem tq_nn {x : Rat} (h : 0 ≤ x) : ∀ i, 0 ≤ tq x i := by
  intro i
  induction i with
  | zero => rw [tq]; grind
  | succ i ih =>
    rw [tq, Rat.div_def]
    refine Rat.mul_nonneg (Rat.mul_nonneg ih h) ?_
    exact Rat.le_of_lt (Rat.inv_pos.2 (nat_pos i))
theorem eq_mono {x : Rat} (h : 0 ≤ x) {m k : Nat} (hk : m ≤ k) : eq_ x m ≤ eq_ x k := by
  induction k with
  | zero => obtain rfl : m = 0 := by omega
            exact Rat.le_refl
  | succ k ih =>
    rcases Nat.lt_or_ge m (k + 1) with h1 | h1
    · have h2 := ih (by omega)
      have h3 := tq_nn h k
      have e : eq_ x (k + 1) = eq_ x k + tq x k := rfl
      grind
    · obtain rfl : m = k + 1 := by omega
      exact Rat.le_refl
theorem eq_nn {x : Rat} (h : 0 ≤ x) (m : Nat) : 0 ≤ eq_ x m := eq_mono h (Nat.zero_le m)
theorem mul_le_l {a b c : Rat} (ha : 0 ≤ a) (h : b ≤ c) : a * b ≤ a * c := Rat.mul_le_mul_of_nonneg_left h ha
/-- the sum for x + h is at most the product -/
theorem eq_prod_le {x h : Rat} (hx : 0 ≤ x) (hh : 0 ≤ h) (m : Nat) : eq_ (x + h) m ≤ eq_ x m * eq_ h m := by
  have e : eq_ x m * eq_ h m = sumTo (fun j => eq_ h m * tq x j) m := by rw [sumTo_mul, Rat.mul_comm]; rfl
  rw [eq_conv, e]
  refine sumTo_le fun j hj => ?_
  show tq x j * eq_ h (m - j) ≤ eq_ h m * tq x j
  rw [Rat.mul_comm (eq_ h m)]
  exact mul_le_l (tq_nn hx j) (eq_mono hh (by omega))
theorem sumTo_mono {g : Nat → Rat} (h : ∀ i, 0 ≤ g i) {m k : Nat} (hk : m ≤ k) : sumTo g m ≤ sumTo g k := by
  induction k with
  | zero => obtain rfl : m = 0 := by omega
            exact Rat.le_refl
  | succ k ih =>
    rcases Nat.lt_or_ge m (k + 1) with h1 | h1
    · have h2 := ih (by omega)
      have h3 := h k
      rw [sumTo]; grind
    · obtain rfl : m = k + 1 := by omega
      exact Rat.le_refl
/-- and the product is at most the sum of twice as many terms -/
theorem eq_prod_ge {x h : Rat} (hx : 0 ≤ x) (hh : 0 ≤ h) (m k : Nat) : eq_ x m * eq_ h k ≤ eq_ (x + h) (m + k) := by
  have e : eq_ x m * eq_ h k = sumTo (fun j => eq_ h k * tq x j) m := by rw [sumTo_mul, Rat.mul_comm]; rfl
  rw [eq_conv, e]
  refine Rat.le_trans ?_ (sumTo_mono (fun i => Rat.mul_nonneg (tq_nn hx i) (eq_nn hh _)) (show m ≤ m + k by omega))
  refine sumTo_le fun j hj => ?_
  show eq_ h k * tq x j ≤ tq x j * eq_ h (m + k - j)
  rw [Rat.mul_comm (eq_ h k)]
  exact mul_le_l (tq_nn hx j) (eq_mono hh (by omega))
end Go.Proofs.Ytnmomigaedfdoaa
namespace Go.Proofs.Ytnmomigaedfdoaa
set_option maxRecDepth 100000

def cS (P c : Nat) : Nat → Nat
  | 0 => c
  | j + 1 => (cS P c j * cS P c j) >>> P
def vS (L P c : Nat) : Nat → Nat
  | 0 => 2 ^ P
  | j + 1 => vS L P c j + (((vS L P c j * cS P c j) >>> P) &&& rep L (2 ^ P - 1) j) <<< (L * 2 ^ j)
theorem shr_lt {x P : Nat} (h : x < 2 ^ P * 2 ^ P) : x >>> P < 2 ^ P := by
  rw [Nat.shiftRight_eq_div_pow]
  exact Nat.div_lt_of_lt_mul h
theorem cS_lt {P c : Nat} (hc : c < 2 ^ P) : ∀ j, cS P c j < 2 ^ P := by
  intro j
  induction j with
  | zero => exact hc
  | succ j ih => exact shr_lt (Nat.mul_lt_mul_of_lt_of_le ih (Nat.le_of_lt ih) (by omega))
/-- one product in all lanes -/
theorem prod_lane {L P V c j q : Nat} (hL : 2 * P ≤ L) (hP : 0 < P) (hc : c < 2 ^ P) (hv : ∀ i, i < 2 ^ j → lnq L V i ≤ 2 ^ P) (hq : q < 2 ^ j) :
    lnq L (((V * c) >>> P) &&& rep L (2 ^ P - 1) j) q = (lnq L V q * c) >>> P := by
  have h2P : 2 ^ P * 2 ^ P ≤ 2 ^ L := by rw [← Nat.pow_add]; exact Nat.pow_le_pow_right (by omega) (by omega)
  have hlt : ∀ i, i < 2 ^ j → lnq L V i * c < 2 ^ P * 2 ^ P := fun i hi => Nat.mul_lt_mul_of_le_of_lt (hv i hi) hc (Nat.pow_pos (by omega))
  have hm : 2 ^ P - 1 < 2 ^ L := Nat.lt_of_lt_of_le (Nat.sub_lt (Nat.pow_pos (by omega)) (by omega)) (Nat.pow_le_pow_right (by omega) (by omega))
  have e := mul_lane (L := L) (V := V) (c := c) (q := q) fun i hi => Nat.lt_of_lt_of_le (hlt i (by omega)) h2P
  refine Nat.eq_of_testBit_eq fun s => ?_
  rw [bit_lnq]
  by_cases hs : s < L
  · rw [decide_eq_true hs, Bool.true_and, Nat.testBit_and, rep_bit hm hq hs, Nat.testBit_two_pow_sub_one, Nat.testBit_shiftRight, Nat.testBit_shiftRight]
    by_cases hsp : s < P
    · rw [decide_eq_true hsp, Bool.and_true, ← e, bit_lnq, decide_eq_true (by omega), Bool.true_and]
      congr 1
      omega
    · rw [decide_eq_false hsp, Bool.and_false]
      symm
      refine Nat.testBit_lt_two_pow (Nat.lt_of_lt_of_le (hlt q hq) ?_)
      rw [← Nat.pow_add]; exact Nat.pow_le_pow_right (by omega) (by omega)
  · rw [decide_eq_false hs, Bool.false_and]
    symm
    rw [Nat.testBit_shiftRight]
    refine Nat.testBit_lt_two_pow (Nat.lt_of_lt_of_le (Nat.lt_of_lt_of_le (hlt q hq) h2P) ?_)
    exact Nat.pow_le_pow_right (by omega) (by omega)
theorem and_lt_rep {L m j X : Nat} (hm : m < 2 ^ L) : X &&& rep L m j < 2 ^ (L * 2 ^ j) := Nat.lt_of_le_of_lt Nat.and_le_right (rep_lt hm j)
theorem vS_spec {L P c : Nat} (hL : 2 * P ≤ L) (hP : 0 < P) (hc : c < 2 ^ P) : ∀ j, vS L P c j < 2 ^ (L * 2 ^ j) ∧ ∀ q, q < 2 ^ j → lnq L (vS L P c j) q ≤ 2 ^ P := by
  have hm : 2 ^ P - 1 < 2 ^ L := Nat.lt_of_lt_of_le (Nat.sub_lt (Nat.pow_pos (by omega)) (by omega)) (Nat.pow_le_pow_right (by omega) (by omega))
  intro j
  induction j with
  | zero =>
    have h1 : 2 ^ P < 2 ^ L := Nat.pow_lt_pow_right (by omega) (by omega)
    refine ⟨by show 2 ^ P < 2 ^ (L * 2 ^ 0); rw [Nat.pow_zero, Nat.mul_one]; exact h1, fun q hq => ?_⟩
    obtain rfl : q = 0 := by rw [Nat.pow_zero] at hq; omega
    show 2 ^ P / 2 ^ (L * 0) % 2 ^ L ≤ _
    exact Nat.le_trans (Nat.mod_le _ _) (Nat.div_le_self _ _)
  | succ j ih =>
    obtain ⟨ih1, ih2⟩ := ih
    refine ⟨?_, fun q hq => ?_⟩
    · have h := cat_lt ih1 (and_lt_rep (X := (vS L P c j * cS P c j) >>> P) hm (j := j))
      rw [← Nat.two_mul] at h
      rw [vS, Nat.pow_succ, Nat.mul_comm (2 ^ j) 2]
      exact h
    · rw [Nat.pow_succ] at hq
      rw [vS]
      rcases Nat.lt_or_ge q (2 ^ j) with h | h
      · rw [cat_low ih1 h]; exact ih2 q h
      · obtain ⟨d, rfl⟩ := Nat.exists_eq_add_of_le h
        rw [cat_high ih1, prod_lane hL hP (cS_lt hc j) ih2 (by omega)]
        exact Nat.le_of_lt (shr_lt (Nat.mul_lt_mul_of_le_of_lt (ih2 d (by omega)) (cS_lt hc j) (Nat.pow_pos (by omega))))
theorem vS_low {L P c j q : Nat} (hL : 2 * P ≤ L) (hP : 0 < P) (hc : c < 2 ^ P) (hq : q < 2 ^ j) : lnq L (vS L P c (j + 1)) q = lnq L (vS L P c j) q := by
  rw [vS, cat_low (vS_spec hL hP hc j).1 hq]
theorem vS_high {L P c j q : Nat} (hL : 2 * P ≤ L) (hP : 0 < P) (hc : c < 2 ^ P) (hq : q < 2 ^ j) : lnq L (vS L P c (j + 1)) (2 ^ j + q) = (lnq L (vS L P c j) q * cS P c j) >>> P := by
  rw [vS, cat_high (vS_spec hL hP hc j).1, prod_lane hL hP (cS_lt hc j) (vS_spec hL hP hc j).2 hq]

/-- z units of 2^-P are at most e^-y -/
def ApL (P z : Nat) (y : Rat) : Prop := ∀ m, (z : Rat) * eq_ y m ≤ ((2 ^ P : Nat) : Rat)
/-- z units of 2^-P are at least e^-y -/
def ApU (P z : Nat) (y : Rat) : Prop := ∃ m, ((2 ^ P : Nat) : Rat) ≤ (z : Rat) * eq_ y m
theorem two_pos (P : Nat) : (0 : Rat) < ((2 ^ P : Nat) : Rat) := by exact_mod_cast Nat.pow_pos (n := P) (show 0 < 2 by omega)
theorem natR_nn (n : Nat) : (0 : Rat) ≤ (n : Rat) := Rat.natCast_nonneg
theorem mul_le_mul_nn {a b c d : Rat} (ha : 0 ≤ a) (hd : 0 ≤ d) (h1 : a ≤ b) (h2 : c ≤ d) : a * c ≤ b * d :=
  Rat.le_trans (mul_le_l ha h2) (Rat.mul_le_mul_of_nonneg_right h1 hd)
theorem ApL.mul {P z z' w : Nat} {y y' : Rat} (hy : 0 ≤ y) (hy' : 0 ≤ y') (h : ApL P z y) (h' : ApL P z' y') (hw : w * 2 ^ P ≤ z * z') : ApL P w (y + y') := by
  intro m
  have h1 := eq_prod_le hy hy' m
  have h2 := h m
  have h3 := h' m
  have n1 := eq_nn hy m
  have n2 := eq_nn hy' m
  have hw' : (w : Rat) * ((2 ^ P : Nat) : Rat) ≤ (z : Rat) * (z' : Rat) := by exact_mod_cast hw
  have hT := two_pos P
  generalize ((2 ^ P : Nat) : Rat) = T at *
  have a1 : (w : Rat) * T * eq_ (y + y') m ≤ (z : Rat) * (z' : Rat) * (eq_ y m * eq_ y' m) := mul_le_mul_nn (Rat.mul_nonneg (natR_nn w) (Rat.le_of_lt hT)) (Rat.mul_nonneg n1 n2) hw' h1
  have a2 : (z : Rat) * eq_ y m * ((z' : Rat) * eq_ y' m) ≤ T * T := mul_le_mul_nn (Rat.mul_nonneg (natR_nn z) n1) (Rat.le_of_lt hT) h2 h3
  have a3 : (w : Rat) * eq_ (y + y') m * T ≤ T * T := by grind
  exact Rat.le_of_mul_le_mul_right a3 hT
theorem ApU.mul {P z z' w : Nat} {y y' : Rat} (hy : 0 ≤ y) (hy' : 0 ≤ y') (h : ApU P z y) (h' : ApU P z' y') (hw : z * z' ≤ w * 2 ^ P) : ApU P w (y + y') := by
  obtain ⟨m, h2⟩ := h
  obtain ⟨k, h3⟩ := h'
  refine ⟨m + k, ?_⟩
  have h1 := eq_prod_ge hy hy' m k
  have n1 := eq_nn hy m
  have n2 := eq_nn hy' k
  have hw' : (z : Rat) * (z' : Rat) ≤ (w : Rat) * ((2 ^ P : Nat) : Rat) := by exact_mod_cast hw
  have hT := two_pos P
  generalize ((2 ^ P : Nat) : Rat) = T at *
  have a2 : T * T ≤ (z : Rat) * eq_ y m * ((z' : Rat) * eq_ y' k) := mul_le_mul_nn (Rat.le_of_lt hT) (Rat.mul_nonneg (natR_nn z') n2) h2 h3
  have a1 : (z : Rat) * (z' : Rat) * (eq_ y m * eq_ y' k) ≤ (w : Rat) * T * eq_ (y + y') (m + k) := mul_le_mul_nn (Rat.mul_nonneg (natR_nn z) (natR_nn z')) (eq_nn (by grind) _) hw' h1
  have a3 : T * T ≤ (w : Rat) * eq_ (y + y') (m + k) * T := by grind
  exact Rat.le_of_mul_le_mul_right a3 hT
/-- the errors of a product -/
theorem err_lo {T v c E F : Nat} (hT : 0 < T) (hv : v ≤ T) (hc : c ≤ T) : (v * c / T - (E + F + 2)) * T ≤ (v - E) * (c - F) := by
  by_cases h : v * c / T ≤ E + F + 2
  · rw [Nat.sub_eq_zero_of_le h, Nat.zero_mul]; exact Nat.zero_le _
  · have h1 := Nat.div_mul_le_self (v * c) T
    obtain ⟨u, hu⟩ : ∃ u, v * c / T = E + F + 2 + u := ⟨v * c / T - (E + F + 2), by omega⟩
    rw [hu] at h1 ⊢
    rw [Nat.add_sub_cancel_left]
    have hvE : E < v := by
      apply Classical.byContradiction
      intro k
      have : v * c ≤ E * T := Nat.mul_le_mul (by omega) hc
      have e : (E + F + 2 + u) * T = E * T + F * T + 2 * T + u * T := by grind
      omega
    have hcF : F < c := by
      apply Classical.byContradiction
      intro k
      have : v * c ≤ T * F := Nat.mul_le_mul hv (by omega)
      have e : (E + F + 2 + u) * T = E * T + T * F + 2 * T + u * T := by grind
      omega
    obtain ⟨v', rfl⟩ := Nat.exists_eq_add_of_le (Nat.le_of_lt hvE)
    obtain ⟨c', rfl⟩ := Nat.exists_eq_add_of_le (Nat.le_of_lt hcF)
    rw [Nat.add_sub_cancel_left, Nat.add_sub_cancel_left]
    have e : (E + F + 2 + u) * T = E * T + F * T + 2 * T + u * T := by grind
    have e2 : (E + v') * (F + c') = E * (F + c') + F * v' + v' * c' := by grind
    have g1 : E * (F + c') ≤ E * T := Nat.mul_le_mul_left _ hc
    have g2 : F * v' ≤ F * T := Nat.mul_le_mul_left _ (by omega)
    omega
theorem err_hi {T v c E F : Nat} (hT : 0 < T) (hv : v ≤ T) (hc : c ≤ T) (hEF : E * F ≤ T) : (v + E) * (c + F) ≤ (v * c / T + (E + F + 2)) * T := by
  have h1 := Nat.div_add_mod (v * c) T
  have h2 := Nat.mod_lt (v * c) hT
  have e : (v + E) * (c + F) = v * c + F * v + E * c + E * F := by grind
  have e2 : (v * c / T + (E + F + 2)) * T = T * (v * c / T) + E * T + F * T + 2 * T := by grind
  have g1 : E * c ≤ E * T := Nat.mul_le_mul_left _ hc
  have g2 : F * v ≤ F * T := Nat.mul_le_mul_left _ hv
  omega
end Go.Proofs.Ytnmomigaedfdoaa
namespace Go.Proofs.Ytnmomigaedfdoaa
set_option maxRecDepth 100000

theorem ApL.mono {P z z' : Nat} {y : Rat} (hy : 0 ≤ y) (h : ApL P z' y) (hz : z ≤ z') : ApL P z y := fun m =>
  Rat.le_trans (Rat.mul_le_mul_of_nonneg_right (by exact_mod_cast hz) (eq_nn hy m)) (h m)
theorem ApU.mono {P z z' : Nat} {y : Rat} (hy : 0 ≤ y) (h : ApU P z y) (hz : z ≤ z') : ApU P z' y := by
  obtain ⟨m, hm⟩ := h
  exact ⟨m, Rat.le_trans hm (Rat.mul_le_mul_of_nonneg_right (by exact_mod_cast hz) (eq_nn hy m))⟩
theorem tq_zero : ∀ i, tq 0 (i + 1) = 0 := fun i => by rw [tq]; grind
theorem eq_zero : ∀ m, eq_ 0 m ≤ 1 := by
  intro m
  cases m with
  | zero => show (0 : Rat) ≤ 1; grind
  | succ m =>
    have : ∀ m, eq_ 0 (m + 1) = 1 := by
      intro m
      induction m with
      | zero => show (0 : Rat) + 1 = 1; grind
      | succ m ih =>
        have e : eq_ 0 (m + 1 + 1) = eq_ 0 (m + 1) + tq 0 (m + 1) := rfl
        rw [e, ih, tq_zero]; grind
    rw [this]; exact Rat.le_refl
theorem err_sq {P j : Nat} (h : 2 * j + 4 ≤ P) {E F : Nat} (hE : E ≤ 4 * 2 ^ j) (hF : F ≤ 4 * 2 ^ j) : E * F ≤ 2 ^ P := by
  refine Nat.le_trans (Nat.mul_le_mul hE hF) ?_
  have e : 4 * 2 ^ j * (4 * 2 ^ j) = 2 ^ (2 * j + 4) := by
    have : 2 ^ (2 * j + 4) = 2 ^ j * 2 ^ j * 16 := by rw [Nat.pow_add, Nat.two_mul, Nat.pow_add]
    rw [this]; grind
  rw [e]
  exact Nat.pow_le_pow_right (by omega) h
theorem cS_ap {P c : Nat} {h : Rat} (hh : 0 ≤ h) (hc : c < 2 ^ P) (hL : ApL P (c - 2) h) (hU : ApU P (c + 2) h) : ∀ j, 2 * j + 4 ≤ P →
    ApL P (cS P c j - (4 * 2 ^ j - 2)) (((2 ^ j : Nat) : Rat) * h) ∧ ApU P (cS P c j + (4 * 2 ^ j - 2)) (((2 ^ j : Nat) : Rat) * h) := by
  intro j
  induction j with
  | zero =>
    intro _
    rw [show (((2 ^ 0 : Nat) : Rat)) * h = h by rw [Nat.pow_zero]; grind]
    exact ⟨hL, hU⟩
  | succ j ih =>
    intro hj
    obtain ⟨i1, i2⟩ := ih (by omega)
    have hT := Nat.pow_pos (n := P) (show 0 < 2 by omega)
    have hlt := cS_lt hc j
    have e : (((2 ^ (j + 1) : Nat) : Rat)) * h = ((2 ^ j : Nat) : Rat) * h + ((2 ^ j : Nat) : Rat) * h := by
      rw [Nat.pow_succ, Rat.natCast_mul]; grind
    have hn : 0 ≤ ((2 ^ j : Nat) : Rat) * h := Rat.mul_nonneg (natR_nn _) hh
    have e2 : cS P c (j + 1) = cS P c j * cS P c j / 2 ^ P := by rw [cS, Nat.shiftRight_eq_div_pow]
    have e3 : 4 * 2 ^ (j + 1) - 2 = (4 * 2 ^ j - 2) + (4 * 2 ^ j - 2) + 2 := by have := Nat.pow_pos (n := j) (show 0 < 2 by omega); rw [Nat.pow_succ]; omega
    rw [e, e2, e3]
    exact ⟨i1.mul hn hn i1 (err_lo hT (Nat.le_of_lt hlt) (Nat.le_of_lt hlt)), i2.mul hn hn i2 (err_hi hT (Nat.le_of_lt hlt) (Nat.le_of_lt hlt) (err_sq (j := j) (by omega) (by omega) (by omega)))⟩
theorem vS_ap {L P c : Nat} {h : Rat} (hPL : 2 * P ≤ L) (hP : 0 < P) (hh : 0 ≤ h) (hc : c < 2 ^ P) (hL : ApL P (c - 2) h) (hU : ApU P (c + 2) h) : ∀ j, 2 * j + 4 ≤ P → ∀ q, q < 2 ^ j →
    ApL P (lnq L (vS L P c j) q - (4 * 2 ^ j - 4)) ((q : Rat) * h) ∧ ApU P (lnq L (vS L P c j) q + (4 * 2 ^ j - 4)) ((q : Rat) * h) := by
  intro j
  induction j with
  | zero =>
    intro _ q hq
    obtain rfl : q = 0 := by rw [Nat.pow_zero] at hq; omega
    have e1 : lnq L (vS L P c 0) 0 = 2 ^ P := by
      show 2 ^ P / 2 ^ (L * 0) % 2 ^ L = _
      rw [Nat.mul_zero, Nat.pow_zero, Nat.div_one, Nat.mod_eq_of_lt (Nat.pow_lt_pow_right (by omega) (by omega))]
    have e2 : ((0 : Nat) : Rat) * h = 0 := by grind
    rw [e1, e2, Nat.pow_zero]
    have hT := two_pos P
    refine ⟨fun m => ?_, 1, ?_⟩
    · have h1 := eq_zero m
      show ((2 ^ P : Nat) : Rat) * eq_ 0 m ≤ _
      have h2 := mul_le_l (Rat.le_of_lt hT) h1
      grind
    · show _ ≤ ((2 ^ P : Nat) : Rat) * ((0 : Rat) + 1)
      grind
  | succ j ih =>
    intro hj q hq
    have ih := ih (by omega)
    rw [Nat.pow_succ] at hq
    rcases Nat.lt_or_ge q (2 ^ j) with h1 | h1
    · obtain ⟨i1, i2⟩ := ih q h1
      have hn : 0 ≤ (q : Rat) * h := Rat.mul_nonneg (natR_nn _) hh
      rw [vS_low hPL hP hc h1, Nat.pow_succ]
      exact ⟨i1.mono hn (by omega), i2.mono hn (by omega)⟩
    · obtain ⟨d, rfl⟩ := Nat.exists_eq_add_of_le h1
      have hd : d < 2 ^ j := by omega
      obtain ⟨i1, i2⟩ := ih d hd
      obtain ⟨k1, k2⟩ := cS_ap hh hc hL hU j (by omega)
      have hT := Nat.pow_pos (n := P) (show 0 < 2 by omega)
      have hv := (vS_spec hPL hP hc j).2 d hd
      have hlt := cS_lt hc j
      have n1 : 0 ≤ (d : Rat) * h := Rat.mul_nonneg (natR_nn _) hh
      have n2 : 0 ≤ ((2 ^ j : Nat) : Rat) * h := Rat.mul_nonneg (natR_nn _) hh
      have e : ((2 ^ j + d : Nat) : Rat) * h = (d : Rat) * h + ((2 ^ j : Nat) : Rat) * h := by
        rw [Rat.natCast_add]; grind
      have e3 : 4 * 2 ^ (j + 1) - 4 = (4 * 2 ^ j - 4) + (4 * 2 ^ j - 2) + 2 := by have := Nat.pow_pos (n := j) (show 0 < 2 by omega); rw [Nat.pow_succ]; omega
      rw [vS_high hPL hP hc hd, Nat.shiftRight_eq_div_pow, e, e3]
      exact ⟨i1.mul n1 n2 k1 (err_lo hT hv (Nat.le_of_lt hlt)), i2.mul n1 n2 k2 (err_hi hT hv (Nat.le_of_lt hlt) (err_sq (j := j) (by omega) (by omega) (by omega)))⟩

/-- the sum of the first terms of e^(1/d) over facD -/
def serN (d : Nat) : Nat → Nat
  | 0 => 0
  | i + 1 => (serN d i + 1) * (d * (i + 1))
def facD (d : Nat) : Nat → Nat
  | 0 => 1
  | i + 1 => facD d i * (d * (i + 1))
theorem facD_pos {d : Nat} (hd : 0 < d) : ∀ i, 0 < facD d i := by
  intro i
  induction i with
  | zero => exact Nat.one_pos
  | succ i ih => exact Nat.mul_pos ih (Nat.mul_pos hd (Nat.succ_pos i))
theorem tq_fac {d : Nat} (hd : 0 < d) : ∀ i, tq (1 / (d : Rat)) i * (facD d i : Rat) = 1 := by
  have hd0 : (d : Rat) ≠ 0 := by exact_mod_cast (Nat.ne_of_gt hd)
  intro i
  induction i with
  | zero => show (1 : Rat) * ((1 : Nat) : Rat) = 1; grind
  | succ i ih =>
    have h1 := tq_step (1 / (d : Rat)) i
    have e : ((facD d (i + 1) : Nat) : Rat) = (facD d i : Rat) * ((d : Rat) * ((i + 1 : Nat) : Rat)) := by
      rw [facD, Rat.natCast_mul, Rat.natCast_mul]
    have h2 : (1 / (d : Rat)) * (d : Rat) = 1 := Rat.div_mul_cancel hd0
    rw [e]
    have : tq (1 / (d : Rat)) (i + 1) * ((facD d i : Rat) * ((d : Rat) * ((i + 1 : Nat) : Rat))) = (((i + 1 : Nat) : Rat) * tq (1 / (d : Rat)) (i + 1)) * (facD d i : Rat) * (d : Rat) := by grind
    rw [this, h1]
    grind
theorem eq_ser {d : Nat} (hd : 0 < d) : ∀ i, eq_ (1 / (d : Rat)) i * (facD d i : Rat) = (serN d i : Rat) := by
  intro i
  induction i with
  | zero => show (0 : Rat) * _ = ((0 : Nat) : Rat); grind
  | succ i ih =>
    have h1 := tq_fac hd i
    have e : eq_ (1 / (d : Rat)) (i + 1) = eq_ (1 / (d : Rat)) i + tq (1 / (d : Rat)) i := rfl
    have e1 : ((facD d (i + 1) : Nat) : Rat) = (facD d i : Rat) * ((d * (i + 1) : Nat) : Rat) := by rw [facD, Rat.natCast_mul]
    have e2 : ((serN d (i + 1) : Nat) : Rat) = ((serN d i : Rat) + 1) * ((d * (i + 1) : Nat) : Rat) := by rw [serN, Rat.natCast_mul, Rat.natCast_add]; rfl
    have key : ∀ u v g k : Rat, v * g = 1 → (u + v) * (g * k) = (u * g + 1) * k := fun u v g k hh => by
      have e3 : (u + v) * (g * k) = (u * g + v * g) * k := by grind
      rw [e3, hh]
    rw [e, e1, e2, ← ih]
    exact key _ _ _ _ h1
/-- the terms of e^h fall at least by half -/
theorem tq_half {h : Rat} (h0 : 0 ≤ h) (h1 : h ≤ 1) (i : Nat) : 2 * tq h (i + 2) ≤ tq h (i + 1) := by
  have e := tq_step h (i + 1)
  have n1 := tq_nn h0 (i + 1)
  have n2 := tq_nn h0 (i + 2)
  have c : (2 : Rat) ≤ ((i + 1 + 1 : Nat) : Rat) := by exact_mod_cast (show 2 ≤ i + 1 + 1 by omega)
  have a1 : 2 * tq h (i + 2) ≤ ((i + 1 + 1 : Nat) : Rat) * tq h (i + 2) := Rat.mul_le_mul_of_nonneg_right c n2
  have a2 : h * tq h (i + 1) ≤ 1 * tq h (i + 1) := Rat.mul_le_mul_of_nonneg_right h1 n1
  grind
theorem eq_tail {h : Rat} (h0 : 0 ≤ h) (h1 : h ≤ 1) (m : Nat) : ∀ k, eq_ h (m + 1 + k) + 2 * tq h (m + 1 + k) ≤ eq_ h (m + 1) + 2 * tq h (m + 1) := by
  intro k
  induction k with
  | zero => exact Rat.le_refl
  | succ k ih =>
    have e : eq_ h (m + 1 + (k + 1)) = eq_ h (m + 1 + k) + tq h (m + 1 + k) := rfl
    have h2 := tq_half h0 h1 (m + k)
    have e2 : m + k + 1 = m + 1 + k := by omega
    have e3 : m + k + 2 = m + 1 + (k + 1) := by omega
    rw [e2, e3] at h2
    rw [e]
    grind
theorem eq_bound {h : Rat} (h0 : 0 ≤ h) (h1 : h ≤ 1) (m k : Nat) : eq_ h k ≤ eq_ h (m + 1) + 2 * tq h (m + 1) := by
  rcases Nat.le_total k (m + 1) with h2 | h2
  · have := eq_mono h0 h2
    have := tq_nn h0 (m + 1)
    grind
  · obtain ⟨d, rfl⟩ := Nat.exists_eq_add_of_le h2
    have := eq_tail h0 h1 m d
    have := tq_nn h0 (m + 1 + d)
    grind
/-- e^(-1/d) in units of 2^-P -/
def c0 (P d : Nat) : Nat := 2 ^ P * facD d 40 / (serN d 40 + 2)
theorem c0_lo {P d : Nat} (hd : 0 < d) : ApL P (c0 P d) (1 / (d : Rat)) := by
  intro m
  have hd1 : (1 : Rat) ≤ (d : Rat) := by exact_mod_cast hd
  have hh : (1 / (d : Rat)) * (d : Rat) = 1 := Rat.div_mul_cancel (by grind)
  have h0 : 0 ≤ 1 / (d : Rat) := by rw [Rat.div_def, Rat.one_mul]; exact Rat.le_of_lt (Rat.inv_pos.2 (by grind))
  have h1 : 1 / (d : Rat) ≤ 1 := by
    have := mul_le_l h0 hd1
    grind
  have h2 := eq_bound h0 h1 39 m
  have h3 := eq_ser hd 40
  have h4 := tq_fac hd 40
  have h5 : c0 P d * (serN d 40 + 2) ≤ 2 ^ P * facD d 40 := Nat.div_mul_le_self _ _
  have h6 : (c0 P d : Rat) * ((serN d 40 : Rat) + 2) ≤ ((2 ^ P : Nat) : Rat) * (facD d 40 : Rat) := by exact_mod_cast h5
  have hf : (0 : Rat) < (facD d 40 : Rat) := by exact_mod_cast facD_pos hd 40
  generalize (facD d 40 : Rat) = f at *
  generalize (serN d 40 : Rat) = s at *
  have hn : (0 : Rat) ≤ (c0 P d : Rat) := natR_nn _
  generalize (c0 P d : Rat) = c at *
  generalize ((2 ^ P : Nat) : Rat) = T at *
  have h7 := Rat.mul_le_mul_of_nonneg_right (mul_le_l hn h2) (Rat.le_of_lt hf)
  have e1 : c * (eq_ (1 / (d : Rat)) (39 + 1) + 2 * tq (1 / (d : Rat)) (39 + 1)) * f = c * (eq_ (1 / (d : Rat)) 40 * f + 2 * (tq (1 / (d : Rat)) 40 * f)) := by
    show c * (eq_ (1 / (d : Rat)) 40 + 2 * tq (1 / (d : Rat)) 40) * f = _
    generalize eq_ (1 / (d : Rat)) 40 = u
    generalize tq (1 / (d : Rat)) 40 = v
    grind
  rw [e1, h3, h4] at h7
  refine Rat.le_of_mul_le_mul_right (Rat.le_trans h7 ?_) hf
  rw [Rat.mul_one]
  exact h6
theorem c0_hi {P d : Nat} (hd : 0 < d) (h : 2 ^ P * facD d 40 ≤ (c0 P d + 2) * serN d 40) : ApU P (c0 P d + 2) (1 / (d : Rat)) := by
  refine ⟨40, ?_⟩
  have h3 := eq_ser hd 40
  have h6 : ((2 ^ P : Nat) : Rat) * (facD d 40 : Rat) ≤ ((c0 P d + 2 : Nat) : Rat) * (serN d 40 : Rat) := by exact_mod_cast h
  have hf : (0 : Rat) < (facD d 40 : Rat) := by exact_mod_cast facD_pos hd 40
  rw [← h3] at h6
  generalize (facD d 40 : Rat) = f at *
  have h8 : ((2 ^ P : Nat) : Rat) * f ≤ ((c0 P d + 2 : Nat) : Rat) * eq_ (1 / (d : Rat)) 40 * f := by grind
  exact Rat.le_of_mul_le_mul_right h8 hf
end Go.Proofs.Ytnmomigaedfdoaa
