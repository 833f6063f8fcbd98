/- Flows that share links: the rounds of Units, as plain lists. No program in sight. Max-min fair rates as pure lists: the rounds, what they keep, the certificate and that it is unique. No program in sight. Partial sums of the exponential series as fractions, and what the product of two of them is. No program in sight. -/

namespace Go.Proofs.Ytnmomigaedfdoaa
set_option maxRecDepth 100000

/-- a flow: its links and its limit -/
abbrev Fl := List Int × Int
/-- what the flows that use a link have -/
def ld : List Fl → List Int → Int → Int
  | f :: l, o :: out, e => (f.1.count e : Int) * o + ld l out e
  | [], _, _ => 0
  | _ :: _, [], _ => 0
/-- the state: how many units each flow has, and which are finished -/
structure Un where
  out : List Int
  fin : List Bool
def lkA (l : List Fl) (i : Nat) : List Int := (l.getD i ([], 0)).1
def lmA (l : List Fl) (i : Nat) : Int := (l.getD i ([], 0)).2
/-- one of its links has nothing left -/
def fullU (cp : Int → Int) (l : List Fl) (out : List Int) (i : Nat) : Prop := ∃ e ∈ lkA l i, cp e - ld l out e = 0
instance (cp : Int → Int) (l : List Fl) (out : List Int) (i : Nat) : Decidable (fullU cp l out i) := inferInstanceAs (Decidable (∃ e ∈ lkA l i, cp e - ld l out e = 0))
def stepU (cp : Int → Int) (l : List Fl) (s : Un) (i : Nat) : Un :=
  if s.fin.getD i true = true then s
  else if lmA l i ≤ s.out.getD i 0 ∨ fullU cp l s.out i then ⟨s.out, s.fin.set i true⟩
  else ⟨s.out.set i (s.out.getD i 0 + 1), s.fin⟩
def partU (cp : Int → Int) (l : List Fl) (s : Un) : Nat → Un
  | 0 => s
  | i + 1 => stepU cp l (partU cp l s i) i
def itU (cp : Int → Int) (l : List Fl) : Nat → Un
  | 0 => ⟨List.replicate l.length 0, List.replicate l.length false⟩
  | k + 1 => partU cp l (itU cp l k) l.length
def allFin (s : Un) : Prop := ∀ i, i < s.fin.length → s.fin.getD i true = true

theorem getD_set {α : Type} (xs : List α) (i j : Nat) (v d : α) : (xs.set i v).getD j d = if i = j ∧ j < xs.length then v else xs.getD j d := by
  rw [List.getD_eq_getElem?_getD, List.getD_eq_getElem?_getD, List.getElem?_set]
  by_cases h : i = j
  · subst h
    by_cases h2 : i < xs.length
    · simp [h2]
    · simp [h2]
  · simp [h]
theorem getD_rep {α : Type} (n : Nat) (a d : α) (i : Nat) (h : i < n) : (List.replicate n a).getD i d = a := by
  rw [List.getD_eq_getElem?_getD, List.getElem?_replicate, if_pos h]; rfl
theorem ld_set (l : List Fl) : ∀ (out : List Int) (i : Nat) (v e : Int), i < out.length → ld l (out.set i v) e = ld l out e + ((lkA l i).count e : Int) * (v - out.getD i 0) := by
  induction l with
  | nil => intro out i v e _; simp [ld, lkA]
  | cons f l ih =>
    intro out i v e hi
    cases out with
    | nil => simp at hi
    | cons o out =>
      cases i with
      | zero => simp [ld, lkA, Int.mul_sub]; omega
      | succ i =>
        have := ih out i v e (by simpa using hi)
        simp only [List.set_cons_succ, ld, this]
        have e1 : lkA (f :: l) (i + 1) = lkA l i := by simp [lkA]
        have e2 : (o :: out).getD (i + 1) 0 = out.getD i 0 := by simp
        rw [e1, e2]; omega
theorem ld_rep (l : List Fl) (n : Nat) (e : Int) : ld l (List.replicate n 0) e = 0 := by
  induction l generalizing n with
  | nil => simp [ld]
  | cons f l ih => cases n with
    | zero => simp [ld]
    | succ n => simp [List.replicate_succ, ld, ih]
/-- what holds behind i flows of round k -/
structure UInv (cp : Int → Int) (l : List Fl) (k i : Nat) (s : Un) : Prop where
  lo : s.out.length = l.length
  lf : s.fin.length = l.length
  act : ∀ j, j < l.length → s.fin.getD j true = false → s.out.getD j 0 = (k : Int) + if j < i then 1 else 0
  bd : ∀ j, j < l.length → 0 ≤ s.out.getD j 0 ∧ s.out.getD j 0 ≤ lmA l j ∧ s.out.getD j 0 ≤ (k : Int) + if j < i then 1 else 0
  cap : ∀ j, j < l.length → ∀ e ∈ lkA l j, ld l s.out e ≤ cp e
  held : ∀ j, j < l.length → s.fin.getD j true = true → s.out.getD j 0 = lmA l j ∨ ∃ e ∈ lkA l j, ld l s.out e = cp e ∧ ∀ j', j' < l.length → e ∈ lkA l j' → s.out.getD j' 0 ≤ s.out.getD j 0 + 1
/-- a flow uses no link twice -/
def nodupL (l : List Fl) : Prop := ∀ i, i < l.length → ∀ e, (lkA l i).count e ≤ 1
theorem UInv.step {cp : Int → Int} {l : List Fl} {k i : Nat} {s : Un} (nd : nodupL l) (h : UInv cp l k i s) (hi : i < l.length) : UInv cp l k (i + 1) (stepU cp l s i) := by
  unfold stepU
  by_cases hf : s.fin.getD i true = true
  · rw [if_pos hf]
    refine ⟨h.lo, h.lf, fun j hj hjf => ?_, fun j hj => ?_, h.cap, h.held⟩
    · have := h.act j hj hjf
      have hne : j ≠ i := fun e => by subst e; rw [hf] at hjf; cases hjf
      rw [this]; split <;> split <;> omega
    · have := h.bd j hj
      refine ⟨this.1, this.2.1, ?_⟩
      have := this.2.2
      revert this
      split <;> split <;> omega
  · rw [if_neg hf]
    have hff : s.fin.getD i true = false := by simpa using hf
    have hact := h.act i hi hff
    rw [if_neg (Nat.lt_irrefl _), Int.add_zero] at hact
    by_cases hs : lmA l i ≤ s.out.getD i 0 ∨ fullU cp l s.out i
    · rw [if_pos hs]
      refine ⟨h.lo, by rw [List.length_set]; exact h.lf, fun j hj hjf => ?_, fun j hj => ?_, h.cap, fun j hj hjf => ?_⟩
      · rw [getD_set] at hjf
        split at hjf
        · cases hjf
        · rename_i hne
          have := h.act j hj hjf
          have hne : j ≠ i := fun e => hne ⟨e.symm, by rw [h.lf]; exact hj⟩
          show s.out.getD j 0 = _
          rw [this]; split <;> split <;> omega
      · have := h.bd j hj
        refine ⟨this.1, this.2.1, ?_⟩
        have := this.2.2
        show s.out.getD j 0 ≤ _
        revert this
        split <;> split <;> omega
      · show s.out.getD j 0 = lmA l j ∨ _
        by_cases hij : i = j
        · subst hij
          rcases hs with hs | ⟨e, he, hz⟩
          · left; have := (h.bd i hi).2.1; omega
          · right
            refine ⟨e, he, by show ld l s.out e = _; omega, fun j' hj' he' => ?_⟩
            have := (h.bd j' hj').2.2
            show s.out.getD j' 0 ≤ s.out.getD i 0 + 1
            rw [hact]
            revert this
            split <;> omega
        · have hjf' : s.fin.getD j true = true := by
            rw [getD_set, if_neg (by omega)] at hjf; exact hjf
          exact h.held j hj hjf'
    · rw [if_neg hs]
      have h1 : ¬ lmA l i ≤ s.out.getD i 0 := fun x => hs (.inl x)
      have h2 : ∀ e ∈ lkA l i, cp e - ld l s.out e ≠ 0 := fun e he x => hs (.inr ⟨e, he, x⟩)
      have hio : i < s.out.length := by rw [h.lo]; exact hi
      have hld : ∀ e, ld l (s.out.set i (s.out.getD i 0 + 1)) e = ld l s.out e + ((lkA l i).count e : Int) := by
        intro e
        rw [ld_set l s.out i _ e hio]
        have : s.out.getD i 0 + 1 - s.out.getD i 0 = 1 := by omega
        rw [this, Int.mul_one]
      have hget : ∀ j, j < l.length → (s.out.set i (s.out.getD i 0 + 1)).getD j 0 = if i = j then s.out.getD i 0 + 1 else s.out.getD j 0 := by
        intro j hj
        rw [getD_set]
        by_cases hij : i = j
        · subst hij; rw [if_pos ⟨rfl, hio⟩, if_pos rfl]
        · rw [if_neg (by omega), if_neg hij]
      refine ⟨by rw [List.length_set]; exact h.lo, h.lf, fun j hj hjf => ?_, fun j hj => ?_, fun j hj e he => ?_, fun j hj hjf => ?_⟩
      · show (s.out.set i _).getD j 0 = _
        rw [hget j hj]
        have := h.act j hj hjf
        by_cases hij : i = j
        · subst hij; rw [if_pos rfl, hact, if_pos (Nat.lt_succ_self _)]
        · rw [if_neg hij, this]; split <;> split <;> omega
      · show 0 ≤ (s.out.set i _).getD j 0 ∧ (s.out.set i _).getD j 0 ≤ _ ∧ (s.out.set i _).getD j 0 ≤ _
        rw [hget j hj]
        have := h.bd j hj
        by_cases hij : i = j
        · subst hij; rw [if_pos rfl, if_pos (Nat.lt_succ_self _)]; refine ⟨by omega, by omega, by omega⟩
        · rw [if_neg hij]
          refine ⟨this.1, this.2.1, ?_⟩
          have := this.2.2
          revert this
          split <;> split <;> omega
      · show ld l (s.out.set i _) e ≤ _
        rw [hld e]
        have hc := h.cap j hj e he
        by_cases hm : e ∈ lkA l i
        · have := h2 e hm
          have := nd i hi e
          omega
        · have : (lkA l i).count e = 0 := List.count_eq_zero.2 hm
          omega
      · show (s.out.set i _).getD j 0 = _ ∨ ∃ e ∈ lkA l j, ld l (s.out.set i _) e = _ ∧ ∀ j', j' < l.length → e ∈ lkA l j' → (s.out.set i _).getD j' 0 ≤ (s.out.set i _).getD j 0 + 1
        have hij : ¬ i = j := fun e => by subst e; exact hf hjf
        rcases h.held j hj hjf with h3 | ⟨e, he, hz, hm⟩
        · left; rw [hget j hj, if_neg hij]; exact h3
        · right
          have hni : e ∉ lkA l i := fun hx => h2 e hx (by omega)
          refine ⟨e, he, ?_, fun j' hj' he' => ?_⟩
          · rw [hld e]
            have : (lkA l i).count e = 0 := List.count_eq_zero.2 hni
            omega
          · have hne : ¬ i = j' := fun x => by subst x; exact hni he'
            rw [hget j' hj', if_neg hne, hget j hj, if_neg hij]
            exact hm j' hj' he'
theorem UInv.next {cp : Int → Int} {l : List Fl} {k : Nat} {s : Un} (h : UInv cp l k l.length s) : UInv cp l (k + 1) 0 s := by
  refine ⟨h.lo, h.lf, fun j hj hjf => ?_, fun j hj => ?_, h.cap, h.held⟩
  · have := h.act j hj hjf
    rw [if_pos hj] at this
    rw [this, if_neg (by omega)]; omega
  · have := h.bd j hj
    refine ⟨this.1, this.2.1, ?_⟩
    have := this.2.2
    rw [if_pos hj] at this
    rw [if_neg (by omega)]; omega
theorem UInv.part {cp : Int → Int} {l : List Fl} {k : Nat} {s : Un} (nd : nodupL l) (h : UInv cp l k 0 s) (i : Nat) (hi : i ≤ l.length) : UInv cp l k i (partU cp l s i) := by
  induction i with
  | zero => exact h
  | succ i ih => exact UInv.step nd (ih (by omega)) (by omega)
/-- limits and capacities that may be -/
def okFl (cp : Int → Int) (l : List Fl) : Prop := nodupL l ∧ ∀ j, j < l.length → 0 ≤ lmA l j ∧ lmA l j ≤ 4096 ∧ ∀ e ∈ lkA l j, 0 ≤ cp e
theorem UInv.it {cp : Int → Int} {l : List Fl} (h : okFl cp l) (k : Nat) : UInv cp l k 0 (itU cp l k) := by
  induction k with
  | zero =>
    refine ⟨by simp [itU], by simp [itU], fun j hj _ => ?_, fun j hj => ?_, fun j hj e he => ?_, fun j hj hjf => ?_⟩
    · show (List.replicate l.length (0 : Int)).getD j 0 = _; rw [getD_rep _ _ _ _ hj]; simp
    · show 0 ≤ (List.replicate l.length (0 : Int)).getD j 0 ∧ (List.replicate l.length (0 : Int)).getD j 0 ≤ _ ∧ (List.replicate l.length (0 : Int)).getD j 0 ≤ _
      rw [getD_rep _ _ _ _ hj]; exact ⟨by omega, (h.2 j hj).1, by simp⟩
    · show ld l (List.replicate l.length 0) e ≤ _
      rw [ld_rep]; exact (h.2 j hj).2.2 e he
    · have : (List.replicate l.length false).getD j true = true := hjf
      rw [getD_rep _ _ _ _ hj] at this; cases this
  | succ k ih => exact (UInv.part h.1 ih _ (Nat.le_refl _)).next
/-- the units that the flows get -/
def unitsM (cp : Int → Int) (l : List Fl) : List Int := (itU cp l 4097).out
end Go.Proofs.Ytnmomigaedfdoaa
namespace Go.Proofs.Ytnmomigaedfdoaa
set_option maxRecDepth 100000

/-- the sum of the first numbers of a row -/
def sumTo (g : Nat → Rat) : Nat → Rat
  | 0 => 0
  | n + 1 => sumTo g n + g n
theorem sumTo_congr {g h : Nat → Rat} {n : Nat} (e : ∀ i, i < n → g i = h i) : sumTo g n = sumTo h n := by
  induction n with
  | zero => rfl
  | succ n ih => rw [sumTo, sumTo, ih (fun i hi => e i (by omega)), e n (by omega)]
theorem sumTo_le {g h : Nat → Rat} {n : Nat} (e : ∀ i, i < n → g i ≤ h i) : sumTo g n ≤ sumTo h n := by
  induction n with
  | zero => exact Rat.le_refl
  | succ n ih =>
    have h1 := ih (fun i hi => e i (by omega))
    have h2 := e n (by omega)
    rw [sumTo, sumTo]; grind
theorem sumTo_add (g h : Nat → Rat) (n : Nat) : sumTo (fun i => g i + h i) n = sumTo g n + sumTo h n := by
  induction n with
  | zero => show (0 : Rat) = 0 + 0; grind
  | succ n ih => rw [sumTo, sumTo, sumTo, ih]; grind

/-- rates and who still rises -/
structure Rt where
  r : List Rat
  a : List Bool
/-- what a flow takes of a link -/
def tk (l : List Fl) (r : List Rat) (k : Int) (i : Nat) : Rat := if k ∈ lkA l i then r.getD i 0 else 0
/-- the load of a link -/
def ldq (l : List Fl) (r : List Rat) (k : Int) : Rat := sumTo (tk l r k) l.length
/-- what a flow that has stopped takes of a link -/
def tkS (l : List Fl) (s : Rt) (k : Int) (i : Nat) : Rat := if k ∈ lkA l i ∧ s.a.getD i false = false then s.r.getD i 0 else 0
/-- how many of the first flows use a link and rise -/
def cnt (l : List Fl) (s : Rt) (k : Int) : Nat → Nat
  | 0 => 0
  | i + 1 => cnt l s k i + if k ∈ lkA l i ∧ s.a.getD i false = true then 1 else 0
/-- the level at which a link is full -/
def lev (cp : Int → Int) (l : List Fl) (s : Rt) (k : Int) : Option Rat :=
  if cnt l s k l.length = 0 then none else some (((cp k : Rat) - sumTo (tkS l s k) l.length) / (cnt l s k l.length : Nat))
/-- the lesser of what was found and a number -/
def mn : Option Rat → Rat → Option Rat
  | none, x => some x
  | some y, x => if x < y then some x else some y
def lowK (cp : Int → Int) (l : List Fl) (s : Rt) : Nat → Option Rat
  | 0 => none
  | k + 1 => match lev cp l s (k : Int) with
    | none => lowK cp l s k
    | some x => mn (lowK cp l s k) x
def lowF (cp : Int → Int) (l : List Fl) (s : Rt) (n : Nat) : Nat → Option Rat
  | 0 => lowK cp l s n
  | i + 1 => if s.a.getD i false = true then mn (lowF cp l s n i) (lmA l i : Rat) else lowF cp l s n i
/-- does a flow stop at a level -/
def stopQ (cp : Int → Int) (l : List Fl) (s : Rt) (q : Rat) (i : Nat) : Prop := (lmA l i : Rat) = q ∨ ∃ k ∈ lkA l i, lev cp l s k = some q
instance (cp : Int → Int) (l : List Fl) (s : Rt) (q : Rat) (i : Nat) : Decidable (stopQ cp l s q i) := inferInstanceAs (Decidable (_ ∨ _))
/-- the first flows brought up to date; s0: the state at the round's start -/
def partR (cp : Int → Int) (l : List Fl) (s0 : Rt) (q : Rat) : Nat → Rt
  | 0 => s0
  | i + 1 => if s0.a.getD i false = true ∧ stopQ cp l s0 q i then ⟨(partR cp l s0 q i).r.set i q, (partR cp l s0 q i).a.set i false⟩ else partR cp l s0 q i
def roundR (cp : Int → Int) (l : List Fl) (n : Nat) (s : Rt) : Rt := partR cp l s ((lowF cp l s n l.length).getD 0) l.length
def itR (cp : Int → Int) (l : List Fl) (n : Nat) : Nat → Rt
  | 0 => ⟨List.replicate l.length 0, List.replicate l.length true⟩
  | k + 1 => if true ∈ (itR cp l n k).a then roundR cp l n (itR cp l n k) else itR cp l n k
def ratesM (cp : Int → Int) (l : List Fl) (n : Nat) : List Rat := (itR cp l n l.length).r

/-- rates that are proved max-min fair -/
structure Cert (cp : Int → Int) (l : List Fl) (n : Nat) (r : List Rat) : Prop where
  lo : r.length = l.length
  nn : ∀ i, i < l.length → 0 ≤ r.getD i 0 ∧ r.getD i 0 ≤ (lmA l i : Rat)
  cap : ∀ k : Nat, k < n → ldq l r (k : Int) ≤ (cp (k : Int) : Rat)
  held : ∀ i, i < l.length → r.getD i 0 = (lmA l i : Rat) ∨ ∃ k ∈ lkA l i, ldq l r k = (cp k : Rat) ∧ ∀ j, j < l.length → k ∈ lkA l j → r.getD j 0 ≤ r.getD i 0

end Go.Proofs.Ytnmomigaedfdoaa
namespace Go.Proofs.Ytnmomigaedfdoaa
set_option maxRecDepth 100000

/-- x^i / i! -/
def tq (x : Rat) : Nat → Rat
  | 0 => 1
  | i + 1 => tq x i * x / ((i + 1 : Nat) : Rat)
/-- the sum of the first terms -/
def eq_ (x : Rat) (m : Nat) : Rat := sumTo (tq x) m
theorem nat_pos (i : Nat) : (0 : Rat) < ((i + 1 : Nat) : Rat) := by exact_mod_cast Nat.succ_pos i
theorem nat_ne (i : Nat) : ((i + 1 : Nat) : Rat) ≠ 0 := fun h => by have := nat_pos i; rw [h] at this; exact absurd this (Rat.lt_irrefl)
theorem tq_step (x : Rat) (i : Nat) : ((i + 1 : Nat) : Rat) * tq x (i + 1) = x * tq x i := by
  rw [tq]
  have := nat_ne i
  rw [Rat.mul_comm, Rat.div_mul_cancel this, Rat.mul_comm]
/-- the terms of a product of two series -/
def conv (x h : Rat) (n i : Nat) : Rat := sumTo (fun j => tq x j * tq h (n - j)) i
theorem sumTo_mul (c : Rat) (g : Nat → Rat) (n : Nat) : sumTo (fun i => c * g i) n = c * sumTo g n := by
  induction n with
  | zero => show (0 : Rat) = c * 0; grind
  | succ n ih => rw [sumTo, sumTo, ih]; grind
theorem sumTo_shift (g : Nat → Rat) (n : Nat) : sumTo g (n + 1) = g 0 + sumTo (fun i => g (i + 1)) n := by
  induction n with
  | zero => rw [sumTo, sumTo, sumTo]; grind
  | succ n ih => rw [sumTo, ih, sumTo]; grind
/-- the binomial law -/
theorem conv_step (x h : Rat) (n : Nat) : ((n + 1 : Nat) : Rat) * conv x h (n + 1) (n + 2) = (x + h) * conv x h n (n + 1) := by
  have e1 : sumTo (fun j => (j : Rat) * (tq x j * tq h (n + 1 - j))) (n + 2) = x * conv x h n (n + 1) := by
    rw [sumTo_shift, conv, ← sumTo_mul]
    have : ((0 : Nat) : Rat) * (tq x 0 * tq h (n + 1 - 0)) = 0 := by grind
    rw [this]
    have e : sumTo (fun i => ((i + 1 : Nat) : Rat) * (tq x (i + 1) * tq h (n + 1 - (i + 1)))) (n + 1) = sumTo (fun i => x * (tq x i * tq h (n - i))) (n + 1) := sumTo_congr fun i _ => by
      show ((i + 1 : Nat) : Rat) * (tq x (i + 1) * tq h (n + 1 - (i + 1))) = x * (tq x i * tq h (n - i))
      rw [← Rat.mul_assoc, tq_step, Nat.add_sub_add_right, Rat.mul_assoc]
    rw [e]; grind
  have e2 : sumTo (fun j => ((n + 1 - j : Nat) : Rat) * (tq x j * tq h (n + 1 - j))) (n + 2) = h * conv x h n (n + 1) := by
    rw [sumTo, conv, ← sumTo_mul]
    have : ((n + 1 - (n + 1) : Nat) : Rat) * (tq x (n + 1) * tq h (n + 1 - (n + 1))) = 0 := by rw [Nat.sub_self]; grind
    rw [this]
    have e : sumTo (fun j => ((n + 1 - j : Nat) : Rat) * (tq x j * tq h (n + 1 - j))) (n + 1) = sumTo (fun j => h * (tq x j * tq h (n - j))) (n + 1) := sumTo_congr fun j hj => by
      show ((n + 1 - j : Nat) : Rat) * (tq x j * tq h (n + 1 - j)) = h * (tq x j * tq h (n - j))
      obtain ⟨d, hd⟩ : ∃ d, n - j = d := ⟨_, rfl⟩
      have : n + 1 - j = d + 1 := by omega
      rw [this, hd]
      have h1 := tq_step h d
      grind
    rw [e]; grind
  have e3 : ((n + 1 : Nat) : Rat) * conv x h (n + 1) (n + 2) = sumTo (fun j => (j : Rat) * (tq x j * tq h (n + 1 - j))) (n + 2) + sumTo (fun j => ((n + 1 - j : Nat) : Rat) * (tq x j * tq h (n + 1 - j))) (n + 2) := by
    rw [← sumTo_add, conv, ← sumTo_mul]
    refine sumTo_congr fun j hj => ?_
    have : ((n + 1 : Nat) : Rat) = (j : Rat) + ((n + 1 - j : Nat) : Rat) := by
      rw [← Rat.natCast_add]; congr 1; omega
    rw [this]; grind
  rw [e3, e1, e2]; grind
theorem conv_eq (x h : Rat) : ∀ n, conv x h n (n + 1) = tq (x + h) n := by
  intro n
  induction n with
  | zero => rw [conv, sumTo, sumTo]; show (0 : Rat) + 1 * 1 = 1; grind
  | succ n ih =>
    have h1 := conv_step x h n
    have h2 := tq_step (x + h) n
    rw [ih, ← h2] at h1
    have h3 := nat_ne n
    have h4 : ((n + 1 : Nat) : Rat) * (conv x h (n + 1) (n + 2) - tq (x + h) (n + 1)) = 0 := by grind
    rcases Rat.mul_eq_zero.1 h4 with h5 | h5
    · exact absurd h5 h3
    · grind
/-- a sum of products, summed the other way -/
theorem eq_conv (x h : Rat) : ∀ m, eq_ (x + h) m = sumTo (fun j => tq x j * eq_ h (m - j)) m := by
  intro m
  induction m with
  | zero => rfl
  | succ m ih =>
    have e : eq_ (x + h) (m + 1) = eq_ (x + h) m + tq (x + h) m := rfl
    rw [e, ih, ← conv_eq x h m]
    have e2 : sumTo (fun j => tq x j * eq_ h (m + 1 - j)) (m + 1) = sumTo (fun j => tq x j * eq_ h (m - j) + tq x j * tq h (m - j)) (m + 1) := sumTo_congr fun j hj => by
      obtain ⟨d, hd⟩ : ∃ d, m - j = d := ⟨_, rfl⟩
      have : m + 1 - j = d + 1 := by omega
      show tq x j * eq_ h (m + 1 - j) = tq x j * eq_ h (m - j) + tq x j * tq h (m - j)
      rw [this, hd]
      have e : eq_ h (d + 1) = eq_ h d + tq h d := rfl
      rw [e]; grind
    rw [e2, sumTo_add, sumTo]
    have e3 : tq x m * eq_ h (m - m) = 0 := by rw [Nat.sub_self]; show tq x m * 0 = 0; grind
    rw [e3, conv]; grind
theorem tq_nn {x : Rat} (h : 0 ≤ x) : ∀ i, 0 ≤ tq x i := by
  intro i
  induction i with
  | zero => rw [tq]; grind
  | succ i ih =>
    rw [tq, Rat.div_def]
    refine Rat.mul_nonneg (Rat.mul_nonneg ih h) ?_
    exact Rat.le_of_lt (Rat.inv_pos.2 (nat_pos i))
theorem eq_mono {x : Rat} (h : 0 ≤ x) {m k : Nat} (hk : m ≤ k) : eq_ x m ≤ eq_ x k := by
  induction k with
  | zero => obtain rfl : m = 0 := by omega
            exact Rat.le_refl
  | succ k ih =>
    rcases Nat.lt_or_ge m (k + 1) with h1 | h1
    · have h2 := ih (by omega)
      have h3 := tq_nn h k
      have e : eq_ x (k + 1) = eq_ x k + tq x k := rfl
      grind
    · obtain rfl : m = k + 1 := by omega
      exact Rat.le_refl
theorem eq_nn {x : Rat} (h : 0 ≤ x) (m : Nat) : 0 ≤ eq_ x m := eq_mono h (Nat.zero_le m)
theorem mul_le_l {a b c : Rat} (ha : 0 ≤ a) (h : b ≤ c) : a * b ≤ a * c := Rat.mul_le_mul_of_nonneg_left h ha
/-- the sum for x + h is at most the product -/
theorem eq_prod_le {x h : Rat} (hx : 0 ≤ x) (hh : 0 ≤ h) (m : Nat) : eq_ (x + h) m ≤ eq_ x m * eq_ h m := by
  have e : eq_ x m * eq_ h m = sumTo (fun j => eq_ h m * tq x j) m := by rw [sumTo_mul, Rat.mul_comm]; rfl
  rw [eq_conv, e]
  refine sumTo_le fun j hj => ?_
  show tq x j * eq_ h (m - j) ≤ eq_ h m * tq x j
  rw [Rat.mul_comm (eq_ h m)]
  exact mul_le_l (tq_nn hx j) (eq_mono hh (by omega))
theorem sumTo_mono {g : Nat → Rat} (h : ∀ i, 0 ≤ g i) {m k : Nat} (hk : m ≤ k) : sumTo g m ≤ sumTo g k := by
  induction k with
  | zero => obtain rfl : m = 0 := by omega
            exact Rat.le_refl
  | succ k ih =>
    rcases Nat.lt_or_ge m (k + 1) with h1 | h1
    · have h2 := ih (by omega)
      have h3 := h k
      rw [sumTo]; grind
    · obtain rfl : m = k + 1 := by omega
      exact Rat.le_refl
/-- and the product is at most the sum of twice as many terms -/
theorem eq_prod_ge {x h : Rat} (hx : 0 ≤ x) (hh : 0 ≤ h) (m k : Nat) : eq_ x m * eq_ h k ≤ eq_ (x + h) (m + k) := by
  have e : eq_ x m * eq_ h k = sumTo (fun j => eq_ h k * tq x j) m := by rw [sumTo_mul, Rat.mul_comm]; rfl
  rw [eq_conv, e]
  refine Rat.le_trans ?_ (sumTo_mono (fun i => Rat.mul_nonneg (tq_nn hx i) (eq_nn hh _)) (show m ≤ m + k by omega))
  refine sumTo_le fun j hj => ?_
  show eq_ h k * tq x j ≤ tq x j * eq_ h (m + k - j)
  rw [Rat.mul_comm (eq_ h k)]
  exact mul_le_l (tq_nn hx j) (eq_mono hh (by omega))
end Go.Proofs.Ytnmomigaedfdoaa
