/- Flows that share links: the rounds of Units, as plain lists. No program in sight. -/
namespace Go.Proofs.Ytnmomigaedfdoaa
set_option maxRecDepth 100000

/-- a flow: its links and its limit -/
abbrev Fl := List Int × Int
/-- what the flows that use a link have -/
def ld : List Fl → List Int → Int → Int
  | f :: l, o :: out, e => (f.1.count e : Int) * o + ld l out e
  | [], _, _ => 0
  | _ :: _, [], _ => 0
/-- the state: how many units each flow has, and which are finished -/
structure Un where
  out : List Int
  fin : List Bool
def lkA (l : List Fl) (i : Nat) : List Int := (l.getD i ([], 0)).1
def lmA (l : List Fl) (i : Nat) : Int := (l.getD i ([], 0)).2
/-- one of its links has nothing left -/
def fullU (cp : Int → Int) (l : List Fl) (out : List Int) (i : Nat) : Prop := ∃ e ∈ lkA l i, cp e - ld l out e = 0
instance (cp : Int → Int) (l : List Fl) (out : List Int) (i : Nat) : Decidable (fullU cp l out i) := inferInstanceAs (Decidable (∃ e ∈ lkA l i, cp e - ld l out e = 0))
def stepU (cp : Int → Int) (l : List Fl) (s : Un) (i : Nat) : Un :=
  if s.fin.getD i true = true then s
  else if lmA l i ≤ s.out.getD i 0 ∨ fullU cp l s.out i then ⟨s.out, s.fin.set i true⟩
  else ⟨s.out.set i (s.out.getD i 0 + 1), s.fin⟩
def partU (cp : Int → Int) (l : List Fl) (s : Un) : Nat → Un
  | 0 => s
  | i + 1 => stepU cp l (partU cp l s i) i
def itU (cp : Int → Int) (l : List Fl) : Nat → Un
  | 0 => ⟨List.replicate l.length 0, List.replicate l.length false⟩
  | k + 1 => partU cp l (itU cp l k) l.length
def allFin (s : Un) : Prop := ∀ i, i < s.fin.length → s.fin.getD i true = true

theorem getD_set {α : Type} (xs : List α) (i j : Nat) (v d : α) : (xs.set i v).getD j d = if i = j ∧ j < xs.length then v else xs.getD j d := by
  rw [List.getD_eq_getElem?_getD, List.getD_eq_getElem?_getD, List.getElem?_set]
  by_cases h : i = j
  · subst h
    by_cases h2 : i < xs.length
    · simp [h2]
    · simp [h2]
  · simp [h]
theorem ld_set (l : List Fl) : ∀ (out : List Int) (i : Nat) (v e : Int), i < out.length → ld l (out.set i v) e = ld l out e + ((lkA l i).count e : Int) * (v - out.getD i 0) := by
  induction l with
  | nil => intro out i v e _; simp [ld, lkA]
  | cons f l ih =>
    intro out i v e hi
    cases out with
    | nil => simp at hi
    | cons o out =>
      cases i with
      | zero => simp [ld, lkA, Int.mul_sub]; omega
      | succ i =>
        have := ih out i v e (by simpa using hi)
        simp only [List.set_cons_succ, ld, this]
        have e1 : lkA (f :: l) (i + 1) = lkA l i := by simp [lkA]
        have e2 : (o :: out).getD (i + 1) 0 = out.getD i 0 := by simp
        rw [e1, e2]; omega
/-- what holds behind i flows of round k -/
structure UInv (cp : Int → Int) (l : List Fl) (k i : Nat) (s : Un) : Prop where
  lo : s.out.length = l.length
  lf : s.fin.length = l.length
  act : ∀ j, j < l.length → s.fin.getD j true = false → s.out.getD j 0 = (k : Int) + if j < i then 1 else 0
  bd : ∀ j, j < l.length → 0 ≤ s.out.getD j 0 ∧ s.out.getD j 0 ≤ lmA l j ∧ s.out.getD j 0 ≤ (k : Int) + if j < i then 1 else 0
  cap : ∀ j, j < l.length → ∀ e ∈ lkA l j, ld l s.out e ≤ cp e
  held : ∀ j, j < l.length → s.fin.getD j true = true → s.out.getD j 0 = lmA l j ∨ ∃ e ∈ lkA l j, ld l s.out e = cp e ∧ ∀ j', j' < l.length → e ∈ lkA l j' → s.out.getD j' 0 ≤ s.out.getD j 0 + 1
/-- a flow uses no link twice -/
def nodupL (l : List Fl) : Prop := ∀ i, i < l.length → ∀ e, (lkA l i).count e ≤ 1
theorem UInv.step {cp : Int → Int} {l : List Fl} {k i : Nat} {s : Un} (nd : nodupL l) (h : UInv cp l k i s) (hi : i < l.length) : UInv cp l k (i + 1) (stepU cp l s i) := by
  unfold stepU
  by_cases hf : s.fin.getD i true = true
  · rw [if_pos hf]
    refine ⟨h.lo, h.lf, fun j hj hjf => ?_, fun j hj => ?_, h.cap, h.held⟩
    · have := h.act j hj hjf
      have hne : j ≠ i := fun e => by subst e; rw [hf] at hjf; cases hjf
      rw [this]; split <;> split <;> omega
    · have := h.bd j hj
      refine ⟨this.1, this.2.1, ?_⟩
      have := this.2.2
      revert this
      split <;> split <;> omega
  · rw [if_neg hf]
    have hff : s.fin.getD i true = false := by simpa using hf
    have hact := h.act i hi hff
    rw [if_neg (Nat.lt_irrefl _), Int.add_zero] at hact
    by_cases hs : lmA l i ≤ s.out.getD i 0 ∨ fullU cp l s.out i
    · rw [if_pos hs]
      refine ⟨h.lo, by rw [List.length_set]; exact h.lf, fun j hj hjf => ?_, fun j hj => ?_, h.cap, fun j hj hjf => ?_⟩
      · rw [getD_set] at hjf
        split at hjf
        · cases hjf
        · rename_i hne
          have := h.act j hj hjf
          have hne : j ≠ i := fun e => hne ⟨e.symm, by rw [h.lf]; exact hj⟩
          show s.out.getD j 0 = _
          rw [this]; split <;> split <;> omega
      · have := h.bd j hj
        refine ⟨this.1, this.2.1, ?_⟩
        have := this.2.2
        show s.out.getD j 0 ≤ _
        revert this
        split <;> split <;> omega
      · show s.out.getD j 0 = lmA l j ∨ _
        by_cases hij : i = j
        · subst hij
          rcases hs with hs | ⟨e, he, hz⟩
          · left; have := (h.bd i hi).2.1; omega
          · right
            refine ⟨e, he, by show ld l s.out e = _; omega, fun j' hj' he' => ?_⟩
            have := (h.bd j' hj').2.2
            show s.out.getD j' 0 ≤ s.out.getD i 0 + 1
            rw [hact]
            revert this
            split <;> omega
        · have hjf' : s.fin.getD j true = true := by
            rw [getD_set, if_neg (by omega)] at hjf; exact hjf
          exact h.held j hj hjf'
    · rw [if_neg hs]
      have h1 : ¬ lmA l i ≤ s.out.getD i 0 := fun x => hs (.inl x)
      have h2 : ∀ e ∈ lkA l i, cp e - ld l s.out e ≠ 0 := fun e he x => hs (.inr ⟨e, he, x⟩)
      have hio : i < s.out.length := by rw [h.lo]; exact hi
      have hld : ∀ e, ld l (s.out.set i (s.out.getD i 0 + 1)) e = ld l s.out e + ((lkA l i).count e : Int) := by
        intro e
        rw [ld_set l s.out i _ e hio]
        have : s.out.getD i 0 + 1 - s.out.getD i 0 = 1 := by omega
        rw [this, Int.mul_one]
      have hget : ∀ j, j < l.length → (s.out.set i (s.out.getD i 0 + 1)).getD j 0 = if i = j then s.out.getD i 0 + 1 else s.out.getD j 0 := by
        intro j hj
        rw [getD_set]
        by_cases hij : i = j
        · subst hij; rw [if_pos ⟨rfl, hio⟩, if_pos rfl]
        · rw [if_neg (by omega), if_neg hij]
      refine ⟨by rw [List.length_set]; exact h.lo, h.lf, fun j hj hjf => ?_, fun j hj => ?_, fun j hj e he => ?_, fun j hj hjf => ?_⟩
      · show (s.out.set i _).getD j 0 = _
        rw [hget j hj]
        have := h.act j hj hjf
        by_cases hij : i = j
        · subst hij; rw [if_pos rfl, hact, if_pos (Nat.lt_succ_self _)]
        · rw [if_neg hij, this]; split <;> split <;> omega
      · show 0 ≤ (s.out.set i _).getD j 0 ∧ (s.out.set i _).getD j 0 ≤ _ ∧ (s.out.set i _).getD j 0 ≤ _
        rw [hget j hj]
        have := h.bd j hj
        by_cases hij : i = j
        · subst hij; rw [if_pos rfl, if_pos (Nat.lt_succ_self _)]; refine ⟨by omega, by omega, by omega⟩
        · rw [if_neg hij]
          refine ⟨this.1, this.2.1, ?_⟩
          have := this.2.2
          revert this
          split <;> split <;> omega
      · show ld l (s.out.set i _) e ≤ _
        rw [hld e]
        have hc := h.cap j hj e he
        by_cases hm : e ∈ lkA l i
        · have := h2 e hm
          have := nd i hi e
          omega
        · have : (lkA l i).count e = 0 := List.count_eq_zero.2 hm
          omega
      · show (s.out.set i _).getD j 0 = _ ∨ ∃ e ∈ lkA l j, ld l (s.out.set i _) e = _ ∧ ∀ j', j' < l.length → e ∈ lkA l j' → (s.out.set i _).getD j' 0 ≤ (s.out.set i _).getD j 0 + 1
        have hij : ¬ i = j := fun e => by subst e; exact hf hjf
        rcases h.held j hj hjf with h3 | ⟨e, he, hz, hm⟩
        · left; rw [hget j hj, if_neg hij]; exact h3
        · right
          have hni : e ∉ lkA l i := fun hx => h2 e hx (by omega)
          refine ⟨e, he, ?_, fun j' hj' he' => ?_⟩
          · rw [hld e]
            have : (lkA l i).count e = 0 := List.count_eq_zero.2 hni
            omega
          · have hne : ¬ i = j' := fun x => by subst x; exact hni he'
            rw [hget j' hj', if_neg hne, hget j hj, if_neg hij]
            exact hm j' hj' he'
theorem UInv.next {cp : Int → Int} {l : List Fl} {k : Nat} {s : Un} (h : UInv cp l k l.length s) : UInv cp l (k + 1) 0 s := by
  refine ⟨h.lo, h.lf, fun j hj hjf => ?_, fun j hj => ?_, h.cap, h.held⟩
  · have := h.act j hj hjf
    rw [if_pos hj] at this
    rw [this, if_neg (by omega)]; omega
  · have := h.bd j hj
    refine ⟨this.1, this.2.1, ?_⟩
    have := this.2.2
    rw [if_pos hj] at this
    rw [if_neg (by omega)]; omega
/-- limits and capacities that may be -/
def okFl (cp : Int → Int) (l : List Fl) : Prop := nodupL l ∧ ∀ j, j < l.length → 0 ≤ lmA l j ∧ lmA l j ≤ 4096 ∧ ∀ e ∈ lkA l j, 0 ≤ cp e
/-- the units that the flows get -/
def unitsM (cp : Int → Int) (l : List Fl) : List Int := (itU cp l 4097).out
end Go.Proofs.Ytnmomigaedfdoaa
