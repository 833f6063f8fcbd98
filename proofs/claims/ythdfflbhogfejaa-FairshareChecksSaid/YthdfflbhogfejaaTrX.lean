/- Flows that share links: the rounds of Units, as plain lists. No program in sight. Words for lists of whole numbers and of flows in memory. No function of the program in sight. Words for blocks of two cells, and for rows that lie apart. The walk of SameInts. The walks of Within and Caps. -/
import Derived.Test.YthdfflbhogfejaaBase
import Derived.OwnWalk
import Derived.KernelRfl
import Derived.Deep.CutBlock
import Derived.Deep.DeepCutAuto
import Derived.WalkMore
import Derived.BigQuiet
import Derived.Deep.QuietTactic
import Derived.Deep.RegionHeld3
namespace Go.Proofs.Ythdfflbhogfejaa
set_option maxRecDepth 100000

/-- a flow: its links and its limit -/
abbrev Fl := List Int × Int
/-- what the flows that use a link have -/
def ld : List Fl → List Int → Int → Int
  | f :: l, o :: out, e => (f.1.count e : Int) * o + ld l out e
  | [], _, _ => 0
  | _ :: _, [], _ => 0
/-- the state: how many units each flow has, and which are finished -/
structure Un where
  out : List Int
  fin : List Bool
def lkA (l : List Fl) (i : Nat) : List Int := (l.getD i ([], 0)).1
def lmA (l : List Fl) (i : Nat) : Int := (l.getD i ([], 0)).2
/-- one of its links has nothing left -/
def fullU (cp : Int → Int) (l : List Fl) (out : List Int) (i : Nat) : Prop := ∃ e ∈ lkA l i, cp e - ld l out e = 0
instance (cp : Int → Int) (l : List Fl) (out : List Int) (i : Nat) : Decidable (fullU cp l out i) := inferInstanceAs (Decidable (∃ e ∈ lkA l i, cp e - ld l out e = 0))
def stepU (cp : Int → Int) (l : List Fl) (s : Un) (i : Nat) : Un :=
  if s.fin.getD i true = true then s
  else if lmA l i ≤ s.out.getD i 0 ∨ fullU cp l s.out i then ⟨s.out, s.fin.set i true⟩
  else ⟨s.out.set i (s.out.getD i 0 + 1), s.fin⟩
def partU (cp : Int → Int) (l : List Fl) (s : Un) : Nat → Un
  | 0 => s
  | i + 1 => stepU cp l (partU cp l s i) i
def itU (cp : Int → Int) (l : List Fl) : Nat → Un
  | 0 => ⟨List.replicate l.length 0, List.replicate l.length false⟩
  | k + 1 => partU cp l (itU cp l k) l.length
def allFin (s : Un) : Prop := ∀ i, i < s.fin.length → s.fin.getD i true = true

theorem getD_set {α : Type} (xs : List α) (i j : Nat) (v d : α) : (xs.set i v).getD j d = if i = j ∧ j < xs.length then v else xs.getD j d := by
  rw [List.getD_eq_getElem?_getD, List.getD_eq_getElem?_getD, List.getElem?_set]
  by_cases h : i = j
  · subst h
    by_cases h2 : i < xs.length
    · simp [h2]
    · simp [h2]
  · simp [h]
theorem getD_rep {α : Type} (n : Nat) (a d : α) (i : Nat) (h : i < n) : (List.replicate n a).getD i d = a := by
  rw [List.getD_eq_getElem?_getD, List.getElem?_replicate, if_pos h]; rfl
theorem getD_ge {α : Type} (xs : List α) (i : Nat) (d : α) (h : xs.length ≤ i) : xs.getD i d = d := by
  rw [List.getD_eq_getElem?_getD, List.getElem?_eq_none h]; rfl
theorem getD_lt {α : Type} (xs : List α) (i : Nat) (d : α) (h : i < xs.length) : xs.getD i d = xs[i] := by
  rw [List.getD_eq_getElem?_getD, List.getElem?_eq_getElem h]; rfl
theorem getD_app {α : Type} (xs ys : List α) (i : Nat) (d : α) (h : i < xs.length) : (xs ++ ys).getD i d = xs.getD i d := by
  rw [getD_lt _ _ _ h, getD_lt _ _ _ (by rw [List.length_append]; omega), List.getElem_append_left h]
theorem ld_set (l : List Fl) : ∀ (out : List Int) (i : Nat) (v e : Int), i < out.length → ld l (out.set i v) e = ld l out e + ((lkA l i).count e : Int) * (v - out.getD i 0) := by
  induction l with
  | nil => intro out i v e _; simp [ld, lkA]
  | cons f l ih =>
    intro out i v e hi
    cases out with
    | nil => simp at hi
    | cons o out =>
      cases i with
      | zero => simp [ld, lkA, Int.mul_sub]; omega
      | succ i =>
        have := ih out i v e (by simpa using hi)
        simp only [List.set_cons_succ, ld, this]
        have e1 : lkA (f :: l) (i + 1) = lkA l i := by simp [lkA]
        have e2 : (o :: out).getD (i + 1) 0 = out.getD i 0 := by simp
        rw [e1, e2]; omega
theorem ld_rep (l : List Fl) (n : Nat) (e : Int) : ld l (List.replicate n 0) e = 0 := by
  induction l generalizing n with
  | nil => simp [ld]
  | cons f l ih => cases n with
    | zero => simp [ld]
    | succ n => simp [List.replicate_succ, ld, ih]
theorem ld_nonneg (l : List Fl) : ∀ (o : List Int) (e : Int), (∀ i, i < l.length → 0 ≤ o.getD i 0) → 0 ≤ ld l o e := by
  induction l with
  | nil => intro o e _; cases o <;> simp [ld]
  | cons f l ih =>
    intro o e h
    cases o with
    | nil => simp [ld]
    | cons a o =>
      have h0 : 0 ≤ a := by simpa using h 0 (by simp)
      have h1 := ih o e (fun i hi => by simpa using h (i + 1) (by simpa using hi))
      have := Int.mul_nonneg (show (0 : Int) ≤ (f.1.count e : Int) by omega) h0
      simp only [ld]; omega
theorem stepU_len (cp : Int → Int) (l : List Fl) (s : Un) (i : Nat) : (stepU cp l s i).out.length = s.out.length ∧ (stepU cp l s i).fin.length = s.fin.length := by
  unfold stepU; split
  · exact ⟨rfl, rfl⟩
  · split <;> simp
theorem partU_len (cp : Int → Int) (l : List Fl) (s : Un) (i : Nat) : (partU cp l s i).out.length = s.out.length ∧ (partU cp l s i).fin.length = s.fin.length := by
  induction i with
  | zero => exact ⟨rfl, rfl⟩
  | succ i ih => rw [partU, (stepU_len cp l _ i).1, (stepU_len cp l _ i).2]; exact ih
theorem itU_len (cp : Int → Int) (l : List Fl) (k : Nat) : (itU cp l k).out.length = l.length ∧ (itU cp l k).fin.length = l.length := by
  induction k with
  | zero => simp [itU]
  | succ k ih => rw [itU, (partU_len cp l _ _).1, (partU_len cp l _ _).2]; exact ih
theorem partU_all {cp : Int → Int} {l : List Fl} {s : Un} (h : allFin s) (hl : s.fin.length = l.length) (i : Nat) (hi : i ≤ l.length) : partU cp l s i = s := by
  induction i with
  | zero => rfl
  | succ i ih =>
    rw [partU, ih (by omega), stepU, if_pos (h i (by omega))]
theorem itU_stay {cp : Int → Int} {l : List Fl} {k : Nat} (h : allFin (itU cp l k)) (m : Nat) : itU cp l (k + m) = itU cp l k := by
  induction m with
  | zero => rfl
  | succ m ih => rw [← Nat.add_assoc, itU, ih]; exact partU_all h (itU_len cp l k).2 _ (Nat.le_refl _)
theorem itU_unique {cp : Int → Int} {l : List Fl} {j k : Nat} (hj : allFin (itU cp l j)) (hk : allFin (itU cp l k)) : itU cp l j = itU cp l k := by
  rcases Nat.le_total j k with h | h
  · obtain ⟨m, rfl⟩ : ∃ m, k = j + m := ⟨k - j, by omega⟩
    exact (itU_stay hj m).symm
  · obtain ⟨m, rfl⟩ : ∃ m, j = k + m := ⟨j - k, by omega⟩
    exact itU_stay hk m

/-- what holds behind i flows of round k -/
structure UInv (cp : Int → Int) (l : List Fl) (k i : Nat) (s : Un) : Prop where
  lo : s.out.length = l.length
  lf : s.fin.length = l.length
  act : ∀ j, j < l.length → s.fin.getD j true = false → s.out.getD j 0 = (k : Int) + if j < i then 1 else 0
  bd : ∀ j, j < l.length → 0 ≤ s.out.getD j 0 ∧ s.out.getD j 0 ≤ lmA l j ∧ s.out.getD j 0 ≤ (k : Int) + if j < i then 1 else 0
  cap : ∀ j, j < l.length → ∀ e ∈ lkA l j, ld l s.out e ≤ cp e
  held : ∀ j, j < l.length → s.fin.getD j true = true → s.out.getD j 0 = lmA l j ∨ ∃ e ∈ lkA l j, ld l s.out e = cp e ∧ ∀ j', j' < l.length → e ∈ lkA l j' → s.out.getD j' 0 ≤ s.out.getD j 0 + 1
/-- a flow uses no link twice -/
def nodupL (l : List Fl) : Prop := ∀ i, i < l.length → ∀ e, (lkA l i).count e ≤ 1
theorem UInv.step {cp : Int → Int} {l : List Fl} {k i : Nat} {s : Un} (nd : nodupL l) (h : UInv cp l k i s) (hi : i < l.length) : UInv cp l k (i + 1) (stepU cp l s i) := by
  unfold stepU
  by_cases hf : s.fin.getD i true = true
  · rw [if_pos hf]
    refine ⟨h.lo, h.lf, fun j hj hjf => ?_, fun j hj => ?_, h.cap, h.held⟩
    · have := h.act j hj hjf
      have hne : j ≠ i := fun e => by subst e; rw [hf] at hjf; cases hjf
      rw [this]; split <;> split <;> omega
    · have := h.bd j hj
      refine ⟨this.1, this.2.1, ?_⟩
      have := this.2.2
      revert this
      split <;> split <;> omega
  · rw [if_neg hf]
    have hff : s.fin.getD i true = false := by simpa using hf
    have hact := h.act i hi hff
    rw [if_neg (Nat.lt_irrefl _), Int.add_zero] at hact
    by_cases hs : lmA l i ≤ s.out.getD i 0 ∨ fullU cp l s.out i
    · rw [if_pos hs]
      refine ⟨h.lo, by rw [List.length_set]; exact h.lf, fun j hj hjf => ?_, fun j hj => ?_, h.cap, fun j hj hjf => ?_⟩
      · rw [getD_set] at hjf
        split at hjf
        · cases hjf
        · rename_i hne
          have := h.act j hj hjf
          have hne : j ≠ i := fun e => hne ⟨e.symm, by rw [h.lf]; exact hj⟩
          show s.out.getD j 0 = _
          rw [this]; split <;> split <;> omega
      · have := h.bd j hj
        refine ⟨this.1, this.2.1, ?_⟩
        have := this.2.2
        show s.out.getD j 0 ≤ _
        revert this
        split <;> split <;> omega
      · show s.out.getD j 0 = lmA l j ∨ _
        by_cases hij : i = j
        · subst hij
          rcases hs with hs | ⟨e, he, hz⟩
          · left; have := (h.bd i hi).2.1; omega
          · right
            refine ⟨e, he, by show ld l s.out e = _; omega, fun j' hj' he' => ?_⟩
            have := (h.bd j' hj').2.2
            show s.out.getD j' 0 ≤ s.out.getD i 0 + 1
            rw [hact]
            revert this
            split <;> omega
        · have hjf' : s.fin.getD j true = true := by
            rw [getD_set, if_neg (by omega)] at hjf; exact hjf
          exact h.held j hj hjf'
    · rw [if_neg hs]
      have h1 : ¬ lmA l i ≤ s.out.getD i 0 := fun x => hs (.inl x)
      have h2 : ∀ e ∈ lkA l i, cp e - ld l s.out e ≠ 0 := fun e he x => hs (.inr ⟨e, he, x⟩)
      have hio : i < s.out.length := by rw [h.lo]; exact hi
      have hld : ∀ e, ld l (s.out.set i (s.out.getD i 0 + 1)) e = ld l s.out e + ((lkA l i).count e : Int) := by
        intro e
        rw [ld_set l s.out i _ e hio]
        have : s.out.getD i 0 + 1 - s.out.getD i 0 = 1 := by omega
        rw [this, Int.mul_one]
      have hget : ∀ j, j < l.length → (s.out.set i (s.out.getD i 0 + 1)).getD j 0 = if i = j then s.out.getD i 0 + 1 else s.out.getD j 0 := by
        intro j hj
        rw [getD_set]
        by_cases hij : i = j
        · subst hij; rw [if_pos ⟨rfl, hio⟩, if_pos rfl]
        · rw [if_neg (by omega), if_neg hij]
      refine ⟨by rw [List.length_set]; exact h.lo, h.lf, fun j hj hjf => ?_, fun j hj => ?_, fun j hj e he => ?_, fun j hj hjf => ?_⟩
      · show (s.out.set i _).getD j 0 = _
        rw [hget j hj]
        have := h.act j hj hjf
        by_cases hij : i = j
        · subst hij; rw [if_pos rfl, hact, if_pos (Nat.lt_succ_self _)]
        · rw [if_neg hij, this]; split <;> split <;> omega
      · show 0 ≤ (s.out.set i _).getD j 0 ∧ (s.out.set i _).getD j 0 ≤ _ ∧ (s.out.set i _).getD j 0 ≤ _
        rw [hget j hj]
        have := h.bd j hj
        by_cases hij : i = j
        · subst hij; rw [if_pos rfl, if_pos (Nat.lt_succ_self _)]; refine ⟨by omega, by omega, by omega⟩
        · rw [if_neg hij]
          refine ⟨this.1, this.2.1, ?_⟩
          have := this.2.2
          revert this
          split <;> split <;> omega
      · show ld l (s.out.set i _) e ≤ _
        rw [hld e]
        have hc := h.cap j hj e he
        by_cases hm : e ∈ lkA l i
        · have := h2 e hm
          have := nd i hi e
          omega
        · have : (lkA l i).count e = 0 := List.count_eq_zero.2 hm
          omega
      · show (s.out.set i _).getD j 0 = _ ∨ ∃ e ∈ lkA l j, ld l (s.out.set i _) e = _ ∧ ∀ j', j' < l.length → e ∈ lkA l j' → (s.out.set i _).getD j' 0 ≤ (s.out.set i _).getD j 0 + 1
        have hij : ¬ i = j := fun e => by subst e; exact hf hjf
        rcases h.held j hj hjf with h3 | ⟨e, he, hz, hm⟩
        · left; rw [hget j hj, if_neg hij]; exact h3
        · right
          have hni : e ∉ lkA l i := fun hx => h2 e hx (by omega)
          refine ⟨e, he, ?_, fun j' hj' he' => ?_⟩
          · rw [hld e]
            have : (lkA l i).count e = 0 := List.count_eq_zero.2 hni
            omega
          · have hne : ¬ i = j' := fun x => by subst x; exact hni he'
            rw [hget j' hj', if_neg hne, hget j hj, if_neg hij]
            exact hm j' hj' he'
theorem UInv.next {cp : Int → Int} {l : List Fl} {k : Nat} {s : Un} (h : UInv cp l k l.length s) : UInv cp l (k + 1) 0 s := by
  refine ⟨h.lo, h.lf, fun j hj hjf => ?_, fun j hj => ?_, h.cap, h.held⟩
  · have := h.act j hj hjf
    rw [if_pos hj] at this
    rw [this, if_neg (by omega)]; omega
  · have := h.bd j hj
    refine ⟨this.1, this.2.1, ?_⟩
    have := this.2.2
    rw [if_pos hj] at this
    rw [if_neg (by omega)]; omega
theorem UInv.part {cp : Int → Int} {l : List Fl} {k : Nat} {s : Un} (nd : nodupL l) (h : UInv cp l k 0 s) (i : Nat) (hi : i ≤ l.length) : UInv cp l k i (partU cp l s i) := by
  induction i with
  | zero => exact h
  | succ i ih => exact UInv.step nd (ih (by omega)) (by omega)
/-- limits and capacities that may be -/
def okFl (cp : Int → Int) (l : List Fl) : Prop := nodupL l ∧ ∀ j, j < l.length → 0 ≤ lmA l j ∧ lmA l j ≤ 4096 ∧ ∀ e ∈ lkA l j, 0 ≤ cp e
theorem UInv.it {cp : Int → Int} {l : List Fl} (h : okFl cp l) (k : Nat) : UInv cp l k 0 (itU cp l k) := by
  induction k with
  | zero =>
    refine ⟨by simp [itU], by simp [itU], fun j hj _ => ?_, fun j hj => ?_, fun j hj e he => ?_, fun j hj hjf => ?_⟩
    · show (List.replicate l.length (0 : Int)).getD j 0 = _; rw [getD_rep _ _ _ _ hj]; simp
    · show 0 ≤ (List.replicate l.length (0 : Int)).getD j 0 ∧ (List.replicate l.length (0 : Int)).getD j 0 ≤ _ ∧ (List.replicate l.length (0 : Int)).getD j 0 ≤ _
      rw [getD_rep _ _ _ _ hj]; exact ⟨by omega, (h.2 j hj).1, by simp⟩
    · show ld l (List.replicate l.length 0) e ≤ _
      rw [ld_rep]; exact (h.2 j hj).2.2 e he
    · have : (List.replicate l.length false).getD j true = true := hjf
      rw [getD_rep _ _ _ _ hj] at this; cases this
  | succ k ih => exact (UInv.part h.1 ih _ (Nat.le_refl _)).next
/-- behind so many rounds all are finished -/
theorem itU_done {cp : Int → Int} {l : List Fl} (h : okFl cp l) : allFin (itU cp l 4097) := by
  intro j hj
  have hi := UInv.it h 4097
  rw [hi.lf] at hj
  false_or_by_contra
  rename_i hf
  have hff : (itU cp l 4097).fin.getD j true = false := by simpa using hf
  have h1 := hi.act j hj hff
  have h2 := (hi.bd j hj).2.1
  have h3 := (h.2 j hj).2.1
  rw [if_neg (by omega)] at h1
  omega
/-- the units that the flows get -/
def unitsM (cp : Int → Int) (l : List Fl) : List Int := (itU cp l 4097).out
theorem unitsM_of {cp : Int → Int} {l : List Fl} {k : Nat} (h : okFl cp l) (hk : allFin (itU cp l k)) : (itU cp l k).out = unitsM cp l := by rw [unitsM, itU_unique hk (itU_done h)]
theorem itU_all {cp : Int → Int} {l : List Fl} (h : okFl cp l) (k : Nat) (hk : 4097 ≤ k) : allFin (itU cp l k) := by
  obtain ⟨m, rfl⟩ : ∃ m, k = 4097 + m := ⟨k - 4097, by omega⟩
  rw [itU_stay (itU_done h) m]; exact itU_done h
theorem stepU_done {cp : Int → Int} {l : List Fl} {s : Un} {i : Nat} (h : s.fin.getD i true = true) : stepU cp l s i = s := by rw [stepU, if_pos h]
theorem stepU_stop {cp : Int → Int} {l : List Fl} {s : Un} {i : Nat} (h : ¬ s.fin.getD i true = true) (h2 : lmA l i ≤ s.out.getD i 0 ∨ fullU cp l s.out i) : stepU cp l s i = ⟨s.out, s.fin.set i true⟩ := by rw [stepU, if_neg h, if_pos h2]
theorem stepU_more {cp : Int → Int} {l : List Fl} {s : Un} {i : Nat} (h : ¬ s.fin.getD i true = true) (h2 : ¬ (lmA l i ≤ s.out.getD i 0 ∨ fullU cp l s.out i)) : stepU cp l s i = ⟨s.out.set i (s.out.getD i 0 + 1), s.fin⟩ := by rw [stepU, if_neg h, if_neg h2]
theorem partU_not {cp : Int → Int} {l : List Fl} {s : Un} {i : Nat} (hl : s.fin.length = l.length) (hi : i < l.length) (h : ¬ (partU cp l s i).fin.getD i true = true) : ¬ allFin s := by
  intro ha
  rw [partU_all ha hl i (by omega)] at h
  exact h (ha i (by omega))
end Go.Proofs.Ythdfflbhogfejaa
namespace Go.Proofs.Ythdfflbhogfejaa
set_option maxRecDepth 100000
open Go.RowKit

theorem size_alloc (w : World) (o : Obj) : (w.alloc o).heap.size = w.heap.size + 1 := by simp
theorem add_at0 (a : Addr) : a.add 0 = a := by unfold Addr.add; simp
theorem add_at1 (a : Addr) (j : Nat) : a.add (j + 1) = ⟨a.block, a.off + (j + 1), none⟩ := by unfold Addr.add; simp
/-- the value of a whole number -/
abbrev iv (z : Int) : Value := .int .i64 z
/-- a slice of whole numbers -/
structure Is (w : World) (A : Option Addr) (c : Nat) (xs : List Int) : Prop where
  cap : xs.length ≤ c
  max : c ≤ 9223372036854775807
  rd : Rd iv w A xs
  wf : ∀ x ∈ xs, -9223372036854775808 ≤ x ∧ x ≤ 9223372036854775807
section
variable {w w' : World} {A : Option Addr} {c : Nat} {xs : List Int}
theorem Is.below (h : Is w A c xs) (hb : Below w.heap.size w w') : Is w' A c xs := ⟨h.cap, h.max, h.rd.below hb rfl, h.wf⟩
theorem Is.at (h : Is w A c xs) (k : Nat) (hk : k < xs.length) : ∃ ad, A = some ad ∧ ad.block < w.heap.size ∧ w.cell? (ad.add k) = some (.int .i64 xs[k]) := by
  obtain ⟨ad, e, hl, hc⟩ := h.rd (by omega)
  exact ⟨ad, e, hl, hc k hk⟩
theorem Is.len (h : Is w A c xs) : xs.length ≤ 9223372036854775807 := Nat.le_trans h.cap h.max
theorem Is.nil (w : World) (A : Option Addr) (c : Nat) (hc : c ≤ 9223372036854775807) : Is w A c [] := ⟨by simp, hc, Rd.nil, by simp⟩
theorem Is.grown {row : Option Nat} (h : Is w A c xs) (hg : w.grownBy w' row) (hne : 0 < xs.length → ∀ ad, A = some ad → some ad.block ≠ row) : Is w' A c xs := ⟨h.cap, h.max, h.rd.grown hg hne, h.wf⟩
end
theorem Gr.is {w : World} {B c : Nat} {e : TypeId} {A : Option Addr} {xs : List Int} (h : Gr iv e w B A c xs) (hw : ∀ x ∈ xs, -9223372036854775808 ≤ x ∧ x ≤ 9223372036854775807) : Is w A c xs :=
  ⟨h.form.1, by have := h.form.2.1; unfold maxLen at this; omega, h.rd, hw⟩

/-- a flow: where its links lie, and its limit -/
structure Fm where
  A : Option Addr
  c : Nat
  ls : List Int
  m : Int
abbrev Fm.val (x : Fm) : Value := .agg #[.slice x.A x.ls.length x.c, .int .i64 x.m]
abbrev Fm.cells (x : Fm) : Array Value := #[.slice x.A x.ls.length x.c, .int .i64 x.m]
abbrev Fm.fl (x : Fm) : Fl := (x.ls, x.m)
structure Fm.ok (x : Fm) (w : World) : Prop where
  is : Is w x.A x.c x.ls
  wf : -9223372036854775808 ≤ x.m ∧ x.m ≤ 9223372036854775807
theorem Fm.ok.below {x : Fm} {w w' : World} (h : x.ok w) (hb : Below w.heap.size w w') : x.ok w' := ⟨h.is.below hb, h.wf⟩
/-- a slice that reads as flows -/
def RdW (w : World) (A : Option Addr) (fs : List Fm) : Prop := 0 < fs.length → ∃ ad, A = some ad ∧ ad.block < w.heap.size ∧
  ∀ k (hk : k < fs.length), w.cell? (ad.add (k * 2)) = some (.slice fs[k].A fs[k].ls.length fs[k].c) ∧ w.cell? ⟨(ad.add (k * 2)).block, (ad.add (k * 2)).off + 1, none⟩ = some (.int .i64 fs[k].m)
theorem RdW.below {w w' : World} {A : Option Addr} {fs : List Fm} (h : RdW w A fs) (hb : Below w.heap.size w w') : RdW w' A fs := fun hn => by
  obtain ⟨ad, e, hl, hc⟩ := h hn
  refine ⟨ad, e, Nat.lt_of_lt_of_le hl hb.size, fun k hk => ?_⟩
  obtain ⟨h0, h1⟩ := hc k hk
  have e2 : (ad.add (k * 2)).block = ad.block := block_of_add _ _
  exact ⟨(hb.cell (p := ad.add (k * 2)) (by rw [e2]; exact hl)).trans h0, (hb.cell (p := ⟨(ad.add (k * 2)).block, (ad.add (k * 2)).off + 1, none⟩) (by show (ad.add (k * 2)).block < _; rw [e2]; exact hl)).trans h1⟩
/-- a list of flows in memory -/
structure Ws (w : World) (A : Option Addr) (c : Nat) (fs : List Fm) : Prop where
  cap : fs.length ≤ c
  max : c ≤ 9223372036854775807
  rd : RdW w A fs
  ok : ∀ x ∈ fs, x.ok w
theorem Ws.below {w w' : World} {A : Option Addr} {c : Nat} {fs : List Fm} (h : Ws w A c fs) (hb : Below w.heap.size w w') : Ws w' A c fs := ⟨h.cap, h.max, h.rd.below hb, fun x hx => (h.ok x hx).below hb⟩
/-- a block of two cells: a flow -/
structure Fb (w : World) (G : Nat) (x : Fm) : Prop where
  c0 : w.cell? ⟨G, 0, none⟩ = some (.slice x.A x.ls.length x.c)
  c1 : w.cell? ⟨G, 1, none⟩ = some (.int .i64 x.m)
  f0 : w.frozen? ⟨G, 0, none⟩ = false
  f1 : w.frozen? ⟨G, 1, none⟩ = false
  lt : G < w.heap.size
theorem Fb.below {w w' : World} {G : Nat} {x : Fm} (h : Fb w G x) (hb : Below w.heap.size w w') : Fb w' G x :=
  ⟨(hb.cell (p := ⟨G, 0, none⟩) h.lt).trans h.c0, (hb.cell (p := ⟨G, 1, none⟩) h.lt).trans h.c1, (hb.frozen (p := ⟨G, 0, none⟩) h.lt).trans h.f0, (hb.frozen (p := ⟨G, 1, none⟩) h.lt).trans h.f1, Nat.lt_of_lt_of_le h.lt hb.size⟩
theorem Fb.grown {w w' : World} {G : Nat} {x : Fm} {row : Option Nat} (h : Fb w G x) (hg : w.grownBy w' row) (hne : some G ≠ row) : Fb w' G x := by
  have hb : w'.heap[G]? = w.heap[G]? := hg.block G h.lt hne
  refine ⟨hg.cell h.c0 hne, hg.cell h.c1 hne, ?_, ?_, Nat.lt_of_lt_of_le h.lt hg.size⟩
  · rw [← h.f0]; unfold World.frozen?; rw [hb]
  · rw [← h.f1]; unfold World.frozen?; rw [hb]
theorem fb_alloc (w : World) (x : Fm) (e : TypeId) : Fb (w.alloc (.cells x.cells e)) w.heap.size x ∧ Below w.heap.size w (w.alloc (.cells x.cells e)) :=
  ⟨⟨by go_simp, by go_simp, by go_simp, by go_simp, by simp⟩, (Below.refl _ _).alloc (Nat.le_refl _) _⟩

/-- the links of a flow that may be -/
def LinksOk (n : Nat) (ls : List Int) : Prop := ∀ i (h : i < ls.length), 0 ≤ ls[i] ∧ ls[i] < n ∧ (∀ h0 : 0 < i, ls[i - 1] < ls[i])
instance (n : Nat) (ls : List Int) : Decidable (LinksOk n ls) := inferInstanceAs (Decidable (∀ i (h : i < ls.length), 0 ≤ ls[i] ∧ ls[i] < n ∧ (∀ h0 : 0 < i, ls[i - 1] < ls[i])))
def validFl (caps : List Int) (fs : List Fl) : Prop := caps.length ≤ 64 ∧ fs.length ≤ 48 ∧ (∀ c ∈ caps, 0 ≤ c ∧ c ≤ 4096) ∧ (∀ f ∈ fs, 0 ≤ f.2 ∧ f.2 ≤ 4096 ∧ LinksOk caps.length f.1)
instance (caps : List Int) (fs : List Fl) : Decidable (validFl caps fs) := inferInstanceAs (Decidable (_ ∧ _ ∧ _ ∧ _))
theorem LinksOk.lt {n : Nat} {ls : List Int} (h : LinksOk n ls) : ∀ (j i : Nat) (hj : j < ls.length) (hi : i < j), ls[i] < ls[j] := by
  intro j
  induction j with
  | zero => intro i _ hi; omega
  | succ j ih =>
    intro i hj hi
    have h1 := (h (j + 1) hj).2.2 (by omega)
    simp only [Nat.add_sub_cancel] at h1
    rcases Nat.lt_or_ge i j with h2 | h2
    · have := ih i (by omega) h2; omega
    · have : i = j := by omega
      subst this; exact h1
theorem LinksOk.nodup {n : Nat} {ls : List Int} (h : LinksOk n ls) : ls.Nodup := by
  rw [List.nodup_iff_pairwise_ne, List.pairwise_iff_getElem]
  intro i j hi hj hij e
  have := h.lt j i hj hij
  omega
theorem LinksOk.count {n : Nat} {ls : List Int} (h : LinksOk n ls) (e : Int) : ls.count e ≤ 1 := List.nodup_iff_count.1 h.nodup e
theorem LinksOk.mem {n : Nat} {ls : List Int} (h : LinksOk n ls) {e : Int} (he : e ∈ ls) : 0 ≤ e ∧ e < n := by
  obtain ⟨i, hi, rfl⟩ := List.getElem_of_mem he
  exact ⟨(h i hi).1, (h i hi).2.1⟩
/-- the capacity of a link -/
def cpF (caps : List Int) (e : Int) : Int := caps.getD e.toNat 0
theorem lkA_get {l : List Fl} {i : Nat} (h : i < l.length) : lkA l i = l[i].1 := by rw [lkA, getD_lt _ _ _ h]
theorem lmA_get {l : List Fl} {i : Nat} (h : i < l.length) : lmA l i = l[i].2 := by rw [lmA, getD_lt _ _ _ h]
theorem validFl.ok {caps : List Int} {fs : List Fl} (h : validFl caps fs) : okFl (cpF caps) fs := by
  refine ⟨fun i hi e => ?_, fun j hj => ?_⟩
  · rw [lkA_get hi]; exact (h.2.2.2 _ (List.getElem_mem hi)).2.2.count e
  · have h1 := h.2.2.2 _ (List.getElem_mem hj)
    rw [lmA_get hj, lkA_get hj]
    refine ⟨h1.1, h1.2.1, fun e he => ?_⟩
    have := h1.2.2.mem he
    rw [cpF, getD_lt _ _ _ (by omega)]
    exact (h.2.2.1 _ (List.getElem_mem _)).1
theorem int_info : (Try.prog.info? 3).map (fun i => (i.zero, i.size, i.bytes)) = some (some (iv 0), 1, 8) := by kernel_rfl
theorem bool_info : (Try.prog.info? 4).map (fun i => (i.zero, i.size, i.bytes)) = some (some (.bool false), 1, 1) := by kernel_rfl
end Go.Proofs.Ythdfflbhogfejaa
namespace Go.Proofs.Ythdfflbhogfejaa
set_option maxRecDepth 100000
open Go.RowKit
/-- a block of two cells that can be written -/
structure Bk2 (w : World) (G : Nat) (v0 v1 : Value) : Prop where
  c0 : w.cell? ⟨G, 0, none⟩ = some v0
  c1 : w.cell? ⟨G, 1, none⟩ = some v1
  f0 : w.frozen? ⟨G, 0, none⟩ = false
  f1 : w.frozen? ⟨G, 1, none⟩ = false
  lt : G < w.heap.size
section
variable {w w' : World} {G H : Nat} {v0 v1 : Value}
theorem Bk2.below (h : Bk2 w G v0 v1) (hb : Below w.heap.size w w') : Bk2 w' G v0 v1 :=
  ⟨(hb.cell (p := ⟨G, 0, none⟩) h.lt).trans h.c0, (hb.cell (p := ⟨G, 1, none⟩) h.lt).trans h.c1, (hb.frozen (p := ⟨G, 0, none⟩) h.lt).trans h.f0, (hb.frozen (p := ⟨G, 1, none⟩) h.lt).trans h.f1, Nat.lt_of_lt_of_le h.lt hb.size⟩
theorem Bk2.far (h : Bk2 w G v0 v1) {p : Addr} (hne : p.block ≠ G) (u : Value) : Bk2 (w.setCell p u) G v0 v1 := by
  have hb : (w.setCell p u).heap[G]? = w.heap[G]? := Below.heap_setCell _ _ _ _ (fun e => hne e.symm)
  refine ⟨?_, ?_, ?_, ?_, by simpa [World.setCell] using h.lt⟩
  · rw [← h.c0]; exact World.cell?_of_block hb
  · rw [← h.c1]; exact World.cell?_of_block hb
  · rw [← h.f0]; exact World.frozen?_of_block hb
  · rw [← h.f1]; exact World.frozen?_of_block hb
end
theorem bk2_alloc (w : World) (v0 v1 : Value) (e : TypeId) : Bk2 (w.alloc (.cells #[v0, v1] e)) w.heap.size v0 v1 ∧ Below w.heap.size w (w.alloc (.cells #[v0, v1] e)) ∧ (w.alloc (.cells #[v0, v1] e)).heap.size = w.heap.size + 1 :=
  ⟨⟨by go_simp, by go_simp, by go_simp, by go_simp, by simp⟩, (Below.refl _ _).alloc (Nat.le_refl _) _, by simp⟩
/-- two rows, and they do not lie in one block -/
def apart2 (AF AL : Option Addr) : Prop := ∀ a b, AF = some a → AL = some b → a.block ≠ b.block
theorem apart2.app {AF AL AF' : Option Addr} {z : Nat} (h : apart2 AF AL) (hL : ∀ b, AL = some b → b.block < z) (hat : AF'.map (·.block) = AF.map (·.block) ∨ AF'.map (·.block) = some z) : apart2 AF' AL := by
  intro a b e1 e2
  subst e1
  rcases hat with hat | hat
  · cases AF with
    | none => simp at hat
    | some f =>
      simp only [Option.map_some, Option.some.injEq] at hat
      rw [hat]; exact h f b rfl e2
  · simp only [Option.map_some, Option.some.injEq] at hat
    have := hL b e2
    omega
theorem apart2.symm {AF AL : Option Addr} (h : apart2 AF AL) : apart2 AL AF := fun a b e1 e2 => (h b a e2 e1).symm
/-- not that block -/
def offB (A : Option Addr) (G : Nat) : Prop := ∀ a, A = some a → a.block ≠ G
theorem offB.app {A A' : Option Addr} {G z : Nat} (h : offB A G) (hG : G < z) (hat : A'.map (·.block) = A.map (·.block) ∨ A'.map (·.block) = some z) : offB A' G := by
  intro a e
  subst e
  rcases hat with hat | hat
  · cases A with
    | none => simp at hat
    | some f =>
      simp only [Option.map_some, Option.some.injEq] at hat
      rw [hat]; exact h f rfl
  · simp only [Option.map_some, Option.some.injEq] at hat
    omega
theorem offB.row {A : Option Addr} {G : Nat} (h : offB A G) : some G ≠ A.map (·.block) := by
  cases A with
  | none => simp
  | some a => simp; exact fun e => h a rfl e.symm
theorem Bk2.grown {w w' : World} {G : Nat} {v0 v1 : Value} {row : Option Nat} (h : Bk2 w G v0 v1) (hg : w.grownBy w' row) (hne : some G ≠ row) : Bk2 w' G v0 v1 := by
  have hb : w'.heap[G]? = w.heap[G]? := hg.block G h.lt hne
  refine ⟨hg.cell h.c0 hne, hg.cell h.c1 hne, ?_, ?_, Nat.lt_of_lt_of_le h.lt hg.size⟩
  · rw [← h.f0]; exact World.frozen?_of_block hb
  · rw [← h.f1]; exact World.frozen?_of_block hb
theorem Bk2.put0 {w : World} {G : Nat} {v0 v1 : Value} (h : Bk2 w G v0 v1) (u : Value) : Bk2 (w.setCell ⟨G, 0, none⟩ u) G u v1 := by
  have h0 := h.c0
  have h1 := h.c1
  have f0 := h.f0
  have f1 := h.f1
  have hl := h.lt
  exact ⟨by go_simp, by go_simp, by go_simp, by go_simp, by simpa [World.setCell] using hl⟩
theorem apart2.row {AF AL : Option Addr} (h : apart2 AF AL) : ∀ a, AF = some a → some a.block ≠ AL.map (·.block) := by
  intro a e
  cases AL with
  | none => simp
  | some b => simp; exact h a b e rfl
theorem int_one (w : World) (v : Int) (e : TypeId) : Rd iv (w.alloc (.cells #[.int .i64 v] e)) (some ⟨w.heap.size, 0, none⟩) [v] := Rd.one w e v
end Go.Proofs.Ythdfflbhogfejaa
namespace Go.Proofs.Ythdfflbhogfejaa
set_option maxRecDepth 100000
open Go.RowKit
theorem sameints_any (w : World) (A : Option Addr) (n c : Nat) (xs : List Int) (D : Option Addr) (m d : Nat) (ys : List Int) (b : Bool) (hA : Is w A c xs) (hD : Is w D d ys) (hn : n = xs.length) (hm : m = ys.length) (hb : decide (xs = ys) = b) :
    Calls Try.prog 25 #[.slice A n c, .slice D m d] w fun e w' => e = .returned (.bool b) ∧ Below w.heap.size w w' := by
  have HB := Lib.hid hb; clear hb
  have HA := Lib.hid hA; clear hA
  have HD := Lib.hid hD; clear hD
  subst hn hm
  have hla := HA.out.len
  by_cases hl : xs.length = ys.length
  · have hl1 : ((xs.length : Int) == (ys.length : Int)) = true := by simp [hl]
    have hl2 : ((xs.length : Int) != (ys.length : Int)) = false := by simp [hl]
    have HL := Lib.hid hl
    clear hl
    go_enter Try.func25, Try.ntmps25
    go_wp2_with fail
    go_loopw [5] (fun i wr => ∃ k : Nat, k ≤ xs.length ∧ i = .int .i64 k ∧ xs.take k = ys.take k ∧ Below w.heap.size w wr) (fun i _ => xs.length - (intOf i).toNat)
    case atStart => exact ⟨0, by omega, rfl, rfl, Below.refl _ _⟩
    case round =>
      obtain ⟨k, hk, rfl, hP, bw⟩ := hrel
      have HP := Lib.hid hP
      clear hP
      by_cases hlt : k < xs.length
      · have hlt2 : k < ys.length := by have := HL.out; omega
        obtain ⟨ad, rfl, _, hc⟩ := (HA.out.below bw).at k hlt
        obtain ⟨bd, rfl, _, hd⟩ := (HD.out.below bw).at k hlt2
        have hac := HA.out.cap
        have hdc := HD.out.cap
        have hdm := HD.out.max
        by_cases hz : xs[k] = ys[k]
        · have hz1 : (xs[k] == ys[k]) = true := by simp [hz]
          have hz2 : (xs[k] != ys[k]) = false := by simp [hz]
          have HNX : Hid (xs.take (k + 1) = ys.take (k + 1)) := Lib.hid (by rw [List.take_succ_eq_append_getElem hlt, List.take_succ_eq_append_getElem hlt2, HP.out, hz])
          clear hz HP
          go_wp2_with fail
          go_quiet (fail)
          go_wp2_with fail
          go_roundw
          case rel => exact ⟨k + 1, by omega, by go_num, HNX.out, below_drewN bw nq⟩
          case measure => simp [intOf]; omega
        · have hz1 : (xs[k] == ys[k]) = false := beq_eq_false_iff_ne.2 hz
          have hz2 : (xs[k] != ys[k]) = true := by simp [hz]
          have HBB : Hid (b = false) := Lib.hid (by
            rw [← HB.out]
            refine decide_eq_false (fun h => hz ?_)
            subst h; rfl)
          clear hz HP
          go_wp2_with fail
          go_quiet (fail)
          go_wp2_with fail
          go_ret
          exact ⟨ret_bool HBB.out.symm, below_drewN bw nq⟩
      · have HBB : Hid (b = true) := Lib.hid (by
          rw [← HB.out]
          have h1 := HP.out
          rw [List.take_of_length_le (by omega), List.take_of_length_le (by have := HL.out; omega)] at h1
          exact decide_eq_true h1)
        go_wp2_with fail
        go_ret
        exact ⟨ret_bool HBB.out.symm, bw⟩
  · have hl1 : ((xs.length : Int) == (ys.length : Int)) = false := beq_eq_false_iff_ne.2 (by omega)
    have hl2 : ((xs.length : Int) != (ys.length : Int)) = true := by simp; omega
    have HBB : Hid (b = false) := Lib.hid (by rw [← HB.out]; exact decide_eq_false (fun h => hl (by rw [h])))
    clear hl
    go_enter Try.func25, Try.ntmps25
    go_wp2_with fail
    go_ret
    exact ⟨ret_bool HBB.out.symm, Below.refl _ _⟩
end Go.Proofs.Ythdfflbhogfejaa
namespace Go.Proofs.Ythdfflbhogfejaa
set_option maxRecDepth 100000
open Go.RowKit

/-- a number made to lie from 0 to below n -/
def withinM (x n : Int) : Int := if n < 1 then 0 else x % n
theorem tmod_fix (x n : Int) (hn : 0 < n) : (if x.tmod n < 0 then x.tmod n + n else x.tmod n) = x % n := by
  have h0 := Int.emod_nonneg x (show n ≠ 0 by omega)
  have h1 := Int.emod_lt_of_pos x hn
  rw [Int.tmod_eq_emod]
  by_cases h : 0 ≤ x ∨ n ∣ x
  · rw [if_pos h]
    simp only [Int.natCast_zero, Int.sub_zero]
    rw [if_neg (by omega)]
  · rw [if_neg h]
    have : (n.natAbs : Int) = n := by omega
    rw [this]
    have hne : x % n ≠ 0 := fun e => h (.inr (Int.dvd_of_emod_eq_zero e))
    rw [if_pos (by omega)]; omega
theorem withinM_bd (x : Int) {n : Int} (hn : 1 ≤ n) : 0 ≤ withinM x n ∧ withinM x n < n := by
  rw [withinM, if_neg (by omega)]
  exact ⟨Int.emod_nonneg x (by omega), Int.emod_lt_of_pos x (by omega)⟩
theorem within_any (w : World) (x n : Int) (_hx : -9223372036854775808 ≤ x ∧ x ≤ 9223372036854775807) (hn : n ≤ 1000000) :
    Calls Try.prog 29 #[.int .i64 x, .int .i64 n] w fun e w' => e = .returned (.int .i64 (withinM x n)) ∧ w = w' := by
  by_cases h1 : n < 1
  · have HM : Hid (withinM x n = 0) := Lib.hid (by rw [withinM, if_pos h1])
    have h1' : decide (n < 1) = true := decide_eq_true h1
    clear h1 _hx
    go_enter Try.func29, Try.ntmps29
    go_wp2_with fail
    go_ret
    exact ⟨ret_int HM.out.symm, rfl⟩
  · have h1' : decide (n < 1) = false := decide_eq_false h1
    have hf := tmod_fix x n (by omega)
    have hb := withinM_bd x (show 1 ≤ n by omega)
    have HM : Hid (withinM x n = x % n) := Lib.hid (by rw [withinM, if_neg h1])
    rw [HM.out] at hb
    have hn0 : ¬ n = 0 := by omega
    have hn1 : 1 ≤ n := by omega
    obtain ⟨m, hm⟩ : ∃ m, x.tmod n = m := ⟨_, rfl⟩
    have hmb : -1000000 ≤ m ∧ m ≤ 1000000 := by rw [hm] at hf; split at hf <;> omega
    have hmb1 := hmb.1
    have hmb2 := hmb.2
    have hw : IntKind.i64.wrap m = m := IntWalk.i64_in _ (by omega)
    have hw2 : wrap64 m = m := by unfold wrap64; omega
    rw [hm] at hf
    have HF := Lib.hid hf
    by_cases h2 : m < 0
    · have h2' : decide (m < 0) = true := decide_eq_true h2
      have HR : Hid (m + n = withinM x n) := Lib.hid (by have := HF.out; rw [if_pos h2] at this; rw [HM.out]; exact this)
      clear h1 hb hf hmb
      go_enter Try.func29, Try.ntmps29
      go_wp2_with fail
      go_ret
      exact ⟨ret_int HR.out, rfl⟩
    · have h2' : decide (m < 0) = false := decide_eq_false h2
      have HR : Hid (m = withinM x n) := Lib.hid (by have := HF.out; rw [if_neg h2] at this; rw [HM.out]; exact this)
      clear h1 hb hf hmb
      go_enter Try.func29, Try.ntmps29
      go_wp2_with fail
      go_ret
      exact ⟨ret_int HR.out, rfl⟩
/-- the capacities that a law makes -/
def capsM (l : List Int) : List Int := 7 :: (l.take 4).map fun x => withinM x 21
theorem capsM_bd (l : List Int) : ∀ c ∈ capsM l, 0 ≤ c ∧ c ≤ 20 := by
  intro c hc
  rcases List.mem_cons.1 hc with rfl | hc
  · omega
  · obtain ⟨x, _, rfl⟩ := List.mem_map.1 hc
    have := withinM_bd x (show (1 : Int) ≤ 21 by omega)
    omega
theorem capsM_len (l : List Int) : 1 ≤ (capsM l).length ∧ (capsM l).length ≤ 5 := by simp [capsM]; omega
set_option maxHeartbeats 1600000 in
theorem caps_any (w : World) (A : Option Addr) (n c : Nat) (xs : List Int) (hA : Is w A c xs) (hn : n = xs.length) :
    Calls Try.prog 22 #[.slice A n c] w fun e w' => ∃ A' c', e = .returned (.slice A' (capsM xs).length c') ∧ Is w' A' c' (capsM xs) ∧ Below w.heap.size w w' := by
  have HA := Lib.hid hA; clear hA
  subst hn
  obtain ⟨i1, hi, hi0, hi1, hi2⟩ := info_parts int_info
  have hla := HA.out.len
  go_enter Try.func22, Try.ntmps22
  go_upto_region 2 with fail
  have hg := Gr.lit (mk := iv) (e := 3) (B := w.heap.size) w [7] #[.int .i64 7] rfl (by simp [maxLen]) (Nat.le_refl _)
  have b0 := (Below.refl w.heap.size w).alloc (Nat.le_refl _) (.cells #[.int .i64 7] 3)
  generalize (w.alloc (.cells #[.int .i64 7] 3)) = w0 at hg b0 ⊢
  go_wp2_with fail
  go_loopw [3, 4] (fun s i wr => ∃ (k : Nat) (A' : Option Addr) (c' : Nat), k ≤ xs.length ∧ k ≤ 4 ∧ i = .int .i64 k ∧ s = .slice A' (capsM (xs.take k)).length c' ∧ Gr iv 3 wr w.heap.size A' c' (capsM (xs.take k)) ∧ Below w.heap.size w wr) (fun _ i _ => xs.length - (intOf i).toNat)
  case atStart => exact ⟨0, _, _, by omega, by omega, rfl, rfl, hg, b0⟩
  case round =>
    clear hg b0
    obtain ⟨k, A', c', hk, hk4, rfl, rfl, hG, bw⟩ := hrel
    have HG := Lib.hid hG
    clear hG
    have hcl : (capsM (xs.take k)).length ≤ 5 := (capsM_len _).2
    by_cases hlt : k < xs.length
    · by_cases h4 : k < 4
      · obtain ⟨ad, rfl, _, hc⟩ := (HA.out.below bw).at k hlt
        have hwf := HA.out.wf _ (List.getElem_mem hlt)
        have HNX : Hid (capsM (xs.take k) ++ [withinM xs[k] 21] = capsM (xs.take (k + 1))) := Lib.hid (by
          simp only [capsM, List.take_take, Nat.min_eq_right (show k ≤ 4 by omega), Nat.min_eq_right (show k + 1 ≤ 4 by omega)]
          rw [List.take_succ_eq_append_getElem hlt, List.map_append]; rfl)
        have HWF := Lib.hid hwf
        clear hwf
        obtain ⟨L, hL⟩ : ∃ L, capsM (xs.take k) = L := ⟨_, rfl⟩
        rw [hL] at hcl HNX HG ⊢
        clear hL
        go_wp2_with (first
          | (go_at_call 29
             refine (within_any wr _ _ HWF.out (by omega)).mono ?_
             rintro e wn ⟨rfl, rfl⟩)
          | (at_builtin; refine wpList_append_rd _ (mk := iv) (fun _ => rfl) rfl _ _ 22 rfl 3 i1 (iv 0) 8 Try.underlying22 hi hi0 hi1 hi2 rfl (B := w.heap.size) rfl rfl (HG.out.below ((Below.refl _ _).alloc (Nat.le_refl _) _)) (some ⟨wr.heap.size, 0, none⟩) 1 1 [withinM xs[k] 21] rfl rfl (Rd.one wr _ _) (by simp only [maxLen]; omega) (by omega) (by have := bw.size; simp; omega) ?_; intro A2 c2 w2 hg2 _ hb2 _))
        go_roundw
        case rel =>
          have bl := (Below.refl wr.heap.size wr).alloc (Nat.le_refl _) (.cells #[.int .i64 (withinM xs[k] 21)] 3)
          refine ⟨k + 1, A2, c2, by omega, by omega, by go_num, ?_, by rw [← HNX.out]; exact hg2, (below_on bw bl bw.size).trans hb2⟩
          rw [← HNX.out, List.length_append]; rfl
        case measure => simp [intOf]; omega
      · have h4' : decide ((k : Int) < 4) = false := decide_eq_false (by omega)
        have HF : Hid (capsM (xs.take k) = capsM xs) := Lib.hid (by simp only [capsM, List.take_take]; rw [show min 4 k = 4 by omega])
        go_wp2_with fail
        go_ret
        rw [HF.out]
        have := HG.out
        rw [HF.out] at this
        exact ⟨A', c', rfl, this.is (fun x hx => by have := capsM_bd xs x hx; omega), bw⟩
    · have HF : Hid (capsM (xs.take k) = capsM xs) := Lib.hid (by rw [List.take_of_length_le (by omega)])
      go_wp2_with fail
      go_ret
      rw [HF.out]
      have := HG.out
      rw [HF.out] at this
      exact ⟨A', c', rfl, this.is (fun x hx => by have := capsM_bd xs x hx; omega), bw⟩
end Go.Proofs.Ythdfflbhogfejaa
