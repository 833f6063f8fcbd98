/- Transfers as plain lists: which are valid, what is sent in a tick. No program in sight. -/
import Derived.Test.YtgjhjdjbhmblmaaTrF
namespace Go.Proofs.Ytgjhjdjbhmblmaa

/-- the flows of transfers with limits -/
def flT (l : List Tr) (f : Nat → Int) : List Fl := (List.range l.length).map fun j => ((l.getD j ([], 0, 0)).1, f j)
def limT (l : List Tr) (left : List Int) (tick : Int) (k : Nat) : Int := if tick < (l.getD k ([], 0, 0)).2.2 then 0 else left.getD k 0
def trOk (t : Tr) : Prop := 0 ≤ t.2.1 ∧ t.2.1 ≤ 4096 ∧ 0 ≤ t.2.2 ∧ t.2.2 ≤ 4096
instance (t : Tr) : Decidable (trOk t) := inferInstanceAs (Decidable (_ ∧ _ ∧ _ ∧ _))
def validTr (caps : List Int) (l : List Tr) : Prop := (∀ t ∈ l, trOk t) ∧ validFl caps (flT l fun _ => 0)
instance (caps : List Int) (l : List Tr) : Decidable (validTr caps l) := inferInstanceAs (Decidable (_ ∧ _))
theorem flT_len (l : List Tr) (f : Nat → Int) : (flT l f).length = l.length := by simp [flT]
theorem flT_get {l : List Tr} {f : Nat → Int} {i : Nat} (h : i < l.length) : (flT l f)[i]'(by rw [flT_len]; exact h) = (l[i].1, f i) := by
  simp [flT, List.getD_eq_getElem?_getD, h]
theorem flT_lk {l : List Tr} {f : Nat → Int} {i : Nat} (h : i < l.length) : lkA (flT l f) i = l[i].1 := by rw [lkA_get (by rw [flT_len]; exact h), flT_get h]
theorem flT_lm {l : List Tr} {f : Nat → Int} {i : Nat} (h : i < l.length) : lmA (flT l f) i = f i := by rw [lmA_get (by rw [flT_len]; exact h), flT_get h]
theorem validFl_flT {caps : List Int} {l : List Tr} {f g : Nat → Int} (h : validFl caps (flT l f)) (hg : ∀ i, i < l.length → 0 ≤ g i ∧ g i ≤ 4096) : validFl caps (flT l g) := by
  obtain ⟨h1, h2, h3, h4⟩ := h
  refine ⟨h1, by rw [flT_len] at *; exact h2, h3, fun x hx => ?_⟩
  obtain ⟨i, hi, rfl⟩ := List.getElem_of_mem hx
  rw [flT_len] at hi
  have := h4 _ (List.getElem_mem (l := flT l f) (n := i) (by rw [flT_len]; exact hi))
  rw [flT_get hi] at this ⊢
  exact ⟨(hg i hi).1, (hg i hi).2, this.2.2⟩
theorem getD_tr (ts : List Tm) (k : Nat) : (ts.map Tm.tr).getD k ([], 0, 0) = (ts.getD k ⟨none, 0, [], 0, 0⟩).tr := by
  rw [List.getD_eq_getElem?_getD, List.getD_eq_getElem?_getD, List.getElem?_map]
  cases ts[k]? <;> rfl
theorem flowsTo_flT (ts : List Tm) (f : Nat → Int) : (flowsTo ts f ts.length).map Fm.fl = flT (ts.map Tm.tr) f := by
  rw [flowsTo_fl, flT, List.length_map]
  apply List.map_congr_left
  intro j _
  rw [getD_tr]
theorem limF_T (ts : List Tm) (left : List Int) (tick : Int) (k : Nat) : limF ts left tick k = limT (ts.map Tm.tr) left tick k := by
  rw [limF, limT, getD_tr]
/-- how many bytes may be left -/
def leftOk (l : List Tr) (left : List Int) : Prop := ∀ i (h : i < left.length), 0 ≤ left[i] ∧ left[i] ≤ (l.getD i ([], 0, 0)).2.1
instance (l : List Tr) (left : List Int) : Decidable (leftOk l left) := inferInstanceAs (Decidable (∀ i (_ : i < left.length), _))
def stepOk (caps : List Int) (l : List Tr) (left : List Int) (tick : Int) : Prop := validTr caps l ∧ left.length = l.length ∧ 0 ≤ tick ∧ leftOk l left
instance (caps : List Int) (l : List Tr) (left : List Int) (tick : Int) : Decidable (stepOk caps l left tick) := inferInstanceAs (Decidable (_ ∧ _ ∧ _ ∧ _))
/-- what is sent in a tick -/
def sentM (caps : List Int) (l : List Tr) (left : List Int) (tick : Int) : List Int := unitsM (cpF caps) (flT l (limT l left tick))
theorem limT_bd {caps : List Int} {l : List Tr} {left : List Int} {tick : Int} (h : stepOk caps l left tick) (i : Nat) (hi : i < l.length) : 0 ≤ limT l left tick i ∧ limT l left tick i ≤ 4096 := by
  unfold limT
  split
  · omega
  · have h1 := h.2.2.2 i (by rw [h.2.1]; exact hi)
    rw [getD_lt _ _ _ (by rw [h.2.1]; exact hi)]
    rw [getD_lt _ _ _ hi] at h1
    have h2 := h.1.1 _ (List.getElem_mem hi)
    exact ⟨h1.1, Int.le_trans h1.2 h2.2.1⟩
theorem stepOk.fl {caps : List Int} {l : List Tr} {left : List Int} {tick : Int} (h : stepOk caps l left tick) : validFl caps (flT l (limT l left tick)) := validFl_flT h.1.2 (limT_bd h)
theorem sentM_len (caps : List Int) (l : List Tr) (left : List Int) (tick : Int) : (sentM caps l left tick).length = l.length := by rw [sentM, unitsM_len, flT_len]
end Go.Proofs.Ytgjhjdjbhmblmaa
