/- The plain law of FairshareFull: loads and greatest units of the links, as lists. No program in sight. -/
import Derived.Test.YthdfflbhogfejaaFsU
namespace Go.Proofs.Ythdfflbhogfejaa

set_option maxRecDepth 100000 in
theorem ldt_succ (l : List Fl) : ∀ (u : List Int) (e : Int) (i : Nat), i < l.length → i < u.length → ld (l.take (i + 1)) u e = ld (l.take i) u e + ((lkA l i).count e : Int) * u.getD i 0 := by
  induction l with
  | nil => intro u e i h; simp at h
  | cons f l ih =>
    intro u e i hi hu
    cases u with
    | nil => simp at hu
    | cons a u =>
      cases i with
      | zero => cases u <;> simp [ld, lkA]
      | succ i =>
        have := ih u e i (by simpa using hi) (by simpa using hu)
        have e1 : lkA (f :: l) (i + 1) = lkA l i := by simp [lkA]
        simp only [List.take_succ_cons, ld, this, e1, List.getD_cons_succ]
        omega
set_option maxRecDepth 100000 in
theorem ldt_mono {l : List Fl} {u : List Int} (e : Int) (hu : ∀ j, 0 ≤ u.getD j 0) (hl : l.length ≤ u.length) (i : Nat) : ∀ m, i + m ≤ l.length → ld (l.take i) u e ≤ ld (l.take (i + m)) u e := by
  intro m
  induction m with
  | zero => intro _; exact Int.le_refl _
  | succ m ih =>
    intro h
    have h1 := ih (by omega)
    rw [← Nat.add_assoc, ldt_succ l u e (i + m) (by omega) (by omega)]
    have h2 : 0 ≤ ((lkA l (i + m)).count e : Int) * u.getD (i + m) 0 := Int.mul_nonneg (by omega) (hu _)
    omega
/-- the load of a link behind some flows, and some links of the next -/
def ldT (l : List Fl) (u : List Int) (i k : Nat) (e : Int) : Int := ld (l.take i) u e + ((((lkA l i).take k).count e : Nat) : Int) * u.getD i 0
set_option maxRecDepth 100000 in
theorem ldT_zero (l : List Fl) (u : List Int) (e : Int) : ldT l u 0 0 e = 0 := by simp [ldT, ld]
set_option maxRecDepth 100000 in
theorem ldT_link {l : List Fl} {u : List Int} {i k : Nat} {e : Int} (hk : k < (lkA l i).length) : ldT l u i (k + 1) e = ldT l u i k e + if (lkA l i)[k] = e then u.getD i 0 else 0 := by
  unfold ldT
  rw [List.take_succ_eq_append_getElem hk, List.count_append, List.count_singleton]
  by_cases h : (lkA l i)[k] = e
  · rw [if_pos h, if_pos (beq_iff_eq.2 h), Int.natCast_add, Int.add_mul]; simp; omega
  · rw [if_neg h, if_neg (fun q => h (beq_iff_eq.1 q))]; simp
set_option maxRecDepth 100000 in
theorem ldT_next {l : List Fl} {u : List Int} {i : Nat} {e : Int} (hi : i < l.length) (hu : i < u.length) : ldT l u (i + 1) 0 e = ldT l u i (lkA l i).length e := by
  unfold ldT
  rw [ldt_succ _ _ _ _ hi hu, List.take_length]
  simp
set_option maxRecDepth 100000 in
theorem ldT_all (l : List Fl) (u : List Int) (e : Int) : ldT l u l.length 0 e = ld l u e := by
  unfold ldT
  rw [List.take_of_length_le (by omega)]; simp
set_option maxRecDepth 100000 in
theorem ldT_bd {l : List Fl} {u : List Int} {i k : Nat} (e : Int) (hu : ∀ j, 0 ≤ u.getD j 0) (hl : l.length ≤ u.length) (hi : i < l.length) : 0 ≤ ldT l u i k e ∧ ldT l u i k e ≤ ld l u e := by
  constructor
  · unfold ldT
    have h1 := ld_nonneg (l.take i) u e (fun j _ => hu j)
    have h2 : 0 ≤ ((((lkA l i).take k).count e : Nat) : Int) * u.getD i 0 := Int.mul_nonneg (by omega) (hu _)
    omega
  · have h1 := ldt_mono (l := l) e hu hl (i + 1) (l.length - (i + 1)) (by omega)
    have e1 : l.take (i + 1 + (l.length - (i + 1))) = l := List.take_of_length_le (by omega)
    rw [e1, ldt_succ _ _ _ _ (by omega) (by omega)] at h1
    unfold ldT
    have h3 : ((lkA l i).take k).count e ≤ (lkA l i).count e := List.Sublist.count_le _ (List.take_sublist _ _)
    have h4 : ((((lkA l i).take k).count e : Nat) : Int) * u.getD i 0 ≤ (((lkA l i).count e : Nat) : Int) * u.getD i 0 := Int.mul_le_mul_of_nonneg_right (by omega) (hu _)
    omega
/-- the loads of n links -/
def ldL (n : Nat) (l : List Fl) (u : List Int) (i k : Nat) : List Int := (List.range n).map fun c => ldT l u i k (c : Nat)
set_option maxRecDepth 100000 in
theorem ldL_len (n : Nat) (l : List Fl) (u : List Int) (i k : Nat) : (ldL n l u i k).length = n := by simp [ldL]
set_option maxRecDepth 100000 in
theorem ldL_get {n : Nat} {l : List Fl} {u : List Int} {i k c : Nat} (hc : c < n) : (ldL n l u i k)[c]'(by rw [ldL_len]; exact hc) = ldT l u i k (c : Nat) := by simp [ldL]
set_option maxRecDepth 100000 in
theorem ldL_zero (n : Nat) (l : List Fl) (u : List Int) : ldL n l u 0 0 = List.replicate n 0 := by
  apply List.ext_getElem
  · simp [ldL]
  · intro c h1 h2
    rw [ldL_get (by simpa using h2), ldT_zero]; simp
set_option maxRecDepth 100000 in
theorem ldL_link {n : Nat} {l : List Fl} {u : List Int} {i k t : Nat} (hk : k < (lkA l i).length) (ht : (lkA l i)[k] = (t : Nat)) (hn : t < n) (v : Int) (hv : v = ldT l u i k (t : Nat) + u.getD i 0) : (ldL n l u i k).set t v = ldL n l u i (k + 1) := by
  apply List.ext_getElem
  · simp [ldL]
  · intro c h1 h2
    rw [ldL_len] at h2
    rw [ldL_get h2, ldT_link hk, ht, List.getElem_set]
    by_cases e : t = c
    · subst e; rw [if_pos rfl, if_pos rfl, hv]
    · rw [if_neg e, if_neg (by omega), ldL_get h2]; simp
set_option maxRecDepth 100000 in
theorem ldL_next {n : Nat} {l : List Fl} {u : List Int} {i : Nat} (hi : i < l.length) (hu : i < u.length) : ldL n l u (i + 1) 0 = ldL n l u i (lkA l i).length := by
  unfold ldL
  congr 1
  funext c
  exact ldT_next hi hu
/-- the greatest units of the links: nothing, or what a flow on the link has -/
def MoI (n : Nat) (l : List Fl) (u : List Int) (mo : List Int) : Prop := mo.length = n ∧ ∀ c, c < n → mo.getD c 0 = 0 ∨ ∃ j, j < l.length ∧ (c : Int) ∈ lkA l j ∧ mo.getD c 0 = u.getD j 0
set_option maxRecDepth 100000 in
theorem MoI.zero (n : Nat) (l : List Fl) (u : List Int) : MoI n l u (List.replicate n 0) := ⟨by simp, fun c hc => .inl (by rw [getD_lt _ _ _ (by simpa using hc)]; simp)⟩
set_option maxRecDepth 100000 in
theorem MoI.put {n : Nat} {l : List Fl} {u mo : List Int} {i c : Nat} (h : MoI n l u mo) (hi : i < l.length) (hm : (c : Int) ∈ lkA l i) : MoI n l u (mo.set c (u.getD i 0)) := by
  refine ⟨by rw [List.length_set]; exact h.1, fun d hd => ?_⟩
  have hl := h.1
  rw [getD_lt _ _ _ (by rw [List.length_set]; omega), List.getElem_set]
  by_cases e : c = d
  · subst e; rw [if_pos rfl]; exact .inr ⟨i, hi, hm, rfl⟩
  · rw [if_neg e, ← getD_lt _ _ 0 (by omega)]; exact h.2 d hd
set_option maxRecDepth 100000 in
theorem MoI.le {n : Nat} {l : List Fl} {u mo : List Int} (h : MoI n l u mo) {c : Nat} (hc : c < n) {b : Int} (hb : 0 ≤ b) (hu : ∀ j, j < l.length → (c : Int) ∈ lkA l j → u.getD j 0 ≤ b) : mo.getD c 0 ≤ b := by
  rcases h.2 c hc with h1 | ⟨j, hj, hm, h1⟩
  · omega
  · rw [h1]; exact hu j hj hm
set_option maxRecDepth 100000 in
theorem MoI.bd {n : Nat} {l : List Fl} {u mo : List Int} (h : MoI n l u mo) {c : Nat} (hc : c < n) {b : Int} (hb : 0 ≤ b) (hu : ∀ j, j < l.length → 0 ≤ u.getD j 0 ∧ u.getD j 0 ≤ b) : 0 ≤ mo.getD c 0 ∧ mo.getD c 0 ≤ b := by
  rcases h.2 c hc with h1 | ⟨j, hj, _, h1⟩
  · omega
  · rw [h1]; exact hu j hj
end Go.Proofs.Ythdfflbhogfejaa
