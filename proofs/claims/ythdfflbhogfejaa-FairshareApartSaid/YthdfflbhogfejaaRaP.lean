/- The load of a link, with the error that an addition may give; what limits a flow. No program in sight. -/
import Derived.Test.YthdfflbhogfejaaFhB
namespace Go.Proofs.Ythdfflbhogfejaa

/-- what Sum reckons, as rational numbers -/
def sumE : List Rat → Rat → Option Rat
  | [], q => some q
  | x :: xs, q => if bigQ (q + x) then none else sumE xs (q + x)
def addE (r x : Rat) : Option Rat := if bigQ (r + x) then none else some (r + x)
set_option maxRecDepth 100000 in
theorem sumE_snoc (xs : List Rat) (x : Rat) : ∀ q, sumE (xs ++ [x]) q = (sumE xs q).bind (fun r => addE r x) := by
  induction xs with
  | nil => intro q; simp only [List.nil_append, sumE, Option.bind_some, addE]
  | cons y xs ih =>
    intro q
    rw [List.cons_append, sumE, sumE]
    split
    · rfl
    · exact ih _
def eS : Option Rat → Bool × List Nat × List Nat × Int
  | some r => okS r
  | none => errF 2
set_option maxRecDepth 100000 in
theorem sumS_E {vs : List Fx} (h : ∀ v ∈ vs, v.v) : ∀ q, sumS vs q = eS (sumE (vs.map Fx.q) q) := by
  induction vs with
  | nil => intro q; rfl
  | cons v vs ih =>
    intro q
    rw [sumS, if_pos (h v (by simp)), List.map_cons, sumE]
    split
    · rfl
    · exact ih (fun u hu => h u (by simp [hu])) _
/-- the load of a link, from the first flows -/
def loadE (l : List Fl) (R : List Rat) (link : Int) : Nat → Option Rat
  | 0 => some 0
  | i + 1 => if link ∈ lkA l i then (loadE l R link i).bind (fun r => addE r (R.getD i 0)) else loadE l R link i
set_option maxRecDepth 100000 in
theorem map_q_getD (vs : List Fx) {i : Nat} (h : i < vs.length) : (vs.map Fx.q).getD i 0 = vs[i].q := by
  rw [getD_lt _ _ _ (by simpa using h)]; simp
set_option maxRecDepth 100000 in
theorem loadE_used {l : List Fl} {vs : List Fx} {link : Int} : ∀ i, i ≤ vs.length → sumE ((usedL l vs link i).map Fx.q) 0 = loadE l (vs.map Fx.q) link i := by
  intro i
  induction i with
  | zero => intro _; rfl
  | succ i ih =>
    intro hi
    rw [usedL, loadE]
    split
    · rw [List.map_append, List.map_cons, List.map_nil, sumE_snoc, ih (by omega), map_q_getD vs (by omega), List.getD_eq_getElem?_getD, List.getElem?_eq_getElem (by omega)]; rfl
    · exact ih (by omega)
set_option maxRecDepth 100000 in
theorem usedL_v {l : List Fl} {vs : List Fx} {link : Int} (h : ∀ v ∈ vs, v.v) : ∀ i, i ≤ vs.length → ∀ v ∈ usedL l vs link i, v.v := by
  intro i
  induction i with
  | zero => intro _ v hv; cases hv
  | succ i ih =>
    intro hi
    rw [usedL]
    split
    · intro v hv
      rcases List.mem_append.1 hv with h2 | h2
      · exact ih (by omega) v h2
      · obtain rfl : v = vs.getD i Fx.nil := by simpa using h2
        rw [List.getD_eq_getElem?_getD, List.getElem?_eq_getElem (by omega)]
        exact h _ (List.getElem_mem _)
    · exact ih (by omega)
set_option maxRecDepth 100000 in
theorem load_spec {l : List Fl} {vs : List Fx} {link : Int} (h : ∀ v ∈ vs, v.v) (hl : vs.length = l.length) : sumS (usedL l vs link l.length) 0 = eS (loadE l (vs.map Fx.q) link l.length) := by
  rw [sumS_E (usedL_v h _ (by omega)), loadE_used _ (by omega)]
set_option maxRecDepth 100000 in
theorem loadE_val {l : List Fl} {R : List Rat} {link : Int} : ∀ i r, loadE l R link i = some r → r = sumTo (tk l R link) i := by
  intro i
  induction i with
  | zero => intro r h; cases h; rfl
  | succ i ih =>
    intro r h
    rw [loadE] at h
    rw [sumTo, tk]
    by_cases hm : link ∈ lkA l i
    · rw [if_pos hm] at h ⊢
      cases hx : loadE l R link i with
      | none => rw [hx] at h; cases h
      | some x =>
        rw [hx] at h
        replace h : addE x (R.getD i 0) = some r := h
        rw [addE] at h
        split at h
        · cases h
        · cases h; rw [ih x hx]
    · rw [if_neg hm] at h ⊢
      rw [← ih r h]; grind
set_option maxRecDepth 100000 in
theorem loadE_ok {l : List Fl} {R : List Rat} {link : Int} : ∀ i, (∀ m, m ≤ i → ¬ bigQ (sumTo (tk l R link) m)) → loadE l R link i = some (sumTo (tk l R link) i) := by
  intro i
  induction i with
  | zero => intro _; rfl
  | succ i ih =>
    intro h
    have h1 := ih (fun m hm => h m (by omega))
    have h2 := h (i + 1) (Nat.le_refl _)
    rw [sumTo, tk] at h2
    rw [loadE, sumTo, tk]
    by_cases hm : link ∈ lkA l i
    · rw [if_pos hm] at h2 ⊢
      rw [if_pos hm, h1]
      exact if_neg h2
    · rw [if_neg hm, if_neg hm, h1]; congr 1; grind
set_option maxRecDepth 100000 in
theorem big_zero : ¬ bigQ (0 : Rat) := by
  have h1 : (lim (0 : Rat).num.natAbs).length ≤ 128 := sz_zero.1
  have h2 : (lim (0 : Rat).den).length ≤ 128 := sz_zero.2
  rw [bigQ]; omega
set_option maxRecDepth 100000 in
theorem loadE_big {l : List Fl} {R : List Rat} {link : Int} : ∀ i r, loadE l R link i = some r → ¬ bigQ r := by
  intro i
  induction i with
  | zero => intro r h; cases h; exact big_zero
  | succ i ih =>
    intro r h
    rw [loadE] at h
    by_cases hm : link ∈ lkA l i
    · rw [if_pos hm] at h
      cases hx : loadE l R link i with
      | none => rw [hx] at h; cases h
      | some x =>
        rw [hx] at h
        replace h : addE x (R.getD i 0) = some r := h
        rw [addE] at h
        split at h
        · cases h
        · rename_i hb; cases h; exact hb
    · rw [if_neg hm] at h
      exact ih r h
/-- a link limits a flow: it is full, and nobody on it has more -/
def limP (cp : Int → Int) (l : List Fl) (R : List Rat) (link : Int) (i : Nat) : Prop := loadE l R link l.length = some (cp link : Rat) ∧ ∀ k, k < l.length → link ∈ lkA l k → R.getD k 0 ≤ R.getD i 0
instance (cp : Int → Int) (l : List Fl) (R : List Rat) (link : Int) (i : Nat) : Decidable (limP cp l R link i) := inferInstanceAs (Decidable (_ ∧ _))
end Go.Proofs.Ythdfflbhogfejaa
