/- On one link the units differ from the rates by less than one. No program in sight. -/
import Derived.Test.YthdfflbhogfejaaFhB
namespace Go.Proofs.Ythdfflbhogfejaa

set_option maxRecDepth 100000 in
theorem sumTo_shift (g : Nat → Rat) (n : Nat) : sumTo g (n + 1) = g 0 + sumTo (fun i => g (i + 1)) n := by
  induction n with
  | zero => rw [sumTo, sumTo, sumTo]; grind
  | succ n ih => rw [sumTo, ih, sumTo]; grind
set_option maxRecDepth 100000 in
theorem ld_sum (l : List Fl) : ∀ (o : List Int) (e : Int), o.length = l.length → ((ld l o e : Int) : Rat) = sumTo (fun i => (((lkA l i).count e : Nat) : Rat) * ((o.getD i 0 : Int) : Rat)) l.length := by
  induction l with
  | nil => intro o e _; simp [ld, sumTo]
  | cons f l ih =>
    intro o e h
    cases o with
    | nil => simp at h
    | cons a o =>
      have h1 := ih o e (by simpa using h)
      rw [List.length_cons, sumTo_shift, ld, Rat.intCast_add, Rat.intCast_mul, h1]
      rfl
set_option maxRecDepth 100000 in
/-- a list that is somewhere greater and nowhere less has the greater sum -/
theorem one_close {cp : Int → Int} {l : List Fl} (hr : OkR cp l 1) (hu : okFl cp l) (hl : ∀ i, i < l.length → lkA l i = [0]) {i : Nat} (hi : i < l.length) :
    ((((unitsM cp l).getD i 0 - 1 : Int) : Rat) < (ratesM cp l 1).getD i 0) ∧ (ratesM cp l 1).getD i 0 < (((unitsM cp l).getD i 0 + 1 : Int) : Rat) := by
  have hc := ratesM_cert hr
  have hU : ((ld l (unitsM cp l) 0 : Int) : Rat) = sumTo (fun i => (((unitsM cp l).getD i 0 : Int) : Rat)) l.length := by
    rw [ld_sum _ _ _ (unitsM_len _ _)]
    refine sumTo_congr fun j hj => ?_
    rw [hl j hj]
    show (((1 : Nat)) : Rat) * _ = _
    have : ((1 : Nat) : Rat) = 1 := rfl
    rw [this, Rat.one_mul]
  have hR : ldq l (ratesM cp l 1) 0 = sumTo (fun i => (ratesM cp l 1).getD i 0) l.length := sumTo_congr fun j hj => by
    rw [tk, if_pos (by rw [hl j hj]; simp)]
  have hcapU : ld l (unitsM cp l) 0 ≤ cp 0 := unitsM_cap hu i hi 0 (by rw [hl i hi]; simp)
  have hcapR : ldq l (ratesM cp l 1) 0 ≤ (cp 0 : Rat) := by have := hc.cap 0 (by omega); simpa using this
  have hcapU' : ((ld l (unitsM cp l) 0 : Int) : Rat) ≤ (cp 0 : Rat) := by exact_mod_cast hcapU
  have bU : ∀ j, j < l.length → (((unitsM cp l).getD j 0 : Int) : Rat) ≤ (lmA l j : Rat) := fun j hj => by exact_mod_cast (unitsM_bd hu j hj).2
  constructor
  · by_cases hlt : (((unitsM cp l).getD i 0 - 1 : Int) : Rat) < (ratesM cp l 1).getD i 0
    · exact hlt
    · exfalso
      have e1 : (ratesM cp l 1).getD i 0 ≤ (((unitsM cp l).getD i 0 : Int) : Rat) - 1 := by
        rw [Rat.intCast_sub] at hlt
        have : ((1 : Int) : Rat) = 1 := rfl
        grind
      have e2 := bU i hi
      rcases hc.held i hi with h1 | ⟨k, hk, h1, h2⟩
      · grind
      · obtain rfl : k = 0 := by rw [hl i hi] at hk; simpa using hk
        have hall : ∀ j, j < l.length → (ratesM cp l 1).getD j 0 ≤ (((unitsM cp l).getD j 0 : Int) : Rat) := fun j hj => by
          have h3 := h2 j hj (by rw [hl j hj]; simp)
          rcases unitsM_held hu j hj with h4 | ⟨e, he, _, h5⟩
          · have h6 := (hc.nn j hj).2
            have h7 : (((unitsM cp l).getD j 0 : Int) : Rat) = (lmA l j : Rat) := by rw [h4]
            grind
          · have h6 := h5 i hi (by rw [hl j hj] at he; rw [hl i hi]; exact he)
            have h7 : (((unitsM cp l).getD i 0 : Int) : Rat) ≤ (((unitsM cp l).getD j 0 + 1 : Int) : Rat) := by exact_mod_cast h6
            rw [Rat.intCast_add] at h7
            have : ((1 : Int) : Rat) = 1 := rfl
            grind
        have h8 := sumTo_lt hall i hi (by grind)
        rw [← hR, ← hU, h1] at h8
        grind
  · by_cases hlt : (ratesM cp l 1).getD i 0 < (((unitsM cp l).getD i 0 + 1 : Int) : Rat)
    · exact hlt
    · exfalso
      have e1 : (((unitsM cp l).getD i 0 : Int) : Rat) + 1 ≤ (ratesM cp l 1).getD i 0 := by
        rw [Rat.intCast_add] at hlt
        have : ((1 : Int) : Rat) = 1 := rfl
        grind
      have e2 := (hc.nn i hi).2
      rcases unitsM_held hu i hi with h1 | ⟨e, he, h1, h2⟩
      · have h7 : (((unitsM cp l).getD i 0 : Int) : Rat) = (lmA l i : Rat) := by rw [h1]
        grind
      · obtain rfl : e = 0 := by rw [hl i hi] at he; simpa using he
        have hall : ∀ j, j < l.length → (((unitsM cp l).getD j 0 : Int) : Rat) ≤ (ratesM cp l 1).getD j 0 := fun j hj => by
          have h3 := h2 j hj (by rw [hl j hj]; simp)
          have h3' : (((unitsM cp l).getD j 0 : Int) : Rat) ≤ (((unitsM cp l).getD i 0 + 1 : Int) : Rat) := by exact_mod_cast h3
          rw [Rat.intCast_add] at h3'
          have : ((1 : Int) : Rat) = 1 := rfl
          rcases hc.held j hj with h4 | ⟨k, hk, _, h5⟩
          · have := bU j hj
            grind
          · have h6 := h5 i hi (by rw [hl j hj] at hk; rw [hl i hi]; exact hk)
            grind
        have h8 := sumTo_lt hall i hi (by grind)
        rw [← hR, ← hU] at h8
        have h9 : ((ld l (unitsM cp l) 0 : Int) : Rat) = (cp 0 : Rat) := by rw [h1]
        grind
end Go.Proofs.Ythdfflbhogfejaa
