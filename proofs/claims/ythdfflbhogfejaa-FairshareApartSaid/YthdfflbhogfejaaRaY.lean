/- The rates of scaled, of turned and of joined flows. No program in sight. -/
import Derived.Test.YthdfflbhogfejaaFhB
namespace Go.Proofs.Ythdfflbhogfejaa

set_option maxRecDepth 100000 in
theorem sumTo_mul (g : Nat → Rat) (b : Rat) (n : Nat) : sumTo (fun i => g i * b) n = sumTo g n * b := by
  induction n with
  | zero => rw [sumTo, sumTo]; grind
  | succ n ih => rw [sumTo, sumTo, ih]; grind
set_option maxRecDepth 100000 in
theorem getD_mul (r : List Rat) (b : Rat) (i : Nat) : (r.map (· * b)).getD i 0 = r.getD i 0 * b := by
  rcases Nat.lt_or_ge i r.length with h | h
  · rw [getD_lt _ _ _ (by simpa using h), getD_lt _ _ _ h]; simp
  · rw [getD_ge _ _ _ (by simpa using h), getD_ge _ _ _ h]; grind
set_option maxRecDepth 100000 in
theorem mul_cancel_le {p q b : Rat} (hb : 0 < b) (h : p ≤ q) : p * b ≤ q * b := Rat.mul_le_mul_of_nonneg_right h (Rat.le_of_lt hb)
set_option maxRecDepth 100000 in
/-- all capacities and limits so many times -/
theorem Cert.scale {cp cp' : Int → Int} {l l' : List Fl} {n : Nat} {r : List Rat} {b : Int} (hb : 0 < b) (hlen : l'.length = l.length) (hlk : ∀ i, i < l.length → lkA l' i = lkA l i) (hlm : ∀ i, i < l.length → lmA l' i = b * lmA l i) (hcp : ∀ k : Int, 0 ≤ k → k < n → cp' k = b * cp k)
    (hr : ∀ i, i < l.length → ∀ k ∈ lkA l i, 0 ≤ k ∧ k < n) (h : Cert cp l n r) : Cert cp' l' n (r.map (· * (b : Rat))) := by
  have hb' : (0 : Rat) < (b : Rat) := by exact_mod_cast hb
  have hld : ∀ k, ldq l' (r.map (· * (b : Rat))) k = ldq l r k * (b : Rat) := fun k => by
    rw [ldq, ldq, hlen, ← sumTo_mul]
    refine sumTo_congr fun i hi => ?_
    rw [tk, tk, hlk i hi, getD_mul]
    split
    · rfl
    · grind
  refine ⟨by rw [List.length_map, hlen]; exact h.lo, fun i hi => ?_, fun k hk => ?_, fun i hi => ?_⟩
  · rw [hlen] at hi
    have h1 := h.nn i hi
    have h2 := mul_cancel_le hb' h1.1
    have h3 := mul_cancel_le hb' h1.2
    rw [getD_mul, hlm i hi, Rat.intCast_mul]
    grind
  · have h1 := mul_cancel_le hb' (h.cap k hk)
    rw [hld, hcp _ (by omega) (by omega), Rat.intCast_mul]
    grind
  · rw [hlen] at hi
    rw [getD_mul, hlm i hi, Rat.intCast_mul, hlk i hi]
    rcases h.held i hi with h1 | ⟨k, hk, h1, h2⟩
    · exact .inl (by rw [h1]; grind)
    · refine .inr ⟨k, hk, ?_, fun j hj hkj => ?_⟩
      · rw [hld, h1, hcp k (hr i hi k hk).1 (hr i hi k hk).2, Rat.intCast_mul]; grind
      · rw [hlen] at hj
        rw [hlk j hj] at hkj
        rw [getD_mul]
        exact mul_cancel_le hb' (h2 j hj hkj)
set_option maxRecDepth 100000 in
theorem sumTo_append (g : Nat → Rat) (m : Nat) : ∀ n, sumTo g (m + n) = sumTo g m + sumTo (fun i => g (m + i)) n := by
  intro n
  induction n with
  | zero => rw [Nat.add_zero, sumTo]; grind
  | succ n ih => rw [← Nat.add_assoc, sumTo, ih, sumTo]; grind
set_option maxRecDepth 100000 in
theorem lkA_left {a b : List Fl} {i : Nat} (h : i < a.length) : lkA (a ++ b) i = lkA a i ∧ lmA (a ++ b) i = lmA a i := by
  rw [lkA, lkA, lmA, lmA, getD_app _ _ _ _ h]; exact ⟨rfl, rfl⟩
set_option maxRecDepth 100000 in
theorem getD_right {α : Type} (xs ys : List α) (i : Nat) (d : α) : (xs ++ ys).getD (xs.length + i) d = ys.getD i d := by
  rw [List.getD_eq_getElem?_getD, List.getD_eq_getElem?_getD, List.getElem?_append_right (by omega)]
  congr 2; omega
set_option maxRecDepth 100000 in
theorem lkA_right (a b : List Fl) (i : Nat) : lkA (a ++ b) (a.length + i) = lkA b i ∧ lmA (a ++ b) (a.length + i) = lmA b i := by
  rw [lkA, lkA, lmA, lmA, getD_right]; exact ⟨rfl, rfl⟩
set_option maxRecDepth 100000 in
theorem ldq_append {a b : List Fl} {r t : List Rat} (h : r.length = a.length) (k : Int) : ldq (a ++ b) (r ++ t) k = ldq a r k + ldq b t k := by
  rw [ldq, List.length_append, sumTo_append, ldq, ldq]
  congr 1
  · refine sumTo_congr fun i hi => ?_
    rw [tk, tk, (lkA_left hi).1, getD_app _ _ _ _ (by omega)]
  · refine sumTo_congr fun i hi => ?_
    rw [tk, tk, (lkA_right a b i).1, ← h, getD_right]
set_option maxRecDepth 100000 in
/-- the order of the flows does not matter -/
theorem Cert.turn {cp : Int → Int} {a b : List Fl} {n : Nat} {r t : List Rat} (hr : r.length = a.length) (ht : t.length = b.length) (h : Cert cp (a ++ b) n (r ++ t)) : Cert cp (b ++ a) n (t ++ r) := by
  have hld : ∀ k, ldq (b ++ a) (t ++ r) k = ldq (a ++ b) (r ++ t) k := fun k => by rw [ldq_append hr, ldq_append ht, Rat.add_comm]
  have key : ∀ i, i < (b ++ a).length → ∃ j, j < (a ++ b).length ∧ lkA (b ++ a) i = lkA (a ++ b) j ∧ lmA (b ++ a) i = lmA (a ++ b) j ∧ (t ++ r).getD i 0 = (r ++ t).getD j 0 := fun i hi => by
    rw [List.length_append] at hi
    rcases Nat.lt_or_ge i b.length with h1 | h1
    · exact ⟨a.length + i, by rw [List.length_append]; omega, by rw [(lkA_left h1).1, (lkA_right a b i).1], by rw [(lkA_left h1).2, (lkA_right a b i).2], by rw [getD_app _ _ _ _ (by omega), ← hr, getD_right]⟩
    · obtain ⟨j, rfl⟩ : ∃ j, i = b.length + j := ⟨i - b.length, by omega⟩
      have hj : j < a.length := by omega
      exact ⟨j, by rw [List.length_append]; omega, by rw [(lkA_right b a j).1, (lkA_left hj).1], by rw [(lkA_right b a j).2, (lkA_left hj).2], by rw [← ht, getD_right, getD_app _ _ _ _ (by omega)]⟩
  refine ⟨by rw [List.length_append, List.length_append, hr, ht], fun i hi => ?_, fun k hk => by rw [hld]; exact h.cap k hk, fun i hi => ?_⟩
  · obtain ⟨j, hj, e1, e2, e3⟩ := key i hi
    rw [e2, e3]; exact h.nn j hj
  · obtain ⟨j, hj, e1, e2, e3⟩ := key i hi
    rw [e1, e2, e3]
    rcases h.held j hj with h1 | ⟨k, hk, h1, h2⟩
    · exact .inl h1
    · refine .inr ⟨k, hk, by rw [hld]; exact h1, fun m hm hkm => ?_⟩
      obtain ⟨m', hm', f1, f2, f3⟩ := key m hm
      rw [f3]
      exact h2 m' hm' (by rw [← f1]; exact hkm)
end Go.Proofs.Ythdfflbhogfejaa
