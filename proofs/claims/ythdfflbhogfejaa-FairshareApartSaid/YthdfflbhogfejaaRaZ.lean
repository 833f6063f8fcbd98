/- The rates of flows on links apart. No program in sight. -/
import Derived.Test.YthdfflbhogfejaaRaY
namespace Go.Proofs.Ythdfflbhogfejaa

set_option maxRecDepth 100000 in
theorem ldq_none {l : List Fl} {r : List Rat} {k : Int} (h : ∀ i, i < l.length → k ∉ lkA l i) : ldq l r k = 0 :=
  sumTo_zero fun i hi => by rw [tk, if_neg (h i hi)]
set_option maxRecDepth 100000 in
theorem ldq_shift {l l' : List Fl} {r : List Rat} {N : Nat} (hlen : l'.length = l.length) (hlk : ∀ i, i < l.length → lkA l' i = (lkA l i).map (· + (N : Int))) (k : Int) : ldq l' r (k + N) = ldq l r k := by
  rw [ldq, ldq, hlen]
  refine sumTo_congr fun i hi => ?_
  rw [tk, tk, hlk i hi]
  have e : k + (N : Int) ∈ (lkA l i).map (· + (N : Int)) ↔ k ∈ lkA l i := by
    rw [List.mem_map]
    constructor
    · rintro ⟨x, hx, e⟩
      obtain rfl : x = k := by omega
      exact hx
    · intro h; exact ⟨k, h, rfl⟩
  by_cases h : k ∈ lkA l i
  · rw [if_pos h, if_pos (e.2 h)]
  · rw [if_neg h, if_neg (fun x => h (e.1 x))]
set_option maxRecDepth 100000 in
theorem Cert.apart {ca cb cp : Int → Int} {l m m' : List Fl} {na nb : Nat} {x y : List Rat} (hl : ∀ i, i < l.length → ∀ k ∈ lkA l i, 0 ≤ k ∧ k < na) (hm : ∀ i, i < m.length → ∀ k ∈ lkA m i, 0 ≤ k ∧ k < nb)
    (hlen : m'.length = m.length) (hlk : ∀ i, i < m.length → lkA m' i = (lkA m i).map (· + (na : Int))) (hlm : ∀ i, i < m.length → lmA m' i = lmA m i) (h1 : ∀ k : Int, 0 ≤ k → k < na → cp k = ca k) (h2 : ∀ k : Int, 0 ≤ k → k < nb → cp (k + na) = cb k)
    (hx : Cert ca l na x) (hy : Cert cb m nb y) : Cert cp (m' ++ l) (na + nb) (y ++ x) := by
  have ly : y.length = m'.length := by rw [hy.lo, hlen]
  -- a link of l is used by l alone, a link of m by m' alone
  have nm : ∀ k : Int, k < na → ∀ i, i < m'.length → k ∉ lkA m' i := fun k hk i hi he => by
    rw [hlen] at hi
    rw [hlk i hi, List.mem_map] at he
    obtain ⟨z, hz, rfl⟩ := he
    have := hm i hi z hz
    omega
  have nl : ∀ k : Int, (na : Int) ≤ k → ∀ i, i < l.length → k ∉ lkA l i := fun k hk i hi he => by
    have := hl i hi k he
    omega
  have l1 : ∀ k : Int, k < na → ldq (m' ++ l) (y ++ x) k = ldq l x k := fun k hk => by rw [ldq_append ly, ldq_none (nm k hk)]; grind
  have l2 : ∀ k : Int, 0 ≤ k → ldq (m' ++ l) (y ++ x) (k + na) = ldq m y k := fun k hk => by rw [ldq_append ly, ldq_none (nl (k + na) (by omega)), ldq_shift hlen hlk]; grind
  refine ⟨by rw [List.length_append, List.length_append, ly, hx.lo], fun i hi => ?_, fun k hk => ?_, fun i hi => ?_⟩
  · rw [List.length_append] at hi
    rcases Nat.lt_or_ge i m'.length with h | h
    · rw [getD_app _ _ _ _ (by omega), (lkA_left h).2, hlm i (by omega)]; exact hy.nn i (by omega)
    · obtain ⟨j, rfl⟩ : ∃ j, i = m'.length + j := ⟨i - m'.length, by omega⟩
      rw [(lkA_right m' l j).2, ← ly, getD_right]; exact hx.nn j (by omega)
  · rcases Nat.lt_or_ge k na with h | h
    · rw [l1 _ (by omega), h1 _ (by omega) (by omega)]; exact hx.cap k h
    · have e : (k : Int) = ((k - na : Nat) : Int) + (na : Int) := by omega
      rw [e, l2 _ (by omega), h2 _ (by omega) (by omega)]; exact hy.cap _ (by omega)
  · rw [List.length_append] at hi
    rcases Nat.lt_or_ge i m'.length with h | h
    · have him : i < m.length := by omega
      rw [getD_app _ _ _ _ (by omega), (lkA_left h).1, (lkA_left h).2, hlm i him]
      rcases hy.held i him with q | ⟨k, hk, q1, q2⟩
      · exact .inl q
      · have hb := hm i him k hk
        refine .inr ⟨k + na, ?_, by rw [l2 k hb.1, q1, h2 k hb.1 hb.2], fun j hj hkj => ?_⟩
        · rw [hlk i him, List.mem_map]; exact ⟨k, hk, rfl⟩
        · rw [List.length_append] at hj
          rcases Nat.lt_or_ge j m'.length with g | g
          · have hjm : j < m.length := by omega
            rw [(lkA_left g).1, hlk j hjm, List.mem_map] at hkj
            obtain ⟨z, hz, e⟩ := hkj
            obtain rfl : z = k := by omega
            rw [getD_app _ _ _ _ (by omega)]
            exact q2 j hjm hz
          · obtain ⟨t, rfl⟩ : ∃ t, j = m'.length + t := ⟨j - m'.length, by omega⟩
            rw [(lkA_right m' l t).1] at hkj
            exact absurd hkj (nl (k + na) (by omega) t (by omega))
    · obtain ⟨j, rfl⟩ : ∃ j, i = m'.length + j := ⟨i - m'.length, by omega⟩
      have hjl : j < l.length := by omega
      rw [(lkA_right m' l j).1, (lkA_right m' l j).2]
      rw [show (y ++ x).getD (m'.length + j) 0 = x.getD j 0 from by rw [← ly, getD_right]]
      rcases hx.held j hjl with q | ⟨k, hk, q1, q2⟩
      · exact .inl q
      · have hb := hl j hjl k hk
        refine .inr ⟨k, hk, by rw [l1 k hb.2, q1, h1 k hb.1 hb.2], fun t ht hkt => ?_⟩
        rw [List.length_append] at ht
        rcases Nat.lt_or_ge t m'.length with g | g
        · rw [(lkA_left g).1] at hkt
          exact absurd hkt (nm k hb.2 t g)
        · obtain ⟨u, rfl⟩ : ∃ u, t = m'.length + u := ⟨t - m'.length, by omega⟩
          rw [(lkA_right m' l u).1] at hkt
          rw [← ly, getD_right]
          exact q2 u (by omega) hkt
end Go.Proofs.Ythdfflbhogfejaa
