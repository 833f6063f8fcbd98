/- Words for the laws of interval. Intervals of rational numbers: what the laws without the reference say. No program in sight. -/
import Derived.Test.YtlcolmifmhdboaaIvAw
namespace Go.Proofs.Ytlcolmifmhdboaa
open Go.RowKit

def icells : List Ix → List Value
  | [] => []
  | v :: vs => .bool v.lo.b :: .slice v.lo.A v.lo.xs.length v.lo.c :: .slice v.lo.D v.lo.ys.length v.lo.d :: .bool v.hi.b :: .slice v.hi.A v.hi.xs.length v.hi.c :: .slice v.hi.D v.hi.ys.length v.hi.d :: icells vs
set_option maxRecDepth 100000 in
theorem icells_get (vs : List Ix) : ∀ k (hk : k < vs.length), (icells vs)[k * 6]? = some (.bool vs[k].lo.b) ∧ (icells vs)[k * 6 + 1]? = some (.slice vs[k].lo.A vs[k].lo.xs.length vs[k].lo.c) ∧ (icells vs)[k * 6 + 2]? = some (.slice vs[k].lo.D vs[k].lo.ys.length vs[k].lo.d) ∧ (icells vs)[k * 6 + 3]? = some (.bool vs[k].hi.b) ∧ (icells vs)[k * 6 + 4]? = some (.slice vs[k].hi.A vs[k].hi.xs.length vs[k].hi.c) ∧ (icells vs)[k * 6 + 5]? = some (.slice vs[k].hi.D vs[k].hi.ys.length vs[k].hi.d) := by
  induction vs with
  | nil => intro k hk; simp at hk
  | cons v vs ih =>
    intro k hk
    cases k with
    | zero => exact ⟨rfl, rfl, rfl, rfl, rfl, rfl⟩
    | succ k =>
      have h := ih k (by simpa using hk)
      have e : (k + 1) * 6 = k * 6 + 1 + 1 + 1 + 1 + 1 + 1 := by omega
      rw [icells, e]
      simp only [List.getElem?_cons_succ, List.getElem_cons_succ]
      exact h
set_option maxRecDepth 100000 in
theorem rdi_lit (w : World) (vs : List Ix) : RdI (w.alloc (.cells (icells vs).toArray 41)) (some ⟨w.heap.size, 0, none⟩) vs := fun _ => by
  refine ⟨_, rfl, by simp, fun k hk => ?_⟩
  obtain ⟨h0, h1, h2, h3, h4, h5⟩ := icells_get vs k hk
  have hb := Blk.cell (blk_alloc w (icells vs).toArray 41)
  rw [add_mk]
  refine ⟨?_, ?_, ?_, ?_, ?_, ?_⟩
  · rw [hb]; simpa using h0
  · rw [hb]; simpa using h1
  · rw [hb]; simpa using h2
  · rw [hb]; simpa using h3
  · rw [hb]; simpa using h4
  · rw [hb]; simpa using h5
set_option maxRecDepth 100000 in
theorem lens2 {w : World} {x y : Ix} (h : x.ok w) (k : y.ok w) : ∀ v ∈ [x, y], v.len := fun v hv => by
  simp only [List.mem_cons, List.not_mem_nil, or_false] at hv
  rcases hv with rfl | rfl
  · exact h.len
  · exact k.len
set_option maxRecDepth 100000 in
theorem lens1 {w : World} {x : Ix} (h : x.ok w) : ∀ v ∈ [x], v.len := fun v hv => by
  simp only [List.mem_cons, List.not_mem_nil, or_false] at hv
  subst hv
  exact h.len
section
variable {w : World} {G H : Nat} {a b : Ix} {x : Fx} {v0 v1 v2 v3 v4 v5 : Value}
set_option maxRecDepth 100000 in
theorem Ia.put6 {z : Ix} (h : Ia w G a) (hz : z.ok w) : Ia (set6 w G (.bool z.lo.b) (.slice z.lo.A z.lo.xs.length z.lo.c) (.slice z.lo.D z.lo.ys.length z.lo.d) (.bool z.hi.b) (.slice z.hi.A z.hi.xs.length z.hi.c) (.slice z.hi.D z.hi.ys.length z.hi.d)) G z :=
  ⟨set6_blk h.bk rfl, ⟨set6_ok hz.lo h.bk (noInt_i a), set6_ok hz.hi h.bk (noInt_i a)⟩⟩
set_option maxRecDepth 100000 in
theorem Blk.far6 {arr : Array Value} (h : Blk w G arr) (hne : H ≠ G) : Blk (set6 w H v0 v1 v2 v3 v4 v5) G arr :=
  (((((h.far (p := ⟨H, 0, none⟩) hne v0).far (p := ⟨H, 1, none⟩) hne v1).far (p := ⟨H, 2, none⟩) hne v2).far (p := ⟨H, 3, none⟩) hne v3).far (p := ⟨H, 4, none⟩) hne v4).far (p := ⟨H, 5, none⟩) hne v5
set_option maxRecDepth 100000 in
theorem Ia.far6 (h : Ia w G a) (k : Ia w H b) (hne : H ≠ G) : Ia (set6 w H v0 v1 v2 v3 v4 v5) G a :=
  ⟨h.bk.far6 hne, ⟨set6_ok h.ok.lo k.bk (noInt_i b), set6_ok h.ok.hi k.bk (noInt_i b)⟩⟩
set_option maxRecDepth 100000 in
theorem Fa.far6 (h : Fa w G x) (k : Ia w H b) (hne : H ≠ G) : Fa (set6 w H v0 v1 v2 v3 v4 v5) G x := by
  refine ⟨?_, set6_ok h.ok k.bk (noInt_i b)⟩
  have hg : (set6 w H v0 v1 v2 v3 v4 v5).heap[G]? = w.heap[G]? := by
    rw [set6, heap_setCell_other _ _ _ _ (by exact fun e => hne e.symm), heap_setCell_other _ _ _ _ (by exact fun e => hne e.symm), heap_setCell_other _ _ _ _ (by exact fun e => hne e.symm), heap_setCell_other _ _ _ _ (by exact fun e => hne e.symm), heap_setCell_other _ _ _ _ (by exact fun e => hne e.symm), heap_setCell_other _ _ _ _ (by exact fun e => hne e.symm)]
  have hc : ∀ o, (set6 w H v0 v1 v2 v3 v4 v5).cell? ⟨G, o, none⟩ = w.cell? ⟨G, o, none⟩ := fun o => by unfold World.cell?; rw [hg]
  have hf : ∀ o, (set6 w H v0 v1 v2 v3 v4 v5).frozen? ⟨G, o, none⟩ = w.frozen? ⟨G, o, none⟩ := fun o => by unfold World.frozen?; rw [hg]
  have b := h.bk
  exact ⟨(hc 0).trans b.c0, (hc 1).trans b.c1, (hc 2).trans b.c2, (hf 0).trans b.f0, (hf 1).trans b.f1, (hf 2).trans b.f2, by simp [World.setCell]; exact b.lt, by rw [hg]; exact b.blk⟩
end
/-- at most twelve limbs -/
structure Tw (a : Ix) : Prop where
  a1 : a.lo.xs.length ≤ 12
  a2 : a.lo.ys.length ≤ 12
  a3 : a.hi.xs.length ≤ 12
  a4 : a.hi.ys.length ≤ 12
set_option maxRecDepth 100000 in
theorem Tw.of {a : Ix} (h : longA a = false) : Tw a := by
  simp only [longA, Bool.or_eq_false_iff, decide_eq_false_iff_not, Nat.not_lt] at h
  exact ⟨h.1.1.1, h.1.1.2, h.1.2, h.2⟩
set_option maxRecDepth 100000 in
theorem Tw.few {a : Ix} (h : Tw a) : a.few := ⟨by have := h.a1; omega, by have := h.a2; omega, by have := h.a3; omega, by have := h.a4; omega⟩
set_option maxRecDepth 100000 in
theorem Tw.sh {w : World} {a : Ix} (h : Tw a) (ok : a.ok w) (hv : a.v) : Sh a :=
  ⟨hv, Sz.of_v hv.1 h.a1 h.a2 ok.lo.num.u ok.lo.den.u, Sz.of_v hv.2.1 h.a3 h.a4 ok.hi.num.u ok.hi.den.u⟩
set_option maxRecDepth 100000 in
theorem longI_all {vs : List Ix} (h : longI vs = false) : ∀ v ∈ vs, Tw v := fun v hv => Tw.of (by
  have := List.any_eq_false.1 h v hv
  simpa using this)
set_option maxRecDepth 100000 in
theorem longI2 {x y : Ix} (h : longI [x, y] = false) : Tw x ∧ Tw y := ⟨longI_all h x (by simp), longI_all h y (by simp)⟩
set_option maxRecDepth 100000 in
theorem longI1 {x : Ix} (h : longI [x] = false) : Tw x := longI_all h x (by simp)
end Go.Proofs.Ytlcolmifmhdboaa
namespace Go.Proofs.Ytlcolmifmhdboaa

set_option maxRecDepth 100000 in
theorem loL_le (l : List Rat) (q : Rat) : loL l q ≤ q ∧ ∀ p ∈ l, loL l q ≤ p := by
  induction l generalizing q with
  | nil => exact ⟨Rat.le_refl, fun p h => nomatch h⟩
  | cons x l ih =>
    have h := ih (if x ≤ q then x else q)
    rw [loL]
    constructor
    · have := h.1; grind
    · intro p hp
      rcases List.mem_cons.1 hp with rfl | hp
      · have := h.1; grind
      · exact h.2 p hp
set_option maxRecDepth 100000 in
theorem hiL_ge (l : List Rat) (q : Rat) : q ≤ hiL l q ∧ ∀ p ∈ l, p ≤ hiL l q := by
  induction l generalizing q with
  | nil => exact ⟨Rat.le_refl, fun p h => nomatch h⟩
  | cons x l ih =>
    have h := ih (if q ≤ x then x else q)
    rw [hiL]
    constructor
    · have := h.1; grind
    · intro p hp
      rcases List.mem_cons.1 hp with rfl | hp
      · have := h.1; grind
      · exact h.2 p hp
set_option maxRecDepth 100000 in
theorem loP_le {ps : List Rat} {p : Rat} (h : p ∈ ps) : loP ps ≤ p := by
  cases ps with
  | nil => cases h
  | cons x l =>
    rcases List.mem_cons.1 h with rfl | h
    · exact (loL_le l p).1
    · exact (loL_le l x).2 p h
set_option maxRecDepth 100000 in
theorem hiP_ge {ps : List Rat} {p : Rat} (h : p ∈ ps) : p ≤ hiP ps := by
  cases ps with
  | nil => cases h
  | cons x l =>
    rcases List.mem_cons.1 h with rfl | h
    · exact (hiL_ge l p).1
    · exact (hiL_ge l x).2 p h
set_option maxRecDepth 100000 in
theorem loL_mem (l : List Rat) (q : Rat) : loL l q = q ∨ loL l q ∈ l := by
  induction l generalizing q with
  | nil => exact .inl rfl
  | cons x l ih =>
    rw [loL]
    rcases ih (if x ≤ q then x else q) with h | h
    · rw [h]
      by_cases hx : x ≤ q
      · rw [if_pos hx]; exact .inr (by simp)
      · rw [if_neg hx]; exact .inl rfl
    · exact .inr (List.mem_cons_of_mem _ h)
set_option maxRecDepth 100000 in
theorem hiL_mem (l : List Rat) (q : Rat) : hiL l q = q ∨ hiL l q ∈ l := by
  induction l generalizing q with
  | nil => exact .inl rfl
  | cons x l ih =>
    rw [hiL]
    rcases ih (if q ≤ x then x else q) with h | h
    · rw [h]
      by_cases hx : q ≤ x
      · rw [if_pos hx]; exact .inr (by simp)
      · rw [if_neg hx]; exact .inl rfl
    · exact .inr (List.mem_cons_of_mem _ h)
set_option maxRecDepth 100000 in
theorem loP_mem {ps : List Rat} (h : ps ≠ []) : loP ps ∈ ps := by
  cases ps with
  | nil => exact absurd rfl h
  | cons x l =>
    rcases loL_mem l x with h | h
    · show loL l x ∈ _; rw [h]; simp
    · exact List.mem_cons_of_mem _ h
set_option maxRecDepth 100000 in
theorem hiP_mem {ps : List Rat} (h : ps ≠ []) : hiP ps ∈ ps := by
  cases ps with
  | nil => exact absurd rfl h
  | cons x l =>
    rcases hiL_mem l x with h | h
    · show hiL l x ∈ _; rw [h]; simp
    · exact List.mem_cons_of_mem _ h
set_option maxRecDepth 100000 in
theorem lin_lo {a p b : Rat} (t : Rat) (h1 : a ≤ p) (h2 : p ≤ b) : a * t ≤ p * t ∨ b * t ≤ p * t := by
  rcases Rat.le_total (a := 0) (b := t) with h | h
  · exact .inl (Rat.mul_le_mul_of_nonneg_right h1 h)
  · right
    have := Rat.mul_le_mul_of_nonneg_right h2 (c := -t) (by grind)
    rw [Rat.mul_neg, Rat.mul_neg] at this
    grind
set_option maxRecDepth 100000 in
theorem lin_hi {a p b : Rat} (t : Rat) (h1 : a ≤ p) (h2 : p ≤ b) : p * t ≤ a * t ∨ p * t ≤ b * t := by
  rcases Rat.le_total (a := 0) (b := t) with h | h
  · exact .inr (Rat.mul_le_mul_of_nonneg_right h2 h)
  · left
    have := Rat.mul_le_mul_of_nonneg_right h1 (c := -t) (by grind)
    rw [Rat.mul_neg, Rat.mul_neg] at this
    grind
/-- the products of the ends -/
def corn (a b c d : Rat) : List Rat := [c * a, c * b, d * a, d * b]
set_option maxRecDepth 100000 in
theorem corn_lo {a b c d p q : Rat} (h1 : a ≤ p) (h2 : p ≤ b) (h3 : c ≤ q) (h4 : q ≤ d) : loP (corn a b c d) ≤ p * q := by
  have m1 : loP (corn a b c d) ≤ c * a := loP_le (by simp [corn])
  have m2 : loP (corn a b c d) ≤ c * b := loP_le (by simp [corn])
  have m3 : loP (corn a b c d) ≤ d * a := loP_le (by simp [corn])
  have m4 : loP (corn a b c d) ≤ d * b := loP_le (by simp [corn])
  generalize loP (corn a b c d) = m at *
  rw [Rat.mul_comm p q]
  rcases lin_lo p h3 h4 with h | h
  · rw [Rat.mul_comm c p] at h
    rcases lin_lo c h1 h2 with k | k
    · rw [Rat.mul_comm a c] at k; grind
    · rw [Rat.mul_comm b c] at k; grind
  · rw [Rat.mul_comm d p] at h
    rcases lin_lo d h1 h2 with k | k
    · rw [Rat.mul_comm a d] at k; grind
    · rw [Rat.mul_comm b d] at k; grind
set_option maxRecDepth 100000 in
theorem corn_hi {a b c d p q : Rat} (h1 : a ≤ p) (h2 : p ≤ b) (h3 : c ≤ q) (h4 : q ≤ d) : p * q ≤ hiP (corn a b c d) := by
  have m1 : c * a ≤ hiP (corn a b c d) := hiP_ge (by simp [corn])
  have m2 : c * b ≤ hiP (corn a b c d) := hiP_ge (by simp [corn])
  have m3 : d * a ≤ hiP (corn a b c d) := hiP_ge (by simp [corn])
  have m4 : d * b ≤ hiP (corn a b c d) := hiP_ge (by simp [corn])
  generalize hiP (corn a b c d) = m at *
  rw [Rat.mul_comm p q]
  rcases lin_hi p h3 h4 with h | h
  · rw [Rat.mul_comm c p] at h
    rcases lin_hi c h1 h2 with k | k
    · rw [Rat.mul_comm a c] at k; grind
    · rw [Rat.mul_comm b c] at k; grind
  · rw [Rat.mul_comm d p] at h
    rcases lin_hi d h1 h2 with k | k
    · rw [Rat.mul_comm a d] at k; grind
    · rw [Rat.mul_comm b d] at k; grind
set_option maxRecDepth 100000 in
theorem wq_in {a : Ix} {n : Nat} (hv : a.v) (hn : n ≤ 255) : a.lo.q ≤ wq a n ∧ wq a n ≤ a.hi.q := by
  have h0 := at_0 n
  have h1 := at_1 hn
  have hd : 0 ≤ a.hi.q - a.lo.q := by have := hv.2.2; grind
  have e1 := Rat.mul_nonneg hd h0
  have e2 := Rat.mul_le_mul_of_nonneg_left h1 hd
  rw [Rat.mul_one] at e2
  rw [wq]
  generalize (a.hi.q - a.lo.q) * atQ n = z at *
  constructor <;> grind
set_option maxRecDepth 100000 in
theorem wq_mono {a : Ix} {m n : Nat} (hv : a.v) (h : m ≤ n) : wq a m ≤ wq a n := by
  have hd : 0 ≤ a.hi.q - a.lo.q := by have := hv.2.2; grind
  have ha : atQ m ≤ atQ n := by
    have e1 : ∀ k : Nat, atQ k = qv false k 255 := fun k => by rw [atQ, qv, ← Rat.divInt_ofNat]; rfl
    rw [e1, e1, ← Rat.not_lt, qv_lt (by omega) (by omega)]
    simp [sg]; omega
  have e := Rat.mul_le_mul_of_nonneg_left ha hd
  rw [wq, wq]
  generalize (a.hi.q - a.lo.q) * atQ m = y at *
  generalize (a.hi.q - a.lo.q) * atQ n = z at *
  grind
end Go.Proofs.Ytlcolmifmhdboaa
