/- Flows on other links do not change how many units a flow gets, in whatever order they stand. No program in sight. -/
import Derived.Test.YthdfflbhogfejaaUnT
namespace Go.Proofs.Ythdfflbhogfejaa

/-- flows moved to other links -/
def shF (k : Int) (l : List Fl) : List Fl := l.map fun f => (f.1.map (k + ·), f.2)
def comb (s t : Un) : Un := ⟨s.out ++ t.out, s.fin ++ t.fin⟩
set_option maxRecDepth 100000 in
theorem shF_len (k : Int) (l : List Fl) : (shF k l).length = l.length := by simp [shF]
set_option maxRecDepth 100000 in
theorem count_shift (k e : Int) (xs : List Int) : (xs.map (k + ·)).count (k + e) = xs.count e := by
  induction xs with
  | nil => rfl
  | cons x xs ih =>
    simp only [List.map_cons, List.count_cons, ih]
    have : (k + x == k + e) = (x == e) := by
      by_cases h : x = e
      · subst h; simp
      · rw [beq_eq_false_iff_ne.2 h, beq_eq_false_iff_ne.2 (by omega)]
    rw [this]
set_option maxRecDepth 100000 in
theorem ld_shift (k e : Int) (l : List Fl) : ∀ o : List Int, ld (shF k l) o (k + e) = ld l o e := by
  induction l with
  | nil => intro o; cases o <;> rfl
  | cons f l ih =>
    intro o
    cases o with
    | nil => rfl
    | cons a o =>
      have := ih o
      simp only [shF, List.map_cons, ld, count_shift] at *
      rw [this]
set_option maxRecDepth 100000 in
theorem getD_app2 {α : Type} (xs ys : List α) (i : Nat) (d : α) : (xs ++ ys).getD (xs.length + i) d = ys.getD i d := by
  rw [List.getD_eq_getElem?_getD, List.getD_eq_getElem?_getD, List.getElem?_append_right (by omega)]
  congr 2; omega
set_option maxRecDepth 100000 in
theorem lk_shift (k : Int) (l : List Fl) (i : Nat) : lkA (shF k l) i = (lkA l i).map (k + ·) := by
  simp only [lkA, shF, List.getD_eq_getElem?_getD, List.getElem?_map]
  cases l[i]? <;> rfl
set_option maxRecDepth 100000 in
theorem lm_shift (k : Int) (l : List Fl) (i : Nat) : lmA (shF k l) i = lmA l i := by
  simp only [lmA, shF, List.getD_eq_getElem?_getD, List.getElem?_map]
  cases l[i]? <;> rfl
/-- links of two sets that do not meet -/
structure ApartU (k : Int) (a b : List Fl) (cp ca cb : Int → Int) : Prop where
  la : ∀ i, i < a.length → ∀ e ∈ lkA a i, (∀ j, j < b.length → ∀ x ∈ lkA b j, e ≠ k + x) ∧ cp e = ca e
  lb : ∀ i, i < b.length → ∀ e ∈ lkA b i, cp (k + e) = cb e
set_option maxRecDepth 100000 in
theorem lkA_l2 (a b : List Fl) (i : Nat) (h : i < a.length) : lkA (a ++ b) i = lkA a i := by rw [lkA, getD_app _ _ _ _ h, lkA]
set_option maxRecDepth 100000 in
theorem lmA_l2 (a b : List Fl) (i : Nat) (h : i < a.length) : lmA (a ++ b) i = lmA a i := by rw [lmA, getD_app _ _ _ _ h, lmA]
set_option maxRecDepth 100000 in
theorem lkA_r2 (a b : List Fl) (i : Nat) : lkA (a ++ b) (a.length + i) = lkA b i := by rw [lkA, getD_app2, lkA]
set_option maxRecDepth 100000 in
theorem lmA_r2 (a b : List Fl) (i : Nat) : lmA (a ++ b) (a.length + i) = lmA b i := by rw [lmA, getD_app2, lmA]
section
variable {k : Int} {a b : List Fl} {cp ca cb : Int → Int}
set_option maxRecDepth 100000 in
theorem ApartU.ldL (h : ApartU k a b cp ca cb) {o p : List Int} (ho : o.length = a.length) (i : Nat) (hi : i < a.length) (e : Int) (he : e ∈ lkA a i) : ld (a ++ shF k b) (o ++ p) e = ld a o e := by
  rw [ld_append _ _ _ _ _ ho, ld_none (shF k b) p e (fun j hj hm => ?_), Int.add_zero]
  rw [shF_len] at hj
  rw [lk_shift, List.mem_map] at hm
  obtain ⟨x, hx, rfl⟩ := hm
  exact (h.la i hi _ he).1 j hj x hx rfl
set_option maxRecDepth 100000 in
theorem ApartU.ldR (h : ApartU k a b cp ca cb) {o p : List Int} (ho : o.length = a.length) (i : Nat) (hi : i < b.length) (e : Int) (he : e ∈ lkA b i) : ld (a ++ shF k b) (o ++ p) (k + e) = ld b p e := by
  rw [ld_append _ _ _ _ _ ho, ld_none a o (k + e) (fun j hj hm => ?_), Int.zero_add, ld_shift]
  exact (h.la j hj _ hm).1 i hi e he rfl
set_option maxRecDepth 100000 in
theorem ApartU.fullL (h : ApartU k a b cp ca cb) {o p : List Int} (ho : o.length = a.length) (i : Nat) (hi : i < a.length) : fullU cp (a ++ shF k b) (o ++ p) i ↔ fullU ca a o i := by
  unfold fullU
  rw [lkA_l2 _ _ _ hi]
  constructor
  · rintro ⟨e, he, hz⟩
    rw [h.ldL ho i hi e he, (h.la i hi e he).2] at hz
    exact ⟨e, he, hz⟩
  · rintro ⟨e, he, hz⟩
    refine ⟨e, he, ?_⟩
    rw [h.ldL ho i hi e he, (h.la i hi e he).2]; exact hz
set_option maxRecDepth 100000 in
theorem ApartU.fullR (h : ApartU k a b cp ca cb) {o p : List Int} (ho : o.length = a.length) (i : Nat) (hi : i < b.length) : fullU cp (a ++ shF k b) (o ++ p) (a.length + i) ↔ fullU cb b p i := by
  unfold fullU
  rw [lkA_r2, lk_shift]
  constructor
  · rintro ⟨e, he, hz⟩
    obtain ⟨x, hx, rfl⟩ := List.mem_map.1 he
    rw [h.ldR ho i hi x hx, h.lb i hi x hx] at hz
    exact ⟨x, hx, hz⟩
  · rintro ⟨e, he, hz⟩
    refine ⟨k + e, List.mem_map.2 ⟨e, he, rfl⟩, ?_⟩
    rw [h.ldR ho i hi e he, h.lb i hi e he]; exact hz
set_option maxRecDepth 100000 in
theorem set_left {α : Type} (xs ys : List α) (i : Nat) (v : α) (h : i < xs.length) : (xs ++ ys).set i v = xs.set i v ++ ys := List.set_append_left _ _ h
set_option maxRecDepth 100000 in
theorem set_right {α : Type} (xs ys : List α) (i : Nat) (v : α) : (xs ++ ys).set (xs.length + i) v = xs ++ ys.set i v := by
  rw [List.set_append_right _ _ (by omega)]; congr 2; omega
set_option maxRecDepth 100000 in
theorem ApartU.stepL (h : ApartU k a b cp ca cb) {s t : Un} (ho : s.out.length = a.length) (hf : s.fin.length = a.length) (i : Nat) (hi : i < a.length) : stepU cp (a ++ shF k b) (comb s t) i = comb (stepU ca a s i) t := by
  unfold stepU
  simp only [comb, getD_app _ _ _ _ (show i < s.fin.length by omega), getD_app _ _ _ _ (show i < s.out.length by omega), lmA_l2 _ _ _ hi, h.fullL ho i hi, set_left _ _ _ _ (show i < s.fin.length by omega), set_left _ _ _ _ (show i < s.out.length by omega)]
  split
  · rfl
  · split <;> rfl
set_option maxRecDepth 100000 in
theorem ApartU.stepR (h : ApartU k a b cp ca cb) {s t : Un} (ho : s.out.length = a.length) (hf : s.fin.length = a.length) (i : Nat) (hi : i < b.length) : stepU cp (a ++ shF k b) (comb s t) (a.length + i) = comb s (stepU cb b t i) := by
  have e1 : (s.fin ++ t.fin).getD (a.length + i) true = t.fin.getD i true := by rw [← hf]; exact getD_app2 _ _ _ _
  have e2 : (s.out ++ t.out).getD (a.length + i) 0 = t.out.getD i 0 := by rw [← ho]; exact getD_app2 _ _ _ _
  have e3 : ∀ v, (s.fin ++ t.fin).set (a.length + i) v = s.fin ++ t.fin.set i v := fun v => by rw [← hf]; exact set_right _ _ _ _
  have e4 : ∀ v, (s.out ++ t.out).set (a.length + i) v = s.out ++ t.out.set i v := fun v => by rw [← ho]; exact set_right _ _ _ _
  unfold stepU
  simp only [comb, e1, e2, e3, e4, lmA_r2, lm_shift, h.fullR ho i hi]
  split
  · rfl
  · split <;> rfl
set_option maxRecDepth 100000 in
theorem ApartU.partL (h : ApartU k a b cp ca cb) {s t : Un} (ho : s.out.length = a.length) (hf : s.fin.length = a.length) (i : Nat) (hi : i ≤ a.length) : partU cp (a ++ shF k b) (comb s t) i = comb (partU ca a s i) t := by
  induction i with
  | zero => rfl
  | succ i ih =>
    have hl := partU_len ca a s i
    rw [partU, ih (by omega), h.stepL (by rw [hl.1]; exact ho) (by rw [hl.2]; exact hf) i (by omega)]
    rfl
set_option maxRecDepth 100000 in
theorem ApartU.partR (h : ApartU k a b cp ca cb) {s t : Un} (ho : s.out.length = a.length) (hf : s.fin.length = a.length) (i : Nat) (hi : i ≤ b.length) : partU cp (a ++ shF k b) (comb s t) (a.length + i) = comb (partU ca a s a.length) (partU cb b t i) := by
  induction i with
  | zero => exact h.partL ho hf _ (Nat.le_refl _)
  | succ i ih =>
    have hl := partU_len ca a s a.length
    rw [← Nat.add_assoc, partU, ih (by omega), h.stepR (by rw [hl.1]; exact ho) (by rw [hl.2]; exact hf) i (by omega)]
    rfl
set_option maxRecDepth 100000 in
theorem ApartU.it (h : ApartU k a b cp ca cb) (n : Nat) : itU cp (a ++ shF k b) n = comb (itU ca a n) (itU cb b n) := by
  induction n with
  | zero => simp [itU, comb, shF_len, List.replicate_append_replicate]
  | succ n ih =>
    have hl := itU_len ca a n
    rw [itU, ih, List.length_append, shF_len, h.partR hl.1 hl.2 _ (Nat.le_refl _)]
    rfl
set_option maxRecDepth 100000 in
/-- the units of flows on links apart -/
theorem ApartU.units (h : ApartU k a b cp ca cb) : unitsM cp (a ++ shF k b) = unitsM ca a ++ unitsM cb b := by
  rw [unitsM, h.it]; rfl
end
set_option maxRecDepth 100000 in
/-- units of flows that are moved to other links -/
theorem units_shift {k : Int} {m : List Fl} {cp cb : Int → Int} (h : ∀ i, i < m.length → ∀ e ∈ lkA m i, cp (k + e) = cb e) : unitsM cp (shF k m) = unitsM cb m := by
  have h1 : ApartU k [] m cp cp cb := ⟨fun i hi => by simp at hi, h⟩
  have h2 := h1.units
  have h3 : unitsM cp [] = [] := by
    have := unitsM_len cp []
    exact List.eq_nil_of_length_eq_zero (by simpa using this)
  rw [h3] at h2
  exact h2
set_option maxRecDepth 100000 in
theorem shF_zero (l : List Fl) : shF 0 l = l := by
  unfold shF
  have : ∀ f : Fl, (f.1.map ((0 : Int) + ·), f.2) = f := fun f => by
    have e : f.1.map ((0 : Int) + ·) = f.1 := by
      have : ((0 : Int) + ·) = (id : Int → Int) := by funext x; simp
      rw [this, List.map_id]
    rw [e]
  simp only [this, List.map_id']
set_option maxRecDepth 100000 in
/-- flows on two sets of links, the moved ones first -/
theorem units_apart {ca cb cp : Int → Int} {l m : List Fl} {na nb : Nat} (hl : ∀ i, i < l.length → ∀ e ∈ lkA l i, 0 ≤ e ∧ e < na) (hm : ∀ i, i < m.length → ∀ e ∈ lkA m i, 0 ≤ e ∧ e < nb)
    (h1 : ∀ e : Int, 0 ≤ e → e < na → cp e = ca e) (h2 : ∀ e : Int, 0 ≤ e → e < nb → cp ((na : Int) + e) = cb e) : unitsM cp (shF na m ++ l) = unitsM cb m ++ unitsM ca l := by
  have hs : unitsM cp (shF (na : Int) m) = unitsM cb m := units_shift fun i hi e he => h2 e (hm i hi e he).1 (hm i hi e he).2
  have ha : ApartU 0 (shF (na : Int) m) l cp cp ca := by
    refine ⟨fun i hi e he => ⟨fun j hj x hx => ?_, rfl⟩, fun i hi e he => by rw [Int.zero_add]; exact h1 e (hl i hi e he).1 (hl i hi e he).2⟩
    rw [shF_len] at hi
    rw [lk_shift, List.mem_map] at he
    obtain ⟨z, hz, rfl⟩ := he
    have a1 := hm i hi z hz
    have a2 := hl j hj x hx
    omega
  have hu := ha.units
  rw [shF_zero, hs] at hu
  exact hu
end Go.Proofs.Ythdfflbhogfejaa
