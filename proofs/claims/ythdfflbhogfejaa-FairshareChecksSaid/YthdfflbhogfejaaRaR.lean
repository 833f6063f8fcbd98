/- The rounds of the reference's Rates: the lowest level is the same, and so is who stops. No program in sight. The reference's Rates in pure lists: what a round makes of the rates and of those that have stopped. No program in sight. -/
import Derived.Test.YthdfflbhogfejaaFhB
import Derived.Test.YthdfflbhogfejaaFhI
namespace Go.Proofs.Ythdfflbhogfejaa
set_option maxRecDepth 100000

/-- the rates if those that rise have p -/
def upR (l : List Fl) (s : Rt) (p : Rat) : List Rat := (List.range l.length).map fun i => if s.a.getD i false = true then p else s.r.getD i 0
theorem upR_len (l : List Fl) (s : Rt) (p : Rat) : (upR l s p).length = l.length := by simp [upR]
theorem upR_at {l : List Fl} (s : Rt) (p : Rat) {i : Nat} (hi : i < l.length) : (upR l s p).getD i 0 = if s.a.getD i false = true then p else s.r.getD i 0 := by
  rw [getD_lt _ _ _ (by rw [upR_len]; exact hi)]; simp [upR]
theorem ldq_up (l : List Fl) (s : Rt) (p : Rat) (k : Int) : ldq l (upR l s p) k = sumTo (tkS l s k) l.length + (cnt l s k l.length : Nat) * p := by
  rw [load_at, ldq]
  refine sumTo_congr fun i hi => ?_
  rw [tk]
  by_cases hk : k ∈ lkA l i
  · rw [if_pos hk, if_pos hk, upR_at s p hi]
  · rw [if_neg hk, if_neg hk]
theorem stop_iff {cp : Int → Int} {l : List Fl} {n : Nat} {s : Rt} {p : Rat} (hl : ∀ i, i < l.length → ∀ k ∈ lkA l i, 0 ≤ k ∧ k < n) (hp : IsLow cp l s n p) {i : Nat} (hi : i < l.length) (ha : s.a.getD i false = true) :
    ((lmA l i : Rat) ≤ p ∨ ∃ k ∈ lkA l i, (cp k : Rat) ≤ ldq l (upR l s p) k) ↔ stopQ cp l s p i := by
  have h1 := hp.lim i hi ha
  have key : ∀ k ∈ lkA l i, ((cp k : Rat) ≤ ldq l (upR l s p) k ↔ lev cp l s k = some p) := by
    intro k hk
    have hc : 0 < cnt l s k l.length := by
      have h4 : ¬ cnt l s k l.length = 0 := fun h => by
        have := (cnt_zero l.length).1 h i hi hk
        rw [ha] at this; cases this
      omega
    have hx : ∃ x, lev cp l s k = some x := by unfold lev; rw [if_neg (by omega)]; exact ⟨_, rfl⟩
    obtain ⟨x, hx⟩ := hx
    have h2 := (lev_some hx).2
    have hb := hl i hi k hk
    have hpx : p ≤ x := hp.lev k.toNat (by omega) x (by rw [Int.toNat_of_nonneg hb.1]; exact hx)
    rw [ldq_up, ← h2]
    constructor
    · intro h
      have h3 : x ≤ p := le_of_cmul hc (by grind)
      rw [hx]; congr 1; grind
    · intro h
      rw [hx] at h
      cases h
      exact Rat.le_refl
  constructor
  · rintro (h | ⟨k, hk, h⟩)
    · exact .inl (by grind)
    · exact .inr ⟨k, hk, (key k hk).1 h⟩
  · rintro (h | ⟨k, hk, h⟩)
    · exact .inl (by rw [h]; exact Rat.le_refl)
    · exact .inr ⟨k, hk, (key k hk).2 h⟩
/-- the least limit of the first flows that rise -/
def lowG (l : List Fl) (s : Rt) : Nat → Option Rat
  | 0 => none
  | i + 1 => if s.a.getD i false = true then mn (lowG l s i) (lmA l i : Rat) else lowG l s i
def lowH (cp : Int → Int) (l : List Fl) (s : Rt) : Nat → Option Rat
  | 0 => lowG l s l.length
  | k + 1 => match lev cp l s (k : Int) with
    | none => lowH cp l s k
    | some x => mn (lowH cp l s k) x
theorem lowG_le {l : List Fl} {s : Rt} : ∀ m i, i < m → s.a.getD i false = true → ∃ z, lowG l s m = some z ∧ z ≤ (lmA l i : Rat) := by
  intro m
  induction m with
  | zero => intro i hi; omega
  | succ m ih =>
    intro i hi hai
    unfold lowG
    rcases Nat.lt_or_ge i m with h4 | h4
    · obtain ⟨z, h1, h2⟩ := ih i h4 hai
      by_cases ha : s.a.getD m false = true
      · rw [if_pos ha]
        obtain ⟨u, hu⟩ := mn_some (lowG l s m) (lmA l m : Rat)
        exact ⟨u, hu, Rat.le_trans ((mn_spec hu).2.1 z h1) h2⟩
      · rw [if_neg ha]; exact ⟨z, h1, h2⟩
    · obtain rfl : i = m := by omega
      rw [if_pos hai]
      obtain ⟨u, hu⟩ := mn_some (lowG l s i) (lmA l i : Rat)
      exact ⟨u, hu, (mn_spec hu).1⟩
theorem lowG_at {l : List Fl} {s : Rt} : ∀ m y, lowG l s m = some y → ∃ i, i < m ∧ s.a.getD i false = true ∧ (lmA l i : Rat) = y := by
  intro m
  induction m with
  | zero => intro y h; cases h
  | succ m ih =>
    intro y h
    unfold lowG at h
    have key : lowG l s m = some y → ∃ i, i < m + 1 ∧ s.a.getD i false = true ∧ (lmA l i : Rat) = y := fun h => by
      obtain ⟨i, h1, h2⟩ := ih y h
      exact ⟨i, by omega, h2⟩
    by_cases ha : s.a.getD m false = true
    · rw [if_pos ha] at h
      rcases (mn_spec h).2.2 with h3 | h3
      · exact ⟨m, by omega, ha, h3.symm⟩
      · exact key h3
    · rw [if_neg ha] at h; exact key h
theorem lowG_none {l : List Fl} {s : Rt} (_la : s.a.length = l.length) (h : ¬ true ∈ s.a) : ∀ m, lowG l s m = none := by
  intro m
  cases hx : lowG l s m with
  | none => rfl
  | some y =>
    obtain ⟨i, h1, h2, h3⟩ := lowG_at m y hx
    refine absurd (getD_mem_true.2 ⟨i, ?_, h2⟩) h
    rcases Nat.lt_or_ge i s.a.length with h4 | h4
    · exact h4
    · rw [getD_ge _ _ _ h4] at h2; cases h2
theorem lowH_k {cp : Int → Int} {l : List Fl} {s : Rt} : ∀ m y, lowG l s l.length = some y → ∃ z, lowH cp l s m = some z ∧ z ≤ y := by
  intro m
  induction m with
  | zero => intro y h; exact ⟨y, h, Rat.le_refl⟩
  | succ m ih =>
    intro y h
    obtain ⟨z, h1, h2⟩ := ih y h
    unfold lowH
    cases hl : lev cp l s (m : Int) with
    | none => exact ⟨z, h1, h2⟩
    | some x =>
      obtain ⟨u, hu⟩ := mn_some (lowH cp l s m) x
      exact ⟨u, hu, Rat.le_trans ((mn_spec hu).2.1 z h1) h2⟩
theorem lowH_le {cp : Int → Int} {l : List Fl} {s : Rt} : ∀ n (k : Nat), k < n → ∀ x, lev cp l s (k : Int) = some x → ∃ y, lowH cp l s n = some y ∧ y ≤ x := by
  intro n
  induction n with
  | zero => intro k hk; omega
  | succ n ih =>
    intro k hk x hx
    unfold lowH
    rcases Nat.lt_or_ge k n with h4 | h4
    · obtain ⟨y, h1, h2⟩ := ih k h4 x hx
      cases hl : lev cp l s (n : Int) with
      | none => exact ⟨y, h1, h2⟩
      | some x0 =>
        obtain ⟨z, hz⟩ := mn_some (lowH cp l s n) x0
        exact ⟨z, hz, Rat.le_trans ((mn_spec hz).2.1 y h1) h2⟩
    · obtain rfl : k = n := by omega
      rw [hx]
      obtain ⟨z, hz⟩ := mn_some (lowH cp l s k) x
      exact ⟨z, hz, (mn_spec hz).1⟩
theorem lowH_at {cp : Int → Int} {l : List Fl} {s : Rt} : ∀ n y, lowH cp l s n = some y → (∃ k : Nat, k < n ∧ lev cp l s (k : Int) = some y) ∨ ∃ i, i < l.length ∧ s.a.getD i false = true ∧ (lmA l i : Rat) = y := by
  intro n
  induction n with
  | zero => intro y h; exact .inr (lowG_at _ _ h)
  | succ n ih =>
    intro y h
    unfold lowH at h
    have key : lowH cp l s n = some y → (∃ k : Nat, k < n + 1 ∧ lev cp l s (k : Int) = some y) ∨ ∃ i, i < l.length ∧ s.a.getD i false = true ∧ (lmA l i : Rat) = y := fun h => by
      rcases ih y h with ⟨k, h1, h2⟩ | h1
      · exact .inl ⟨k, by omega, h2⟩
      · exact .inr h1
    cases hl : lev cp l s (n : Int) with
    | none => rw [hl] at h; exact key h
    | some x0 =>
      rw [hl] at h
      rcases (mn_spec h).2.2 with h3 | h3
      · exact .inl ⟨n, by omega, by rw [hl, h3]⟩
      · exact key h3
theorem lowH_low {cp : Int → Int} {l : List Fl} {s : Rt} {n : Nat} {q : Rat} (h : lowH cp l s n = some q) : IsLow cp l s n q := by
  refine ⟨fun k hk x hx => ?_, fun i hi ha => ?_, lowH_at _ _ h⟩
  · obtain ⟨y, h1, h2⟩ := lowH_le n k hk x hx
    rw [h] at h1; cases h1; exact h2
  · obtain ⟨y, h1, h2⟩ := lowG_le l.length i hi ha
    obtain ⟨z, h3, h4⟩ := lowH_k (cp := cp) n y h1
    rw [h] at h3; cases h3
    exact Rat.le_trans h4 h2
/-- the reference's level is the program's -/
theorem lowH_eq {cp : Int → Int} {l : List Fl} {s : Rt} {n : Nat} (la : s.a.length = l.length) (h : true ∈ s.a) : ∃ q, lowH cp l s n = some q ∧ lowF cp l s n l.length = some q := by
  obtain ⟨q, hq⟩ := low_some (cp := cp) (n := n) la h
  obtain ⟨i, hi, ha⟩ := getD_mem_true.1 h
  obtain ⟨y, h1, _⟩ := lowG_le (l := l) l.length i (by omega) ha
  obtain ⟨z, h3, _⟩ := lowH_k (cp := cp) n y h1
  have := (lowH_low h3).unique (lowF_low hq)
  exact ⟨q, by rw [h3, this], hq⟩
/-- a flow that rises has a level on each of its links, and some limit was found -/
theorem lowG_of_lev {cp : Int → Int} {l : List Fl} {s : Rt} {k : Int} {x : Rat} (h : lev cp l s k = some x) : ∃ y, lowG l s l.length = some y := by
  have h3 := (lev_some h).1
  have h4 : ¬ cnt l s k l.length = 0 := by omega
  rw [cnt_zero] at h4
  apply Classical.byContradiction
  intro hn
  apply h4
  intro i hi hk
  cases ha : s.a.getD i false
  · rfl
  · obtain ⟨y, h1, _⟩ := lowG_le (l := l) l.length i hi ha
    exact absurd ⟨y, h1⟩ hn
end Go.Proofs.Ythdfflbhogfejaa
namespace Go.Proofs.Ythdfflbhogfejaa
set_option maxRecDepth 100000

/-- rates whose sums are short -/
structure SmQ (l : List Fl) (R : List Rat) (D : Nat) : Prop where
  lo : R.length = l.length
  d0 : 0 < D
  d1 : D ≤ 11112006825558016
  qd : ∀ i, i < l.length → Qd D 4096 (R.getD i 0)
section
variable {cp : Int → Int} {l : List Fl} {R : List Rat} {D : Nat}
theorem SmQ.smr (h : SmQ l R D) {a : List Bool} (ha : a.length = l.length) : SmR cp l ⟨R, a⟩ D := ⟨h.lo, ha, h.d0, h.d1, h.qd⟩
theorem SmQ.load (h : SmQ l R D) (h14 : l.length ≤ 14) (k : Int) {m : Nat} (hm : m ≤ l.length) : loadE l R k m = some (sumTo (tk l R k) m) := by
  refine loadE_ok _ fun j hj => not_big ((Qd.sum (D := D) (n := j) (B := 4096) (fun i hi => ?_)).mono (B := 14 * 4096) (Nat.mul_le_mul_right _ (by omega)) |>.sz h.d0 (by have := h.d1; omega) (by omega))
  rw [tk]
  split
  · exact h.qd i (by omega)
  · exact Qd.zero _ _
end
/-- the rates and the flags of those that have stopped, as they belong to a state -/
structure Agr (l : List Fl) (s : Rt) (R : List Rat) (st : List Bool) : Prop where
  lr : R.length = l.length
  la : s.a.length = l.length
  st : st = s.a.map (!·)
  at_ : ∀ i, i < l.length → s.a.getD i false = false → R.getD i 0 = s.r.getD i 0
/-- the state that the rates and the flags describe -/
def ofSt (R : List Rat) (st : List Bool) : Rt := ⟨R, st.map (!·)⟩
section
variable {cp : Int → Int} {l : List Fl} {s : Rt} {R : List Rat} {st : List Bool}
theorem not_not_map (a : List Bool) : (a.map (!·)).map (!·) = a := by
  induction a with
  | nil => rfl
  | cons x xs ih => rw [List.map_cons, List.map_cons, ih, Bool.not_not]
theorem Agr.of (h : Agr l s R st) : ofSt R st = ⟨R, s.a⟩ := by rw [ofSt, h.st, not_not_map]
theorem getD_map_not (a : List Bool) {i : Nat} (hi : i < a.length) : (a.map (!·)).getD i false = !(a.getD i false) := by
  rw [getD_lt _ _ _ (by simpa using hi), getD_lt _ _ _ hi]; simp
theorem cnt_a {s t : Rt} (h : s.a = t.a) (k : Int) : ∀ n, cnt l s k n = cnt l t k n := by
  intro n
  induction n with
  | zero => rfl
  | succ n ih => rw [cnt, cnt, ih, h]
theorem lowG_a {s t : Rt} (h : s.a = t.a) : ∀ n, lowG l s n = lowG l t n := by
  intro n
  induction n with
  | zero => rfl
  | succ n ih => rw [lowG, lowG, ih, h]
theorem Agr.lev (h : Agr l s R st) (k : Int) : Proofs.Ythdfflbhogfejaa.lev cp l (ofSt R st) k = Proofs.Ythdfflbhogfejaa.lev cp l s k := by
  rw [h.of, Proofs.Ythdfflbhogfejaa.lev, Proofs.Ythdfflbhogfejaa.lev, cnt_a (s := ⟨R, s.a⟩) (t := s) rfl, sumTo_congr (h := tkS l s k)]
  intro i hi
  rw [tkS, tkS]
  by_cases hc : k ∈ lkA l i ∧ s.a.getD i false = false
  · rw [if_pos hc, if_pos hc]; exact h.at_ i hi hc.2
  · rw [if_neg hc, if_neg hc]
theorem Agr.lowH (h : Agr l s R st) : ∀ n, Proofs.Ythdfflbhogfejaa.lowH cp l (ofSt R st) n = Proofs.Ythdfflbhogfejaa.lowH cp l s n := by
  intro n
  induction n with
  | zero => rw [Proofs.Ythdfflbhogfejaa.lowH, Proofs.Ythdfflbhogfejaa.lowH]; rw [h.of]; exact lowG_a (s := ⟨R, s.a⟩) (t := s) rfl _
  | succ n ih => rw [Proofs.Ythdfflbhogfejaa.lowH, Proofs.Ythdfflbhogfejaa.lowH, h.lev, ih]
/-- has a flow stopped behind the round -/
def stN (cp : Int → Int) (l : List Fl) (R : List Rat) (was : List Bool) (i : Nat) : Bool :=
  was.getD i false || decide ((lmA l i : Rat) ≤ R.getD i 0) || (lkA l i).any (fun k => decide ((cp k : Rat) ≤ ldq l R k))
theorem stN_round {n : Nat} {p : Rat} (hl : ∀ i, i < l.length → ∀ k ∈ lkA l i, 0 ≤ k ∧ k < n) (lr : s.r.length = l.length) (la : s.a.length = l.length) (hp : IsLow cp l s n p) :
    (List.range l.length).map (stN cp l (upR l s p) (s.a.map (!·))) = (partR cp l s p l.length).a.map (!·) := by
  have hlen := (partR_len cp l s p l.length).2
  apply List.ext_getElem (by simp [hlen, la])
  intro i h1 h2
  have hi : i < l.length := by simpa using h1
  have hat := (partR_at (cp := cp) (q := p) lr la l.length (Nat.le_refl _) i).1
  rw [List.getElem_map, List.getElem_range, List.getElem_map, ← getD_lt _ _ false, hat, stN, getD_map_not _ (by omega), upR_at s p hi]
  cases ha : s.a.getD i false with
  | false => simp
  | true =>
    have hst := stop_iff hl hp hi ha
    simp only [Bool.not_true, Bool.false_or, if_true, hi, true_and]
    by_cases hq : stopQ cp l s p i
    · rw [if_pos hq]
      rcases hst.2 hq with h3 | ⟨k, hk, h3⟩
      · rw [decide_eq_true h3]; simp
      · have : (lkA l i).any (fun k => decide ((cp k : Rat) ≤ ldq l (upR l s p) k)) = true := List.any_eq_true.2 ⟨k, hk, decide_eq_true h3⟩
        rw [this]; simp
    · rw [if_neg hq]
      have h3 : ¬ ((lmA l i : Rat) ≤ p) := fun h => hq (hst.1 (.inl h))
      have h4 : (lkA l i).any (fun k => decide ((cp k : Rat) ≤ ldq l (upR l s p) k)) = false := by
        rw [List.any_eq_false]
        intro k hk h
        exact hq (hst.1 (.inr ⟨k, hk, of_decide_eq_true h⟩))
      rw [decide_eq_false h3, h4]; rfl
theorem Agr.round {p : Rat} (lr : s.r.length = l.length) (la : s.a.length = l.length) : Agr l (partR cp l s p l.length) (upR l s p) ((partR cp l s p l.length).a.map (!·)) := by
  refine ⟨upR_len _ _ _, by rw [(partR_len cp l s p l.length).2, la], rfl, fun i hi ha => ?_⟩
  have hat := partR_at (cp := cp) (q := p) lr la l.length (Nat.le_refl _) i
  rw [hat.1] at ha
  rw [hat.2, upR_at s p hi]
  by_cases hc : i < l.length ∧ s.a.getD i false = true ∧ stopQ cp l s p i
  · rw [if_pos hc, if_pos hc.2.1]
  · rw [if_neg hc] at ha ⊢
    rw [ha, if_neg (by simp)]
theorem agr_start (cp : Int → Int) (l : List Fl) (n : Nat) : Agr l (itR cp l n 0) (List.replicate l.length 0) (List.replicate l.length false) :=
  ⟨by simp, by simp [itR], by simp [itR], fun i hi _ => rfl⟩
/-- a round of the reference -/
theorem ref_round {n k : Nat} (h : OkR cp l n) (ha : true ∈ (itR cp l n k).a) : ∃ p, lowH cp l (itR cp l n k) n = some p ∧ IsLow cp l (itR cp l n k) n p ∧ itR cp l n (k + 1) = partR cp l (itR cp l n k) p l.length := by
  obtain ⟨q, hq⟩ := (itR_inv h k).1
  obtain ⟨p, h1, h2⟩ := lowH_eq (cp := cp) (n := n) hq.la ha
  exact ⟨p, h1, lowH_low h1, itR_next ha h2⟩
theorem act_lt {n k : Nat} (h : OkR cp l n) (ha : true ∈ (itR cp l n k).a) : k < l.length := by
  have h1 := (itR_inv h k).2
  have h2 := (rising_mem _).1 ha
  omega
theorem SmQ.up {n k : Nat} (h : OkR cp l n) (h14 : l.length ≤ 14) (hm : ∀ i, i < l.length → lmA l i ≤ 4096) (ha : true ∈ (itR cp l n k).a) {p : Rat} (hp : IsLow cp l (itR cp l n k) n p) (hn : itR cp l n (k + 1) = partR cp l (itR cp l n k) p l.length) : ∃ D, SmQ l (upR l (itR cp l n k) p) D := by
  have hk := act_lt h ha
  obtain ⟨q, hq⟩ := (itR_inv h k).1
  obtain ⟨D, hD⟩ := itR_sm h h14 hm (k + 1) (by omega)
  rw [hn] at hD
  have hat := partR_at (cp := cp) (q := p) hq.lr hq.la l.length (Nat.le_refl _)
  obtain ⟨j, hj, ja, js⟩ := hp.stops
  have hP : Qd D 4096 p := by
    have h1 := hD.qd j hj
    rwa [(hat j).2, if_pos ⟨hj, ja, js⟩] at h1
  refine ⟨D, upR_len _ _ _, hD.d0, hD.d1, fun i hi => ?_⟩
  rw [upR_at _ _ hi]
  by_cases hc : (itR cp l n k).a.getD i false = true
  · rw [if_pos hc]; exact hP
  · rw [if_neg hc]
    have h1 := hD.qd i hi
    rwa [(hat i).2, if_neg (fun h => hc h.2.1)] at h1
/-- nobody rises any more: these are the rates -/
theorem Agr.done {n k : Nat} (h : OkR cp l n) (hg : Agr l (itR cp l n k) R st) (ha : ¬ true ∈ (itR cp l n k).a) : R = ratesM cp l n := by
  rw [← itR_rates h ha]
  obtain ⟨q, hq⟩ := (itR_inv h k).1
  apply List.ext_getElem (by rw [hg.lr, hq.lr])
  intro i h1 h2
  rw [← getD_lt _ _ 0, ← getD_lt _ _ 0]
  refine hg.at_ i (by rw [← hg.lr]; exact h1) ?_
  cases hx : (itR cp l n k).a.getD i false
  · rfl
  · exact absurd (getD_mem_true.2 ⟨i, by rw [hq.la, ← hg.lr]; exact h1, hx⟩) ha
end
end Go.Proofs.Ythdfflbhogfejaa
