/- Max-min fair rates as pure lists: what a round keeps, and that the rates have the certificate. No program in sight. Max-min fair rates as pure lists: what a round keeps, and that the rates have the certificate. No program in sight. Max-min fair rates as pure lists: what a round keeps, and that the rates have the certificate. No program in sight. -/
import Derived.Test.YthdfflbhogfejaaRaT
namespace Go.Proofs.Ythdfflbhogfejaa

set_option maxRecDepth 100000 in
theorem mn_spec {o : Option Rat} {x y : Rat} (h : mn o x = some y) : y ≤ x ∧ (∀ z, o = some z → y ≤ z) ∧ (y = x ∨ o = some y) := by
  cases o with
  | none => cases h; exact ⟨Rat.le_refl, fun z hz => (by cases hz), .inl rfl⟩
  | some w =>
    replace h : (if x < w then some x else some w) = some y := h
    by_cases hw : x < w
    · rw [if_pos hw] at h; cases h
      exact ⟨Rat.le_refl, fun z hz => (by cases hz; grind), .inl rfl⟩
    · rw [if_neg hw] at h; cases h
      exact ⟨by grind, fun z hz => (by cases hz; exact Rat.le_refl), .inr rfl⟩
set_option maxRecDepth 100000 in
theorem mn_some (o : Option Rat) (x : Rat) : ∃ y, mn o x = some y := by
  cases o with
  | none => exact ⟨_, rfl⟩
  | some w =>
    show ∃ y, (if x < w then some x else some w) = some y
    by_cases hw : x < w
    · exact ⟨x, if_pos hw⟩
    · exact ⟨w, if_neg hw⟩
set_option maxRecDepth 100000 in
theorem lowK_le {cp : Int → Int} {l : List Fl} {s : Rt} : ∀ n (k : Nat), k < n → ∀ x, lev cp l s (k : Int) = some x → ∃ y, lowK cp l s n = some y ∧ y ≤ x := by
  intro n
  induction n with
  | zero => intro k hk; omega
  | succ n ih =>
    intro k hk x hx
    unfold lowK
    rcases Nat.lt_or_ge k n with h4 | h4
    · obtain ⟨y, h1, h2⟩ := ih k h4 x hx
      cases hl : lev cp l s (n : Int) with
      | none => exact ⟨y, h1, h2⟩
      | some x0 =>
        obtain ⟨z, hz⟩ := mn_some (lowK cp l s n) x0
        exact ⟨z, hz, Rat.le_trans ((mn_spec hz).2.1 y h1) h2⟩
    · obtain rfl : k = n := by omega
      rw [hx]
      obtain ⟨z, hz⟩ := mn_some (lowK cp l s k) x
      exact ⟨z, hz, (mn_spec hz).1⟩
set_option maxRecDepth 100000 in
theorem lowK_at {cp : Int → Int} {l : List Fl} {s : Rt} : ∀ n y, lowK cp l s n = some y → ∃ k : Nat, k < n ∧ lev cp l s (k : Int) = some y := by
  intro n
  induction n with
  | zero => intro y h; cases h
  | succ n ih =>
    intro y h
    unfold lowK at h
    cases hl : lev cp l s (n : Int) with
    | none =>
      rw [hl] at h
      obtain ⟨k, h2, h3⟩ := ih y h
      exact ⟨k, by omega, h3⟩
    | some x0 =>
      rw [hl] at h
      rcases (mn_spec h).2.2 with h3 | h3
      · exact ⟨n, by omega, by rw [hl, h3]⟩
      · obtain ⟨k, h5, h6⟩ := ih y h3
        exact ⟨k, by omega, h6⟩
set_option maxRecDepth 100000 in
theorem lowF_k {cp : Int → Int} {l : List Fl} {s : Rt} {n : Nat} : ∀ m y, lowK cp l s n = some y → ∃ z, lowF cp l s n m = some z ∧ z ≤ y := by
  intro m
  induction m with
  | zero => intro y h; exact ⟨y, h, Rat.le_refl⟩
  | succ m ih =>
    intro y h
    obtain ⟨z, h1, h2⟩ := ih y h
    unfold lowF
    by_cases ha : s.a.getD m false = true
    · rw [if_pos ha]
      obtain ⟨u, hu⟩ := mn_some (lowF cp l s n m) (lmA l m : Rat)
      exact ⟨u, hu, Rat.le_trans ((mn_spec hu).2.1 z h1) h2⟩
    · rw [if_neg ha]; exact ⟨z, h1, h2⟩
set_option maxRecDepth 100000 in
theorem lowF_le {cp : Int → Int} {l : List Fl} {s : Rt} {n : Nat} : ∀ m i, i < m → s.a.getD i false = true → ∃ z, lowF cp l s n m = some z ∧ z ≤ (lmA l i : Rat) := by
  intro m
  induction m with
  | zero => intro i hi; omega
  | succ m ih =>
    intro i hi hai
    unfold lowF
    rcases Nat.lt_or_ge i m with h4 | h4
    · obtain ⟨z, h1, h2⟩ := ih i h4 hai
      by_cases ha : s.a.getD m false = true
      · rw [if_pos ha]
        obtain ⟨u, hu⟩ := mn_some (lowF cp l s n m) (lmA l m : Rat)
        exact ⟨u, hu, Rat.le_trans ((mn_spec hu).2.1 z h1) h2⟩
      · rw [if_neg ha]; exact ⟨z, h1, h2⟩
    · obtain rfl : i = m := by omega
      rw [if_pos hai]
      obtain ⟨u, hu⟩ := mn_some (lowF cp l s n i) (lmA l i : Rat)
      exact ⟨u, hu, (mn_spec hu).1⟩
set_option maxRecDepth 100000 in
theorem lowF_at {cp : Int → Int} {l : List Fl} {s : Rt} {n : Nat} : ∀ m y, lowF cp l s n m = some y → (∃ k : Nat, k < n ∧ lev cp l s (k : Int) = some y) ∨ ∃ i, i < m ∧ s.a.getD i false = true ∧ (lmA l i : Rat) = y := by
  intro m
  induction m with
  | zero => intro y h; exact .inl (lowK_at n y h)
  | succ m ih =>
    intro y h
    unfold lowF at h
    have key : lowF cp l s n m = some y → (∃ k : Nat, k < n ∧ lev cp l s (k : Int) = some y) ∨ ∃ i, i < m + 1 ∧ s.a.getD i false = true ∧ (lmA l i : Rat) = y := fun h => by
      rcases ih y h with h1 | ⟨i, h1, h2⟩
      · exact .inl h1
      · exact .inr ⟨i, by omega, h2⟩
    by_cases ha : s.a.getD m false = true
    · rw [if_pos ha] at h
      rcases (mn_spec h).2.2 with h3 | h3
      · exact .inr ⟨m, by omega, ha, h3.symm⟩
      · exact key h3
    · rw [if_neg ha] at h; exact key h
/-- the lowest level: below all, and met -/
structure IsLow (cp : Int → Int) (l : List Fl) (s : Rt) (n : Nat) (q : Rat) : Prop where
  lev : ∀ k : Nat, k < n → ∀ x, lev cp l s (k : Int) = some x → q ≤ x
  lim : ∀ i, i < l.length → s.a.getD i false = true → q ≤ (lmA l i : Rat)
  met : (∃ k : Nat, k < n ∧ Proofs.Ythdfflbhogfejaa.lev cp l s (k : Int) = some q) ∨ ∃ i, i < l.length ∧ s.a.getD i false = true ∧ (lmA l i : Rat) = q
set_option maxRecDepth 100000 in
theorem IsLow.unique {cp : Int → Int} {l : List Fl} {s : Rt} {n : Nat} {q p : Rat} (h : IsLow cp l s n q) (k : IsLow cp l s n p) : q = p := by
  have h1 : q ≤ p := by
    rcases k.met with ⟨j, h1, h2⟩ | ⟨i, h1, h2, h3⟩
    · exact h.lev j h1 p h2
    · rw [← h3]; exact h.lim i h1 h2
  have h2 : p ≤ q := by
    rcases h.met with ⟨j, h1, h2⟩ | ⟨i, h1, h2, h3⟩
    · exact k.lev j h1 q h2
    · rw [← h3]; exact k.lim i h1 h2
  grind
set_option maxRecDepth 100000 in
theorem lowF_low {cp : Int → Int} {l : List Fl} {s : Rt} {n : Nat} {q : Rat} (h : lowF cp l s n l.length = some q) : IsLow cp l s n q := by
  refine ⟨fun k hk x hx => ?_, fun i hi ha => ?_, lowF_at _ _ h⟩
  · obtain ⟨y, h1, h2⟩ := lowK_le n k hk x hx
    obtain ⟨z, h3, h4⟩ := lowF_k l.length y h1
    rw [h] at h3; cases h3
    exact Rat.le_trans h4 h2
  · obtain ⟨z, h3, h4⟩ := lowF_le (cp := cp) (n := n) l.length i hi ha
    rw [h] at h3; cases h3
    exact h4
end Go.Proofs.Ythdfflbhogfejaa
namespace Go.Proofs.Ythdfflbhogfejaa

set_option maxRecDepth 100000 in
theorem partR_len (cp : Int → Int) (l : List Fl) (s : Rt) (q : Rat) (m : Nat) : (partR cp l s q m).r.length = s.r.length ∧ (partR cp l s q m).a.length = s.a.length := by
  induction m with
  | zero => exact ⟨rfl, rfl⟩
  | succ m ih =>
    unfold partR
    split
    · exact ⟨by rw [List.length_set]; exact ih.1, by rw [List.length_set]; exact ih.2⟩
    · exact ih
set_option maxRecDepth 100000 in
theorem partR_at {cp : Int → Int} {l : List Fl} {s : Rt} {q : Rat} (lr : s.r.length = l.length) (la : s.a.length = l.length) : ∀ m, m ≤ l.length → ∀ i,
    (partR cp l s q m).a.getD i false = (if i < m ∧ s.a.getD i false = true ∧ stopQ cp l s q i then false else s.a.getD i false) ∧
    (partR cp l s q m).r.getD i 0 = (if i < m ∧ s.a.getD i false = true ∧ stopQ cp l s q i then q else s.r.getD i 0) := by
  intro m
  induction m with
  | zero => intro _ i; rw [if_neg (by omega), if_neg (by omega)]; exact ⟨rfl, rfl⟩
  | succ m ih =>
    intro hm i
    obtain ⟨h1, h2⟩ := ih (by omega) i
    have hl := partR_len cp l s q m
    unfold partR
    by_cases hc : s.a.getD m false = true ∧ stopQ cp l s q m
    · rw [if_pos hc]
      show ((partR cp l s q m).a.set m false).getD i false = _ ∧ ((partR cp l s q m).r.set m q).getD i 0 = _
      rw [getD_set, getD_set]
      by_cases hi : m = i
      · subst hi
        have e1 : m = m ∧ m < (partR cp l s q m).a.length := ⟨rfl, by omega⟩
        have e2 : m = m ∧ m < (partR cp l s q m).r.length := ⟨rfl, by omega⟩
        have e3 : m < m + 1 ∧ s.a.getD m false = true ∧ stopQ cp l s q m := ⟨by omega, hc⟩
        rw [if_pos e1, if_pos e2, if_pos e3, if_pos e3]
        exact ⟨rfl, rfl⟩
      · have e1 : ¬ (m = i ∧ i < (partR cp l s q m).a.length) := fun h => hi h.1
        have e2 : ¬ (m = i ∧ i < (partR cp l s q m).r.length) := fun h => hi h.1
        rw [if_neg e1, if_neg e2, h1, h2]
        by_cases hi2 : i < m ∧ s.a.getD i false = true ∧ stopQ cp l s q i
        · rw [if_pos hi2, if_pos hi2, if_pos ⟨by omega, hi2.2⟩, if_pos ⟨by omega, hi2.2⟩]; exact ⟨rfl, rfl⟩
        · have hn : ¬ (i < m + 1 ∧ s.a.getD i false = true ∧ stopQ cp l s q i) := fun h => hi2 ⟨by omega, h.2⟩
          rw [if_neg hi2, if_neg hi2, if_neg hn, if_neg hn]; exact ⟨rfl, rfl⟩
    · rw [if_neg hc, h1, h2]
      by_cases hi2 : i < m ∧ s.a.getD i false = true ∧ stopQ cp l s q i
      · rw [if_pos hi2, if_pos hi2, if_pos ⟨by omega, hi2.2⟩, if_pos ⟨by omega, hi2.2⟩]; exact ⟨rfl, rfl⟩
      · have hn : ¬ (i < m + 1 ∧ s.a.getD i false = true ∧ stopQ cp l s q i) := fun h => by
          rcases Nat.lt_or_ge i m with h3 | h3
          · exact hi2 ⟨h3, h.2⟩
          · obtain rfl : i = m := by omega
            exact hc h.2
        rw [if_neg hi2, if_neg hi2, if_neg hn, if_neg hn]; exact ⟨rfl, rfl⟩
set_option maxRecDepth 100000 in
/-- what the flows of a link take, if those that rise take q -/
theorem load_at (l : List Fl) (s : Rt) (k : Int) (q : Rat) : ∀ n, sumTo (tkS l s k) n + (cnt l s k n : Nat) * q = sumTo (fun i => if k ∈ lkA l i then (if s.a.getD i false = true then q else s.r.getD i 0) else 0) n := by
  intro n
  induction n with
  | zero => show (0 : Rat) + ((0 : Nat) : Rat) * q = 0; grind
  | succ n ih =>
    rw [sumTo, sumTo, ← ih, cnt]
    by_cases hk : k ∈ lkA l n
    · by_cases ha : s.a.getD n false = true
      · rw [if_pos ⟨hk, ha⟩, if_pos hk, if_pos ha, tkS, if_neg (by rw [ha]; simp), Rat.natCast_add]; grind
      · rw [if_neg (fun h => ha h.2), if_pos hk, if_neg ha, tkS, if_pos ⟨hk, by simpa using ha⟩, Nat.add_zero]; grind
    · rw [if_neg (fun h => hk h.1), if_neg hk, tkS, if_neg (fun h => hk h.1), Nat.add_zero]; grind
set_option maxRecDepth 100000 in
theorem cnt_zero {l : List Fl} {s : Rt} {k : Int} : ∀ n, cnt l s k n = 0 ↔ ∀ i, i < n → k ∈ lkA l i → s.a.getD i false = false := by
  intro n
  induction n with
  | zero => exact ⟨fun _ i hi => by omega, fun _ => rfl⟩
  | succ n ih =>
    rw [cnt]
    constructor
    · intro h i hi hk
      by_cases hx : k ∈ lkA l n ∧ s.a.getD n false = true
      · rw [if_pos hx] at h; omega
      · rw [if_neg hx] at h
        rcases Nat.lt_or_ge i n with h3 | h3
        · exact ih.1 (by omega) i h3 hk
        · obtain rfl : i = n := by omega
          cases hb : s.a.getD i false
          · rfl
          · exact absurd ⟨hk, hb⟩ hx
    · intro h
      have h1 := ih.2 (fun i hi => h i (by omega))
      rw [h1, if_neg (fun hx => by have := h n (by omega) hx.1; rw [this] at hx; exact absurd hx.2 (by simp))]
end Go.Proofs.Ythdfflbhogfejaa
namespace Go.Proofs.Ythdfflbhogfejaa

set_option maxRecDepth 100000 in
theorem lev_some {cp : Int → Int} {l : List Fl} {s : Rt} {k : Int} {x : Rat} (h : lev cp l s k = some x) : 0 < cnt l s k l.length ∧ sumTo (tkS l s k) l.length + (cnt l s k l.length : Nat) * x = (cp k : Rat) := by
  unfold lev at h
  by_cases hc : cnt l s k l.length = 0
  · rw [if_pos hc] at h; cases h
  · rw [if_neg hc] at h
    have h2 : ((cp k : Rat) - sumTo (tkS l s k) l.length) / (cnt l s k l.length : Nat) = x := Option.some.inj h
    have h3 : ((cnt l s k l.length : Nat) : Rat) ≠ 0 := by simpa using hc
    refine ⟨by omega, ?_⟩
    rw [← h2]
    grind
set_option maxRecDepth 100000 in
theorem lev_of {cp : Int → Int} {l : List Fl} {s : Rt} {k : Int} {x : Rat} (h0 : 0 < cnt l s k l.length) (h : sumTo (tkS l s k) l.length + (cnt l s k l.length : Nat) * x = (cp k : Rat)) : lev cp l s k = some x := by
  unfold lev
  have h3 : ((cnt l s k l.length : Nat) : Rat) ≠ 0 := by have : cnt l s k l.length ≠ 0 := by omega
                                                         simpa using this
  rw [if_neg (by omega), ← h]
  congr 1
  grind
structure RInv (cp : Int → Int) (l : List Fl) (n : Nat) (s : Rt) (q : Rat) : Prop where
  lr : s.r.length = l.length
  la : s.a.length = l.length
  q0 : 0 ≤ q
  st : ∀ i, i < l.length → s.a.getD i false = false → 0 ≤ s.r.getD i 0 ∧ s.r.getD i 0 ≤ q ∧ s.r.getD i 0 ≤ (lmA l i : Rat)
  up : ∀ i, i < l.length → s.a.getD i false = true → q ≤ (lmA l i : Rat)
  cap : ∀ k : Nat, k < n → sumTo (tkS l s (k : Int)) l.length + (cnt l s (k : Int) l.length : Nat) * q ≤ (cp (k : Int) : Rat)
  held : ∀ i, i < l.length → s.a.getD i false = false → s.r.getD i 0 = (lmA l i : Rat) ∨ ∃ k ∈ lkA l i, sumTo (tkS l s k) l.length = (cp k : Rat) ∧ ∀ j, j < l.length → k ∈ lkA l j → s.a.getD j false = false ∧ s.r.getD j 0 ≤ s.r.getD i 0
set_option maxRecDepth 100000 in
theorem le_of_cmul {c : Nat} {p q : Rat} (hc : 0 < c) (h : (c : Rat) * p ≤ (c : Rat) * q) : p ≤ q := by
  have h1 : (0 : Rat) < (c : Rat) := by exact_mod_cast hc
  by_cases h2 : q < p
  · have := Rat.mul_lt_mul_of_pos_left h2 h1
    grind
  · grind
set_option maxRecDepth 100000 in
theorem cmul_le (c : Nat) {p q : Rat} (h : p ≤ q) : (c : Rat) * p ≤ (c : Rat) * q := by
  have h1 : (0 : Rat) ≤ (c : Rat) := by exact_mod_cast Nat.zero_le c
  exact Rat.mul_le_mul_of_nonneg_left h h1
set_option maxRecDepth 100000 in
theorem RInv.rise {cp : Int → Int} {l : List Fl} {n : Nat} {s : Rt} {q p : Rat} (h : RInv cp l n s q) (hp : IsLow cp l s n p) : q ≤ p := by
  rcases hp.met with ⟨k, h1, h2⟩ | ⟨i, h1, h2, h3⟩
  · obtain ⟨h3, h4⟩ := lev_some h2
    have h5 := h.cap k h1
    exact le_of_cmul h3 (by grind)
  · rw [← h3]; exact h.up i h1 h2
set_option maxRecDepth 100000 in
theorem RInv.round {cp : Int → Int} {l : List Fl} {n : Nat} {s : Rt} {q p : Rat} (_hl : ∀ i, i < l.length → ∀ k ∈ lkA l i, 0 ≤ k ∧ k < n) (h : RInv cp l n s q) (hp : IsLow cp l s n p) : RInv cp l n (partR cp l s p l.length) p := by
  have hq := h.rise hp
  have hat := partR_at (cp := cp) (q := p) h.lr h.la l.length (Nat.le_refl _)
  have hln := partR_len cp l s p l.length
  -- who has stopped
  have hA : ∀ i, i < l.length → (s.a.getD i false = true ∧ stopQ cp l s p i ∧ (partR cp l s p l.length).a.getD i false = false ∧ (partR cp l s p l.length).r.getD i 0 = p) ∨
      (s.a.getD i false = true ∧ ¬ stopQ cp l s p i ∧ (partR cp l s p l.length).a.getD i false = true) ∨
      (s.a.getD i false = false ∧ (partR cp l s p l.length).a.getD i false = false ∧ (partR cp l s p l.length).r.getD i 0 = s.r.getD i 0) := by
    intro i hi
    obtain ⟨h1, h2⟩ := hat i
    cases ha : s.a.getD i false
    · have hn : ¬ (i < l.length ∧ s.a.getD i false = true ∧ stopQ cp l s p i) := fun h => by rw [ha] at h; exact absurd h.2.1 (by simp)
      rw [if_neg hn] at h1 h2
      exact .inr (.inr ⟨rfl, h1.trans ha, h2⟩)
    · by_cases hs : stopQ cp l s p i
      · rw [if_pos ⟨hi, ha, hs⟩] at h1 h2
        exact .inl ⟨rfl, hs, h1, h2⟩
      · have hn : ¬ (i < l.length ∧ s.a.getD i false = true ∧ stopQ cp l s p i) := fun h => hs h.2.2
        rw [if_neg hn] at h1
        exact .inr (.inl ⟨rfl, hs, h1.trans ha⟩)
  generalize partR cp l s p l.length = t at hat hln hA ⊢
  have hload : ∀ k, sumTo (tkS l t k) l.length + (cnt l t k l.length : Nat) * p = sumTo (tkS l s k) l.length + (cnt l s k l.length : Nat) * p := by
    intro k
    rw [load_at, load_at]
    refine sumTo_congr fun i hi => ?_
    rcases hA i hi with ⟨a1, a2, a3, a4⟩ | ⟨a1, a2, a3⟩ | ⟨a1, a2, a3⟩
    · rw [a1, a3, a4]; simp
    · rw [a1, a3]; simp
    · rw [a1, a2, a3]
  -- a link that is full at p: nobody rises on it any more
  have hfull : ∀ k, lev cp l s k = some p → sumTo (tkS l t k) l.length = (cp k : Rat) ∧ ∀ j, j < l.length → k ∈ lkA l j → t.a.getD j false = false := by
    intro k hk
    have hz : ∀ j, j < l.length → k ∈ lkA l j → t.a.getD j false = false := by
      intro j hj hkj
      rcases hA j hj with ⟨a1, a2, a3, a4⟩ | ⟨a1, a2, a3⟩ | ⟨a1, a2, a3⟩
      · exact a3
      · exact absurd (.inr ⟨k, hkj, hk⟩) a2
      · exact a2
    have h0 := (cnt_zero l.length).2 hz
    have h1 := hload k
    rw [h0, (lev_some hk).2] at h1
    refine ⟨?_, hz⟩
    rw [← h1]
    have : ((0 : Nat) : Rat) = 0 := rfl
    grind
  refine ⟨hln.1.trans h.lr, hln.2.trans h.la, by have := h.q0; grind, ?_, ?_, ?_, ?_⟩
  · intro i hi ha
    rcases hA i hi with ⟨a1, a2, a3, a4⟩ | ⟨a1, a2, a3⟩ | ⟨a1, a2, a3⟩
    · have h1 := hp.lim i hi a1
      have h2 := h.q0
      rw [a4]; grind
    · rw [a3] at ha; exact absurd ha (by simp)
    · have h1 := h.st i hi a1
      rw [a3]; grind
  · intro i hi ha
    rcases hA i hi with ⟨a1, a2, a3, a4⟩ | ⟨a1, a2, a3⟩ | ⟨a1, a2, a3⟩
    · exact hp.lim i hi a1
    · exact hp.lim i hi a1
    · rw [a2] at ha; exact absurd ha (by simp)
  · intro k hk
    rw [hload]
    by_cases hc : cnt l s (k : Int) l.length = 0
    · have h1 := h.cap k hk
      rw [hc] at h1 ⊢
      have : ((0 : Nat) : Rat) = 0 := rfl
      grind
    · have hx : ∃ x, lev cp l s (k : Int) = some x := by unfold lev; rw [if_neg hc]; exact ⟨_, rfl⟩
      obtain ⟨x, hx⟩ := hx
      have h1 := cmul_le (cnt l s (k : Int) l.length) (hp.lev k hk x hx)
      have h2 := (lev_some hx).2
      grind
  · intro i hi ha
    rcases hA i hi with ⟨a1, a2, a3, a4⟩ | ⟨a1, a2, a3⟩ | ⟨a1, a2, a3⟩
    · rcases a2 with a2 | ⟨k, hk, a2⟩
      · exact .inl (by rw [a4, a2])
      · obtain ⟨f1, f2⟩ := hfull k a2
        refine .inr ⟨k, hk, f1, fun j hj hkj => ⟨f2 j hj hkj, ?_⟩⟩
        rw [a4]
        rcases hA j hj with ⟨b1, b2, b3, b4⟩ | ⟨b1, b2, b3⟩ | ⟨b1, b2, b3⟩
        · rw [b4]; exact Rat.le_refl
        · rw [f2 j hj hkj] at b3; cases b3
        · have := (h.st j hj b1).2.1
          rw [b3]; grind
    · rw [a3] at ha; exact absurd ha (by simp)
    · rw [a3]
      rcases h.held i hi a1 with h1 | ⟨k, hk, h1, h2⟩
      · exact .inl h1
      · refine .inr ⟨k, hk, ?_, fun j hj hkj => ?_⟩
        · rw [← h1]
          refine sumTo_congr fun j hj => ?_
          unfold tkS
          by_cases hkj : k ∈ lkA l j
          · have h3 := (h2 j hj hkj).1
            rcases hA j hj with ⟨b1, b2, b3, b4⟩ | ⟨b1, b2, b3⟩ | ⟨b1, b2, b3⟩
            · rw [h3] at b1; cases b1
            · rw [h3] at b1; cases b1
            · rw [b1, b2, b3]
          · rw [if_neg (fun h => hkj h.1), if_neg (fun h => hkj h.1)]
        · have h3 := h2 j hj hkj
          rcases hA j hj with ⟨b1, b2, b3, b4⟩ | ⟨b1, b2, b3⟩ | ⟨b1, b2, b3⟩
          · rw [h3.1] at b1; cases b1
          · rw [h3.1] at b1; cases b1
          · rw [b3]; exact ⟨b2, h3.2⟩
end Go.Proofs.Ythdfflbhogfejaa
