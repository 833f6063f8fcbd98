/- Max-min fair rates as pure lists: each round stops somebody, so at the end nobody rises, and the rates have the certificate; how great numerators and denominators can be. No program in sight. How great the numbers are that Rates reckons with. No program in sight. The walk of fairshare.load. -/
import Derived.Test.YthdfflbhogfejaaRaK
import Derived.Test.YthdfflbhogfejaaFrS
import Derived.Test.YthdfflbhogfejaaFrG
import Derived.Test.YthdfflbhogfejaaFhA
namespace Go.Proofs.Ythdfflbhogfejaa
set_option maxRecDepth 100000

/-- how many rise -/
def rising : List Bool → Nat
  | [] => 0
  | b :: a => (if b = true then 1 else 0) + rising a
theorem rising_le : ∀ a : List Bool, rising a ≤ a.length := by
  intro a
  induction a with
  | nil => exact Nat.le_refl _
  | cons b a ih => rw [rising, List.length_cons]; split <;> omega
theorem rising_mem : ∀ a : List Bool, true ∈ a ↔ 0 < rising a := by
  intro a
  induction a with
  | nil => simp [rising]
  | cons b a ih => cases b <;> simp [rising, ih] <;> omega
theorem rising_mono : ∀ a b : List Bool, a.length = b.length → (∀ i, b.getD i false = true → a.getD i false = true) → rising b ≤ rising a := by
  intro a
  induction a with
  | nil => intro b hl _; cases b with
    | nil => exact Nat.le_refl _
    | cons _ _ => simp at hl
  | cons x a ih =>
    intro b hl h
    cases b with
    | nil => simp at hl
    | cons y b =>
      have h1 := ih b (by simpa using hl) (fun i hi => by have := h (i + 1) (by simpa using hi); simpa using this)
      have h0 : y = true → x = true := fun e => by have := h 0 (by simpa using e); simpa using this
      rw [rising, rising]
      by_cases hy : y = true
      · rw [if_pos hy, if_pos (h0 hy)]; omega
      · rw [if_neg hy]; omega
theorem rising_lt : ∀ a b : List Bool, a.length = b.length → (∀ i, b.getD i false = true → a.getD i false = true) → (∃ i, a.getD i false = true ∧ b.getD i false = false) → rising b < rising a := by
  intro a
  induction a with
  | nil => rintro b _ _ ⟨i, hi, _⟩; simp at hi
  | cons x a ih =>
    rintro b hl h ⟨i, h1, h2⟩
    cases b with
    | nil => simp at hl
    | cons y b =>
      have hm := rising_mono a b (by simpa using hl) (fun i hi => by have := h (i + 1) (by simpa using hi); simpa using this)
      have h0 : y = true → x = true := fun e => by have := h 0 (by simpa using e); simpa using this
      rw [rising, rising]
      cases i with
      | zero =>
        have e1 : x = true := by simpa using h1
        have e2 : y = false := by simpa using h2
        rw [if_pos e1, if_neg (by rw [e2]; simp)]; omega
      | succ i =>
        have h3 := ih b (by simpa using hl) (fun i hi => by have := h (i + 1) (by simpa using hi); simpa using this) ⟨i, by simpa using h1, by simpa using h2⟩
        by_cases hy : y = true
        · rw [if_pos hy, if_pos (h0 hy)]; omega
        · rw [if_neg hy]; omega
theorem getD_mem_true {a : List Bool} : true ∈ a ↔ ∃ i, i < a.length ∧ a.getD i false = true := by
  constructor
  · intro h
    obtain ⟨i, hi, e⟩ := List.getElem_of_mem h
    exact ⟨i, hi, by rw [getD_lt _ _ _ hi]; exact e⟩
  · rintro ⟨i, hi, e⟩
    rw [getD_lt _ _ _ hi] at e
    rw [← e]; exact List.getElem_mem hi
/-- somebody stops at the lowest level -/
theorem IsLow.stops {cp : Int → Int} {l : List Fl} {s : Rt} {n : Nat} {p : Rat} (h : IsLow cp l s n p) : ∃ i, i < l.length ∧ s.a.getD i false = true ∧ stopQ cp l s p i := by
  rcases h.met with ⟨k, h1, h2⟩ | ⟨i, h1, h2, h3⟩
  · have h3 := (lev_some h2).1
    have h4 : ¬ cnt l s (k : Int) l.length = 0 := by omega
    rw [cnt_zero] at h4
    apply Classical.byContradiction
    intro hn
    apply h4
    intro i hi hk
    cases ha : s.a.getD i false
    · rfl
    · exact absurd ⟨i, hi, ha, .inr ⟨_, hk, h2⟩⟩ hn
  · exact ⟨i, h1, h2, .inl h3⟩
theorem low_some {cp : Int → Int} {l : List Fl} {s : Rt} {n : Nat} (la : s.a.length = l.length) (h : true ∈ s.a) : ∃ q, lowF cp l s n l.length = some q := by
  obtain ⟨i, hi, ha⟩ := getD_mem_true.1 h
  obtain ⟨z, h1, _⟩ := lowF_le (cp := cp) (n := n) l.length i (by omega) ha
  exact ⟨z, h1⟩
theorem partR_rising {cp : Int → Int} {l : List Fl} {s : Rt} {n : Nat} {p : Rat} (lr : s.r.length = l.length) (la : s.a.length = l.length) (h : IsLow cp l s n p) : rising (partR cp l s p l.length).a < rising s.a := by
  have hat := partR_at (cp := cp) (q := p) lr la l.length (Nat.le_refl _)
  refine rising_lt _ _ (partR_len cp l s p l.length).2.symm (fun i hi => ?_) ?_
  · rw [(hat i).1] at hi
    split at hi
    · cases hi
    · exact hi
  · obtain ⟨i, hi, ha, hs⟩ := h.stops
    exact ⟨i, ha, by rw [(hat i).1, if_pos ⟨hi, ha, hs⟩]⟩
/-- links, capacities and limits that may be -/
structure OkR (cp : Int → Int) (l : List Fl) (n : Nat) : Prop where
  lk : ∀ i, i < l.length → ∀ k ∈ lkA l i, 0 ≤ k ∧ k < n
  cp0 : ∀ k : Nat, k < n → 0 ≤ cp (k : Int)
  lm0 : ∀ i, i < l.length → 0 ≤ lmA l i
theorem sumTo_zero {g : Nat → Rat} {n : Nat} (h : ∀ i, i < n → g i = 0) : sumTo g n = 0 := by
  induction n with
  | zero => rfl
  | succ n ih => rw [sumTo, ih (fun i hi => h i (by omega)), h n (by omega)]; grind
theorem RInv.start {cp : Int → Int} {l : List Fl} {n : Nat} (h : OkR cp l n) : RInv cp l n (itR cp l n 0) 0 := by
  have hA : ∀ i, i < l.length → (List.replicate l.length true).getD i false = true := fun i hi => getD_rep _ _ _ _ hi
  refine ⟨by simp [itR], by simp [itR], Rat.le_refl, fun i hi ha => ?_, fun i hi _ => ?_, fun k hk => ?_, fun i hi ha => ?_⟩
  · have : (List.replicate l.length true).getD i false = false := ha
    rw [hA i hi] at this; cases this
  · exact_mod_cast h.lm0 i hi
  · have h1 : sumTo (tkS l (itR cp l n 0) (k : Int)) l.length = 0 := sumTo_zero fun i hi => by
      have h2 : (itR cp l n 0).a.getD i false = true := hA i hi
      rw [tkS, if_neg (by rw [h2]; simp)]
    have h3 : (0 : Rat) ≤ (cp (k : Int) : Rat) := by exact_mod_cast h.cp0 k hk
    rw [h1]; grind
  · have : (List.replicate l.length true).getD i false = false := ha
    rw [hA i hi] at this; cases this
theorem itR_inv {cp : Int → Int} {l : List Fl} {n : Nat} (h : OkR cp l n) (k : Nat) : (∃ q, RInv cp l n (itR cp l n k) q) ∧ (rising (itR cp l n k).a + k ≤ l.length ∨ rising (itR cp l n k).a = 0) := by
  induction k with
  | zero => exact ⟨⟨0, RInv.start h⟩, .inl (by have := rising_le (itR cp l n 0).a; have := (RInv.start h).la; omega)⟩
  | succ k ih =>
    obtain ⟨⟨q, hq⟩, hr⟩ := ih
    rw [itR]
    by_cases ht : true ∈ (itR cp l n k).a
    · rw [if_pos ht]
      obtain ⟨p, hp⟩ := low_some (cp := cp) (n := n) hq.la ht
      have hl := lowF_low hp
      rw [roundR, hp]
      refine ⟨⟨p, hq.round h.lk hl⟩, .inl ?_⟩
      have := partR_rising hq.lr hq.la hl
      show rising (partR cp l (itR cp l n k) p l.length).a + _ ≤ _
      omega
    · rw [if_neg ht]
      have : rising (itR cp l n k).a = 0 := Nat.eq_zero_of_not_pos fun h => ht ((rising_mem _).2 h)
      exact ⟨⟨q, hq⟩, .inr this⟩
theorem itR_done {cp : Int → Int} {l : List Fl} {n : Nat} (h : OkR cp l n) (k : Nat) (hk : l.length ≤ k) : ¬ true ∈ (itR cp l n k).a := by
  rw [rising_mem]
  have := (itR_inv h k).2
  omega
theorem itR_stop {cp : Int → Int} {l : List Fl} {n : Nat} {k : Nat} (h : ¬ true ∈ (itR cp l n k).a) (m : Nat) : itR cp l n (k + m) = itR cp l n k := by
  induction m with
  | zero => rfl
  | succ m ih => rw [← Nat.add_assoc, itR, ih, if_neg h]
/-- wherever nobody rises, the rates stand -/
theorem itR_rates {cp : Int → Int} {l : List Fl} {n : Nat} (h : OkR cp l n) {k : Nat} (hk : ¬ true ∈ (itR cp l n k).a) : (itR cp l n k).r = ratesM cp l n := by
  rw [ratesM]
  rcases Nat.le_total k l.length with h1 | h1
  · obtain ⟨m, hm⟩ : ∃ m, l.length = k + m := ⟨l.length - k, by omega⟩
    rw [hm, itR_stop hk]
  · obtain ⟨m, hm⟩ : ∃ m, k = l.length + m := ⟨k - l.length, by omega⟩
    rw [hm, itR_stop (itR_done h _ (Nat.le_refl _))]
theorem ratesM_cert {cp : Int → Int} {l : List Fl} {n : Nat} (h : OkR cp l n) : Cert cp l n (ratesM cp l n) := by
  obtain ⟨q, hq⟩ := (itR_inv h l.length).1
  have hd := itR_done h l.length (Nat.le_refl _)
  have hA : ∀ i, i < l.length → (itR cp l n l.length).a.getD i false = false := fun i hi => by
    cases ha : (itR cp l n l.length).a.getD i false
    · rfl
    · exact absurd (getD_mem_true.2 ⟨i, by rw [hq.la]; exact hi, ha⟩) hd
  have hT : ∀ k, sumTo (tkS l (itR cp l n l.length) k) l.length = ldq l (ratesM cp l n) k := fun k => sumTo_congr fun i hi => by
    rw [tkS, tk]
    by_cases hk : k ∈ lkA l i
    · rw [if_pos ⟨hk, hA i hi⟩, if_pos hk]; rfl
    · rw [if_neg (fun x => hk x.1), if_neg hk]
  refine ⟨hq.lr, fun i hi => ?_, fun k hk => ?_, fun i hi => ?_⟩
  · have := hq.st i hi (hA i hi)
    exact ⟨this.1, this.2.2⟩
  · have h1 := hq.cap k hk
    have h2 := cmul_le (cnt l (itR cp l n l.length) (k : Int) l.length) hq.q0
    rw [hT] at h1
    grind
  · rcases hq.held i hi (hA i hi) with h1 | ⟨k, h1, h2, h3⟩
    · exact .inl h1
    · rw [hT] at h2
      exact .inr ⟨k, h1, h2, fun j hj hkj => (h3 j hj hkj).2⟩

/-- a number is so many parts of one -/
def Dn (D : Nat) (q : Rat) : Prop := ∃ z : Int, q * (D : Rat) = (z : Rat)
theorem Dn.int (D : Nat) (z : Int) : Dn D (z : Rat) := ⟨z * D, by rw [Rat.intCast_mul, Rat.intCast_natCast]⟩
theorem Dn.zero (D : Nat) : Dn D 0 := Dn.int D 0
theorem Dn.add {D : Nat} {p q : Rat} (h : Dn D p) (k : Dn D q) : Dn D (p + q) := by
  obtain ⟨a, ha⟩ := h; obtain ⟨b, hb⟩ := k
  exact ⟨a + b, by rw [Rat.intCast_add, ← ha, ← hb]; grind⟩
theorem Dn.sub {D : Nat} {p q : Rat} (h : Dn D p) (k : Dn D q) : Dn D (p - q) := by
  obtain ⟨a, ha⟩ := h; obtain ⟨b, hb⟩ := k
  exact ⟨a - b, by rw [Rat.intCast_sub, ← ha, ← hb]; grind⟩
theorem Dn.mul {D : Nat} {q : Rat} (h : Dn D q) (c : Nat) : Dn (D * c) q := by
  obtain ⟨a, ha⟩ := h
  exact ⟨a * c, by rw [Rat.intCast_mul, ← ha, Rat.natCast_mul, Rat.intCast_natCast]; grind⟩
theorem Dn.div {D : Nat} {q : Rat} (h : Dn D q) {c : Nat} (hc : c ≠ 0) : Dn (D * c) (q / (c : Nat)) := by
  obtain ⟨a, ha⟩ := h
  have h3 : ((c : Nat) : Rat) ≠ 0 := by simpa using hc
  exact ⟨a, by rw [← ha, Rat.natCast_mul]; grind⟩
theorem Dn.sumTo {D : Nat} {g : Nat → Rat} {n : Nat} (h : ∀ i, i < n → Dn D (g i)) : Dn D (sumTo g n) := by
  induction n with
  | zero => exact Dn.zero D
  | succ n ih => rw [Proofs.Ythdfflbhogfejaa.sumTo]; exact (ih (fun i hi => h i (by omega))).add (h n (by omega))
theorem cnt_le (l : List Fl) (s : Rt) (k : Int) : ∀ n, cnt l s k n ≤ n := by
  intro n
  induction n with
  | zero => exact Nat.le_refl _
  | succ n ih => rw [cnt]; split <;> omega
theorem Dn.tkS {D : Nat} {l : List Fl} {s : Rt} (h : ∀ i, i < l.length → Dn D (s.r.getD i 0)) (k : Int) (i : Nat) (hi : i < l.length) : Dn D (tkS l s k i) := by
  rw [Proofs.Ythdfflbhogfejaa.tkS]
  split
  · exact h i hi
  · exact Dn.zero D
theorem Dn.lev {cp : Int → Int} {D : Nat} {l : List Fl} {s : Rt} (h : ∀ i, i < l.length → Dn D (s.r.getD i 0)) {k : Int} {x : Rat} (hx : lev cp l s k = some x) : Dn (D * cnt l s k l.length) x := by
  rw [Proofs.Ythdfflbhogfejaa.lev] at hx
  split at hx
  · cases hx
  · rename_i hc
    cases hx
    exact Dn.div ((Dn.int D _).sub (Dn.sumTo fun i hi => Dn.tkS h k i hi)) hc
/-- the denominators after so many rounds -/
theorem itR_den {cp : Int → Int} {l : List Fl} {n : Nat} (h : OkR cp l n) {L : Nat} (hL : l.length ≤ L) (hz : 0 < L) (k : Nat) : ∃ D : Nat, 0 < D ∧ D ≤ L ^ k ∧ ∀ i, i < l.length → Dn D ((itR cp l n k).r.getD i 0) := by
  induction k with
  | zero =>
    refine ⟨1, by omega, by simp, fun i hi => ?_⟩
    show Dn 1 ((List.replicate l.length (0 : Rat)).getD i 0)
    rw [getD_rep _ _ _ _ hi]; exact Dn.zero 1
  | succ k ih =>
    obtain ⟨D, h0, h1, h2⟩ := ih
    rw [itR]
    by_cases ht : true ∈ (itR cp l n k).a
    · rw [if_pos ht]
      obtain ⟨q, hq⟩ := (itR_inv h k).1
      obtain ⟨p, hp⟩ := low_some (cp := cp) (n := n) hq.la ht
      rw [roundR, hp]
      have hat := partR_at (cp := cp) (q := p) hq.lr hq.la l.length (Nat.le_refl _)
      have key : ∀ c : Nat, 0 < c → c ≤ l.length → Dn (D * c) p → ∃ D : Nat, 0 < D ∧ D ≤ L ^ (k + 1) ∧ ∀ i, i < l.length → Dn D ((partR cp l (itR cp l n k) p l.length).r.getD i 0) := by
        intro c hc hcl hd
        refine ⟨D * c, Nat.mul_pos h0 hc, by rw [Nat.pow_succ]; exact Nat.mul_le_mul h1 (Nat.le_trans hcl hL), fun i hi => ?_⟩
        rw [(hat i).2]
        split
        · exact hd
        · exact (h2 i hi).mul c
      rcases (lowF_low hp).met with ⟨j, j1, j2⟩ | ⟨i, h3, h4, h5⟩
      · exact key _ (lev_some j2).1 (cnt_le l _ _ _) (Dn.lev h2 j2)
      · have : Dn (D * 1) p := by rw [← h5]; exact Dn.int _ _
        exact key 1 (by omega) (by omega) this
    · rw [if_neg ht]
      exact ⟨D, h0, Nat.le_trans h1 (Nat.pow_le_pow_right hz (by omega)), h2⟩
end Go.Proofs.Ythdfflbhogfejaa
namespace Go.Proofs.Ythdfflbhogfejaa
set_option maxRecDepth 100000

/-- q is z parts, D of which make one, and at most B -/
def Qd (D B : Nat) (q : Rat) : Prop := ∃ z : Int, q * (D : Rat) = (z : Rat) ∧ z.natAbs ≤ B * D
theorem Qd.int (D : Nat) {B : Nat} {z : Int} (h : z.natAbs ≤ B) : Qd D B (z : Rat) :=
  ⟨z * D, by rw [Rat.intCast_mul, Rat.intCast_natCast], by rw [Int.natAbs_mul, Int.natAbs_natCast]; exact Nat.mul_le_mul_right _ h⟩
theorem Qd.add {D A B : Nat} {p q : Rat} (h : Qd D A p) (k : Qd D B q) : Qd D (A + B) (p + q) := by
  obtain ⟨a, ha, la⟩ := h; obtain ⟨b, hb, lb⟩ := k
  exact ⟨a + b, by rw [Rat.intCast_add, ← ha, ← hb]; grind, by have := Int.natAbs_add_le a b; rw [Nat.add_mul]; omega⟩
theorem Qd.sub {D A B : Nat} {p q : Rat} (h : Qd D A p) (k : Qd D B q) : Qd D (A + B) (p - q) := by
  obtain ⟨a, ha, la⟩ := h; obtain ⟨b, hb, lb⟩ := k
  exact ⟨a - b, by rw [Rat.intCast_sub, ← ha, ← hb]; grind, by have := Int.natAbs_sub_le a b; rw [Nat.add_mul]; omega⟩
theorem Qd.div {D B : Nat} {q : Rat} (h : Qd D B q) {c : Nat} (hc : c ≠ 0) : Qd (D * c) B (q / (c : Nat)) := by
  obtain ⟨a, ha, la⟩ := h
  have h3 : ((c : Nat) : Rat) ≠ 0 := by simpa using hc
  exact ⟨a, by rw [← ha, Rat.natCast_mul]; grind, Nat.le_trans la (Nat.mul_le_mul_left _ (Nat.le_mul_of_pos_right _ (Nat.pos_of_ne_zero hc)))⟩
theorem Qd.mono {D A B : Nat} {q : Rat} (h : Qd D A q) (hab : A ≤ B) : Qd D B q := by
  obtain ⟨a, ha, la⟩ := h
  exact ⟨a, ha, Nat.le_trans la (Nat.mul_le_mul_right _ hab)⟩
theorem Qd.sum {D B : Nat} {g : Nat → Rat} {n : Nat} (h : ∀ i, i < n → Qd D B (g i)) : Qd D (n * B) (sumTo g n) := by
  induction n with
  | zero => exact ⟨0, by rw [sumTo]; grind, by simp⟩
  | succ n ih => rw [sumTo, Nat.add_mul, Nat.one_mul]; exact (ih (fun i hi => h i (by omega))).add (h n (by omega))
theorem Qd.of {D B : Nat} {q : Rat} (h : Dn D q) (h0 : 0 ≤ q) (h1 : q ≤ (B : Rat)) : Qd D B q := by
  obtain ⟨z, hz⟩ := h
  refine ⟨z, hz, ?_⟩
  have hD : (0 : Rat) ≤ (D : Rat) := by exact_mod_cast Nat.zero_le D
  have a1 : (0 : Rat) ≤ q * (D : Rat) := Rat.mul_nonneg h0 hD
  have a2 : q * (D : Rat) ≤ (B : Rat) * (D : Rat) := Rat.mul_le_mul_of_nonneg_right h1 hD
  rw [hz] at a1 a2
  have b1 : (0 : Int) ≤ z := by exact_mod_cast a1
  have b2 : z ≤ ((B * D : Nat) : Int) := by
    have : (z : Rat) ≤ (((B * D : Nat) : Int) : Rat) := by rw [Rat.intCast_natCast, Rat.natCast_mul]; exact a2
    exact_mod_cast this
  omega
theorem Qd.sz {D B : Nat} {q : Rat} (h : Qd D B q) (h0 : 0 < D) (hD : D < 18446744073709551616) (hB : B < 4294967296) : Sz q 4 4 := by
  obtain ⟨z, hz, lz⟩ := h
  have hd : ((D : Nat) : Rat) ≠ 0 := by have : D ≠ 0 := by omega
                                        simpa using this
  have e : q = mkRat z D := by
    rw [Rat.mkRat_eq_div, ← hz]; grind
  rw [e]
  refine Sz.mk (by omega) ?_ (Nat.le_trans (lim_len2 (by omega)) (by omega))
  refine Nat.le_trans (lim_length_mono lz) ?_
  exact Nat.le_trans (len_mulf (lim_len2 (m := B) (by omega)) (lim_len2 (m := D) (by omega))) (by omega)
theorem Qd.zero (D B : Nat) : Qd D B 0 := ⟨0, by grind, by simp⟩

/-- those that rise have nothing yet -/
theorem itR_rise {cp : Int → Int} {l : List Fl} {n : Nat} (h : OkR cp l n) (k : Nat) : ∀ i, i < l.length → (itR cp l n k).a.getD i false = true → (itR cp l n k).r.getD i 0 = 0 := by
  induction k with
  | zero => intro i hi _; exact getD_rep _ _ _ _ hi
  | succ k ih =>
    intro i hi ha
    rw [itR] at ha ⊢
    by_cases ht : true ∈ (itR cp l n k).a
    · rw [if_pos ht] at ha ⊢
      obtain ⟨q, hq⟩ := (itR_inv h k).1
      have hat := partR_at (cp := cp) (q := (lowF cp l (itR cp l n k) n l.length).getD 0) hq.lr hq.la l.length (Nat.le_refl _) i
      rw [roundR] at ha ⊢
      rw [hat.1] at ha
      split at ha
      · cases ha
      · rename_i hn
        rw [hat.2, if_neg hn]; exact ih i hi ha
    · rw [if_neg ht] at ha ⊢; exact ih i hi ha
/-- what a state of Rates keeps that its walk needs -/
structure SmR (cp : Int → Int) (l : List Fl) (s : Rt) (D : Nat) : Prop where
  lr : s.r.length = l.length
  la : s.a.length = l.length
  d0 : 0 < D
  d1 : D ≤ 11112006825558016
  qd : ∀ i, i < l.length → Qd D 4096 (s.r.getD i 0)
theorem itR_sm {cp : Int → Int} {l : List Fl} {n : Nat} (h : OkR cp l n) (hl : l.length ≤ 14) (hm : ∀ i, i < l.length → lmA l i ≤ 4096) (k : Nat) (hk : k ≤ 14) : ∃ D, SmR cp l (itR cp l n k) D := by
  obtain ⟨D, h0, h1, h2⟩ := itR_den h hl (by omega) k
  obtain ⟨q, hq⟩ := (itR_inv h k).1
  refine ⟨D, hq.lr, hq.la, h0, Nat.le_trans h1 (Nat.le_trans (Nat.pow_le_pow_right (by omega) hk) (by decide)), fun i hi => ?_⟩
  have hle : ∀ x : Rat, x ≤ (lmA l i : Rat) → x ≤ ((4096 : Nat) : Rat) := fun x hx => by
    refine Rat.le_trans hx ?_
    have := hm i hi
    exact_mod_cast this
  cases ha : (itR cp l n k).a.getD i false
  · have := hq.st i hi ha
    exact Qd.of (h2 i hi) this.1 (hle _ this.2.2)
  · rw [itR_rise h k i hi ha]; exact Qd.zero _ _
section
variable {cp : Int → Int} {l : List Fl} {s : Rt} {D : Nat}
theorem SmR.tkS (h : SmR cp l s D) (k : Int) (i : Nat) (hi : i < l.length) : Qd D 4096 (tkS l s k i) := by
  rw [Proofs.Ythdfflbhogfejaa.tkS]
  split
  · exact h.qd i hi
  · exact Qd.zero _ _
theorem SmR.rest (h : SmR cp l s D) (hl : l.length ≤ 14) (k : Int) (hc : 0 ≤ cp k ∧ cp k ≤ 4096) (m : Nat) (hm : m ≤ l.length) : Qd D 65536 ((cp k : Rat) - sumTo (Proofs.Ythdfflbhogfejaa.tkS l s k) m) :=
  ((Qd.int D (B := 4096) (by omega)).sub (Qd.sum fun i hi => h.tkS k i (by omega))).mono (by omega)
theorem SmR.sz {q : Rat} {D : Nat} {s : Rt} (h : SmR cp l s D) {B : Nat} (hq : Qd D B q) (hB : B < 4294967296) : Sz q 4 4 := hq.sz h.d0 (by have := h.d1; omega) hB
theorem SmR.lev (h : SmR cp l s D) (hl : l.length ≤ 14) (k : Int) (hc : 0 ≤ cp k ∧ cp k ≤ 4096) {x : Rat} (hx : lev cp l s k = some x) : Sz x 4 4 := by
  rw [Proofs.Ythdfflbhogfejaa.lev] at hx
  split at hx
  · cases hx
  · rename_i hn
    cases hx
    have h1 := cnt_le l s k l.length
    have h2 := h.d1
    have h3 : D * cnt l s k l.length ≤ 11112006825558016 * 14 := Nat.mul_le_mul h2 (by omega)
    exact ((h.rest hl k hc l.length (Nat.le_refl _)).div hn).sz (Nat.mul_pos h.d0 (by omega)) (by omega) (by omega)
end
end Go.Proofs.Ythdfflbhogfejaa
namespace Go.Proofs.Ythdfflbhogfejaa
set_option maxRecDepth 100000
open Go.RowKit

/-- the rates of the first flows that use a link -/
def usedL (l : List Fl) (vs : List Fx) (link : Int) : Nat → List Fx
  | 0 => []
  | i + 1 => if link ∈ lkA l i then usedL l vs link i ++ [vs.getD i Fx.nil] else usedL l vs link i
theorem usedL_len (l : List Fl) (vs : List Fx) (link : Int) : ∀ i, (usedL l vs link i).length ≤ i := by
  intro i
  induction i with
  | zero => exact Nat.le_refl _
  | succ i ih => rw [usedL]; split
                 · rw [List.length_append]; simp; omega
                 · omega
theorem usedL_ok {w : World} {l : List Fl} {vs : List Fx} {link : Int} (h : OkF w vs) : ∀ i, i ≤ vs.length → OkF w (usedL l vs link i) := by
  intro i
  induction i with
  | zero => intro _ v hv; cases hv
  | succ i ih =>
    intro hi
    have h1 := ih (by omega)
    rw [usedL]
    split
    · intro v hv
      rcases List.mem_append.1 hv with h2 | h2
      · exact h1 v h2
      · obtain rfl : v = vs.getD i Fx.nil := by simpa using h2
        rw [List.getD_eq_getElem?_getD, List.getElem?_eq_getElem (by omega)]
        exact h _ (List.getElem_mem _)
    · exact h1
theorem fl_get {fs : List Fm} {k : Nat} (h : k < fs.length) : lkA (fs.map Fm.fl) k = fs[k].ls ∧ lmA (fs.map Fm.fl) k = fs[k].m := by
  rw [lkA_get (by simpa using h), lmA_get (by simpa using h)]
  simp
set_option maxHeartbeats 1600000 in
theorem load_any (w : World) (D : Option Addr) (m d : Nat) (fs : List Fm) (A : Option Addr) (n c : Nat) (vs : List Fx) (link : Int) (S : Bool × List Nat × List Nat × Int) (hD : Ws w D d fs) (hA : RdF w A vs) (hok : OkF w vs) (hm : m = fs.length) (hn : n = vs.length) (hl : vs.length = fs.length) (hle : fs.length ≤ 100) (hs : sumS (usedL (fs.map Fm.fl) vs link fs.length) 0 = S) :
    Calls Try.prog 45 #[.slice D m d, .slice A n c, .int .i64 link] w (FracRes w S) := by
  have HD := Lib.hid hD
  have HA := Lib.hid hA
  have HOK := Lib.hid hok
  have HS := Lib.hid hs
  have HVL := Lib.hid hl
  clear hs hD hA hok hl
  subst hm hn
  go_enter Try.func45, Try.ntmps45
  go_upto_region 1 with fail
  have bw := (Below.refl w.heap.size w).alloc (Nat.le_refl _) (.cells #[.bool false, .slice none 0 0, .slice none 0 0] 41)
  have bk := bk3_new w
  generalize (w.alloc (.cells #[.bool false, .slice none 0 0, .slice none 0 0] 41)) = wm at bw bk ⊢
  have hB : w.heap.size + 1 ≤ wm.heap.size := bk.lt
  have HBK := Lib.hid bk
  clear bk
  go_wp2_with fail
  go_loopw [8, 13] (fun s i wr => ∃ (k : Nat) (out : List Fx) (A2 : Option Addr) (c2 : Nat), k ≤ fs.length ∧ i = .int .i64 k ∧ s = .slice A2 out.length c2 ∧ Fr wr wm.heap.size A2 c2 out ∧ NoI wr A2 ∧ out = usedL (fs.map Fm.fl) vs link k ∧ Below wm.heap.size wm wr) (fun _ i _ => fs.length - (intOf i).toNat)
  case atStart => exact ⟨0, [], none, 0, by omega, rfl, rfl, fr_nil _ _, NoI.nil _, rfl, Below.refl _ _⟩
  case round =>
    obtain ⟨k, out, A2, c2, hkl, rfl, rfl, fr, ni, hout, bz⟩ := hrel
    have HOUT := Lib.hid hout
    have bwr := below_on bw bz bw.size
    have hszr := bz.size
    clear hout
    by_cases hlt : k < fs.length
    · have hW := HD.out.below bwr
      obtain ⟨ad, rfl, _, hcc⟩ := hW.rd (by omega)
      obtain ⟨hc0, hc1⟩ := hcc k hlt
      have hok := hW.ok _ (List.getElem_mem hlt)
      have hgl := (fl_get hlt).1
      obtain ⟨x, hx⟩ : ∃ x, fs[k] = x := ⟨_, rfl⟩
      rw [hx] at hc0 hc1 hok hgl
      have HGL := Lib.hid hgl
      clear hcc hx hW hgl
      go_upto_region 5 with fail
      have fb := (fb_alloc wr x 48).1
      have bb := (fb_alloc wr x 48).2
      have his := (hok.below bb).is
      clear hc0 hc1 hok bwr
      generalize (wr.alloc (.cells #[.slice x.A x.ls.length x.c, .int .i64 x.m] 48)) = wx at fb bb his ⊢
      replace fr := fr.below bb
      replace ni := ni.below bb
      replace bz := below_on bz bb bz.size
      clear bb
      have fc0 := fb.c0
      have fc1 := fb.c1
      by_cases hu : link ∈ x.ls
      · have HNX : Hid (out ++ [vs.getD k Fx.nil] = usedL (fs.map Fm.fl) vs link (k + 1)) := Lib.hid (by rw [usedL, HGL.out, if_pos hu, HOUT.out])
        have HU := Lib.hid (decide_eq_true hu)
        clear hu
        go_wp2_with fail
        refine (contains_i wx x.A _ x.c x.ls link true his rfl HU.out).mono ?_
        rintro e wn ⟨rfl, rfl⟩
        have hkv : k < vs.length := by rw [HVL.out]; exact hlt
        have bwx := below_on bw bz bw.size
        obtain ⟨a2, rfl, el⟩ := (HA.out.below bwx).at k hkv
        have hge : vs.getD k Fx.nil = vs[k] := by rw [List.getD_eq_getElem?_getD, List.getElem?_eq_getElem hkv]; rfl
        obtain ⟨x1, hx1⟩ : ∃ x1, vs[k] = x1 := ⟨_, rfl⟩
        rw [hx1] at el hge
        rw [hge] at HNX
        have e0 := el.c0
        have e1 := el.c1
        have e2 := el.c2
        have hol : out.length ≤ 100 := by have := usedL_len (fs.map Fm.fl) vs link k; rw [HOUT.out]; omega
        clear hge hx1 bwx el
        go_wp2_with (at_builtin; refine wpList_append_frac _ rfl _ _ rfl rfl (A := A2) (c := c2) (n := out.length) (xs := out) rfl rfl (fr.below ((Below.refl _ _).alloc (Nat.le_refl _) _)) (ni.below ((Below.refl _ _).alloc (Nat.le_refl _) _)) _ 1 1 [x1] rfl rfl (rdf1 _ x1) (by simp) (by omega) (by simp; have := bz.size; omega) ?_; intro A4 c4 wz fr4 ni4 bz4 gr4 hat4)
        have blit := (Below.refl wx.heap.size wx).alloc (Nat.le_refl _) (.cells #[.bool x1.b, .slice x1.A x1.xs.length x1.c, .slice x1.D x1.ys.length x1.d] 41)
        go_roundw
        case rel => exact ⟨k + 1, out ++ [x1], A4, c4, by omega, by go_num, by simp, fr4, ni4, HNX.out, (bz.trans (blit.mono bz.size)).trans bz4⟩
        case measure => simp [intOf]; omega
      · have HNX : Hid (out = usedL (fs.map Fm.fl) vs link (k + 1)) := Lib.hid (by rw [usedL, HGL.out, if_neg hu, HOUT.out])
        have HU := Lib.hid (decide_eq_false hu)
        clear hu
        go_wp2_with fail
        refine (contains_i wx x.A _ x.c x.ls link false his rfl HU.out).mono ?_
        rintro e wn ⟨rfl, rfl⟩
        go_wp2_with fail
        go_roundw
        case rel => exact ⟨k + 1, out, A2, c2, by omega, by go_num, rfl, fr, ni, HNX.out, bz⟩
        case measure => simp [intOf]; omega
    · obtain rfl : k = fs.length := by omega
      have HSS : Hid (sumS out 0 = S) := Lib.hid (by rw [HOUT.out]; exact HS.out)
      have hol : out.length ≤ 100 := by have := usedL_len (fs.map Fm.fl) vs link fs.length; rw [HOUT.out]; omega
      have hof : OkF wr out := by
        rw [HOUT.out]
        exact usedL_ok (HOK.out.below bwr) _ (by rw [HVL.out]; exact Nat.le_refl _)
      have hrf := fr.rd
      have bk := HBK.out.below bz
      clear bw fr ni bz
      go_wp2_with fail
      refine (fsum_any wr A2 _ c2 out S hrf hof rfl (by omega) HSS.out).mono ?_
      rintro e wn ⟨x1, rfl, hs1, ok1, bb⟩
      have HS1 := Lib.hid hs1
      replace bk := bk.below bb
      have bw := below_on bwr bb bwr.size
      clear hs1 bb hof hrf bwr
      have tk := bk
      obtain ⟨k0, k1, k2, kf0, kf1, kf2, klt, kb⟩ := tk
      clear kb
      go_wp2_with fail
      refine bodyPost_ret (v := .tuple #[x1.val, .int .i64 S.2.2.2]) (by simp [results, Try.results45, go_sem, k0, k1, k2]) rfl ?_
      exact ⟨x1, rfl, HS1.out, set3_ok ok1 bk rfl rfl rfl, set3g bw (Nat.le_refl _)⟩
end Go.Proofs.Ythdfflbhogfejaa
