/- The reference's Add, Sub and Quo for fractions in lowest terms, and what Exp's interval is for a number of the laws. What the program's intervals say of the exponential, the weights and the tails, for the numbers of the laws; and how these grow. -/
import Derived.Test.YtnmomigaedfdoaaEnG
import Derived.Test.YtnmomigaedfdoaaEnA
import Derived.Test.YtnmomigaedfdoaaLwD
import Derived.Test.YtnmomigaedfdoaaEnR
namespace Go.Proofs.Ytnmomigaedfdoaa
set_option maxRecDepth 100000
open Go.RowKit

theorem numQ_den (num : Nat) {den : Nat} (hd : den < 256) : (numQ num den).den ≤ 256 := by
  rw [numQ]
  split
  · show (1 : Nat) ≤ 256; omega
  · rw [numP, show ((den : Int) + 1) = ((den + 1 : Nat) : Int) by omega, Rat.divInt_ofNat, Rat.den_mkRat, if_neg (by omega)]
    exact Nat.le_trans (Nat.div_le_self _ _) (by omega)
/-- m units of 2^-b -/
theorem prt_mul (m b : Nat) : prt m b * ((2 ^ b : Nat) : Rat) = (m : Rat) := by
  show qv false m (2 ^ b) * ((2 ^ b : Nat) : Rat) = (m : Rat)
  rw [qv, show sg false m = (m : Int) from rfl, Rat.mkRat_eq_div]
  have h : (((2 ^ b : Nat) : Int) : Rat) ≠ 0 := by
    have := two_pos b
    show ((2 ^ b : Nat) : Rat) ≠ 0
    grind
  exact Rat.div_mul_cancel h
theorem prt_sz {m b : Nat} (hm : m ≤ 36893488147419103232) (hb : b ≤ 64) : Sz (prt m b) 128 128 := by
  have hp := pow64 hb
  exact Sz.of_qv (by omega) (len128 (by omega)) (len128 (by omega))
/-- a fraction that is not negative, as a quotient -/
theorem xR_q {q : Rat} (h : 0 ≤ q) : xR q.num.natAbs q.den = q := by
  have hn : 0 ≤ q.num := Rat.num_nonneg.2 h
  have e : ((q.num.natAbs : Nat) : Rat) = (q.num : Rat) := by
    show (((q.num.natAbs : Nat) : Int) : Rat) = _
    rw [Int.natAbs_of_nonneg hn]
  rw [xR, e]
  have h2 := Rat.mkRat_eq_div q.num q.den
  rw [Rat.mkRat_self] at h2
  exact h2.symm
end Go.Proofs.Ytnmomigaedfdoaa
namespace Go.Proofs.Ytnmomigaedfdoaa
set_option maxRecDepth 100000
open Go.RowKit

/-- the numbers of the laws -/
structure Lq (q : Rat) : Prop where
  nn : 0 ≤ q
  ok : XOk q.num.natAbs q.den
  den : q.den ≤ 256
/-- what an interval says: m units of 2^-b are at most s e^-q, and m + 1 are more -/
structure Iv1 (b m : Nat) (q : Rat) (s : Nat → Rat) (i : Ix) : Prop where
  le : m ≤ 2 ^ b
  lo : Rp i.lo (prt m b)
  hi : Rp i.hi (prt (m + 1) b)
  fl : Flo (2 ^ b) m q s
theorem enc_iv {q : Rat} {n b kind zv : Nat} {i : Ix} (h : encP q n b kind zv i) (hq : Lq q) (hn : n ≤ 256) (b0 : 1 ≤ b) (b1 : b ≤ 63) (hk : kind ≤ 2) (hk0 : kind = 0 → n = 0) :
    (q = 0 ∧ Rp i.lo (zv : Rat) ∧ Rp i.hi (zv : Rat)) ∨ (q ≠ 0 ∧ ∃ m, Iv1 b m q (sV kind n q) i) := by
  by_cases h0 : q = 0
  · exact Or.inl ⟨h0, h.1 h0⟩
  · right
    have hp : 1 ≤ q.num.natAbs := by
      have : q.num ≠ 0 := fun k => h0 (Rat.num_eq_zero.1 k)
      omega
    have hg : Nat.gcd q.num.natAbs q.den = 1 := q.reduced
    have hle := floorM_le (kind := kind) hq.ok hn b0 (show b ≤ 64 by omega)
    have hf : Flo (2 ^ b) (floorM q.num.natAbs q.den n b kind) q (sV kind n q) := by
      rcases (show kind = 0 ∨ kind = 1 ∨ kind = 2 by omega) with rfl | rfl | rfl
      · have := e_floor (n := n) hq.ok hq.den hp b0 (show b ≤ 64 by omega)
        rw [xR_q hq.nn] at this
        rw [hk0 rfl] at this ⊢
        exact this
      · have := wt_floor hq.ok hq.den hp hg hn b0 b1
        rwa [xR_q hq.nn] at this
      · have := tail_floor hq.ok hq.den hp hg hn b0 b1
        rwa [xR_q hq.nn] at this
    exact ⟨h0, _, hle, (h.2 h0).1, (h.2 h0).2, hf⟩
/-- two floors of numbers, the one at most the other -/
theorem flo_le {K a b : Nat} {x y : Rat} {s t : Nat → Rat} (hx : 0 ≤ x) (hy : 0 ≤ y) (h : Flo K a x s) (k : Flo K b y t) (hs : ∃ M0, ∀ M, M0 ≤ M → s M * eq_ y M ≤ t M * eq_ x M) : a ≤ b := by
  obtain ⟨M1, h⟩ := h
  obtain ⟨M2, k⟩ := k
  obtain ⟨M3, hs⟩ := hs
  obtain ⟨M, m1, m2, m3⟩ : ∃ M, M1 ≤ M + 1 ∧ M2 ≤ M + 1 ∧ M3 ≤ M + 1 := ⟨max M1 (max M2 M3), by omega, by omega, by omega⟩
  have h1 := (h (M + 1) m1).1
  have h2 := (k (M + 1) m2).2
  have h3 := hs (M + 1) m3
  have p1 : 0 < eq_ x (M + 1) := by have := eq_one_le hx M; grind
  have p2 : 0 < eq_ y (M + 1) := by have := eq_one_le hy M; grind
  generalize eq_ x (M + 1) = X at *
  generalize eq_ y (M + 1) = Y at *
  generalize s (M + 1) = S at *
  generalize t (M + 1) = T at *
  have c1 := Rat.mul_le_mul_of_nonneg_right h1 (Rat.le_of_lt p2)
  have c2 := mul_le_l (natR_nn K) h3
  have c3 : (K : Rat) * T * X < ((b + 1 : Nat) : Rat) * Y * X := Rat.mul_lt_mul_of_pos_right h2 p1
  have p3 : 0 < X * Y := Rat.mul_pos p1 p2
  have c4 : (a : Rat) * (X * Y) < ((b + 1 : Nat) : Rat) * (X * Y) := by
    have e1 : (a : Rat) * X * Y = (a : Rat) * (X * Y) := by grind
    have e2 : (K : Rat) * S * Y = (K : Rat) * (S * Y) := by grind
    have e3 : (K : Rat) * T * X = (K : Rat) * (T * X) := by grind
    have e4 : ((b + 1 : Nat) : Rat) * Y * X = ((b + 1 : Nat) : Rat) * (X * Y) := by grind
    rw [e1, e2] at c1
    rw [e3, e4] at c3
    grind
  apply Classical.byContradiction
  intro hc
  have c5 : ((b + 1 : Nat) : Rat) ≤ (a : Rat) := by exact_mod_cast (show b + 1 ≤ a by omega)
  have c6 := Rat.mul_le_mul_of_nonneg_right c5 (Rat.le_of_lt p3)
  grind
theorem tq_mono {x y : Rat} (hx : 0 ≤ x) (h : x ≤ y) : ∀ i, tq x i ≤ tq y i := by
  intro i
  induction i with
  | zero => exact Rat.le_refl
  | succ i ih =>
    have h1 := tq_step x i
    have h2 := tq_step y i
    have hk := nat_pos i
    have n1 := tq_nn hx i
    have hy : 0 ≤ y := Rat.le_trans hx h
    have a := mul_le_mul_nn hx (tq_nn hy i) h ih
    refine Rat.le_of_mul_le_mul_right (c := ((i + 1 : Nat) : Rat)) ?_ hk
    rw [Rat.mul_comm, h1, Rat.mul_comm (tq y (i + 1)), h2]
    exact a
theorem eq_mono_x {x y : Rat} (hx : 0 ≤ x) (h : x ≤ y) : ∀ m, eq_ x m ≤ eq_ y m := by
  intro m
  induction m with
  | zero => exact Rat.le_refl
  | succ m ih =>
    have h1 := tq_mono hx h m
    show eq_ x m + tq x m ≤ eq_ y m + tq y m
    grind
/-- x^i y^j is least where the greater number has the smaller power -/
theorem tq_cross {x y : Rat} (hx : 0 ≤ x) (h : x ≤ y) (j : Nat) : ∀ k, tq y j * tq x (j + k) ≤ tq x j * tq y (j + k) := by
  have hy : 0 ≤ y := Rat.le_trans hx h
  intro k
  induction k with
  | zero => rw [Nat.add_zero, Rat.mul_comm]; exact Rat.le_refl
  | succ k ih =>
    have h1 := tq_step x (j + k)
    have h2 := tq_step y (j + k)
    have hk := nat_pos (j + k)
    have n1 := Rat.mul_nonneg (tq_nn hx j) (tq_nn hy (j + k))
    have a := mul_le_mul_nn hx n1 h ih
    rw [show j + (k + 1) = j + k + 1 by omega]
    generalize ((j + k + 1 : Nat) : Rat) = c at *
    refine Rat.le_of_mul_le_mul_right (c := c) ?_ hk
    have e1 : tq y j * tq x (j + k + 1) * c = tq y j * (c * tq x (j + k + 1)) := by grind
    have e2 : tq x j * tq y (j + k + 1) * c = tq x j * (c * tq y (j + k + 1)) := by grind
    rw [e1, e2, h1, h2]
    have e3 : tq y j * (x * tq x (j + k)) = x * (tq y j * tq x (j + k)) := by grind
    have e4 : tq x j * (y * tq y (j + k)) = y * (tq x j * tq y (j + k)) := by grind
    rw [e3, e4]
    exact a
theorem eq_cross1 {x y : Rat} (hx : 0 ≤ x) (h : x ≤ y) (k : Nat) : ∀ a, a ≤ k → eq_ y a * tq x k ≤ eq_ x a * tq y k := by
  intro a
  induction a with
  | zero => intro _; show (0 : Rat) * _ ≤ (0 : Rat) * _; grind
  | succ a ih =>
    intro ha
    have h1 := ih (by omega)
    obtain ⟨d, rfl⟩ := Nat.exists_eq_add_of_le (show a ≤ k by omega)
    have h2 := tq_cross hx h a d
    show (eq_ y a + tq y a) * _ ≤ (eq_ x a + tq x a) * _
    grind
theorem eq_cross {x y : Rat} (hx : 0 ≤ x) (h : x ≤ y) (a : Nat) : ∀ k, eq_ y a * eq_ x (a + k) ≤ eq_ x a * eq_ y (a + k) := by
  intro k
  induction k with
  | zero => rw [Nat.add_zero, Rat.mul_comm]; exact Rat.le_refl
  | succ k ih =>
    have h1 := eq_cross1 hx h (a + k) a (by omega)
    show eq_ y a * (eq_ x (a + k) + tq x (a + k)) ≤ eq_ x a * (eq_ y (a + k) + tq y (a + k))
    grind
/-- tails grow with the mean -/
theorem tail_cross {x y : Rat} (hx : 0 ≤ x) (h : x ≤ y) (n : Nat) : ∃ M0, ∀ M, M0 ≤ M → sV 2 n x M * eq_ y M ≤ sV 2 n y M * eq_ x M := by
  refine ⟨n + 1, fun M hM => ?_⟩
  obtain ⟨d, rfl⟩ := Nat.exists_eq_add_of_le hM
  have h1 := eq_cross hx h (n + 1) d
  show (eq_ x (n + 1 + d) - eq_ x (n + 1)) * eq_ y (n + 1 + d) ≤ (eq_ y (n + 1 + d) - eq_ y (n + 1)) * eq_ x (n + 1 + d)
  generalize eq_ x (n + 1 + d) = X at *
  generalize eq_ y (n + 1 + d) = Y at *
  generalize eq_ x (n + 1) = u at *
  generalize eq_ y (n + 1) = v at *
  grind
/-- and fall with n -/
theorem tail_next {x : Rat} (hx : 0 ≤ x) (n : Nat) : ∃ M0, ∀ M, M0 ≤ M → sV 2 (n + 1) x M * eq_ x M ≤ sV 2 n x M * eq_ x M := by
  refine ⟨0, fun M _ => ?_⟩
  have h1 := tq_nn hx (n + 1)
  have e : eq_ x (n + 1 + 1) = eq_ x (n + 1) + tq x (n + 1) := rfl
  refine Rat.mul_le_mul_of_nonneg_right ?_ (eq_nn hx M)
  show eq_ x M - eq_ x (n + 1 + 1) ≤ eq_ x M - eq_ x (n + 1)
  rw [e]; grind
/-- exponentials fall -/
theorem exp_cross {x y : Rat} (hx : 0 ≤ x) (h : x ≤ y) (n : Nat) : ∃ M0, ∀ M, M0 ≤ M → sV 0 n y M * eq_ x M ≤ sV 0 n x M * eq_ y M := by
  refine ⟨0, fun M _ => ?_⟩
  show (1 : Rat) * eq_ x M ≤ (1 : Rat) * eq_ y M
  have := eq_mono_x hx h M
  grind
theorem prt_mono {a b k : Nat} (h : a ≤ b) : prt a k ≤ prt b k := by
  have h1 := prt_mul a k
  have h2 := prt_mul b k
  have h3 : (a : Rat) ≤ (b : Rat) := by exact_mod_cast h
  refine Rat.le_of_mul_le_mul_right (c := ((2 ^ k : Nat) : Rat)) ?_ (two_pos k)
  rw [h1, h2]; exact h3
theorem prt_zero (k : Nat) : prt 0 k = 0 := by
  have h1 := prt_mul 0 k
  have h2 := two_pos k
  rcases Rat.mul_eq_zero.1 h1 with h | h
  · exact h
  · grind
theorem prt_full (k : Nat) : prt (2 ^ k) k = 1 := by
  have h1 := prt_mul (2 ^ k) k
  have h2 := two_pos k
  generalize ((2 ^ k : Nat) : Rat) = T at *
  have h3 : (prt (2 ^ k) k - 1) * T = 0 := by grind
  rcases Rat.mul_eq_zero.1 h3 with h | h
  · grind
  · grind
end Go.Proofs.Ytnmomigaedfdoaa
