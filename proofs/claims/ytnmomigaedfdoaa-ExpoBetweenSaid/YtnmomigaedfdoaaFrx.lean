/- Fractions as rational numbers. No program in sight. Fractions as the program holds them. -/
import Derived.Test.YtnmomigaedfdoaaNatG
namespace Go.Proofs.Ytnmomigaedfdoaa
set_option maxRecDepth 100000

theorem bits2_lim (n k : Nat) : bits2 n ≤ 32 * k ↔ (lim n).length ≤ k := by rw [bits2_le, lim_length_le, pw_two]
/-- a number with its sign -/
def sg (b : Bool) (n : Nat) : Int := if b then -(n : Int) else n
/-- the value of a fraction -/
def qv (b : Bool) (n d : Nat) : Rat := mkRat (sg b n) d
theorem sg_natAbs (b : Bool) (n : Nat) : (sg b n).natAbs = n := by cases b <;> simp [sg]
theorem sg_neg (b : Bool) (n : Nat) : sg (!b) n = - sg b n := by cases b <;> simp [sg]
theorem sg_eq_zero {b : Bool} {n : Nat} : sg b n = 0 ↔ n = 0 := by cases b <;> simp [sg]
theorem sg_lt (b : Bool) (n : Nat) : decide (sg b n < 0) = (b && decide (n ≠ 0)) := by
  cases b
  · simp [sg]
  · simp only [sg, if_true, Bool.true_and, decide_eq_decide]; omega
theorem sg_div {b : Bool} {n g : Nat} (h : g ∣ n) : sg b n / (g : Int) = sg b (n / g) := by
  obtain ⟨k, rfl⟩ := h
  rcases Nat.eq_zero_or_pos g with h0 | h0
  · subst h0; simp [sg]
  · rw [Nat.mul_div_cancel_left _ h0]
    cases b
    · simp only [sg]
      rw [Int.natCast_mul]
      exact Int.mul_ediv_cancel_left _ (by omega)
    · simp only [sg, if_true]
      rw [Int.natCast_mul, ← Int.mul_neg]
      exact Int.mul_ediv_cancel_left _ (by omega)
theorem sg_mul (a b : Bool) (m n : Nat) : sg a m * sg b n = sg (a != b) (m * n) := by
  cases a <;> cases b <;> simp [sg, Int.neg_mul, Int.mul_neg]
theorem sg_add (b : Bool) (m n : Nat) : sg b m + sg b n = sg b (m + n) := by cases b <;> simp [sg]; omega
theorem sg_sub {a b : Bool} (h : a ≠ b) {m n : Nat} (hle : n ≤ m) : sg a m + sg b n = sg a (m - n) := by
  cases a <;> cases b <;> simp [sg] at * <;> omega
theorem qv_num {b : Bool} {n d : Nat} (hd : d ≠ 0) : (qv b n d).num = sg b (n / Nat.gcd n d) := by
  rw [qv, Rat.num_mkRat, if_neg hd, sg_natAbs, Nat.gcd_comm, sg_div (Nat.gcd_dvd_left n d)]
theorem qv_abs {b : Bool} {n d : Nat} (hd : d ≠ 0) : (qv b n d).num.natAbs = n / Nat.gcd n d := by rw [qv_num hd, sg_natAbs]
theorem qv_den {b : Bool} {n d : Nat} (hd : d ≠ 0) : (qv b n d).den = d / Nat.gcd n d := by
  rw [qv, Rat.den_mkRat, if_neg hd, sg_natAbs, Nat.gcd_comm]
theorem qv_neg' {b : Bool} {n d : Nat} (hd : d ≠ 0) : decide ((qv b n d).num < 0) = (b && decide (n / Nat.gcd n d ≠ 0)) := by rw [qv_num hd, sg_lt]
/-- too many limbs -/
def bigQ (q : Rat) : Prop := 128 < (lim q.num.natAbs).length ∨ 128 < (lim q.den).length
instance (q : Rat) : Decidable (bigQ q) := inferInstanceAs (Decidable (_ ∨ _))
/-- the fraction of a rational number, and the error -/
def frS (q : Rat) : Bool × List Nat × List Nat × Int := if bigQ q then (false, [], [], 2) else (decide (q.num < 0), lim q.num.natAbs, lim q.den, 0)
/-- a fraction that may be an argument -/
def Vf (n d : Nat) : Prop := d ≠ 0 ∧ (lim d).length ≤ 128 ∧ (lim n).length ≤ 128
instance (n d : Nat) : Decidable (Vf n d) := inferInstanceAs (Decidable (_ ∧ _))
theorem qv_opp (b : Bool) (n d : Nat) : qv (!b) n d = - qv b n d := by rw [qv, qv, sg_neg, Rat.neg_mkRat]
theorem qv_add_same {b : Bool} {n d n' d' : Nat} (h : d ≠ 0) (h' : d' ≠ 0) : qv b n d + qv b n' d' = qv b (n * d' + n' * d) (d * d') := by
  rw [qv, qv, Rat.mkRat_add_mkRat _ _ h h', qv, ← sg_add]
  congr 1
  cases b <;> simp [sg, Int.natCast_mul, Int.neg_mul]
theorem sg_mulr (b : Bool) (n d : Nat) : sg b n * (d : Int) = sg b (n * d) := by cases b <;> simp [sg, Int.neg_mul]
theorem qv_add_ge {b b' : Bool} {n d n' d' : Nat} (h : d ≠ 0) (h' : d' ≠ 0) (hb : b ≠ b') (hle : n' * d ≤ n * d') : qv b n d + qv b' n' d' = qv b (n * d' - n' * d) (d * d') := by
  rw [qv, qv, Rat.mkRat_add_mkRat _ _ h h', qv, ← sg_sub hb hle, sg_mulr, sg_mulr]
theorem qv_add_lt {b b' : Bool} {n d n' d' : Nat} (h : d ≠ 0) (h' : d' ≠ 0) (hb : b ≠ b') (hle : n * d' ≤ n' * d) : qv b n d + qv b' n' d' = qv b' (n' * d - n * d') (d * d') := by
  rw [Rat.add_comm, qv_add_ge h' h hb.symm hle, Nat.mul_comm d' d]
theorem qv_mul (b b' : Bool) (n d n' d' : Nat) : qv b n d * qv b' n' d' = qv (b != b') (n * n') (d * d') := by
  rw [qv, qv, Rat.mkRat_mul_mkRat, qv, sg_mul]
theorem qv_inv {b : Bool} {n d : Nat} (_hn : n ≠ 0) : (qv b n d)⁻¹ = qv b d n := by
  rw [qv, qv, ← Rat.divInt_ofNat, Rat.inv_divInt, ← Rat.divInt_ofNat]
  cases b
  · simp [sg]
  · simp only [sg, if_true]
    rw [Rat.divInt_neg']
theorem qv_quo {b b' : Bool} {n d n' d' : Nat} (hn : n' ≠ 0) : qv b n d / qv b' n' d' = qv (b != b') (n * d') (d * n') := by
  rw [Rat.div_def, qv_inv hn, qv_mul]
theorem qv_zero {b : Bool} {n d : Nat} (hd : d ≠ 0) : qv b n d = 0 ↔ n = 0 := by
  rw [qv, Rat.mkRat_eq_zero hd, sg_eq_zero]
/-- the comparison of rational numbers -/
def cmpQ (p q : Rat) : Int := if p < q then -1 else if q < p then 1 else 0
theorem qv_lt {b b' : Bool} {n d n' d' : Nat} (h : d ≠ 0) (h' : d' ≠ 0) : qv b n d < qv b' n' d' ↔ sg b (n * d') < sg b' (n' * d) := by
  rw [Rat.lt_iff_sub_pos]
  have e : qv b' n' d' - qv b n d = mkRat (sg b' n' * d - sg b n * d') (d' * d) := by
    rw [qv, qv, ← Rat.divInt_ofNat, ← Rat.divInt_ofNat, Rat.divInt_sub_divInt _ _ (by omega) (by omega), ← Int.natCast_mul, Rat.divInt_ofNat]
  rw [e, sg_mulr, sg_mulr, Rat.lt_iff_le_and_ne, ← Rat.divInt_ofNat]
  have hp : (0 : Int) < ((d' * d : Nat) : Int) := by have := Nat.mul_pos (Nat.pos_of_ne_zero h') (Nat.pos_of_ne_zero h); omega
  rw [Rat.divInt_nonneg_iff_of_pos_right hp, Rat.divInt_ofNat]
  have hne : (0 : Rat) ≠ mkRat (sg b' (n' * d) - sg b (n * d')) (d' * d) ↔ sg b' (n' * d) - sg b (n * d') ≠ 0 := by
    rw [ne_comm]
    exact Rat.mkRat_ne_zero (by have := Nat.mul_pos (Nat.pos_of_ne_zero h') (Nat.pos_of_ne_zero h); omega)
  rw [hne]
  omega
theorem cmpQ_qv {b b' : Bool} {n d n' d' : Nat} (h : d ≠ 0) (h' : d' ≠ 0) : cmpQ (qv b n d) (qv b' n' d') = if sg b (n * d') < sg b' (n' * d) then -1 else if sg b' (n' * d) < sg b (n * d') then 1 else 0 := by
  unfold cmpQ
  simp only [qv_lt h h', qv_lt h' h]
/-- what Cmp reckons -/
theorem cmpQ_code {b b' : Bool} {n d n' d' : Nat} (h : d ≠ 0) (h' : d' ≠ 0) :
    cmpQ (qv b n d) (qv b' n' d') = if (b && decide (n ≠ 0)) && (b' && decide (n' ≠ 0)) then - cmp3 (n * d') (n' * d) else if b && decide (n ≠ 0) then -1 else if b' && decide (n' ≠ 0) then 1 else cmp3 (n * d') (n' * d) := by
  rw [cmpQ_qv h h']
  have e1 : n * d' = 0 ↔ n = 0 := by rw [Nat.mul_eq_zero]; omega
  have e2 : n' * d = 0 ↔ n' = 0 := by rw [Nat.mul_eq_zero]; omega
  have hc := Nat.lt_trichotomy (n * d') (n' * d)
  generalize n * d' = x at *
  generalize n' * d = y at *
  unfold cmp3
  cases b <;> cases b' <;> simp only [sg, Bool.false_and, Bool.true_and, Bool.and_false, if_true, if_false, Bool.false_eq_true, decide_eq_true_eq, ne_eq, Bool.and_eq_true] <;> (repeat' split) <;> omega
end Go.Proofs.Ytnmomigaedfdoaa
namespace Go.Proofs.Ytnmomigaedfdoaa
set_option maxRecDepth 100000
open Go.RowKit

/-- a fraction: its sign, and where its numbers lie -/
structure Fx where
  b : Bool
  A : Option Addr
  c : Nat
  xs : List Nat
  D : Option Addr
  d : Nat
  ys : List Nat
abbrev Fx.val (x : Fx) : Value := .agg #[.bool x.b, .slice x.A x.xs.length x.c, .slice x.D x.ys.length x.d]
abbrev Fx.cells (x : Fx) : Array Value := #[.bool x.b, .slice x.A x.xs.length x.c, .slice x.D x.ys.length x.d]
/-- the nil fraction -/
abbrev Fx.nil : Fx := ⟨false, none, 0, [], none, 0, []⟩
structure Fx.ok (x : Fx) (w : World) : Prop where
  num : Nt w x.A x.c x.xs
  den : Nt w x.D x.d x.ys
theorem Fx.ok.below {x : Fx} {w w' : World} (h : x.ok w) (hb : Below w.heap.size w w') : x.ok w' := ⟨h.num.below hb, h.den.below hb⟩
theorem Fx.nil_ok (w : World) : Fx.nil.ok w := ⟨Nt.nil _ _ _ (by show 0 ≤ _; omega), Nt.nil _ _ _ (by show 0 ≤ _; omega)⟩
def Fx.v (x : Fx) : Prop := Vf (nv x.xs) (nv x.ys)
instance (x : Fx) : Decidable x.v := inferInstanceAs (Decidable (Vf _ _))
def Fx.q (x : Fx) : Rat := qv x.b (nv x.xs) (nv x.ys)
/-- what a call hands back: a fraction and an error -/
def FracRes (w : World) (s : Bool × List Nat × List Nat × Int) (e : Ending) (w' : World) : Prop :=
  ∃ x : Fx, e = .returned (.tuple #[x.val, .int .i64 s.2.2.2]) ∧ (x.b = s.1 ∧ x.xs = s.2.1 ∧ x.ys = s.2.2.1) ∧ x.ok w' ∧ Below w.heap.size w w'
/-- what a call hands back: a fraction -/
def FracNew (w : World) (s : Bool × List Nat × List Nat) (e : Ending) (w' : World) : Prop :=
  ∃ x : Fx, e = .returned x.val ∧ (x.b = s.1 ∧ x.xs = s.2.1 ∧ x.ys = s.2.2) ∧ x.ok w' ∧ Below w.heap.size w w'
end Go.Proofs.Ytnmomigaedfdoaa
