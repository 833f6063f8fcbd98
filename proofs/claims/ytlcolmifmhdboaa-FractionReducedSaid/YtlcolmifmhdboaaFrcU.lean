/- Fractions in lowest terms and the rational numbers that they show; how long they are. No program in sight. -/
import Derived.Test.YtlcolmifmhdboaaFrB
namespace Go.Proofs.Ytlcolmifmhdboaa

/-- x is q in lowest terms -/
structure Rp (x : Fx) (q : Rat) : Prop where
  b : x.b = decide (q.num < 0)
  n : x.xs = lim q.num.natAbs
  d : x.ys = lim q.den
set_option maxRecDepth 100000 in
theorem sg_abs (a : Int) : sg (decide (a < 0)) a.natAbs = a := by
  unfold sg
  by_cases h : a < 0
  · simp only [h, decide_true, if_true]; omega
  · simp only [h, decide_false, Bool.false_eq_true, if_false]; omega
set_option maxRecDepth 100000 in
theorem Rp.q {x : Fx} {q : Rat} (h : Rp x q) : x.q = q := by
  rw [Fx.q, h.b, h.n, h.d, nv_lim, nv_lim, qv, sg_abs]
  exact Rat.mkRat_self q
set_option maxRecDepth 100000 in
theorem Rp.same {x y : Fx} {q : Rat} (h : Rp x q) (k : Rp y q) : x.b = y.b ∧ x.xs = y.xs ∧ x.ys = y.ys := ⟨h.b.trans k.b.symm, h.n.trans k.n.symm, h.d.trans k.d.symm⟩
/-- at most so many limbs -/
def Sz (q : Rat) (n d : Nat) : Prop := (lim q.num.natAbs).length ≤ n ∧ (lim q.den).length ≤ d
set_option maxRecDepth 100000 in
theorem Sz.mono {q : Rat} {n d n' d' : Nat} (h : Sz q n d) (hn : n ≤ n') (hd : d ≤ d') : Sz q n' d' := ⟨Nat.le_trans h.1 hn, Nat.le_trans h.2 hd⟩
set_option maxRecDepth 100000 in
theorem Rp.v {x : Fx} {q : Rat} (h : Rp x q) (hs : Sz q 128 128) : x.v := by
  rw [Fx.v, Vf, h.n, h.d, nv_lim, nv_lim]
  exact ⟨q.den_nz, hs.2, hs.1⟩
set_option maxRecDepth 100000 in
theorem Rp.l1 {x : Fx} {q : Rat} (h : Rp x q) (hs : Sz q 128 128) : x.xs.length ≤ 10000 := by rw [h.n]; have := hs.1; omega
set_option maxRecDepth 100000 in
theorem Rp.l2 {x : Fx} {q : Rat} (h : Rp x q) (hs : Sz q 128 128) : x.ys.length ≤ 10000 := by rw [h.d]; have := hs.2; omega
set_option maxRecDepth 100000 in
theorem Sz.mk {a : Int} {e n d : Nat} (he : e ≠ 0) (hn : (lim a.natAbs).length ≤ n) (hd : (lim e).length ≤ d) : Sz (mkRat a e) n d := by
  have h1 := lim_length_mono (Nat.div_le_self a.natAbs (Nat.gcd e a.natAbs))
  have h2 := lim_length_mono (Nat.div_le_self e (Nat.gcd e a.natAbs))
  constructor
  · rw [Rat.num_mkRat, if_neg he]
    have e1 : (a / (Nat.gcd e a.natAbs : Int)).natAbs = a.natAbs / Nat.gcd e a.natAbs := by
      obtain ⟨c, hc⟩ : (Nat.gcd e a.natAbs : Int) ∣ a := Int.ofNat_dvd_left.2 (Nat.gcd_dvd_right e a.natAbs)
      have hg : 0 < Nat.gcd e a.natAbs := Nat.gcd_pos_of_pos_left _ (Nat.pos_of_ne_zero he)
      generalize Nat.gcd e a.natAbs = g at *
      subst hc
      rw [Int.mul_ediv_cancel_left _ (by omega), Int.natAbs_mul, Int.natAbs_natCast, Nat.mul_div_cancel_left _ hg]
    rw [e1]; omega
  · rw [Rat.den_mkRat, if_neg he]; omega
set_option maxRecDepth 100000 in
theorem Sz.of_qv {b : Bool} {m e n d : Nat} (he : e ≠ 0) (hn : (lim m).length ≤ n) (hd : (lim e).length ≤ d) : Sz (qv b m e) n d := Sz.mk he (by rw [sg_natAbs]; exact hn) hd
set_option maxRecDepth 100000 in
theorem Sz.of_v {x : Fx} {n d : Nat} (hv : x.v) (hn : x.xs.length ≤ n) (hd : x.ys.length ≤ d) (un : U32 x.xs) (ud : U32 x.ys) : Sz x.q n d :=
  Sz.of_qv hv.1 (Nat.le_trans (lim_length_le_length un) hn) (Nat.le_trans (lim_length_le_length ud) hd)
set_option maxRecDepth 100000 in
theorem den_mul_ne {p q : Rat} : p.den * q.den ≠ 0 := Nat.mul_ne_zero p.den_nz q.den_nz
set_option maxRecDepth 100000 in
theorem Sz.mul {p q : Rat} {a b c d : Nat} (h : Sz p a b) (k : Sz q c d) : Sz (p * q) (a + c) (b + d) := by
  rw [← Rat.mkRat_self p, ← Rat.mkRat_self q, Rat.mkRat_mul_mkRat]
  exact Sz.mk den_mul_ne (by rw [Int.natAbs_mul]; exact len_mulf h.1 k.1) (len_mulf h.2 k.2)
set_option maxRecDepth 100000 in
theorem Sz.add {p q : Rat} {a b c d : Nat} (h : Sz p a b) (k : Sz q c d) : Sz (p + q) (max (a + d) (c + b) + 1) (b + d) := by
  rw [← Rat.mkRat_self p, ← Rat.mkRat_self q, Rat.mkRat_add_mkRat _ _ p.den_nz q.den_nz]
  refine Sz.mk den_mul_ne ?_ (len_mulf h.2 k.2)
  have h1 := len_mulf h.1 k.2
  have h2 := len_mulf k.1 h.2
  have h3 : (p.num * (q.den : Int) + q.num * (p.den : Int)).natAbs ≤ p.num.natAbs * q.den + q.num.natAbs * p.den := by
    refine Nat.le_trans (Int.natAbs_add_le _ _) ?_
    rw [Int.natAbs_mul, Int.natAbs_mul, Int.natAbs_natCast, Int.natAbs_natCast]
    exact Nat.le_refl _
  refine Nat.le_trans (lim_length_mono h3) ?_
  exact len_addf (by omega) (by omega)
set_option maxRecDepth 100000 in
theorem Sz.neg {p : Rat} {a b : Nat} (h : Sz p a b) : Sz (-p) a b := by
  unfold Sz at *
  rw [Rat.neg_num, Rat.neg_den, Int.natAbs_neg]; exact h
set_option maxRecDepth 100000 in
theorem Sz.sub {p q : Rat} {a b c d : Nat} (h : Sz p a b) (k : Sz q c d) : Sz (p - q) (max (a + d) (c + b) + 1) (b + d) := by
  rw [Rat.sub_eq_add_neg]; exact h.add k.neg
set_option maxRecDepth 100000 in
theorem Sz.inv {p : Rat} {a b : Nat} (h : Sz p a b) (hp : p ≠ 0) : Sz p⁻¹ b a := by
  have hn : p.num ≠ 0 := fun e => hp (Rat.num_eq_zero.1 e)
  have e : p = qv (decide (p.num < 0)) p.num.natAbs p.den := by rw [qv, sg_abs, Rat.mkRat_self]
  have hi : p⁻¹ = qv (decide (p.num < 0)) p.den p.num.natAbs := by
    conv => lhs; rw [e]
    exact qv_inv (by omega)
  rw [hi]
  exact Sz.of_qv (by omega) h.2 h.1
set_option maxRecDepth 100000 in
theorem Sz.div {p q : Rat} {a b c d : Nat} (h : Sz p a b) (k : Sz q c d) (hq : q ≠ 0) : Sz (p / q) (a + d) (b + c) := by
  rw [Rat.div_def]; exact h.mul (k.inv hq)
/-- q in lowest terms, without an error -/
def okS (q : Rat) : Bool × List Nat × List Nat × Int := (decide (q.num < 0), lim q.num.natAbs, lim q.den, 0)
set_option maxRecDepth 100000 in
theorem frS_ok {q : Rat} (h : Sz q 128 128) : frS q = okS q := by
  rw [frS, if_neg, okS]
  rw [bigQ]; have := h.1; have := h.2; omega
set_option maxRecDepth 100000 in
theorem Rp.of {x : Fx} {q : Rat} (h : x.b = (okS q).1 ∧ x.xs = (okS q).2.1 ∧ x.ys = (okS q).2.2.1) : Rp x q := ⟨h.1, h.2.1, h.2.2⟩
set_option maxRecDepth 100000 in
theorem Rp.mk_ {q : Rat} (A D : Option Addr) (c d : Nat) : Rp ⟨decide (q.num < 0), A, c, lim q.num.natAbs, D, d, lim q.den⟩ q := ⟨rfl, rfl, rfl⟩
set_option maxRecDepth 100000 in
theorem sm {x y : Fx} {S : Bool × List Nat × List Nat × Int} (h : x.b = S.1 ∧ x.xs = S.2.1 ∧ x.ys = S.2.2.1) (k : y.b = S.1 ∧ y.xs = S.2.1 ∧ y.ys = S.2.2.1) : decide (x.b = y.b ∧ x.xs = y.xs ∧ x.ys = y.ys) = true :=
  decide_eq_true ⟨h.1.trans k.1.symm, h.2.1.trans k.2.1.symm, h.2.2.trans k.2.2.symm⟩
end Go.Proofs.Ytlcolmifmhdboaa
