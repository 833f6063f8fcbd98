/- A variable that holds a fraction. Fractions in lowest terms and the rational numbers that they show; how long they are. No program in sight. The walk of fraction.Format. The walk of drydocklaw02.awake. The walks of package fraction: round, Floor, Ceil. -/
import Derived.Test.YtnmomigaedfdoaaFrD
import Derived.Test.YtnmomigaedfdoaaIvB
import Derived.Test.YtnmomigaedfdoaaLwA
import Derived.Test.YtnmomigaedfdoaaNatL
namespace Go.Proofs.Ytnmomigaedfdoaa
set_option maxRecDepth 100000
open Go.RowKit

theorem heap_set_fv (w : World) (g i : Nat) (cs : Array Value) (t : TypeId) (fr : Nat × Nat) (v : Value) (hg : w.heap[g]? = some (.cells cs t fr)) :
    (w.setCell ⟨g, i, none⟩ v).heap[g]? = some (.cells (cs.setIfInBounds i v) t fr) := by
  simp [World.setCell, Array.getElem?_modify, hg]
theorem bk3_put {w : World} {G : Nat} {v0 v1 v2 a b c : Value} (bk : Bk3 w G v0 v1 v2) : Bk3 (((w.setCell ⟨G, 0, none⟩ a).setCell ⟨G, 1, none⟩ b).setCell ⟨G, 2, none⟩ c) G a b c := by
  obtain ⟨k0, k1, k2, f0, f1, f2, lt, t, fr, e⟩ := bk
  refine ⟨?_, ?_, ?_, ?_, ?_, ?_, ?_, t, fr, ?_⟩
  · simp [go_sem, k0]
  · simp [go_sem, k1]
  · simp [go_sem, k2]
  · simp [go_sem, f0]
  · simp [go_sem, f1]
  · simp [go_sem, f2]
  · simp [World.setCell]; exact lt
  · exact heap_set_fv _ _ _ _ _ _ _ (heap_set_fv _ _ _ _ _ _ _ (heap_set_fv _ _ _ _ _ _ _ e))
/-- a variable of the law: the fraction that lies in a block -/
structure Fa (w : World) (G : Nat) (x : Fx) : Prop where
  bk : Bk3 w G (.bool x.b) (.slice x.A x.xs.length x.c) (.slice x.D x.ys.length x.d)
  ok : x.ok w
section
variable {w w' : World} {G H : Nat} {x y : Fx}
theorem Fa.c0 (h : Fa w G x) : w.cell? ⟨G, 0, none⟩ = some (.bool x.b) := h.bk.c0
theorem Fa.c1 (h : Fa w G x) : w.cell? ⟨G, 1, none⟩ = some (.slice x.A x.xs.length x.c) := h.bk.c1
theorem Fa.c2 (h : Fa w G x) : w.cell? ⟨G, 2, none⟩ = some (.slice x.D x.ys.length x.d) := h.bk.c2
theorem Fa.lt (h : Fa w G x) : G < w.heap.size := h.bk.lt
theorem Fa.below (h : Fa w G x) (hb : Below w.heap.size w w') : Fa w' G x := ⟨h.bk.below hb, h.ok.below hb⟩
theorem Fa.of_bk (bk : Bk3 w G (.bool x.b) (.slice x.A x.xs.length x.c) (.slice x.D x.ys.length x.d)) (h : x.ok w) : Fa w G x := ⟨bk, h⟩
theorem heap_set_ne {a b c : Value} (hne : H ≠ G) : (((w.setCell ⟨H, 0, none⟩ a).setCell ⟨H, 1, none⟩ b).setCell ⟨H, 2, none⟩ c).heap[G]? = w.heap[G]? := by
  rw [heap_setCell_other _ _ _ _ (by exact fun e => hne e.symm), heap_setCell_other _ _ _ _ (by exact fun e => hne e.symm), heap_setCell_other _ _ _ _ (by exact fun e => hne e.symm)]
theorem Bk3.far {v0 v1 v2 a b c : Value} (h : Bk3 w G v0 v1 v2) (hne : H ≠ G) : Bk3 (((w.setCell ⟨H, 0, none⟩ a).setCell ⟨H, 1, none⟩ b).setCell ⟨H, 2, none⟩ c) G v0 v1 v2 := by
  have hg := heap_set_ne (w := w) (a := a) (b := b) (c := c) hne
  refine ⟨cell_set3 h.c0 hne, cell_set3 h.c1 hne, cell_set3 h.c2 hne, ?_, ?_, ?_, by simp [World.setCell]; exact h.lt, by rw [hg]; exact h.blk⟩
  · rw [← h.f0]; unfold World.frozen?; rw [hg]
  · rw [← h.f1]; unfold World.frozen?; rw [hg]
  · rw [← h.f2]; unfold World.frozen?; rw [hg]
/-- a store into another variable's block -/
theorem Fa.far (h : Fa w G x) (k : Fa w H y) (hne : H ≠ G) {a b c : Value} : Fa (((w.setCell ⟨H, 0, none⟩ a).setCell ⟨H, 1, none⟩ b).setCell ⟨H, 2, none⟩ c) G x :=
  ⟨h.bk.far hne, set3_ok h.ok k.bk rfl rfl rfl⟩
/-- a store into this variable's block -/
theorem Fa.put {z : Fx} (k : Fa w H y) (h : z.ok w) : Fa (((w.setCell ⟨H, 0, none⟩ (.bool z.b)).setCell ⟨H, 1, none⟩ (.slice z.A z.xs.length z.c)).setCell ⟨H, 2, none⟩ (.slice z.D z.ys.length z.d)) H z :=
  ⟨bk3_put k.bk, set3_ok h k.bk rfl rfl rfl⟩
end
theorem fa_alloc {w : World} {x : Fx} (h : x.ok w) : Fa (w.alloc (.cells x.cells 26)) w.heap.size x ∧ Below w.heap.size w (w.alloc (.cells x.cells 26)) := by
  have b0 := (Below.refl w.heap.size w).alloc (Nat.le_refl _) (.cells x.cells 26)
  exact ⟨Fa.of_bk (bk3_alloc w _ _ _) (h.below b0), b0⟩
end Go.Proofs.Ytnmomigaedfdoaa
namespace Go.Proofs.Ytnmomigaedfdoaa
set_option maxRecDepth 100000

/-- x is q in lowest terms -/
structure Rp (x : Fx) (q : Rat) : Prop where
  b : x.b = decide (q.num < 0)
  n : x.xs = lim q.num.natAbs
  d : x.ys = lim q.den
theorem sg_abs (a : Int) : sg (decide (a < 0)) a.natAbs = a := by
  unfold sg
  by_cases h : a < 0
  · simp only [h, decide_true, if_true]; omega
  · simp only [h, decide_false, Bool.false_eq_true, if_false]; omega
theorem Rp.q {x : Fx} {q : Rat} (h : Rp x q) : x.q = q := by
  rw [Fx.q, h.b, h.n, h.d, nv_lim, nv_lim, qv, sg_abs]
  exact Rat.mkRat_self q
theorem Rp.same {x y : Fx} {q : Rat} (h : Rp x q) (k : Rp y q) : x.b = y.b ∧ x.xs = y.xs ∧ x.ys = y.ys := ⟨h.b.trans k.b.symm, h.n.trans k.n.symm, h.d.trans k.d.symm⟩
/-- at most so many limbs -/
def Sz (q : Rat) (n d : Nat) : Prop := (lim q.num.natAbs).length ≤ n ∧ (lim q.den).length ≤ d
theorem Sz.mono {q : Rat} {n d n' d' : Nat} (h : Sz q n d) (hn : n ≤ n') (hd : d ≤ d') : Sz q n' d' := ⟨Nat.le_trans h.1 hn, Nat.le_trans h.2 hd⟩
theorem Rp.v {x : Fx} {q : Rat} (h : Rp x q) (hs : Sz q 128 128) : x.v := by
  rw [Fx.v, Vf, h.n, h.d, nv_lim, nv_lim]
  exact ⟨q.den_nz, hs.2, hs.1⟩
theorem Rp.l1 {x : Fx} {q : Rat} (h : Rp x q) (hs : Sz q 128 128) : x.xs.length ≤ 10000 := by rw [h.n]; have := hs.1; omega
theorem Rp.l2 {x : Fx} {q : Rat} (h : Rp x q) (hs : Sz q 128 128) : x.ys.length ≤ 10000 := by rw [h.d]; have := hs.2; omega
theorem Sz.mk {a : Int} {e n d : Nat} (he : e ≠ 0) (hn : (lim a.natAbs).length ≤ n) (hd : (lim e).length ≤ d) : Sz (mkRat a e) n d := by
  have h1 := lim_length_mono (Nat.div_le_self a.natAbs (Nat.gcd e a.natAbs))
  have h2 := lim_length_mono (Nat.div_le_self e (Nat.gcd e a.natAbs))
  constructor
  · rw [Rat.num_mkRat, if_neg he]
    have e1 : (a / (Nat.gcd e a.natAbs : Int)).natAbs = a.natAbs / Nat.gcd e a.natAbs := by
      obtain ⟨c, hc⟩ : (Nat.gcd e a.natAbs : Int) ∣ a := Int.ofNat_dvd_left.2 (Nat.gcd_dvd_right e a.natAbs)
      have hg : 0 < Nat.gcd e a.natAbs := Nat.gcd_pos_of_pos_left _ (Nat.pos_of_ne_zero he)
      generalize Nat.gcd e a.natAbs = g at *
      subst hc
      rw [Int.mul_ediv_cancel_left _ (by omega), Int.natAbs_mul, Int.natAbs_natCast, Nat.mul_div_cancel_left _ hg]
    rw [e1]; omega
  · rw [Rat.den_mkRat, if_neg he]; omega
theorem Sz.of_qv {b : Bool} {m e n d : Nat} (he : e ≠ 0) (hn : (lim m).length ≤ n) (hd : (lim e).length ≤ d) : Sz (qv b m e) n d := Sz.mk he (by rw [sg_natAbs]; exact hn) hd
theorem den_mul_ne {p q : Rat} : p.den * q.den ≠ 0 := Nat.mul_ne_zero p.den_nz q.den_nz
theorem Sz.mul {p q : Rat} {a b c d : Nat} (h : Sz p a b) (k : Sz q c d) : Sz (p * q) (a + c) (b + d) := by
  rw [← Rat.mkRat_self p, ← Rat.mkRat_self q, Rat.mkRat_mul_mkRat]
  exact Sz.mk den_mul_ne (by rw [Int.natAbs_mul]; exact len_mulf h.1 k.1) (len_mulf h.2 k.2)
theorem Sz.add {p q : Rat} {a b c d : Nat} (h : Sz p a b) (k : Sz q c d) : Sz (p + q) (max (a + d) (c + b) + 1) (b + d) := by
  rw [← Rat.mkRat_self p, ← Rat.mkRat_self q, Rat.mkRat_add_mkRat _ _ p.den_nz q.den_nz]
  refine Sz.mk den_mul_ne ?_ (len_mulf h.2 k.2)
  have h1 := len_mulf h.1 k.2
  have h2 := len_mulf k.1 h.2
  have h3 : (p.num * (q.den : Int) + q.num * (p.den : Int)).natAbs ≤ p.num.natAbs * q.den + q.num.natAbs * p.den := by
    refine Nat.le_trans (Int.natAbs_add_le _ _) ?_
    rw [Int.natAbs_mul, Int.natAbs_mul, Int.natAbs_natCast, Int.natAbs_natCast]
    exact Nat.le_refl _
  refine Nat.le_trans (lim_length_mono h3) ?_
  exact len_addf (by omega) (by omega)
theorem Sz.neg {p : Rat} {a b : Nat} (h : Sz p a b) : Sz (-p) a b := by
  unfold Sz at *
  rw [Rat.neg_num, Rat.neg_den, Int.natAbs_neg]; exact h
/-- q in lowest terms, without an error -/
def okS (q : Rat) : Bool × List Nat × List Nat × Int := (decide (q.num < 0), lim q.num.natAbs, lim q.den, 0)
theorem frS_ok {q : Rat} (h : Sz q 128 128) : frS q = okS q := by
  rw [frS, if_neg, okS]
  rw [bigQ]; have := h.1; have := h.2; omega
theorem Rp.of {x : Fx} {q : Rat} (h : x.b = (okS q).1 ∧ x.xs = (okS q).2.1 ∧ x.ys = (okS q).2.2.1) : Rp x q := ⟨h.1, h.2.1, h.2.2⟩
theorem sm {x y : Fx} {S : Bool × List Nat × List Nat × Int} (h : x.b = S.1 ∧ x.xs = S.2.1 ∧ x.ys = S.2.2.1) (k : y.b = S.1 ∧ y.xs = S.2.1 ∧ y.ys = S.2.2.1) : decide (x.b = y.b ∧ x.xs = y.xs ∧ x.ys = y.ys) = true :=
  decide_eq_true ⟨h.1.trans k.1.symm, h.2.1.trans k.2.1.symm, h.2.2.trans k.2.2.symm⟩
end Go.Proofs.Ytnmomigaedfdoaa
namespace Go.Proofs.Ytnmomigaedfdoaa
set_option maxRecDepth 100000
open Go.RowKit

/-- the text of a rational number -/
def txtQ (q : Rat) : ByteArray :=
  if 1 < q.den then (if q.num < 0 then (⟨#[45]⟩ : ByteArray) ++ bstr (decT q.num.natAbs) else bstr (decT q.num.natAbs)) ++ ((⟨#[47]⟩ : ByteArray) ++ bstr (decT q.den))
  else if q.num < 0 then (⟨#[45]⟩ : ByteArray) ++ bstr (decT q.num.natAbs) else bstr (decT q.num.natAbs)
def fmtF (x : Fx) : ByteArray × Int := if x.v then (txtQ x.q, 0) else (bstr [], 1)
theorem redS_ok {x : Fx} (hv : x.v) : redS x = (decide (x.q.num < 0), lim x.q.num.natAbs, lim x.q.den, 0) ∧ (lim x.q.num.natAbs).length ≤ 128 ∧ (lim x.q.den).length ≤ 128 := by
  have h1 := lim_length_mono (Nat.div_le_self (nv x.xs) (Nat.gcd (nv x.xs) (nv x.ys)))
  have h2 := lim_length_mono (Nat.div_le_self (nv x.ys) (Nat.gcd (nv x.xs) (nv x.ys)))
  have h3 := hv.2.1
  have h4 := hv.2.2
  have h5 : (lim x.q.num.natAbs).length ≤ 128 ∧ (lim x.q.den).length ≤ 128 := by
    rw [Fx.q, qv_abs hv.1, qv_den hv.1]; omega
  refine ⟨?_, h5⟩
  rw [redS, if_pos hv, frS, if_neg]
  rw [bigQ]; omega
end Go.Proofs.Ytnmomigaedfdoaa
namespace Go.Proofs.Ytnmomigaedfdoaa
set_option maxRecDepth 100000
open Go.RowKit

def q12 : Rat := Rat.divInt 1 2
def q13 : Rat := Rat.divInt (-1) (-3)
def q56 : Rat := q12 + q13
end Go.Proofs.Ytnmomigaedfdoaa
namespace Go.Proofs.Ytnmomigaedfdoaa
set_option maxRecDepth 100000
open Go.RowKit

/-- q times 2^k, rounded -/
def rndZ (up : Bool) (q : Rat) (k : Nat) : Int := if up then (q * ((2 ^ k : Nat) : Rat)).ceil else (q * ((2 ^ k : Nat) : Rat)).floor
/-- what the code reckons -/
def rndN (b up : Bool) (N d : Nat) : Nat := if 0 < N % d ∧ b ≠ up then N / d + 1 else N / d
def roundF (x : Fx) (k : Int) (up : Bool) : Bool × List Nat × List Nat × Int := if x.v then (if k < 0 ∨ 256 < k then errF 5 else frS (mkRat (rndZ up x.q k.toNat) (2 ^ k.toNat))) else errF 1
end Go.Proofs.Ytnmomigaedfdoaa
