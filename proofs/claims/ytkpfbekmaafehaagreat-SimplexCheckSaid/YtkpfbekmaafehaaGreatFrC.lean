/- The walks of package fraction: Reduce, Make -/
import Derived.Test.YtkpfbekmaafehaaGreatFrA
import Derived.Test.YtkpfbekmaafehaaGreatNatD
import Derived.Deep.RegionHeld3
namespace Go.Proofs.YtkpfbekmaafehaaGreat
set_option maxRecDepth 100000
open Go.RowKit
theorem bk3_alloc (w : World) (v0 v1 v2 : Value) : Bk3 (w.alloc (.cells #[v0, v1, v2] 29)) w.heap.size v0 v1 v2 :=
 ⟨by go_simp, by go_simp, by go_simp, by go_simp, by go_simp, by go_simp, by simp, _, (0, 0), heap_alloc_new w _⟩
theorem size_box (w : World) (o : Obj) : (w.alloc o).heap.size = w.heap.size + 1 := by simp
theorem set3_ok {w : World} {x : Fx} {G : Nat} {v0 v1 v2 u0 u1 u2 : Value} (h : x.ok w) (bk : Bk3 w G v0 v1 v2) (e0 : isInt v0 = false) (e1 : isInt v1 = false) (e2 : isInt v2 = false) :
 x.ok (((w.setCell ⟨G, 0, none⟩ u0).setCell ⟨G, 1, none⟩ u1).setCell ⟨G, 2, none⟩ u2) := by
 constructor
 ·rcases Nat.eq_zero_or_pos x.xs.length with h0 | h0
  ·exact h.num.nil_any h0 _
  ·exact nt_set3 h.num (h.num.sep3 bk e0 e1 e2 h0)
 ·rcases Nat.eq_zero_or_pos x.ys.length with h0 | h0
  ·exact h.den.nil_any h0 _
  ·exact nt_set3 h.den (h.den.sep3 bk e0 e1 e2 h0)
theorem set3g {w wc : World} {B G : Nat} {a b c : Value} (h : Below B w wc) (hG : B ≤ G) : Below B w (((wc.setCell ⟨G, 0, none⟩ a).setCell ⟨G, 1, none⟩ b).setCell ⟨G, 2, none⟩ c) :=
 ((h.setCell (p := ⟨G, 0, none⟩) hG _).setCell (p := ⟨G, 1, none⟩) hG _).setCell (p := ⟨G, 2, none⟩) hG _
def errF (e : Int) : Bool × List Nat × List Nat × Int := (false, [], [], e)
def redS (x : Fx) : Bool × List Nat × List Nat × Int := if x.v then frS x.q else errF 1
set_option maxHeartbeats 400000 in
theorem freduce_any (w : World) (x : Fx) (S : Bool × List Nat × List Nat × Int) (hx : x.ok w) (l1 : x.xs.length ≤ 10000) (l2 : x.ys.length ≤ 10000) (hs : redS x = S) : Calls Tryz.prog 51 #[x.val] w (FracRes w S) := by
 have HS := Lib.hid hs
 clear hs
 by_cases hv : x.v
 ·have HV := Lib.hid hv
  have hv1 := hv.1
  have HV1 : Hid (nv x.ys ≠ 0) := hv1
  have lx : (lim (nv x.xs)).length ≤ 128 := hv.2.2
  have ly : (lim (nv x.ys)).length ≤ 128 := hv.2.1
  clear hv hv1
  go_enter Tryz.func51, Tryz.ntmps51
  go_wp2_with fail
  have hs1 : w.heap.size < (w.alloc (.cells x.cells 29)).heap.size := by simp
  have b0 := (Below.refl w.heap.size w).alloc (Nat.le_refl _) (.cells x.cells 29)
  have b1 := (Below.refl (w.alloc (.cells x.cells 29)).heap.size (w.alloc (.cells x.cells 29))).alloc (Nat.le_refl _) (.cells #[.bool false, .slice none 0 0, .slice none 0 0] 29)
  have bx := (bk3_alloc w (.bool x.b) (.slice x.A x.xs.length x.c) (.slice x.D x.ys.length x.d)).below b1
  have bk := bk3_new (w.alloc (.cells x.cells 29))
  rw [size_box] at bk
  have okx := (hx.below b0).below b1
  have bw := below_on b0 b1 (Nat.le_of_lt hs1)
  clear hs1 b0 b1
  revert bx bk okx bw
  generalize ((w.alloc (.cells x.cells 29)).alloc (.cells #[.bool false, .slice none 0 0, .slice none 0 0] 29)) = w1
  intro bx bk okx bw
  refine (fvalid_any w1 x true okx l1 l2 (decide_eq_true HV.out)).mono ?_
  rintro e wn ⟨rfl, bb⟩
  try replace bx := bx.below bb
  try replace by_ := by_.below bb
  try replace bk := bk.below bb
  try replace okx := okx.below bb
  try replace oky := oky.below bb
  try replace ok1 := ok1.below bb
  try replace na := na.below bb
  try replace nb := nb.below bb
  try replace nc := nc.below bb
  try replace nd := nd.below bb
  try replace ne := ne.below bb
  replace bw := below_on bw bb bw.size
  clear bb
  have tx := bx
  obtain ⟨x0, x1, x2, xf0, xf1, xf2, xlt, xb⟩ := tx
  clear xb
  go_wp2_with fail
  clear x0 x1 x2 xf0 xf1 xf2 xlt
  refine (flowest_any wn x.b x.A x.D x.c x.d _ _ x.xs x.ys okx.num okx.den rfl rfl HV1.out l1 l2 (by omega) (by omega)).mono ?_
  rintro e wn ⟨x1, rfl, hs1, ok1, bb⟩
  have HS1 := Lib.hid hs1
  clear hs1
  try replace bx := bx.below bb
  try replace by_ := by_.below bb
  try replace bk := bk.below bb
  try replace okx := okx.below bb
  try replace oky := oky.below bb
  try replace ok1 := ok1.below bb
  try replace na := na.below bb
  try replace nb := nb.below bb
  try replace nc := nc.below bb
  try replace nd := nd.below bb
  try replace ne := ne.below bb
  replace bw := below_on bw bb bw.size
  clear bb
  have tk := bk
  obtain ⟨k0, k1, k2, kf0, kf1, kf2, klt, kb⟩ := tk
  clear kb
  go_wp2_with fail
  refine bodyPost_ret (v := .tuple #[(x1 : Fx).val, .int .i64 (frS (qv x.b (nv x.xs) (nv x.ys))).2.2.2]) (by simp [results, Tryz.results51, go_sem, k0, k1, k2]) rfl ?_
  have hS : S = frS (qv x.b (nv x.xs) (nv x.ys)) := by rw [← HS.out, redS, if_pos HV.out]; rfl
  rw [hS]
  exact ⟨x1, rfl, HS1.out, set3_ok ok1 bk rfl rfl rfl, set3g bw (by omega)⟩
 ·have HV : Hid (¬ x.v) := hv
  clear hv
  go_enter Tryz.func51, Tryz.ntmps51
  go_wp2_with fail
  have hs1 : w.heap.size < (w.alloc (.cells x.cells 29)).heap.size := by simp
  have b0 := (Below.refl w.heap.size w).alloc (Nat.le_refl _) (.cells x.cells 29)
  have b1 := (Below.refl (w.alloc (.cells x.cells 29)).heap.size (w.alloc (.cells x.cells 29))).alloc (Nat.le_refl _) (.cells #[.bool false, .slice none 0 0, .slice none 0 0] 29)
  have bx := (bk3_alloc w (.bool x.b) (.slice x.A x.xs.length x.c) (.slice x.D x.ys.length x.d)).below b1
  have bk := bk3_new (w.alloc (.cells x.cells 29))
  rw [size_box] at bk
  have okx := (hx.below b0).below b1
  have bw := below_on b0 b1 (Nat.le_of_lt hs1)
  clear hs1 b0 b1
  revert bx bk okx bw
  generalize ((w.alloc (.cells x.cells 29)).alloc (.cells #[.bool false, .slice none 0 0, .slice none 0 0] 29)) = w1
  intro bx bk okx bw
  refine (fvalid_any w1 x false okx l1 l2 (decide_eq_false HV.out)).mono ?_
  rintro e wn ⟨rfl, bb⟩
  try replace bx := bx.below bb
  try replace by_ := by_.below bb
  try replace bk := bk.below bb
  try replace okx := okx.below bb
  try replace oky := oky.below bb
  try replace ok1 := ok1.below bb
  try replace na := na.below bb
  try replace nb := nb.below bb
  try replace nc := nc.below bb
  try replace nd := nd.below bb
  try replace ne := ne.below bb
  replace bw := below_on bw bb bw.size
  clear bb
  have tk := bk
  obtain ⟨k0, k1, k2, kf0, kf1, kf2, klt, kb⟩ := tk
  clear kb
  go_wp2_with fail
  refine bodyPost_ret (v := .tuple #[(Fx.nil : Fx).val, .int .i64 1]) (by simp [results, Tryz.results51, go_sem, k0, k1, k2]) rfl ?_
  rw [← HS.out, redS, if_neg HV.out]
  exact ⟨Fx.nil, rfl, ⟨rfl, rfl, rfl⟩, Fx.nil_ok _, set3g bw (by omega)⟩
set_option maxRecDepth 100000
structure Rp (x : Fx) (q : Rat) : Prop where
 b : x.b = decide (q.num < 0)
 n : x.xs = lim q.num.natAbs
 d : x.ys = lim q.den
theorem sg_abs (a : Int) : sg (decide (a < 0)) a.natAbs = a := by
 unfold sg
 by_cases h : a < 0
 ·simp only [h, decide_true, if_true]; omega
 ·simp only [h, decide_false, Bool.false_eq_true, if_false]; omega
theorem Rp.q {x : Fx} {q : Rat} (h : Rp x q) : x.q = q := by
 rw [Fx.q, h.b, h.n, h.d, nv_lim, nv_lim, qv, sg_abs]
 exact Rat.mkRat_self q
def Sz (q : Rat) (n d : Nat) : Prop := (lim q.num.natAbs).length ≤ n ∧ (lim q.den).length ≤ d
theorem Sz.mono {q : Rat} {n d n' d' : Nat} (h : Sz q n d) (hn : n ≤ n') (hd : d ≤ d') : Sz q n' d' := ⟨Nat.le_trans h.1 hn, Nat.le_trans h.2 hd⟩
theorem Rp.v {x : Fx} {q : Rat} (h : Rp x q) (hs : Sz q 128 128) : x.v := by
 rw [Fx.v, Vf, h.n, h.d, nv_lim, nv_lim]
 exact ⟨q.den_nz, hs.2, hs.1⟩
theorem Rp.l1 {x : Fx} {q : Rat} (h : Rp x q) (hs : Sz q 128 128) : x.xs.length ≤ 10000 := by rw [h.n]; have := hs.1; omega
theorem Rp.l2 {x : Fx} {q : Rat} (h : Rp x q) (hs : Sz q 128 128) : x.ys.length ≤ 10000 := by rw [h.d]; have := hs.2; omega
theorem Sz.mk {a : Int} {e n d : Nat} (he : e ≠ 0) (hn : (lim a.natAbs).length ≤ n) (hd : (lim e).length ≤ d) : Sz (mkRat a e) n d := by
 have h1 := lim_length_mono (Nat.div_le_self a.natAbs (Nat.gcd e a.natAbs))
 have h2 := lim_length_mono (Nat.div_le_self e (Nat.gcd e a.natAbs))
 constructor
 ·rw [Rat.num_mkRat, if_neg he]
  have e1 : (a / (Nat.gcd e a.natAbs : Int)).natAbs = a.natAbs / Nat.gcd e a.natAbs := by
   obtain ⟨c, hc⟩ : (Nat.gcd e a.natAbs : Int) ∣ a := Int.ofNat_dvd_left.2 (Nat.gcd_dvd_right e a.natAbs)
   have hg : 0 < Nat.gcd e a.natAbs := Nat.gcd_pos_of_pos_left _ (Nat.pos_of_ne_zero he)
   generalize Nat.gcd e a.natAbs = g at *
   subst hc
   rw [Int.mul_ediv_cancel_left _ (by omega), Int.natAbs_mul, Int.natAbs_natCast, Nat.mul_div_cancel_left _ hg]
  rw [e1]; omega
 ·rw [Rat.den_mkRat, if_neg he]; omega
theorem Sz.of_qv {b : Bool} {m e n d : Nat} (he : e ≠ 0) (hn : (lim m).length ≤ n) (hd : (lim e).length ≤ d) : Sz (qv b m e) n d := Sz.mk he (by rw [sg_natAbs]; exact hn) hd
theorem den_mul_ne {p q : Rat} : p.den * q.den ≠ 0 := Nat.mul_ne_zero p.den_nz q.den_nz
theorem Sz.mul {p q : Rat} {a b c d : Nat} (h : Sz p a b) (k : Sz q c d) : Sz (p * q) (a + c) (b + d) := by
 rw [← Rat.mkRat_self p, ← Rat.mkRat_self q, Rat.mkRat_mul_mkRat]
 exact Sz.mk den_mul_ne (by rw [Int.natAbs_mul]; exact len_mulf h.1 k.1) (len_mulf h.2 k.2)
theorem Sz.add {p q : Rat} {a b c d : Nat} (h : Sz p a b) (k : Sz q c d) : Sz (p + q) (max (a + d) (c + b) + 1) (b + d) := by
 rw [← Rat.mkRat_self p, ← Rat.mkRat_self q, Rat.mkRat_add_mkRat _ _ p.den_nz q.den_nz]
 refine Sz.mk den_mul_ne ?_ (len_mulf h.2 k.2)
 have h1 := len_mulf h.1 k.2
 have h2 := len_mulf k.1 h.2
 have h3 : (p.num * (q.den : Int) + q.num * (p.den : Int)).natAbs ≤ p.num.natAbs * q.den + q.num.natAbs * p.den := by
  refine Nat.le_trans (Int.natAbs_add_le _ _) ?_
  rw [Int.natAbs_mul, Int.natAbs_mul, Int.natAbs_natCast, Int.natAbs_natCast]
  exact Nat.le_refl _
 refine Nat.le_trans (lim_length_mono h3) ?_
 exact len_addf (by omega) (by omega)
theorem Sz.neg {p : Rat} {a b : Nat} (h : Sz p a b) : Sz (-p) a b := by
 unfold Sz at *
 rw [Rat.neg_num, Rat.neg_den, Int.natAbs_neg]; exact h
theorem Sz.sub {p q : Rat} {a b c d : Nat} (h : Sz p a b) (k : Sz q c d) : Sz (p - q) (max (a + d) (c + b) + 1) (b + d) := by
 rw [Rat.sub_eq_add_neg]; exact h.add k.neg
theorem Sz.inv {p : Rat} {a b : Nat} (h : Sz p a b) (hp : p ≠ 0) : Sz p⁻¹ b a := by
 have hn : p.num ≠ 0 := fun e => hp (Rat.num_eq_zero.1 e)
 have e : p = qv (decide (p.num < 0)) p.num.natAbs p.den := by rw [qv, sg_abs, Rat.mkRat_self]
 have hi : p⁻¹ = qv (decide (p.num < 0)) p.den p.num.natAbs := by
  conv => lhs; rw [e]
  exact qv_inv (by omega)
 rw [hi]
 exact Sz.of_qv (by omega) h.2 h.1
theorem Sz.div {p q : Rat} {a b c d : Nat} (h : Sz p a b) (k : Sz q c d) (hq : q ≠ 0) : Sz (p / q) (a + d) (b + c) := by
 rw [Rat.div_def]; exact h.mul (k.inv hq)
def okS (q : Rat) : Bool × List Nat × List Nat × Int := (decide (q.num < 0), lim q.num.natAbs, lim q.den, 0)
theorem frS_ok {q : Rat} (h : Sz q 128 128) : frS q = okS q := by
 rw [frS, if_neg, okS]
 rw [bigQ]; have := h.1; have := h.2; omega
theorem Rp.of {x : Fx} {q : Rat} (h : x.b = (okS q).1 ∧ x.xs = (okS q).2.1 ∧ x.ys = (okS q).2.2.1) : Rp x q := ⟨h.1, h.2.1, h.2.2⟩
set_option maxRecDepth 100000
theorem sz_pow {q : Rat} {e k : Nat} (he : e < 32 * k) (h : BdR q (2 ^ e) (2 ^ e)) : Sz q k k := by
 have h2 : 2 ^ e < pw k := by rw [pw_two]; exact Nat.pow_lt_pow_right (by omega) he
 exact ⟨(lim_length_le _ _).2 (Nat.lt_of_le_of_lt h.1 h2), (lim_length_le _ _).2 (Nat.lt_of_le_of_lt h.2 h2)⟩
theorem Sz.zero (k : Nat) (hk : 1 ≤ k) : Sz 0 k k := by
 refine ⟨?_, ?_⟩
 ·show (lim 0).length ≤ k
  rw [lim_zero]; exact Nat.zero_le _
 ·rw [lim_length_le]
  exact Nat.lt_of_lt_of_le (show (1 : Nat) < pw 1 by rw [pw_one]; omega) (pw_le hk)
def wgA (m n : Nat) (O : Nat → Nat → Rat) : Nat := sumM (fun j => sumM (fun r => wgB (O r j)) m) n
section
variable {m n : Nat} {O : Nat → Nat → Rat} {x : St} {c cost : Nat → Rat}
theorem col_pow (hO : ∀ r, r < m → ∀ k, k < m → O r (n + k) = if r = k then 1 else 0) {W : Nat} (hA : wgA m n O ≤ W) (hb : sumM (fun r => wgB (O r (n + m))) m ≤ W) (h1 : 1 ≤ W) {j : Nat} (hj : j ≤ n + m) : colW m O j ≤ 2 ^ W := by
 have up : ∀ {a : Nat}, a ≤ W → 2 ^ a ≤ 2 ^ W := fun h => Nat.pow_le_pow_right (by omega) h
 rcases Nat.lt_or_ge j n with h | h
 ·exact Nat.le_trans (colW_le m O j) (up (Nat.le_trans (sumM_one (fun j => sumM (fun r => wgB (O r j)) m) h) hA))
 ·rcases Nat.lt_or_ge j (n + m) with h2 | h2
  ·obtain ⟨k, rfl⟩ : ∃ k, j = n + k := ⟨j - n, by omega⟩
   rw [colW_art hO (by omega)]
   exact up h1
  ·obtain rfl : j = n + m := by omega
   exact Nat.le_trans (colW_le m O _) (up hb)
theorem fit_gen (h : Okx m n O x) (hO : ∀ r, r < m → ∀ k, k < m → O r (n + k) = if r = k then 1 else 0) {W V : Nat} (hA : wgA m n O ≤ W) (hb : sumM (fun r => wgB (O r (n + m))) m ≤ W) (h1 : 1 ≤ W)
 (hc : pr1 (fun j => wtR (c j)) (n + m) ≤ 2 ^ V) (hm : m ≤ 32) (hs : V + wgA m n O + m + W + 5 < 1920) (_ : ∀ j, j < n + m → Sz (c j) 60 60) :
 (∀ i, i < m → ∀ k, k ≤ n + m → Sz (x.T i k) 60 60) ∧ (∀ j, j ≤ n + m → ∀ M, M ≤ m → Sz (sumTo (fun i => c (x.B i) * x.T i j) M) 60 60) := by
 have hAll := allW_le hO (Nat.le_refl (wgA m n O))
 have e1 : ∀ j, j ≤ n + m → pr1 (colW m O) (n + m) * colW m O j ≤ 2 ^ (wgA m n O + m + W) := fun j hj => by
  rw [Nat.pow_add]
  exact Nat.mul_le_mul hAll (col_pow hO hA hb h1 hj)
 refine ⟨fun i hi k hk => ?_, fun j hj M hM => ?_⟩
 ·have t := tab_bd h hi hk
  exact sz_pow (e := wgA m n O + m + W) (by omega) ⟨Nat.le_trans t.1 (e1 k hk), Nat.le_trans t.2 (e1 k hk)⟩
 ·have t := dot_bd (c := c) h hj M hM
  have e2 : pr1 (fun i => wtR (c (x.B i))) m * (pr1 (colW m O) (n + m) * colW m O j) ≤ 2 ^ (V + (wgA m n O + m + W)) := by
   rw [Nat.pow_add]
   exact Nat.mul_le_mul (Nat.le_trans (cost_wt h (Nat.le_refl _)) hc) (e1 j hj)
  have e3 : M * (pr1 (fun i => wtR (c (x.B i))) m * (pr1 (colW m O) (n + m) * colW m O j)) ≤ 2 ^ (5 + (V + (wgA m n O + m + W))) := by
   rw [Nat.pow_add]
   exact Nat.mul_le_mul (by omega) e2
  exact sz_pow (e := 5 + (V + (wgA m n O + m + W))) (by omega) ⟨Nat.le_trans t.1 e3, Nat.le_trans t.2 (Nat.le_trans e2 (Nat.pow_le_pow_right (by omega) (by omega)))⟩
theorem pr1_cst1 (n : Nat) : ∀ M, pr1 (fun j => wtR (cst1 n j)) M ≤ 2 ^ (M - n) := by
 intro M
 induction M with
 | zero => exact Nat.pow_pos (by omega)
 | succ M ih =>
   rw [pr1]
   rcases Nat.lt_or_ge M n with h | h
   ·have : wtR (cst1 n M) = 1 := by rw [cst1, if_pos h]; rfl
    rw [this, Nat.mul_one, show M + 1 - n = M - n from by omega]; exact ih
   ·have : wtR (cst1 n M) = 2 := by rw [cst1, if_neg (by omega)]; rfl
    rw [this, show M + 1 - n = M - n + 1 from by omega, Nat.pow_succ]
    exact Nat.mul_le_mul_right _ ih
theorem sumM_up (g : Nat → Nat) {a b : Nat} (h : a ≤ b) : sumM g a ≤ sumM g b := by
 induction b with
 | zero => rw [show a = 0 from by omega]; exact Nat.le_refl _
 | succ b ih =>
   rcases Nat.lt_or_ge b a with h1 | h1
   ·rw [show a = b + 1 from by omega]; exact Nat.le_refl _
   ·rw [sumM]; exact Nat.le_trans (ih h1) (Nat.le_add_right _ _)
theorem pr1_cst2 (n : Nat) (cost : Nat → Rat) : ∀ M, pr1 (fun j => wtR (cst2 n cost j)) M ≤ 2 ^ sumM (fun j => wgB (cost j)) n := by
 have h0 : ∀ M, M ≤ n → pr1 (fun j => wtR (cst2 n cost j)) M ≤ 2 ^ sumM (fun j => wgB (cost j)) M := by
  intro M
  induction M with
  | zero => intro _; exact Nat.pow_pos (by omega)
  | succ M ih =>
    intro hM
    rw [pr1, sumM, Nat.pow_add]
    refine Nat.mul_le_mul (ih (by omega)) ?_
    rw [cst2, if_pos (by omega)]; exact wtR_le _
 intro M
 induction M with
 | zero => exact Nat.pow_pos (by omega)
 | succ M ih =>
   rcases Nat.lt_or_ge M n with h | h
   ·have k := h0 (M + 1) (by omega)
    refine Nat.le_trans k (Nat.pow_le_pow_right (by omega) ?_)
    exact sumM_up _ (by omega)
   ·rw [pr1]
    have : wtR (cst2 n cost M) = 1 := by rw [cst2, if_neg (by omega)]; rfl
    rw [this, Nat.mul_one]; exact ih
structure Fit (m n : Nat) (c : Nat → Rat) (x : St) : Prop where
 el : ∀ i, i < m → ∀ k, k ≤ n + m → Sz (x.T i k) 60 60
 dt : ∀ j, j ≤ n + m → ∀ M, M ≤ m → Sz (sumTo (fun i => c (x.B i) * x.T i j) M) 60 60
 cs : ∀ j, j < n + m → Sz (c j) 60 60
structure Wgt (m n : Nat) (O : Nat → Nat → Rat) (cost : Nat → Rat) : Prop where
 art : ∀ r, r < m → ∀ k, k < m → O r (n + k) = if r = k then 1 else 0
 w : wgA m n O + sumM (fun r => wgB (O r (n + m))) m + sumM (fun j => wgB (cost j)) n ≤ 900
 m : m ≤ 32
theorem sz_sgn {z : Int} (h : z.natAbs ≤ 1) : Sz (z : Rat) 60 60 := by
 have hp : ∀ k, 1 ≤ k → 1 < pw k := fun k hk => Nat.lt_of_lt_of_le (show (1 : Nat) < pw 1 by rw [pw_one]; omega) (pw_le hk)
 exact ⟨(lim_length_le _ _).2 (by show (z : Rat).num.natAbs < _; rw [Rat.num_intCast]; have := hp 60 (by omega); omega), (lim_length_le _ _).2 (by show (z : Rat).den < _; rw [Rat.den_intCast]; exact hp 60 (by omega))⟩
theorem sz_wgB {q : Rat} (h : wgB q ≤ 900) : Sz q 60 60 := by
 have h1 := wtR_le q
 unfold wtR at h1
 have h2 : ∀ K : Nat, wgB q ≤ K → 2 ^ wgB q ≤ 2 ^ K := fun K hK => Nat.pow_le_pow_right (by omega) hK
 have h3 := h2 _ (Nat.le_refl _)
 exact sz_pow (e := wgB q) (by omega) ⟨by omega, by omega⟩
theorem fit1 (h : Okx m n O x) (hw : Wgt m n O cost) : Fit m n (cst1 n) x := by
 have w := hw.w
 have m32 := hw.m
 have hcs : ∀ j, j < n + m → Sz (cst1 n j) 60 60 := fun j _ => by
  unfold cst1
  split
  ·exact sz_sgn (z := 0) (by omega)
  ·exact sz_sgn (z := 1) (by omega)
 have hc := pr1_cst1 n (n + m)
 rw [show n + m - n = m from by omega] at hc
 obtain ⟨a, b⟩ := fit_gen h hw.art (W := 900) (V := m) (by omega) (by omega) (by omega) hc m32 (by omega) hcs
 exact ⟨a, b, hcs⟩
theorem fit2 (h : Okx m n O x) (hw : Wgt m n O cost) : Fit m n (cst2 n cost) x := by
 have w := hw.w
 have m32 := hw.m
 have hcs : ∀ j, j < n + m → Sz (cst2 n cost j) 60 60 := fun j _ => by
  unfold cst2
  split
  ·rename_i hj
   have := sumM_one (fun j => wgB (cost j)) hj
   exact sz_wgB (by omega)
  ·exact sz_sgn (z := 0) (by omega)
 obtain ⟨a, b⟩ := fit_gen h hw.art (W := 900) (by omega) (by omega) (by omega) (pr1_cst2 n cost (n + m)) m32 (by omega) hcs
 exact ⟨a, b, hcs⟩
end
set_option maxRecDepth 100000
open Go.RowKit
theorem cell_set3 {w : World} {G P k : Nat} {a b c v : Value} (h : w.cell? ⟨P, k, none⟩ = some v) (hne : G ≠ P) : (((w.setCell ⟨G, 0, none⟩ a).setCell ⟨G, 1, none⟩ b).setCell ⟨G, 2, none⟩ c).cell? ⟨P, k, none⟩ = some v := by
 rw [World.cell?_setCell_far _ _ _ _ hne, World.cell?_setCell_far _ _ _ _ hne, World.cell?_setCell_far _ _ _ _ hne]; exact h
def mulF (x y : Fx) : Bool × List Nat × List Nat × Int := if x.v ∧ y.v then frS (x.q * y.q) else errF 1
set_option maxHeartbeats 800000 in
theorem fmul_any (w : World) (x y : Fx) (S : Bool × List Nat × List Nat × Int) (hx : x.ok w) (hy : y.ok w) (l1 : x.xs.length ≤ 10000) (l2 : x.ys.length ≤ 10000) (m1 : y.xs.length ≤ 10000) (m2 : y.ys.length ≤ 10000) (hs : mulF x y = S) : Calls Tryz.prog 95 #[x.val, y.val] w (FracRes w S) := by
 have HS := Lib.hid hs
 clear hs
 by_cases hv : x.v ∧ y.v
 ·skip
  have HV := Lib.hid hv
  have HVX := Lib.hid hv.1
  have HVY := Lib.hid hv.2
  have DX : Hid (nv x.ys ≠ 0) := Lib.hid hv.1.1
  have DY : Hid (nv y.ys ≠ 0) := Lib.hid hv.2.1
  have lx1 : (lim (nv x.xs)).length ≤ 128 := hv.1.2.2
  have lx2 : (lim (nv x.ys)).length ≤ 128 := hv.1.2.1
  have ly1 : (lim (nv y.xs)).length ≤ 128 := hv.2.2.2
  have ly2 : (lim (nv y.ys)).length ≤ 128 := hv.2.2.1
  clear hv
  go_enter Tryz.func95, Tryz.ntmps95
  go_wp2_with fail
  have b0 := (Below.refl w.heap.size w).alloc (Nat.le_refl _) (.cells x.cells 29)
  have bx := bk3_alloc w (.bool x.b) (.slice x.A x.xs.length x.c) (.slice x.D x.ys.length x.d)
  have okx := hx.below b0
  have oky := hy.below b0
  have sz0 := size_box w (.cells x.cells 29)
  have bw := b0
  clear b0
  generalize (w.alloc (.cells x.cells 29)) = wa at bx okx oky sz0 bw ⊢
  have b1 := (Below.refl wa.heap.size wa).alloc (Nat.le_refl _) (.cells y.cells 29)
  have by_ := bk3_alloc wa (.bool y.b) (.slice y.A y.xs.length y.c) (.slice y.D y.ys.length y.d)
  have sz1 := size_box wa (.cells y.cells 29)
  rw [sz0] at by_ sz1
  replace bx := bx.below b1
  replace okx := okx.below b1
  replace oky := oky.below b1
  replace bw := below_on bw b1 bw.size
  clear b1
  generalize (wa.alloc (.cells y.cells 29)) = wb at bx by_ okx oky bw sz1 ⊢
  have b2 := (Below.refl wb.heap.size wb).alloc (Nat.le_refl _) (.cells #[.bool false, .slice none 0 0, .slice none 0 0] 29)
  have bk := bk3_new wb
  rw [sz1] at bk
  replace bx := bx.below b2
  replace by_ := by_.below b2
  replace okx := okx.below b2
  replace oky := oky.below b2
  replace bw := below_on bw b2 bw.size
  clear b2 sz0 sz1
  generalize (wb.alloc (.cells #[.bool false, .slice none 0 0, .slice none 0 0] 29)) = w1 at bx by_ okx oky bw bk ⊢
  refine (fvalid_any w1 x true okx l1 l2 (decide_eq_true HVX.out)).mono ?_
  rintro e wn ⟨rfl, bb⟩
  try replace bx := bx.below bb
  try replace by_ := by_.below bb
  try replace bk := bk.below bb
  try replace okx := okx.below bb
  try replace oky := oky.below bb
  try replace ok1 := ok1.below bb
  try replace na := na.below bb
  try replace nb := nb.below bb
  try replace nc := nc.below bb
  try replace nd := nd.below bb
  try replace ne := ne.below bb
  replace bw := below_on bw bb bw.size
  clear bb
  have ty := by_
  obtain ⟨y0, y1, y2, yf0, yf1, yf2, ylt, yb⟩ := ty
  clear yb
  go_wp2_with fail
  clear y0 y1 y2 yf0 yf1 yf2 ylt
  refine (fvalid_any wn y true oky m1 m2 (decide_eq_true HVY.out)).mono ?_
  rintro e wn ⟨rfl, bb⟩
  try replace bx := bx.below bb
  try replace by_ := by_.below bb
  try replace bk := bk.below bb
  try replace okx := okx.below bb
  try replace oky := oky.below bb
  try replace ok1 := ok1.below bb
  try replace na := na.below bb
  try replace nb := nb.below bb
  try replace nc := nc.below bb
  try replace nd := nd.below bb
  try replace ne := ne.below bb
  replace bw := below_on bw bb bw.size
  clear bb
  have hnn : (lim (nv (lim (nv x.xs * nv y.xs)))).length ≤ 512 := by rw [nv_lim]; have := len_mulf lx1 ly1; omega
  have hdd : (lim (nv (lim (nv x.ys * nv y.ys)))).length ≤ 512 := by rw [nv_lim]; have := len_mulf lx2 ly2; omega
  have hn1 : (lim (nv x.xs * nv y.xs)).length ≤ 512 := by have := len_mulf lx1 ly1; omega
  have hn2 : (lim (nv x.ys * nv y.ys)).length ≤ 512 := by have := len_mulf lx2 ly2; omega
  have hne : nv (lim (nv x.ys * nv y.ys)) ≠ 0 := by rw [nv_lim]; exact Nat.mul_ne_zero DX.out DY.out
  have n20 : w.heap.size + 1 + 1 ≠ w.heap.size := by omega
  have n21 : w.heap.size + 1 + 1 ≠ w.heap.size + 1 := by omega
  have NN := Lib.hid hnn
  have DD := Lib.hid hdd
  have NE : Hid (nv (lim (nv x.ys * nv y.ys)) ≠ 0) := hne
  clear hnn hdd hne
  go_wp2_with fail
  have bb := below_drew (Below.refl wn.heap.size wn)
  try replace bx := bx.below bb
  try replace by_ := by_.below bb
  try replace bk := bk.below bb
  try replace okx := okx.below bb
  try replace oky := oky.below bb
  try replace ok1 := ok1.below bb
  try replace na := na.below bb
  try replace nb := nb.below bb
  try replace nc := nc.below bb
  try replace nd := nd.below bb
  try replace ne := ne.below bb
  replace bw := below_on bw bb bw.size
  clear bb
  go_region_held3 (fun w' => w'.cell? ⟨w.heap.size, 0, none⟩ = some (.bool x.b) ∧ w'.cell? ⟨w.heap.size, 1, none⟩ = some (.slice x.A x.xs.length x.c) ∧ w'.cell? ⟨w.heap.size, 2, none⟩ = some (.slice x.D x.ys.length x.d) ∧ w'.cell? ⟨w.heap.size + 1, 0, none⟩ = some (.bool y.b) ∧ w'.cell? ⟨w.heap.size + 1, 1, none⟩ = some (.slice y.A y.xs.length y.c) ∧ w'.cell? ⟨w.heap.size + 1, 2, none⟩ = some (.slice y.D y.ys.length y.d))
   (first | exact ⟨bx.c0, bx.c1, bx.c2, by_.c0, by_.c1, by_.c2⟩ | exact ⟨cell_set3 bx.c0 n20, cell_set3 bx.c1 n20, cell_set3 bx.c2 n20, cell_set3 by_.c0 n21, cell_set3 by_.c1 n21, cell_set3 by_.c2 n21⟩ | go_keep)
   (first
     | (go_at_call 117
        with_reducible refine (ftimes_ok _ x.A y.A x.c y.c _ _ x.xs y.xs okx.num oky.num rfl rfl lx1 ly1).mono ?_
        rintro e wn ⟨AN, cN, rfl, na, bb⟩
        try replace nb := nb.below bb
        replace bx := bx.below bb
        replace by_ := by_.below bb
        replace bk := bk.below bb
        replace okx := okx.below bb
        replace oky := oky.below bb
        replace bw := below_on bw bb bw.size
        clear bb)
     | (go_at_call 117
        with_reducible refine (ftimes_ok _ x.D y.D x.d y.d _ _ x.ys y.ys okx.den oky.den rfl rfl lx2 ly2).mono ?_
        rintro e wn ⟨AD, cD, rfl, nb, bb⟩
        try replace na := na.below bb
        replace bx := bx.below bb
        replace by_ := by_.below bb
        replace bk := bk.below bb
        replace okx := okx.below bb
        replace oky := oky.below bb
        replace bw := below_on bw bb bw.size
        clear bb)
     | (go_at_call 91
        with_reducible refine (flowest_any _ (!(x.b == y.b)) AN AD cN cD _ _ (lim (nv x.xs * nv y.xs)) (lim (nv x.ys * nv y.ys)) na nb rfl rfl NE.out (by omega) (by omega) NN.out DD.out).mono ?_
        rintro e wn ⟨x1, rfl, hs1, ok1, bb⟩
        have HS1 := Lib.hid hs1
        replace bx := bx.below bb
        replace by_ := by_.below bb
        replace bk := bk.below bb
        replace bw := below_on bw bb bw.size
        have kk := bk
        obtain ⟨k0, k1, k2, kf0, kf1, kf2, klt, _⟩ := kk
        clear bb hs1))
  all_goals
   skip
   go_wp2_with fail
   refine bodyPost_ret (v := .tuple #[(x1 : Fx).val, .int .i64 (frS (qv (!(x.b == y.b)) (nv (lim (nv x.xs * nv y.xs))) (nv (lim (nv x.ys * nv y.ys))))).2.2.2]) (by simp [results, Tryz.results95, go_sem, k0, k1, k2]) rfl ?_
   have hS : S = frS (qv (!(x.b == y.b)) (nv (lim (nv x.xs * nv y.xs))) (nv (lim (nv x.ys * nv y.ys)))) := by
    rw [← HS.out, mulF, if_pos HV.out, nv_lim, nv_lim, Fx.q, Fx.q, qv_mul]; rfl
   rw [hS]
   exact ⟨x1, rfl, HS1.out, set3_ok ok1 bk rfl rfl rfl, set3g bw (by omega)⟩
 ·skip
  by_cases hvx : x.v
  ·have hvy : ¬ y.v := fun h => hv ⟨hvx, h⟩
   have HVX := Lib.hid hvx
   have HVY : Hid (¬ y.v) := hvy
   have HV : Hid (¬ (x.v ∧ y.v)) := hv
   clear hvx hvy hv
   go_enter Tryz.func95, Tryz.ntmps95
   go_wp2_with fail
   have b0 := (Below.refl w.heap.size w).alloc (Nat.le_refl _) (.cells x.cells 29)
   have bx := bk3_alloc w (.bool x.b) (.slice x.A x.xs.length x.c) (.slice x.D x.ys.length x.d)
   have okx := hx.below b0
   have oky := hy.below b0
   have sz0 := size_box w (.cells x.cells 29)
   have bw := b0
   clear b0
   generalize (w.alloc (.cells x.cells 29)) = wa at bx okx oky sz0 bw ⊢
   have b1 := (Below.refl wa.heap.size wa).alloc (Nat.le_refl _) (.cells y.cells 29)
   have by_ := bk3_alloc wa (.bool y.b) (.slice y.A y.xs.length y.c) (.slice y.D y.ys.length y.d)
   have sz1 := size_box wa (.cells y.cells 29)
   rw [sz0] at by_ sz1
   replace bx := bx.below b1
   replace okx := okx.below b1
   replace oky := oky.below b1
   replace bw := below_on bw b1 bw.size
   clear b1
   generalize (wa.alloc (.cells y.cells 29)) = wb at bx by_ okx oky bw sz1 ⊢
   have b2 := (Below.refl wb.heap.size wb).alloc (Nat.le_refl _) (.cells #[.bool false, .slice none 0 0, .slice none 0 0] 29)
   have bk := bk3_new wb
   rw [sz1] at bk
   replace bx := bx.below b2
   replace by_ := by_.below b2
   replace okx := okx.below b2
   replace oky := oky.below b2
   replace bw := below_on bw b2 bw.size
   clear b2 sz0 sz1
   generalize (wb.alloc (.cells #[.bool false, .slice none 0 0, .slice none 0 0] 29)) = w1 at bx by_ okx oky bw bk ⊢
   refine (fvalid_any w1 x true okx l1 l2 (decide_eq_true HVX.out)).mono ?_
   rintro e wn ⟨rfl, bb⟩
   try replace bx := bx.below bb
   try replace by_ := by_.below bb
   try replace bk := bk.below bb
   try replace okx := okx.below bb
   try replace oky := oky.below bb
   try replace ok1 := ok1.below bb
   try replace na := na.below bb
   try replace nb := nb.below bb
   try replace nc := nc.below bb
   try replace nd := nd.below bb
   try replace ne := ne.below bb
   replace bw := below_on bw bb bw.size
   clear bb
   have ty := by_
   obtain ⟨y0, y1, y2, yf0, yf1, yf2, ylt, yb⟩ := ty
   clear yb
   go_wp2_with fail
   clear y0 y1 y2 yf0 yf1 yf2 ylt
   refine (fvalid_any wn y false oky m1 m2 (decide_eq_false HVY.out)).mono ?_
   rintro e wn ⟨rfl, bb⟩
   try replace bx := bx.below bb
   try replace by_ := by_.below bb
   try replace bk := bk.below bb
   try replace okx := okx.below bb
   try replace oky := oky.below bb
   try replace ok1 := ok1.below bb
   try replace na := na.below bb
   try replace nb := nb.below bb
   try replace nc := nc.below bb
   try replace nd := nd.below bb
   try replace ne := ne.below bb
   replace bw := below_on bw bb bw.size
   clear bb
   have tk := bk
   obtain ⟨k0, k1, k2, kf0, kf1, kf2, klt, kb⟩ := tk
   clear kb
   go_wp2_with fail
   refine bodyPost_ret (v := .tuple #[(Fx.nil : Fx).val, .int .i64 1]) (by simp [results, Tryz.results95, go_sem, k0, k1, k2]) rfl ?_
   rw [← HS.out, mulF, if_neg HV.out]
   exact ⟨Fx.nil, rfl, ⟨rfl, rfl, rfl⟩, Fx.nil_ok _, set3g bw (by omega)⟩
  ·have HVX : Hid (¬ x.v) := hvx
   have HV : Hid (¬ (x.v ∧ y.v)) := hv
   clear hvx hv
   go_enter Tryz.func95, Tryz.ntmps95
   go_wp2_with fail
   have b0 := (Below.refl w.heap.size w).alloc (Nat.le_refl _) (.cells x.cells 29)
   have bx := bk3_alloc w (.bool x.b) (.slice x.A x.xs.length x.c) (.slice x.D x.ys.length x.d)
   have okx := hx.below b0
   have oky := hy.below b0
   have sz0 := size_box w (.cells x.cells 29)
   have bw := b0
   clear b0
   generalize (w.alloc (.cells x.cells 29)) = wa at bx okx oky sz0 bw ⊢
   have b1 := (Below.refl wa.heap.size wa).alloc (Nat.le_refl _) (.cells y.cells 29)
   have by_ := bk3_alloc wa (.bool y.b) (.slice y.A y.xs.length y.c) (.slice y.D y.ys.length y.d)
   have sz1 := size_box wa (.cells y.cells 29)
   rw [sz0] at by_ sz1
   replace bx := bx.below b1
   replace okx := okx.below b1
   replace oky := oky.below b1
   replace bw := below_on bw b1 bw.size
   clear b1
   generalize (wa.alloc (.cells y.cells 29)) = wb at bx by_ okx oky bw sz1 ⊢
   have b2 := (Below.refl wb.heap.size wb).alloc (Nat.le_refl _) (.cells #[.bool false, .slice none 0 0, .slice none 0 0] 29)
   have bk := bk3_new wb
   rw [sz1] at bk
   replace bx := bx.below b2
   replace by_ := by_.below b2
   replace okx := okx.below b2
   replace oky := oky.below b2
   replace bw := below_on bw b2 bw.size
   clear b2 sz0 sz1
   generalize (wb.alloc (.cells #[.bool false, .slice none 0 0, .slice none 0 0] 29)) = w1 at bx by_ okx oky bw bk ⊢
   refine (fvalid_any w1 x false okx l1 l2 (decide_eq_false HVX.out)).mono ?_
   rintro e wn ⟨rfl, bb⟩
   try replace bx := bx.below bb
   try replace by_ := by_.below bb
   try replace bk := bk.below bb
   try replace okx := okx.below bb
   try replace oky := oky.below bb
   try replace ok1 := ok1.below bb
   try replace na := na.below bb
   try replace nb := nb.below bb
   try replace nc := nc.below bb
   try replace nd := nd.below bb
   try replace ne := ne.below bb
   replace bw := below_on bw bb bw.size
   clear bb
   have tk := bk
   obtain ⟨k0, k1, k2, kf0, kf1, kf2, klt, kb⟩ := tk
   clear kb
   go_wp2_with fail
   refine bodyPost_ret (v := .tuple #[(Fx.nil : Fx).val, .int .i64 1]) (by simp [results, Tryz.results95, go_sem, k0, k1, k2]) rfl ?_
   rw [← HS.out, mulF, if_neg HV.out]
   exact ⟨Fx.nil, rfl, ⟨rfl, rfl, rfl⟩, Fx.nil_ok _, set3g bw (by omega)⟩
def quoF (x y : Fx) : Bool × List Nat × List Nat × Int := if x.v ∧ y.v then (if nv y.xs = 0 then errF 3 else frS (x.q / y.q)) else errF 1
set_option maxHeartbeats 800000 in
theorem fquo_any (w : World) (x y : Fx) (S : Bool × List Nat × List Nat × Int) (hx : x.ok w) (hy : y.ok w) (l1 : x.xs.length ≤ 10000) (l2 : x.ys.length ≤ 10000) (m1 : y.xs.length ≤ 10000) (m2 : y.ys.length ≤ 10000) (hs : quoF x y = S) : Calls Tryz.prog 115 #[x.val, y.val] w (FracRes w S) := by
 have HS := Lib.hid hs
 clear hs
 by_cases hv : x.v ∧ y.v
 ·by_cases hz : nv y.xs = 0
  ·have HZ := Lib.hid hz
   clear hz
   skip
   have HV := Lib.hid hv
   have HVX := Lib.hid hv.1
   have HVY := Lib.hid hv.2
   have DX : Hid (nv x.ys ≠ 0) := Lib.hid hv.1.1
   have DY : Hid (nv y.ys ≠ 0) := Lib.hid hv.2.1
   have lx1 : (lim (nv x.xs)).length ≤ 128 := hv.1.2.2
   have lx2 : (lim (nv x.ys)).length ≤ 128 := hv.1.2.1
   have ly1 : (lim (nv y.xs)).length ≤ 128 := hv.2.2.2
   have ly2 : (lim (nv y.ys)).length ≤ 128 := hv.2.2.1
   clear hv
   go_enter Tryz.func115, Tryz.ntmps115
   go_wp2_with fail
   have b0 := (Below.refl w.heap.size w).alloc (Nat.le_refl _) (.cells x.cells 29)
   have bx := bk3_alloc w (.bool x.b) (.slice x.A x.xs.length x.c) (.slice x.D x.ys.length x.d)
   have okx := hx.below b0
   have oky := hy.below b0
   have sz0 := size_box w (.cells x.cells 29)
   have bw := b0
   clear b0
   generalize (w.alloc (.cells x.cells 29)) = wa at bx okx oky sz0 bw ⊢
   have b1 := (Below.refl wa.heap.size wa).alloc (Nat.le_refl _) (.cells y.cells 29)
   have by_ := bk3_alloc wa (.bool y.b) (.slice y.A y.xs.length y.c) (.slice y.D y.ys.length y.d)
   have sz1 := size_box wa (.cells y.cells 29)
   rw [sz0] at by_ sz1
   replace bx := bx.below b1
   replace okx := okx.below b1
   replace oky := oky.below b1
   replace bw := below_on bw b1 bw.size
   clear b1
   generalize (wa.alloc (.cells y.cells 29)) = wb at bx by_ okx oky bw sz1 ⊢
   have b2 := (Below.refl wb.heap.size wb).alloc (Nat.le_refl _) (.cells #[.bool false, .slice none 0 0, .slice none 0 0] 29)
   have bk := bk3_new wb
   rw [sz1] at bk
   replace bx := bx.below b2
   replace by_ := by_.below b2
   replace okx := okx.below b2
   replace oky := oky.below b2
   replace bw := below_on bw b2 bw.size
   clear b2 sz0 sz1
   generalize (wb.alloc (.cells #[.bool false, .slice none 0 0, .slice none 0 0] 29)) = w1 at bx by_ okx oky bw bk ⊢
   refine (fvalid_any w1 x true okx l1 l2 (decide_eq_true HVX.out)).mono ?_
   rintro e wn ⟨rfl, bb⟩
   try replace bx := bx.below bb
   try replace by_ := by_.below bb
   try replace bk := bk.below bb
   try replace okx := okx.below bb
   try replace oky := oky.below bb
   try replace ok1 := ok1.below bb
   try replace na := na.below bb
   try replace nb := nb.below bb
   try replace nc := nc.below bb
   try replace nd := nd.below bb
   try replace ne := ne.below bb
   replace bw := below_on bw bb bw.size
   clear bb
   have ty := by_
   obtain ⟨y0, y1, y2, yf0, yf1, yf2, ylt, yb⟩ := ty
   clear yb
   go_wp2_with fail
   clear y0 y1 y2 yf0 yf1 yf2 ylt
   refine (fvalid_any wn y true oky m1 m2 (decide_eq_true HVY.out)).mono ?_
   rintro e wn ⟨rfl, bb⟩
   try replace bx := bx.below bb
   try replace by_ := by_.below bb
   try replace bk := bk.below bb
   try replace okx := okx.below bb
   try replace oky := oky.below bb
   try replace ok1 := ok1.below bb
   try replace na := na.below bb
   try replace nb := nb.below bb
   try replace nc := nc.below bb
   try replace nd := nd.below bb
   try replace ne := ne.below bb
   replace bw := below_on bw bb bw.size
   clear bb
   have ty := by_
   obtain ⟨y0, y1, y2, yf0, yf1, yf2, ylt, yb⟩ := ty
   clear yb
   go_wp2_with fail
   clear y0 y1 y2 yf0 yf1 yf2 ylt
   refine (fzero_any wn y true oky.num (by omega) (decide_eq_true HZ.out)).mono ?_
   rintro e wn ⟨rfl, bb⟩
   try replace bx := bx.below bb
   try replace by_ := by_.below bb
   try replace bk := bk.below bb
   try replace okx := okx.below bb
   try replace oky := oky.below bb
   try replace ok1 := ok1.below bb
   try replace na := na.below bb
   try replace nb := nb.below bb
   try replace nc := nc.below bb
   try replace nd := nd.below bb
   try replace ne := ne.below bb
   replace bw := below_on bw bb bw.size
   clear bb
   have tk := bk
   obtain ⟨k0, k1, k2, kf0, kf1, kf2, klt, kb⟩ := tk
   clear kb
   go_wp2_with fail
   refine bodyPost_ret (v := .tuple #[(Fx.nil : Fx).val, .int .i64 3]) (by simp [results, Tryz.results115, go_sem, k0, k1, k2]) rfl ?_
   rw [← HS.out, quoF, if_pos HV.out, if_pos HZ.out]
   exact ⟨Fx.nil, rfl, ⟨rfl, rfl, rfl⟩, Fx.nil_ok _, set3g bw (by omega)⟩
  ·have HZ : Hid (¬ nv y.xs = 0) := hz
   clear hz
   skip
   have HV := Lib.hid hv
   have HVX := Lib.hid hv.1
   have HVY := Lib.hid hv.2
   have DX : Hid (nv x.ys ≠ 0) := Lib.hid hv.1.1
   have DY : Hid (nv y.ys ≠ 0) := Lib.hid hv.2.1
   have lx1 : (lim (nv x.xs)).length ≤ 128 := hv.1.2.2
   have lx2 : (lim (nv x.ys)).length ≤ 128 := hv.1.2.1
   have ly1 : (lim (nv y.xs)).length ≤ 128 := hv.2.2.2
   have ly2 : (lim (nv y.ys)).length ≤ 128 := hv.2.2.1
   clear hv
   go_enter Tryz.func115, Tryz.ntmps115
   go_wp2_with fail
   have b0 := (Below.refl w.heap.size w).alloc (Nat.le_refl _) (.cells x.cells 29)
   have bx := bk3_alloc w (.bool x.b) (.slice x.A x.xs.length x.c) (.slice x.D x.ys.length x.d)
   have okx := hx.below b0
   have oky := hy.below b0
   have sz0 := size_box w (.cells x.cells 29)
   have bw := b0
   clear b0
   generalize (w.alloc (.cells x.cells 29)) = wa at bx okx oky sz0 bw ⊢
   have b1 := (Below.refl wa.heap.size wa).alloc (Nat.le_refl _) (.cells y.cells 29)
   have by_ := bk3_alloc wa (.bool y.b) (.slice y.A y.xs.length y.c) (.slice y.D y.ys.length y.d)
   have sz1 := size_box wa (.cells y.cells 29)
   rw [sz0] at by_ sz1
   replace bx := bx.below b1
   replace okx := okx.below b1
   replace oky := oky.below b1
   replace bw := below_on bw b1 bw.size
   clear b1
   generalize (wa.alloc (.cells y.cells 29)) = wb at bx by_ okx oky bw sz1 ⊢
   have b2 := (Below.refl wb.heap.size wb).alloc (Nat.le_refl _) (.cells #[.bool false, .slice none 0 0, .slice none 0 0] 29)
   have bk := bk3_new wb
   rw [sz1] at bk
   replace bx := bx.below b2
   replace by_ := by_.below b2
   replace okx := okx.below b2
   replace oky := oky.below b2
   replace bw := below_on bw b2 bw.size
   clear b2 sz0 sz1
   generalize (wb.alloc (.cells #[.bool false, .slice none 0 0, .slice none 0 0] 29)) = w1 at bx by_ okx oky bw bk ⊢
   refine (fvalid_any w1 x true okx l1 l2 (decide_eq_true HVX.out)).mono ?_
   rintro e wn ⟨rfl, bb⟩
   try replace bx := bx.below bb
   try replace by_ := by_.below bb
   try replace bk := bk.below bb
   try replace okx := okx.below bb
   try replace oky := oky.below bb
   try replace ok1 := ok1.below bb
   try replace na := na.below bb
   try replace nb := nb.below bb
   try replace nc := nc.below bb
   try replace nd := nd.below bb
   try replace ne := ne.below bb
   replace bw := below_on bw bb bw.size
   clear bb
   have ty := by_
   obtain ⟨y0, y1, y2, yf0, yf1, yf2, ylt, yb⟩ := ty
   clear yb
   go_wp2_with fail
   clear y0 y1 y2 yf0 yf1 yf2 ylt
   refine (fvalid_any wn y true oky m1 m2 (decide_eq_true HVY.out)).mono ?_
   rintro e wn ⟨rfl, bb⟩
   try replace bx := bx.below bb
   try replace by_ := by_.below bb
   try replace bk := bk.below bb
   try replace okx := okx.below bb
   try replace oky := oky.below bb
   try replace ok1 := ok1.below bb
   try replace na := na.below bb
   try replace nb := nb.below bb
   try replace nc := nc.below bb
   try replace nd := nd.below bb
   try replace ne := ne.below bb
   replace bw := below_on bw bb bw.size
   clear bb
   have ty := by_
   obtain ⟨y0, y1, y2, yf0, yf1, yf2, ylt, yb⟩ := ty
   clear yb
   go_wp2_with fail
   clear y0 y1 y2 yf0 yf1 yf2 ylt
   refine (fzero_any wn y false oky.num (by omega) (decide_eq_false HZ.out)).mono ?_
   rintro e wn ⟨rfl, bb⟩
   try replace bx := bx.below bb
   try replace by_ := by_.below bb
   try replace bk := bk.below bb
   try replace okx := okx.below bb
   try replace oky := oky.below bb
   try replace ok1 := ok1.below bb
   try replace na := na.below bb
   try replace nb := nb.below bb
   try replace nc := nc.below bb
   try replace nd := nd.below bb
   try replace ne := ne.below bb
   replace bw := below_on bw bb bw.size
   clear bb
   have hnn : (lim (nv (lim (nv x.xs * nv y.ys)))).length ≤ 512 := by rw [nv_lim]; have := len_mulf lx1 ly2; omega
   have hdd : (lim (nv (lim (nv x.ys * nv y.xs)))).length ≤ 512 := by rw [nv_lim]; have := len_mulf lx2 ly1; omega
   have hn1 : (lim (nv x.xs * nv y.ys)).length ≤ 512 := by have := len_mulf lx1 ly2; omega
   have hn2 : (lim (nv x.ys * nv y.xs)).length ≤ 512 := by have := len_mulf lx2 ly1; omega
   have hne : nv (lim (nv x.ys * nv y.xs)) ≠ 0 := by rw [nv_lim]; exact Nat.mul_ne_zero DX.out HZ.out
   have n20 : w.heap.size + 1 + 1 ≠ w.heap.size := by omega
   have n21 : w.heap.size + 1 + 1 ≠ w.heap.size + 1 := by omega
   have NN := Lib.hid hnn
   have DD := Lib.hid hdd
   have NE : Hid (nv (lim (nv x.ys * nv y.xs)) ≠ 0) := hne
   clear hnn hdd hne
   go_wp2_with fail
   have bb := below_drew (Below.refl wn.heap.size wn)
   try replace bx := bx.below bb
   try replace by_ := by_.below bb
   try replace bk := bk.below bb
   try replace okx := okx.below bb
   try replace oky := oky.below bb
   try replace ok1 := ok1.below bb
   try replace na := na.below bb
   try replace nb := nb.below bb
   try replace nc := nc.below bb
   try replace nd := nd.below bb
   try replace ne := ne.below bb
   replace bw := below_on bw bb bw.size
   clear bb
   go_region_held3 (fun w' => w'.cell? ⟨w.heap.size, 0, none⟩ = some (.bool x.b) ∧ w'.cell? ⟨w.heap.size, 1, none⟩ = some (.slice x.A x.xs.length x.c) ∧ w'.cell? ⟨w.heap.size, 2, none⟩ = some (.slice x.D x.ys.length x.d) ∧ w'.cell? ⟨w.heap.size + 1, 0, none⟩ = some (.bool y.b) ∧ w'.cell? ⟨w.heap.size + 1, 1, none⟩ = some (.slice y.A y.xs.length y.c) ∧ w'.cell? ⟨w.heap.size + 1, 2, none⟩ = some (.slice y.D y.ys.length y.d))
    (first | exact ⟨bx.c0, bx.c1, bx.c2, by_.c0, by_.c1, by_.c2⟩ | exact ⟨cell_set3 bx.c0 n20, cell_set3 bx.c1 n20, cell_set3 bx.c2 n20, cell_set3 by_.c0 n21, cell_set3 by_.c1 n21, cell_set3 by_.c2 n21⟩ | go_keep)
    (first
      | (go_at_call 117
         with_reducible refine (ftimes_ok _ x.A y.D x.c y.d _ _ x.xs y.ys okx.num oky.den rfl rfl lx1 ly2).mono ?_
         rintro e wn ⟨AN, cN, rfl, na, bb⟩
         try replace nb := nb.below bb
         replace bx := bx.below bb
         replace by_ := by_.below bb
         replace bk := bk.below bb
         replace okx := okx.below bb
         replace oky := oky.below bb
         replace bw := below_on bw bb bw.size
         clear bb)
      | (go_at_call 117
         with_reducible refine (ftimes_ok _ x.D y.A x.d y.c _ _ x.ys y.xs okx.den oky.num rfl rfl lx2 ly1).mono ?_
         rintro e wn ⟨AD, cD, rfl, nb, bb⟩
         try replace na := na.below bb
         replace bx := bx.below bb
         replace by_ := by_.below bb
         replace bk := bk.below bb
         replace okx := okx.below bb
         replace oky := oky.below bb
         replace bw := below_on bw bb bw.size
         clear bb)
      | (go_at_call 91
         with_reducible refine (flowest_any _ (!(x.b == y.b)) AN AD cN cD _ _ (lim (nv x.xs * nv y.ys)) (lim (nv x.ys * nv y.xs)) na nb rfl rfl NE.out (by omega) (by omega) NN.out DD.out).mono ?_
         rintro e wn ⟨x1, rfl, hs1, ok1, bb⟩
         have HS1 := Lib.hid hs1
         replace bx := bx.below bb
         replace by_ := by_.below bb
         replace bk := bk.below bb
         replace bw := below_on bw bb bw.size
         have kk := bk
         obtain ⟨k0, k1, k2, kf0, kf1, kf2, klt, _⟩ := kk
         clear bb hs1))
   all_goals
    skip
    go_wp2_with fail
    refine bodyPost_ret (v := .tuple #[(x1 : Fx).val, .int .i64 (frS (qv (!(x.b == y.b)) (nv (lim (nv x.xs * nv y.ys))) (nv (lim (nv x.ys * nv y.xs))))).2.2.2]) (by simp [results, Tryz.results115, go_sem, k0, k1, k2]) rfl ?_
    have hS : S = frS (qv (!(x.b == y.b)) (nv (lim (nv x.xs * nv y.ys))) (nv (lim (nv x.ys * nv y.xs)))) := by
     rw [← HS.out, quoF, if_pos HV.out, if_neg HZ.out, nv_lim, nv_lim, Fx.q, Fx.q, qv_quo HZ.out]; rfl
    rw [hS]
    exact ⟨x1, rfl, HS1.out, set3_ok ok1 bk rfl rfl rfl, set3g bw (by omega)⟩
 ·skip
  by_cases hvx : x.v
  ·have hvy : ¬ y.v := fun h => hv ⟨hvx, h⟩
   have HVX := Lib.hid hvx
   have HVY : Hid (¬ y.v) := hvy
   have HV : Hid (¬ (x.v ∧ y.v)) := hv
   clear hvx hvy hv
   go_enter Tryz.func115, Tryz.ntmps115
   go_wp2_with fail
   have b0 := (Below.refl w.heap.size w).alloc (Nat.le_refl _) (.cells x.cells 29)
   have bx := bk3_alloc w (.bool x.b) (.slice x.A x.xs.length x.c) (.slice x.D x.ys.length x.d)
   have okx := hx.below b0
   have oky := hy.below b0
   have sz0 := size_box w (.cells x.cells 29)
   have bw := b0
   clear b0
   generalize (w.alloc (.cells x.cells 29)) = wa at bx okx oky sz0 bw ⊢
   have b1 := (Below.refl wa.heap.size wa).alloc (Nat.le_refl _) (.cells y.cells 29)
   have by_ := bk3_alloc wa (.bool y.b) (.slice y.A y.xs.length y.c) (.slice y.D y.ys.length y.d)
   have sz1 := size_box wa (.cells y.cells 29)
   rw [sz0] at by_ sz1
   replace bx := bx.below b1
   replace okx := okx.below b1
   replace oky := oky.below b1
   replace bw := below_on bw b1 bw.size
   clear b1
   generalize (wa.alloc (.cells y.cells 29)) = wb at bx by_ okx oky bw sz1 ⊢
   have b2 := (Below.refl wb.heap.size wb).alloc (Nat.le_refl _) (.cells #[.bool false, .slice none 0 0, .slice none 0 0] 29)
   have bk := bk3_new wb
   rw [sz1] at bk
   replace bx := bx.below b2
   replace by_ := by_.below b2
   replace okx := okx.below b2
   replace oky := oky.below b2
   replace bw := below_on bw b2 bw.size
   clear b2 sz0 sz1
   generalize (wb.alloc (.cells #[.bool false, .slice none 0 0, .slice none 0 0] 29)) = w1 at bx by_ okx oky bw bk ⊢
   refine (fvalid_any w1 x true okx l1 l2 (decide_eq_true HVX.out)).mono ?_
   rintro e wn ⟨rfl, bb⟩
   try replace bx := bx.below bb
   try replace by_ := by_.below bb
   try replace bk := bk.below bb
   try replace okx := okx.below bb
   try replace oky := oky.below bb
   try replace ok1 := ok1.below bb
   try replace na := na.below bb
   try replace nb := nb.below bb
   try replace nc := nc.below bb
   try replace nd := nd.below bb
   try replace ne := ne.below bb
   replace bw := below_on bw bb bw.size
   clear bb
   have ty := by_
   obtain ⟨y0, y1, y2, yf0, yf1, yf2, ylt, yb⟩ := ty
   clear yb
   go_wp2_with fail
   clear y0 y1 y2 yf0 yf1 yf2 ylt
   refine (fvalid_any wn y false oky m1 m2 (decide_eq_false HVY.out)).mono ?_
   rintro e wn ⟨rfl, bb⟩
   try replace bx := bx.below bb
   try replace by_ := by_.below bb
   try replace bk := bk.below bb
   try replace okx := okx.below bb
   try replace oky := oky.below bb
   try replace ok1 := ok1.below bb
   try replace na := na.below bb
   try replace nb := nb.below bb
   try replace nc := nc.below bb
   try replace nd := nd.below bb
   try replace ne := ne.below bb
   replace bw := below_on bw bb bw.size
   clear bb
   have tk := bk
   obtain ⟨k0, k1, k2, kf0, kf1, kf2, klt, kb⟩ := tk
   clear kb
   go_wp2_with fail
   refine bodyPost_ret (v := .tuple #[(Fx.nil : Fx).val, .int .i64 1]) (by simp [results, Tryz.results115, go_sem, k0, k1, k2]) rfl ?_
   rw [← HS.out, quoF, if_neg HV.out]
   exact ⟨Fx.nil, rfl, ⟨rfl, rfl, rfl⟩, Fx.nil_ok _, set3g bw (by omega)⟩
  ·have HVX : Hid (¬ x.v) := hvx
   have HV : Hid (¬ (x.v ∧ y.v)) := hv
   clear hvx hv
   go_enter Tryz.func115, Tryz.ntmps115
   go_wp2_with fail
   have b0 := (Below.refl w.heap.size w).alloc (Nat.le_refl _) (.cells x.cells 29)
   have bx := bk3_alloc w (.bool x.b) (.slice x.A x.xs.length x.c) (.slice x.D x.ys.length x.d)
   have okx := hx.below b0
   have oky := hy.below b0
   have sz0 := size_box w (.cells x.cells 29)
   have bw := b0
   clear b0
   generalize (w.alloc (.cells x.cells 29)) = wa at bx okx oky sz0 bw ⊢
   have b1 := (Below.refl wa.heap.size wa).alloc (Nat.le_refl _) (.cells y.cells 29)
   have by_ := bk3_alloc wa (.bool y.b) (.slice y.A y.xs.length y.c) (.slice y.D y.ys.length y.d)
   have sz1 := size_box wa (.cells y.cells 29)
   rw [sz0] at by_ sz1
   replace bx := bx.below b1
   replace okx := okx.below b1
   replace oky := oky.below b1
   replace bw := below_on bw b1 bw.size
   clear b1
   generalize (wa.alloc (.cells y.cells 29)) = wb at bx by_ okx oky bw sz1 ⊢
   have b2 := (Below.refl wb.heap.size wb).alloc (Nat.le_refl _) (.cells #[.bool false, .slice none 0 0, .slice none 0 0] 29)
   have bk := bk3_new wb
   rw [sz1] at bk
   replace bx := bx.below b2
   replace by_ := by_.below b2
   replace okx := okx.below b2
   replace oky := oky.below b2
   replace bw := below_on bw b2 bw.size
   clear b2 sz0 sz1
   generalize (wb.alloc (.cells #[.bool false, .slice none 0 0, .slice none 0 0] 29)) = w1 at bx by_ okx oky bw bk ⊢
   refine (fvalid_any w1 x false okx l1 l2 (decide_eq_false HVX.out)).mono ?_
   rintro e wn ⟨rfl, bb⟩
   try replace bx := bx.below bb
   try replace by_ := by_.below bb
   try replace bk := bk.below bb
   try replace okx := okx.below bb
   try replace oky := oky.below bb
   try replace ok1 := ok1.below bb
   try replace na := na.below bb
   try replace nb := nb.below bb
   try replace nc := nc.below bb
   try replace nd := nd.below bb
   try replace ne := ne.below bb
   replace bw := below_on bw bb bw.size
   clear bb
   have tk := bk
   obtain ⟨k0, k1, k2, kf0, kf1, kf2, klt, kb⟩ := tk
   clear kb
   go_wp2_with fail
   refine bodyPost_ret (v := .tuple #[(Fx.nil : Fx).val, .int .i64 1]) (by simp [results, Tryz.results115, go_sem, k0, k1, k2]) rfl ?_
   rw [← HS.out, quoF, if_neg HV.out]
   exact ⟨Fx.nil, rfl, ⟨rfl, rfl, rfl⟩, Fx.nil_ok _, set3g bw (by omega)⟩
end Go.Proofs.YtkpfbekmaafehaaGreat
