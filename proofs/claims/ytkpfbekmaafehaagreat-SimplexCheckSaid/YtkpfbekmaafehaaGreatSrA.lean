/- The walk of simplex.Check -/
import Derived.Test.YtkpfbekmaafehaaGreatSsK
import Derived.Test.YtkpfbekmaafehaaGreatSsM
import Derived.Test.YtkpfbekmaafehaaGreatSsJ
import Derived.Test.YtkpfbekmaafehaaGreatFsB
import Derived.Test.YtkpfbekmaafehaaGreatRfD
namespace Go.Proofs.YtkpfbekmaafehaaGreat
set_option maxRecDepth 100000
open Go.RowKit
set_option maxHeartbeats 4000000 in
theorem scheck_no (w : World) (p : Pg) (s : Sn) (h : p.ok w) (sm : p.sm) (hs : s.ok w) (ss : s.sm) (hno : ¬ (p.vd ∧ Md s.X.vs ∧ Md s.Y.vs ∧ Md s.R.vs ∧ Md [s.v])) :
 Calls Tryz.prog 17 #[p.val, s.val] w fun e w' => e = .returned (.bool false) ∧ Below w.heap.size w w' := by
 have HO := Lib.hid h
 have HSM := Lib.hid sm
 have HSO := Lib.hid hs
 have HSS := Lib.hid ss
 have HNO := Lib.hid hno
 clear h sm hs ss hno
 go_enter Tryz.func17, Tryz.ntmps17
 go_upto_region 1 with fail
 have pb := (pb_alloc w p 25).1
 have bw := (pb_alloc w p 25).2
 have hsz := pb_size w p 25
 generalize (w.alloc (.cells #[.slice p.cost.A p.cost.vs.length p.cost.c, .slice p.rA p.rows.length p.rc, .slice p.right.A p.right.vs.length p.right.c] 25)) = wm at pb bw hsz ⊢
 have sb := (sb_alloc wm s 31).1
 have bb := (sb_alloc wm s 31).2
 rw [hsz] at sb
 replace pb := pb.below bb
 replace bw := below_on bw bb bw.size
 clear bb hsz
 generalize (wm.alloc (.cells #[.int .i64 s.kind, .slice s.X.A s.X.vs.length s.X.c, .slice s.Y.A s.Y.vs.length s.Y.c, .slice s.R.A s.R.vs.length s.R.c, .bool s.v.b, .slice s.v.A s.v.xs.length s.v.c, .slice s.v.D s.v.ys.length s.v.d] 31)) = wb at *
 obtain ⟨g1, hg1⟩ : ∃ g, w.heap.size = g := ⟨_, rfl⟩
 obtain ⟨g2, hg2⟩ : ∃ g, w.heap.size + 1 = g := ⟨_, rfl⟩
 have pb1 : Pb wb g1 p := by rw [← hg1]; exact pb
 rw [hg2] at sb
 rw [hg2, hg1]
 clear hg1 hg2 pb
 have c0 := pb1.c0
 have c1 := pb1.c1
 have c2 := pb1.c2
 by_cases hv : p.vd
 ·have HVD := Lib.hid hv
  have HPB := Lib.hid pb1
  have HSB := Lib.hid sb
  have HBW := Lib.hid bw
  go_wp2_with fail
  refine (svalid_any wb p true (HO.out.below bw) HSM.out (Iff.intro (fun _ => HVD.out) (fun _ => rfl))).mono ?_
  rintro e wa ⟨rfl, bb⟩
  replace HPB := Lib.hid (HPB.out.below bb)
  replace HSB := Lib.hid (HSB.out.below bb)
  replace HBW := Lib.hid (below_on HBW.out bb HBW.out.size)
  clear bb c0 c1 c2 pb1 sb bw hv wb
  have s1 := HSB.out.c1
  go_wp2_with fail
  refine (sshort_gen wa s.X (HSO.out.X.below HBW.out) HSS.out.lX HSS.out.eX).mono ?_
  rintro e wb ⟨A1, l1, c1, b1, rfl, hx, bb⟩
  have HX := Lib.hid hx
  replace HPB := Lib.hid (HPB.out.below bb)
  replace HSB := Lib.hid (HSB.out.below bb)
  replace HBW := Lib.hid (below_on HBW.out bb HBW.out.size)
  clear bb s1 hx wa
  have s2 := HSB.out.c2
  go_wp2_with fail
  refine (sshort_gen wb s.Y (HSO.out.Y.below HBW.out) HSS.out.lY HSS.out.eY).mono ?_
  rintro e wa ⟨A2, l2, c2, b2, rfl, hx, bb⟩
  replace HX := Lib.hid (HX.out.below bb)
  have HY := Lib.hid hx
  replace HPB := Lib.hid (HPB.out.below bb)
  replace HSB := Lib.hid (HSB.out.below bb)
  replace HBW := Lib.hid (below_on HBW.out bb HBW.out.size)
  clear bb s2 hx wb
  have s3 := HSB.out.c3
  go_wp2_with fail
  refine (sshort_gen wa s.R (HSO.out.R.below HBW.out) HSS.out.lR HSS.out.eR).mono ?_
  rintro e wb ⟨A3, l3, c3, b3, rfl, hx, bb⟩
  replace HX := Lib.hid (HX.out.below bb)
  replace HY := Lib.hid (HY.out.below bb)
  have HR := Lib.hid hx
  replace HPB := Lib.hid (HPB.out.below bb)
  replace HSB := Lib.hid (HSB.out.below bb)
  replace HBW := Lib.hid (below_on HBW.out bb HBW.out.size)
  clear bb s3 hx wa
  have s4 := HSB.out.c4
  have s5 := HSB.out.c5
  have s6 := HSB.out.c6
  go_wp2_with fail
  have e6 : (⟨some ⟨wb.heap.size, 0, none⟩, 1, [s.v]⟩ : Sl).ok (wb.alloc (.cells s.v.cells 29)) := ⟨rdf_lit (HSO.out.v.below HBW.out), (fun v hv => by
   obtain rfl := List.mem_singleton.1 hv
   exact (HSO.out.v.below HBW.out).below ((Below.refl _ _).alloc (Nat.le_refl _) _)), Nat.le_refl _⟩
  have bb := (Below.refl wb.heap.size wb).alloc (Nat.le_refl _) (.cells s.v.cells 29)
  refine (sshort_gen _ _ e6 (by simp) (by intro v hv; obtain rfl := List.mem_singleton.1 hv; exact HSS.out.ev)).mono ?_
  rintro e wa ⟨A4, l4, c4, b4, rfl, hx, b5⟩
  replace bb := below_on bb b5 bb.size
  replace HX := Lib.hid (HX.out.below bb)
  replace HY := Lib.hid (HY.out.below bb)
  replace HR := Lib.hid (HR.out.below bb)
  have HV : Hid (Sho wa A4 l4 b4 [s.v]) := Lib.hid hx
  replace HPB := Lib.hid (HPB.out.below bb)
  replace HSB := Lib.hid (HSB.out.below bb)
  replace HBW := Lib.hid (below_on HBW.out bb HBW.out.size)
  clear bb s4 s5 s6 hx e6 b5
  generalize wb.heap.size = g40
  clear wb
  by_cases b1 = true
  case neg h0 =>
   obtain rfl : b1 = false := by simpa using h0
   go_wp2_with fail
   go_ret
   exact ⟨rfl, HBW.out⟩
  case pos h0 =>
   subst h0
   by_cases b2 = true
   case neg h0 =>
    obtain rfl : b2 = false := by simpa using h0
    go_wp2_with fail
    go_ret
    exact ⟨rfl, HBW.out⟩
   case pos h0 =>
    subst h0
    by_cases b3 = true
    case neg h0 =>
     obtain rfl : b3 = false := by simpa using h0
     go_wp2_with fail
     go_ret
     exact ⟨rfl, HBW.out⟩
    case pos h0 =>
     subst h0
     by_cases b4 = true
     case neg h0 =>
      obtain rfl : b4 = false := by simpa using h0
      go_wp2_with fail
      go_ret
      exact ⟨rfl, HBW.out⟩
     case pos h0 =>
      subst h0
      exact absurd ⟨HVD.out, (HX.out.t rfl).1, (HY.out.t rfl).1, (HR.out.t rfl).1, (HV.out.t rfl).1⟩ HNO.out
 ·have HBW := Lib.hid bw
  go_wp2_with fail
  refine (svalid_any wb p false (HO.out.below bw) HSM.out (Iff.intro (fun h => Bool.noConfusion h) (fun h => absurd h hv))).mono ?_
  rintro e w1 ⟨rfl, bb⟩
  clear c0 c1 c2 pb1 sb
  go_wp2_with fail
  go_ret
  exact ⟨rfl, below_on HBW.out bb HBW.out.size⟩
theorem scheck_any (w : World) (p : Pg) (s : Sn) (bo : Bool) (h : p.ok w) (sm : p.sm) (hs : s.ok w) (ss : s.sm) (hb : bo = true ↔ ChkS p s) :
 Calls Tryz.prog 17 #[p.val, s.val] w fun e w' => e = .returned (.bool bo) ∧ Below w.heap.size w w' := by
 by_cases h0 : p.vd ∧ Md s.X.vs ∧ Md s.Y.vs ∧ Md s.R.vs ∧ Md [s.v]
 ·obtain ⟨vd, mx, my, mr, mv⟩ := h0
  by_cases k : s.kind = 2 ∨ s.kind = 3
  ·exact scheck_23 w p s bo h sm hs ss hb vd mx my mr mv k
  ·exact scheck_10 w p s bo h sm hs ss hb vd mx my mr mv ⟨fun e => k (Or.inl e), fun e => k (Or.inr e)⟩
 ·have hbf : bo = false := by
   cases bo
   ·rfl
   ·have f := hb.1 rfl
    exact absurd ⟨f.vd, f.X, f.Y, f.R, f.V⟩ h0
  subst hbf
  exact scheck_no w p s h sm hs ss h0
set_option maxRecDepth 100000
open Go.RowKit
set_option maxHeartbeats 800000 in
theorem r5add_any (w : World) (x y : Fx) (p q : Rat) (h1 : Nm w x p) (h2 : Nm w y q) (hz : Sz (p + q) 128 128) :
 Calls Tryz.prog 87 #[x.val, y.val] w fun e w' => ∃ z : Fx, e = .returned z.val ∧ El w' z (p + q) ∧ Below w.heap.size w w' := by
 have hx := h1.ok
 have hy := h2.ok
 have H1 := Lib.hid h1
 have H2 := Lib.hid h2
 have HE : Hid (addF x y = okS (p + q)) := Lib.hid (addF_ok h1.v h2.v h1.q h2.q hz)
 clear h1 h2 hz
 go_enter Tryz.func87, Tryz.ntmps87
 go_wp2_with fail
 have b0 := (Below.refl w.heap.size w).alloc (Nat.le_refl _) (.cells x.cells 29)
 have bx := bk3_alloc w (.bool x.b) (.slice x.A x.xs.length x.c) (.slice x.D x.ys.length x.d)
 have okx := hx.below b0
 have oky := hy.below b0
 have sz0 := size_box w (.cells x.cells 29)
 have bw := b0
 clear b0
 generalize (w.alloc (.cells x.cells 29)) = wa at bx okx oky sz0 bw ⊢
 have b1 := (Below.refl wa.heap.size wa).alloc (Nat.le_refl _) (.cells y.cells 29)
 have by_ := bk3_alloc wa (.bool y.b) (.slice y.A y.xs.length y.c) (.slice y.D y.ys.length y.d)
 have sz1 := size_box wa (.cells y.cells 29)
 rw [sz0] at by_ sz1
 replace bx := bx.below b1
 replace okx := okx.below b1
 replace oky := oky.below b1
 replace bw := below_on bw b1 bw.size
 clear b1
 generalize (wa.alloc (.cells y.cells 29)) = wb at bx by_ okx oky bw sz1 ⊢
 have b2 := (Below.refl wb.heap.size wb).alloc (Nat.le_refl _) (.cells #[.bool false, .slice none 0 0, .slice none 0 0] 29)
 have bk := bk3_new wb
 rw [sz1] at bk
 replace bx := bx.below b2
 replace by_ := by_.below b2
 replace okx := okx.below b2
 replace oky := oky.below b2
 replace bw := below_on bw b2 bw.size
 clear b2 sz0 sz1
 generalize (wb.alloc (.cells #[.bool false, .slice none 0 0, .slice none 0 0] 29)) = w1 at bx by_ okx oky bw bk ⊢
 refine (rfadd_any w1 x y (okS (p + q)) okx oky H1.out.l H1.out.m H2.out.l H2.out.m HE.out).mono ?_
 rintro e wn ⟨x3, rfl, hs3, ok3, bb⟩
 have HS3 := Lib.hid hs3
 clear hs3
 try replace bx := bx.below bb
 try replace by_ := by_.below bb
 try replace bk := bk.below bb
 try replace okx := okx.below bb
 try replace oky := oky.below bb
 try replace ok3 := ok3.below bb
 try replace na := na.below bb
 try replace nb := nb.below bb
 try replace nc := nc.below bb
 try replace nd := nd.below bb
 try replace ne := ne.below bb
 replace bw := below_on bw bb bw.size
 clear bb
 go_upto_region 2 with fail
 have a3 := (fa_alloc ok3).1
 have bb := (fa_alloc ok3).2
 clear ok3
 generalize (wn.alloc (.cells #[.bool x3.b, .slice x3.A x3.xs.length x3.c, .slice x3.D x3.ys.length x3.d] 29)) = wm at a3 bb ⊢
 try replace bx := bx.below bb
 try replace by_ := by_.below bb
 try replace bk := bk.below bb
 try replace okx := okx.below bb
 try replace oky := oky.below bb
 try replace ok3 := ok3.below bb
 try replace na := na.below bb
 try replace nb := nb.below bb
 try replace nc := nc.below bb
 try replace nd := nd.below bb
 try replace ne := ne.below bb
 replace bw := below_on bw bb bw.size
 clear bb
 generalize wn.heap.size = g3 at a3 ⊢
 have ci0 := a3.c0
 have ci1 := a3.c1
 have ci2 := a3.c2
 have tk := bk
 obtain ⟨k0, k1, k2, kf0, kf1, kf2, klt, kb⟩ := tk
 clear kb
 go_wp2_with fail
 refine bodyPost_ret (v := x3.val) (by simp [results, Tryz.results87, go_sem, k0, k1, k2]) rfl ?_
 exact ⟨x3, rfl, ⟨set3_ok a3.ok bk rfl rfl rfl, Rp.of HS3.out⟩, set3g bw (by omega)⟩
set_option maxHeartbeats 800000 in
theorem r5mul_any (w : World) (x y : Fx) (p q : Rat) (h1 : Nm w x p) (h2 : Nm w y q) (hz : Sz (p * q) 128 128) :
 Calls Tryz.prog 88 #[x.val, y.val] w fun e w' => ∃ z : Fx, e = .returned z.val ∧ El w' z (p * q) ∧ Below w.heap.size w w' := by
 have hx := h1.ok
 have hy := h2.ok
 have H1 := Lib.hid h1
 have H2 := Lib.hid h2
 have HE : Hid (mulF x y = okS (p * q)) := Lib.hid (mulF_ok h1.v h2.v h1.q h2.q hz)
 clear h1 h2 hz
 go_enter Tryz.func88, Tryz.ntmps88
 go_wp2_with fail
 have b0 := (Below.refl w.heap.size w).alloc (Nat.le_refl _) (.cells x.cells 29)
 have bx := bk3_alloc w (.bool x.b) (.slice x.A x.xs.length x.c) (.slice x.D x.ys.length x.d)
 have okx := hx.below b0
 have oky := hy.below b0
 have sz0 := size_box w (.cells x.cells 29)
 have bw := b0
 clear b0
 generalize (w.alloc (.cells x.cells 29)) = wa at bx okx oky sz0 bw ⊢
 have b1 := (Below.refl wa.heap.size wa).alloc (Nat.le_refl _) (.cells y.cells 29)
 have by_ := bk3_alloc wa (.bool y.b) (.slice y.A y.xs.length y.c) (.slice y.D y.ys.length y.d)
 have sz1 := size_box wa (.cells y.cells 29)
 rw [sz0] at by_ sz1
 replace bx := bx.below b1
 replace okx := okx.below b1
 replace oky := oky.below b1
 replace bw := below_on bw b1 bw.size
 clear b1
 generalize (wa.alloc (.cells y.cells 29)) = wb at bx by_ okx oky bw sz1 ⊢
 have b2 := (Below.refl wb.heap.size wb).alloc (Nat.le_refl _) (.cells #[.bool false, .slice none 0 0, .slice none 0 0] 29)
 have bk := bk3_new wb
 rw [sz1] at bk
 replace bx := bx.below b2
 replace by_ := by_.below b2
 replace okx := okx.below b2
 replace oky := oky.below b2
 replace bw := below_on bw b2 bw.size
 clear b2 sz0 sz1
 generalize (wb.alloc (.cells #[.bool false, .slice none 0 0, .slice none 0 0] 29)) = w1 at bx by_ okx oky bw bk ⊢
 refine (rfmul_any w1 x y (okS (p * q)) okx oky H1.out.l H1.out.m H2.out.l H2.out.m HE.out).mono ?_
 rintro e wn ⟨x3, rfl, hs3, ok3, bb⟩
 have HS3 := Lib.hid hs3
 clear hs3
 try replace bx := bx.below bb
 try replace by_ := by_.below bb
 try replace bk := bk.below bb
 try replace okx := okx.below bb
 try replace oky := oky.below bb
 try replace ok3 := ok3.below bb
 try replace na := na.below bb
 try replace nb := nb.below bb
 try replace nc := nc.below bb
 try replace nd := nd.below bb
 try replace ne := ne.below bb
 replace bw := below_on bw bb bw.size
 clear bb
 go_upto_region 2 with fail
 have a3 := (fa_alloc ok3).1
 have bb := (fa_alloc ok3).2
 clear ok3
 generalize (wn.alloc (.cells #[.bool x3.b, .slice x3.A x3.xs.length x3.c, .slice x3.D x3.ys.length x3.d] 29)) = wm at a3 bb ⊢
 try replace bx := bx.below bb
 try replace by_ := by_.below bb
 try replace bk := bk.below bb
 try replace okx := okx.below bb
 try replace oky := oky.below bb
 try replace ok3 := ok3.below bb
 try replace na := na.below bb
 try replace nb := nb.below bb
 try replace nc := nc.below bb
 try replace nd := nd.below bb
 try replace ne := ne.below bb
 replace bw := below_on bw bb bw.size
 clear bb
 generalize wn.heap.size = g3 at a3 ⊢
 have ci0 := a3.c0
 have ci1 := a3.c1
 have ci2 := a3.c2
 have tk := bk
 obtain ⟨k0, k1, k2, kf0, kf1, kf2, klt, kb⟩ := tk
 clear kb
 go_wp2_with fail
 refine bodyPost_ret (v := x3.val) (by simp [results, Tryz.results88, go_sem, k0, k1, k2]) rfl ?_
 exact ⟨x3, rfl, ⟨set3_ok a3.ok bk rfl rfl rfl, Rp.of HS3.out⟩, set3g bw (by omega)⟩
theorem cmpQ_same (p q : Rat) : decide (cmpQ p q = 0) = decide (p = q) := by
 rcases cmpQ_cases p q with ⟨h, e⟩ | ⟨h, e⟩ | ⟨h, e⟩ <;> rw [e]
 ·rw [decide_eq_false (Rat.ne_of_lt h)]; rfl
 ·rw [decide_eq_true h]; rfl
 ·rw [decide_eq_false (Rat.ne_of_gt h)]; rfl
theorem cmpQ_less (p q : Rat) : decide (cmpQ p q < 0) = decide (p < q) := by
 rcases cmpQ_cases p q with ⟨h, e⟩ | ⟨h, e⟩ | ⟨h, e⟩ <;> rw [e]
 ·rw [decide_eq_true h]; rfl
 ·rw [h, decide_eq_false Rat.lt_irrefl]; rfl
 ·rw [decide_eq_false (Rat.not_lt.2 (Rat.le_of_lt h))]; rfl
set_option maxHeartbeats 800000 in
theorem r2less_any (w : World) (x1 x2 : Fx) (p q : Rat) (b : Bool) (h1 : Nm w x1 p) (h2 : Nm w x2 q) (hb : decide (p < q) = b) :
 Calls Tryz.prog 30 #[x1.val, x2.val] w fun e w' => e = .returned (.bool b) ∧ Below w.heap.size w w' := by
 obtain ⟨z, hz⟩ : ∃ z, cmpQ p q = z := ⟨_, rfl⟩
 rw [← cmpQ_less, hz] at hb
 have HB : Hid ((decide (z < 0)) = b) := Lib.hid (by first | exact hb | (rw [← hb]; exact Bool.beq_eq_decide_eq z 0))
 have HZ : Hid (cmpQ x1.q x2.q = z) := Lib.hid (by rw [h1.q, h2.q]; exact hz)
 have ok1 := h1.ok
 have ok2 := h2.ok
 have H1 := Lib.hid h1
 have H2 := Lib.hid h2
 clear hb hz h1 h2
 go_enter Tryz.func30, Tryz.ntmps30
 go_upto_region 1 with fail
 have bw := Below.refl w.heap.size w
 have a1 := (fa_alloc ok1).1
 have bb := (fa_alloc ok1).2
 have sz1 := size_box w (.cells x1.cells 29)
 clear ok1
 generalize (w.alloc (.cells x1.cells 29)) = wA at a1 bb sz1 ⊢
 try replace ok1 := ok1.below bb
 try replace ok2 := ok2.below bb
 try replace a1 := a1.below bb
 replace bw := below_on bw bb bw.size
 clear bb
 have a2 := (fa_alloc ok2).1
 have bb := (fa_alloc ok2).2
 have sz2 := size_box wA (.cells x2.cells 29)
 rw [sz1] at a2 sz2
 clear ok2 sz1
 generalize (wA.alloc (.cells x2.cells 29)) = wm at a2 bb sz2 ⊢
 try replace ok1 := ok1.below bb
 try replace ok2 := ok2.below bb
 try replace a1 := a1.below bb
 try replace a2 := a2.below bb
 replace bw := below_on bw bb bw.size
 clear bb
 clear sz2
 have ci0 := a1.c0
 have ci1 := a1.c1
 have ci2 := a1.c2
 have cj0 := a2.c0
 have cj1 := a2.c1
 have cj2 := a2.c2
 go_wp2_with fail
 clear ci0 ci1 ci2 cj0 cj1 cj2
 refine (rforder_any _ x1 x2 z a1.ok a2.ok H1.out.v H2.out.v H1.out.l H1.out.m H2.out.l H2.out.m HZ.out).mono ?_
 rintro e wn ⟨rfl, bb⟩
 try replace a1 := a1.below bb
 try replace a2 := a2.below bb
 replace bw := below_on bw bb bw.size
 clear bb
 go_wp2_with fail
 go_ret
 exact ⟨ret_bool HB.out, bw⟩
set_option maxHeartbeats 800000 in
theorem r2same_any (w : World) (x1 x2 : Fx) (p q : Rat) (b : Bool) (h1 : Nm w x1 p) (h2 : Nm w x2 q) (hb : decide (p = q) = b) :
 Calls Tryz.prog 24 #[x1.val, x2.val] w fun e w' => e = .returned (.bool b) ∧ Below w.heap.size w w' := by
 obtain ⟨z, hz⟩ : ∃ z, cmpQ p q = z := ⟨_, rfl⟩
 rw [← cmpQ_same, hz] at hb
 have HB : Hid ((z == 0) = b) := Lib.hid (by first | exact hb | (rw [← hb]; exact Bool.beq_eq_decide_eq z 0))
 have HZ : Hid (cmpQ x1.q x2.q = z) := Lib.hid (by rw [h1.q, h2.q]; exact hz)
 have ok1 := h1.ok
 have ok2 := h2.ok
 have H1 := Lib.hid h1
 have H2 := Lib.hid h2
 clear hb hz h1 h2
 go_enter Tryz.func24, Tryz.ntmps24
 go_upto_region 1 with fail
 have bw := Below.refl w.heap.size w
 have a1 := (fa_alloc ok1).1
 have bb := (fa_alloc ok1).2
 have sz1 := size_box w (.cells x1.cells 29)
 clear ok1
 generalize (w.alloc (.cells x1.cells 29)) = wA at a1 bb sz1 ⊢
 try replace ok1 := ok1.below bb
 try replace ok2 := ok2.below bb
 try replace a1 := a1.below bb
 replace bw := below_on bw bb bw.size
 clear bb
 have a2 := (fa_alloc ok2).1
 have bb := (fa_alloc ok2).2
 have sz2 := size_box wA (.cells x2.cells 29)
 rw [sz1] at a2 sz2
 clear ok2 sz1
 generalize (wA.alloc (.cells x2.cells 29)) = wm at a2 bb sz2 ⊢
 try replace ok1 := ok1.below bb
 try replace ok2 := ok2.below bb
 try replace a1 := a1.below bb
 try replace a2 := a2.below bb
 replace bw := below_on bw bb bw.size
 clear bb
 clear sz2
 have ci0 := a1.c0
 have ci1 := a1.c1
 have ci2 := a1.c2
 have cj0 := a2.c0
 have cj1 := a2.c1
 have cj2 := a2.c2
 go_wp2_with fail
 clear ci0 ci1 ci2 cj0 cj1 cj2
 refine (rforder_any _ x1 x2 z a1.ok a2.ok H1.out.v H2.out.v H1.out.l H1.out.m H2.out.l H2.out.m HZ.out).mono ?_
 rintro e wn ⟨rfl, bb⟩
 try replace a1 := a1.below bb
 try replace a2 := a2.below bb
 replace bw := below_on bw bb bw.size
 clear bb
 go_wp2_with fail
 go_ret
 exact ⟨ret_bool HB.out, bw⟩
theorem r2sign_any (w : World) (x : Fx) (q : Rat) (z : Int) (h : Nm w x q) (hs : cmpQ q 0 = z) : Calls Tryz.prog 49 #[x.val] w fun e w' => e = .returned (.int .i64 z) ∧ Below w.heap.size w w' :=
 rfsign_any w x z h.ok h.v h.l h.m (by rw [h.q]; exact hs)
theorem r2zero_any (w : World) : Calls Tryz.prog 26 #[.int .i64 0] w fun e w' => ∃ y : Fx, e = .returned y.val ∧ El w' y 0 ∧ Below w.heap.size w w' := by
 refine (rfint_zero w).mono ?_
 rintro e w' ⟨y, h1, h2, h3, h4⟩
 exact ⟨y, h1, ⟨h3, h2⟩, h4⟩
theorem r2int_any (w : World) (n : Int) (n0 : -9223372036854775808 ≤ n) (n1 : n ≤ 9223372036854775807) : Calls Tryz.prog 26 #[.int .i64 n] w fun e w' => ∃ y : Fx, e = .returned y.val ∧ El w' y (n : Rat) ∧ Below w.heap.size w w' := by
 refine (rfint_any w n n0 n1 (makeF_int n0 n1)).mono ?_
 rintro e w' ⟨y, h1, h2, h3, h4⟩
 have e1 : Rat.divInt n 1 = (n : Rat) := by rw [Rat.divInt_eq_div]; grind
 rw [e1] at h2
 exact ⟨y, h1, ⟨h3, Rp.of h2⟩, h4⟩
end Go.Proofs.YtkpfbekmaafehaaGreat
