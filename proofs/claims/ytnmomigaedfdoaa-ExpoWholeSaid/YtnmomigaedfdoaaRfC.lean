/- The walks of drydockref02: Mul, Quo. -/
import Derived.Test.YtnmomigaedfdoaaRfB
import Derived.Deep.RegionHeld3
namespace Go.Proofs.Ytnmomigaedfdoaa
set_option maxRecDepth 100000
open Go.RowKit

theorem low_fits {x : Fx} {b : Bool} {N D : Nat} (h : x.b = (lowS (qv b N D)).1 ∧ x.xs = (lowS (qv b N D)).2.1 ∧ x.ys = (lowS (qv b N D)).2.2) (hD : D ≠ 0) (lN : (lim N).length ≤ 512) (lD : (lim D).length ≤ 512) :
    fitS (x.b, x.xs, x.ys) = frS (qv b N D) ∧ x.xs.length ≤ 10000 ∧ x.ys.length ≤ 10000 := by
  obtain ⟨e1, e2, e3⟩ := h
  rw [e1, e2, e3]
  refine ⟨fitS_low _, ?_, ?_⟩
  · have := lim_length_mono (Nat.div_le_self N (Nat.gcd N D))
    rw [lowS, qv_abs hD]; show (lim _).length ≤ 10000; omega
  · have := lim_length_mono (Nat.div_le_self D (Nat.gcd N D))
    rw [lowS, qv_den hD]; show (lim _).length ≤ 10000; omega
set_option maxHeartbeats 800000 in
theorem rfmul_any (w : World) (x y : Fx) (S : Bool × List Nat × List Nat × Int) (hx : x.ok w) (hy : y.ok w) (l1 : x.xs.length ≤ 10000) (l2 : x.ys.length ≤ 10000) (m1 : y.xs.length ≤ 10000) (m2 : y.ys.length ≤ 10000) (hs : mulF x y = S) : Calls Try.prog 76 #[x.val, y.val] w (FracRes w S) := by
  have HS := Lib.hid hs
  clear hs
  by_cases hv : x.v ∧ y.v
  · skip
    have HV := Lib.hid hv
    have HVX := Lib.hid hv.1
    have HVY := Lib.hid hv.2
    have DX : Hid (nv x.ys ≠ 0) := Lib.hid hv.1.1
    have DY : Hid (nv y.ys ≠ 0) := Lib.hid hv.2.1
    have lx1 : (lim (nv x.xs)).length ≤ 128 := hv.1.2.2
    have lx2 : (lim (nv x.ys)).length ≤ 128 := hv.1.2.1
    have ly1 : (lim (nv y.xs)).length ≤ 128 := hv.2.2.2
    have ly2 : (lim (nv y.ys)).length ≤ 128 := hv.2.2.1
    clear hv
    go_enter Try.func76, Try.ntmps76
    go_wp2_with fail
    have b0 := (Below.refl w.heap.size w).alloc (Nat.le_refl _) (.cells x.cells 26)
    have bx := bk3_alloc w (.bool x.b) (.slice x.A x.xs.length x.c) (.slice x.D x.ys.length x.d)
    have okx := hx.below b0
    have oky := hy.below b0
    have sz0 := size_box w (.cells x.cells 26)
    have bw := b0
    clear b0
    generalize (w.alloc (.cells x.cells 26)) = wa at bx okx oky sz0 bw ⊢
    have b1 := (Below.refl wa.heap.size wa).alloc (Nat.le_refl _) (.cells y.cells 26)
    have by_ := bk3_alloc wa (.bool y.b) (.slice y.A y.xs.length y.c) (.slice y.D y.ys.length y.d)
    have sz1 := size_box wa (.cells y.cells 26)
    rw [sz0] at by_ sz1
    replace bx := bx.below b1
    replace okx := okx.below b1
    replace oky := oky.below b1
    replace bw := below_on bw b1 bw.size
    clear b1
    generalize (wa.alloc (.cells y.cells 26)) = wb at bx by_ okx oky bw sz1 ⊢
    have b2 := (Below.refl wb.heap.size wb).alloc (Nat.le_refl _) (.cells #[.bool false, .slice none 0 0, .slice none 0 0] 26)
    have bk := bk3_new wb
    rw [sz1] at bk
    replace bx := bx.below b2
    replace by_ := by_.below b2
    replace okx := okx.below b2
    replace oky := oky.below b2
    replace bw := below_on bw b2 bw.size
    clear b2 sz0 sz1
    generalize (wb.alloc (.cells #[.bool false, .slice none 0 0, .slice none 0 0] 26)) = w1 at bx by_ okx oky bw bk ⊢
    refine (rfvalid_any w1 x true okx l1 l2 (decide_eq_true HVX.out)).mono ?_
    rintro e wn ⟨rfl, bb⟩
    try replace bx := bx.below bb
    try replace by_ := by_.below bb
    try replace bk := bk.below bb
    try replace okx := okx.below bb
    try replace oky := oky.below bb
    try replace ok1 := ok1.below bb
    try replace na := na.below bb
    try replace nb := nb.below bb
    try replace nc := nc.below bb
    try replace nd := nd.below bb
    try replace ne := ne.below bb
    replace bw := below_on bw bb bw.size
    clear bb
    have ty := by_
    obtain ⟨y0, y1, y2, yf0, yf1, yf2, ylt, yb⟩ := ty
    clear yb
    go_wp2_with fail
    clear y0 y1 y2 yf0 yf1 yf2 ylt
    refine (rfvalid_any wn y true oky m1 m2 (decide_eq_true HVY.out)).mono ?_
    rintro e wn ⟨rfl, bb⟩
    try replace bx := bx.below bb
    try replace by_ := by_.below bb
    try replace bk := bk.below bb
    try replace okx := okx.below bb
    try replace oky := oky.below bb
    try replace ok1 := ok1.below bb
    try replace na := na.below bb
    try replace nb := nb.below bb
    try replace nc := nc.below bb
    try replace nd := nd.below bb
    try replace ne := ne.below bb
    replace bw := below_on bw bb bw.size
    clear bb
    have hnn : (lim (nv (lim (nv x.xs * nv y.xs)))).length ≤ 512 := by rw [nv_lim]; have := len_mulf lx1 ly1; omega
    have hdd : (lim (nv (lim (nv x.ys * nv y.ys)))).length ≤ 512 := by rw [nv_lim]; have := len_mulf lx2 ly2; omega
    have hn1 : (lim (nv x.xs * nv y.xs)).length ≤ 512 := by have := len_mulf lx1 ly1; omega
    have hn2 : (lim (nv x.ys * nv y.ys)).length ≤ 512 := by have := len_mulf lx2 ly2; omega
    have hne : nv (lim (nv x.ys * nv y.ys)) ≠ 0 := by rw [nv_lim]; exact Nat.mul_ne_zero DX.out DY.out
    have n20 : w.heap.size + 1 + 1 ≠ w.heap.size := by omega
    have n21 : w.heap.size + 1 + 1 ≠ w.heap.size + 1 := by omega
    have NN := Lib.hid hnn
    have DD := Lib.hid hdd
    have NE : Hid (nv (lim (nv x.ys * nv y.ys)) ≠ 0) := hne
    clear hnn hdd hne
    go_wp2_with fail
    have bb := below_drew (Below.refl wn.heap.size wn)
    try replace bx := bx.below bb
    try replace by_ := by_.below bb
    try replace bk := bk.below bb
    try replace okx := okx.below bb
    try replace oky := oky.below bb
    try replace ok1 := ok1.below bb
    try replace na := na.below bb
    try replace nb := nb.below bb
    try replace nc := nc.below bb
    try replace nd := nd.below bb
    try replace ne := ne.below bb
    replace bw := below_on bw bb bw.size
    clear bb
    go_region_held3 (fun w' => w'.cell? ⟨w.heap.size, 0, none⟩ = some (.bool x.b) ∧ w'.cell? ⟨w.heap.size, 1, none⟩ = some (.slice x.A x.xs.length x.c) ∧ w'.cell? ⟨w.heap.size, 2, none⟩ = some (.slice x.D x.ys.length x.d) ∧ w'.cell? ⟨w.heap.size + 1, 0, none⟩ = some (.bool y.b) ∧ w'.cell? ⟨w.heap.size + 1, 1, none⟩ = some (.slice y.A y.xs.length y.c) ∧ w'.cell? ⟨w.heap.size + 1, 2, none⟩ = some (.slice y.D y.ys.length y.d))
      (first | exact ⟨bx.c0, bx.c1, bx.c2, by_.c0, by_.c1, by_.c2⟩ | exact ⟨cell_set3 bx.c0 n20, cell_set3 bx.c1 n20, cell_set3 bx.c2 n20, cell_set3 by_.c0 n21, cell_set3 by_.c1 n21, cell_set3 by_.c2 n21⟩ | go_keep)
      (first
        | (go_at_call 41
           with_reducible refine (rftimes_ok _ x.A y.A x.c y.c _ _ x.xs y.xs okx.num oky.num rfl rfl l1 m1 lx1 ly1).mono ?_
           rintro e wn ⟨AN, cN, rfl, na, bb⟩
           try replace nb := nb.below bb
           replace bx := bx.below bb
           replace by_ := by_.below bb
           replace bk := bk.below bb
           replace okx := okx.below bb
           replace oky := oky.below bb
           replace bw := below_on bw bb bw.size
           clear bb)
        | (go_at_call 41
           with_reducible refine (rftimes_ok _ x.D y.D x.d y.d _ _ x.ys y.ys okx.den oky.den rfl rfl l2 m2 lx2 ly2).mono ?_
           rintro e wn ⟨AD, cD, rfl, nb, bb⟩
           try replace na := na.below bb
           replace bx := bx.below bb
           replace by_ := by_.below bb
           replace bk := bk.below bb
           replace okx := okx.below bb
           replace oky := oky.below bb
           replace bw := below_on bw bb bw.size
           clear bb)
        | (go_at_call 44
           with_reducible refine (rflowest_any _ (!(x.b == y.b)) AN AD cN cD _ _ (lim (nv x.xs * nv y.xs)) (lim (nv x.ys * nv y.ys)) na nb rfl rfl NE.out (by omega) (by omega) NN.out DD.out).mono ?_
           rintro e wn ⟨x0, rfl, hs0, ok0, bb⟩
           have HF0 := Lib.hid (low_fits hs0 NE.out NN.out DD.out)
           replace bx := bx.below bb
           replace by_ := by_.below bb
           replace bk := bk.below bb
           replace bw := below_on bw bb bw.size
           clear bb hs0)
        | (go_at_call 43
           with_reducible refine (rffits_any _ x0 _ ok0 HF0.out.2.1 HF0.out.2.2 HF0.out.1).mono ?_
           rintro e wn ⟨x1, rfl, hs1, ok1, bb⟩
           have HS1 := Lib.hid hs1
           replace bx := bx.below bb
           replace by_ := by_.below bb
           replace bk := bk.below bb
           replace bw := below_on bw bb bw.size
           have kk := bk
           obtain ⟨k0, k1, k2, kf0, kf1, kf2, klt, _⟩ := kk
           clear bb hs1))
    all_goals
      skip
      go_wp2_with fail
      refine bodyPost_ret (v := .tuple #[(x1 : Fx).val, .int .i64 (frS (qv (!(x.b == y.b)) (nv (lim (nv x.xs * nv y.xs))) (nv (lim (nv x.ys * nv y.ys))))).2.2.2]) (by simp [results, Try.results76, go_sem, k0, k1, k2]) rfl ?_
      have hS : S = frS (qv (!(x.b == y.b)) (nv (lim (nv x.xs * nv y.xs))) (nv (lim (nv x.ys * nv y.ys)))) := by
        rw [← HS.out, mulF, if_pos HV.out, nv_lim, nv_lim, Fx.q, Fx.q, qv_mul]; rfl
      rw [hS]
      exact ⟨x1, rfl, HS1.out, set3_ok ok1 bk rfl rfl rfl, set3g bw (by omega)⟩
  · skip
    by_cases hvx : x.v
    · have hvy : ¬ y.v := fun h => hv ⟨hvx, h⟩
      have HVX := Lib.hid hvx
      have HVY : Hid (¬ y.v) := hvy
      have HV : Hid (¬ (x.v ∧ y.v)) := hv
      clear hvx hvy hv
      go_enter Try.func76, Try.ntmps76
      go_wp2_with fail
      have b0 := (Below.refl w.heap.size w).alloc (Nat.le_refl _) (.cells x.cells 26)
      have bx := bk3_alloc w (.bool x.b) (.slice x.A x.xs.length x.c) (.slice x.D x.ys.length x.d)
      have okx := hx.below b0
      have oky := hy.below b0
      have sz0 := size_box w (.cells x.cells 26)
      have bw := b0
      clear b0
      generalize (w.alloc (.cells x.cells 26)) = wa at bx okx oky sz0 bw ⊢
      have b1 := (Below.refl wa.heap.size wa).alloc (Nat.le_refl _) (.cells y.cells 26)
      have by_ := bk3_alloc wa (.bool y.b) (.slice y.A y.xs.length y.c) (.slice y.D y.ys.length y.d)
      have sz1 := size_box wa (.cells y.cells 26)
      rw [sz0] at by_ sz1
      replace bx := bx.below b1
      replace okx := okx.below b1
      replace oky := oky.below b1
      replace bw := below_on bw b1 bw.size
      clear b1
      generalize (wa.alloc (.cells y.cells 26)) = wb at bx by_ okx oky bw sz1 ⊢
      have b2 := (Below.refl wb.heap.size wb).alloc (Nat.le_refl _) (.cells #[.bool false, .slice none 0 0, .slice none 0 0] 26)
      have bk := bk3_new wb
      rw [sz1] at bk
      replace bx := bx.below b2
      replace by_ := by_.below b2
      replace okx := okx.below b2
      replace oky := oky.below b2
      replace bw := below_on bw b2 bw.size
      clear b2 sz0 sz1
      generalize (wb.alloc (.cells #[.bool false, .slice none 0 0, .slice none 0 0] 26)) = w1 at bx by_ okx oky bw bk ⊢
      refine (rfvalid_any w1 x true okx l1 l2 (decide_eq_true HVX.out)).mono ?_
      rintro e wn ⟨rfl, bb⟩
      try replace bx := bx.below bb
      try replace by_ := by_.below bb
      try replace bk := bk.below bb
      try replace okx := okx.below bb
      try replace oky := oky.below bb
      try replace ok1 := ok1.below bb
      try replace na := na.below bb
      try replace nb := nb.below bb
      try replace nc := nc.below bb
      try replace nd := nd.below bb
      try replace ne := ne.below bb
      replace bw := below_on bw bb bw.size
      clear bb
      have ty := by_
      obtain ⟨y0, y1, y2, yf0, yf1, yf2, ylt, yb⟩ := ty
      clear yb
      go_wp2_with fail
      clear y0 y1 y2 yf0 yf1 yf2 ylt
      refine (rfvalid_any wn y false oky m1 m2 (decide_eq_false HVY.out)).mono ?_
      rintro e wn ⟨rfl, bb⟩
      try replace bx := bx.below bb
      try replace by_ := by_.below bb
      try replace bk := bk.below bb
      try replace okx := okx.below bb
      try replace oky := oky.below bb
      try replace ok1 := ok1.below bb
      try replace na := na.below bb
      try replace nb := nb.below bb
      try replace nc := nc.below bb
      try replace nd := nd.below bb
      try replace ne := ne.below bb
      replace bw := below_on bw bb bw.size
      clear bb
      have tk := bk
      obtain ⟨k0, k1, k2, kf0, kf1, kf2, klt, kb⟩ := tk
      clear kb
      go_wp2_with fail
      refine bodyPost_ret (v := .tuple #[(Fx.nil : Fx).val, .int .i64 1]) (by simp [results, Try.results76, go_sem, k0, k1, k2]) rfl ?_
      rw [← HS.out, mulF, if_neg HV.out]
      exact ⟨Fx.nil, rfl, ⟨rfl, rfl, rfl⟩, Fx.nil_ok _, set3g bw (by omega)⟩
    · have HVX : Hid (¬ x.v) := hvx
      have HV : Hid (¬ (x.v ∧ y.v)) := hv
      clear hvx hv
      go_enter Try.func76, Try.ntmps76
      go_wp2_with fail
      have b0 := (Below.refl w.heap.size w).alloc (Nat.le_refl _) (.cells x.cells 26)
      have bx := bk3_alloc w (.bool x.b) (.slice x.A x.xs.length x.c) (.slice x.D x.ys.length x.d)
      have okx := hx.below b0
      have oky := hy.below b0
      have sz0 := size_box w (.cells x.cells 26)
      have bw := b0
      clear b0
      generalize (w.alloc (.cells x.cells 26)) = wa at bx okx oky sz0 bw ⊢
      have b1 := (Below.refl wa.heap.size wa).alloc (Nat.le_refl _) (.cells y.cells 26)
      have by_ := bk3_alloc wa (.bool y.b) (.slice y.A y.xs.length y.c) (.slice y.D y.ys.length y.d)
      have sz1 := size_box wa (.cells y.cells 26)
      rw [sz0] at by_ sz1
      replace bx := bx.below b1
      replace okx := okx.below b1
      replace oky := oky.below b1
      replace bw := below_on bw b1 bw.size
      clear b1
      generalize (wa.alloc (.cells y.cells 26)) = wb at bx by_ okx oky bw sz1 ⊢
      have b2 := (Below.refl wb.heap.size wb).alloc (Nat.le_refl _) (.cells #[.bool false, .slice none 0 0, .slice none 0 0] 26)
      have bk := bk3_new wb
      rw [sz1] at bk
      replace bx := bx.below b2
      replace by_ := by_.below b2
      replace okx := okx.below b2
      replace oky := oky.below b2
      replace bw := below_on bw b2 bw.size
      clear b2 sz0 sz1
      generalize (wb.alloc (.cells #[.bool false, .slice none 0 0, .slice none 0 0] 26)) = w1 at bx by_ okx oky bw bk ⊢
      refine (rfvalid_any w1 x false okx l1 l2 (decide_eq_false HVX.out)).mono ?_
      rintro e wn ⟨rfl, bb⟩
      try replace bx := bx.below bb
      try replace by_ := by_.below bb
      try replace bk := bk.below bb
      try replace okx := okx.below bb
      try replace oky := oky.below bb
      try replace ok1 := ok1.below bb
      try replace na := na.below bb
      try replace nb := nb.below bb
      try replace nc := nc.below bb
      try replace nd := nd.below bb
      try replace ne := ne.below bb
      replace bw := below_on bw bb bw.size
      clear bb
      have tk := bk
      obtain ⟨k0, k1, k2, kf0, kf1, kf2, klt, kb⟩ := tk
      clear kb
      go_wp2_with fail
      refine bodyPost_ret (v := .tuple #[(Fx.nil : Fx).val, .int .i64 1]) (by simp [results, Try.results76, go_sem, k0, k1, k2]) rfl ?_
      rw [← HS.out, mulF, if_neg HV.out]
      exact ⟨Fx.nil, rfl, ⟨rfl, rfl, rfl⟩, Fx.nil_ok _, set3g bw (by omega)⟩
set_option maxHeartbeats 800000 in
theorem rfquo_any (w : World) (x y : Fx) (S : Bool × List Nat × List Nat × Int) (hx : x.ok w) (hy : y.ok w) (l1 : x.xs.length ≤ 10000) (l2 : x.ys.length ≤ 10000) (m1 : y.xs.length ≤ 10000) (m2 : y.ys.length ≤ 10000) (hs : quoF x y = S) : Calls Try.prog 22 #[x.val, y.val] w (FracRes w S) := by
  have HS := Lib.hid hs
  clear hs
  by_cases hv : x.v ∧ y.v
  · by_cases hz : nv y.xs = 0
    · have HZ := Lib.hid hz
      have hzl : (lim (nv y.xs)).length = 0 := by rw [hz, lim_zero]; rfl
      clear hz
      skip
      have HV := Lib.hid hv
      have HVX := Lib.hid hv.1
      have HVY := Lib.hid hv.2
      have DX : Hid (nv x.ys ≠ 0) := Lib.hid hv.1.1
      have DY : Hid (nv y.ys ≠ 0) := Lib.hid hv.2.1
      have lx1 : (lim (nv x.xs)).length ≤ 128 := hv.1.2.2
      have lx2 : (lim (nv x.ys)).length ≤ 128 := hv.1.2.1
      have ly1 : (lim (nv y.xs)).length ≤ 128 := hv.2.2.2
      have ly2 : (lim (nv y.ys)).length ≤ 128 := hv.2.2.1
      clear hv
      go_enter Try.func22, Try.ntmps22
      go_wp2_with fail
      have b0 := (Below.refl w.heap.size w).alloc (Nat.le_refl _) (.cells x.cells 26)
      have bx := bk3_alloc w (.bool x.b) (.slice x.A x.xs.length x.c) (.slice x.D x.ys.length x.d)
      have okx := hx.below b0
      have oky := hy.below b0
      have sz0 := size_box w (.cells x.cells 26)
      have bw := b0
      clear b0
      generalize (w.alloc (.cells x.cells 26)) = wa at bx okx oky sz0 bw ⊢
      have b1 := (Below.refl wa.heap.size wa).alloc (Nat.le_refl _) (.cells y.cells 26)
      have by_ := bk3_alloc wa (.bool y.b) (.slice y.A y.xs.length y.c) (.slice y.D y.ys.length y.d)
      have sz1 := size_box wa (.cells y.cells 26)
      rw [sz0] at by_ sz1
      replace bx := bx.below b1
      replace okx := okx.below b1
      replace oky := oky.below b1
      replace bw := below_on bw b1 bw.size
      clear b1
      generalize (wa.alloc (.cells y.cells 26)) = wb at bx by_ okx oky bw sz1 ⊢
      have b2 := (Below.refl wb.heap.size wb).alloc (Nat.le_refl _) (.cells #[.bool false, .slice none 0 0, .slice none 0 0] 26)
      have bk := bk3_new wb
      rw [sz1] at bk
      replace bx := bx.below b2
      replace by_ := by_.below b2
      replace okx := okx.below b2
      replace oky := oky.below b2
      replace bw := below_on bw b2 bw.size
      clear b2 sz0 sz1
      generalize (wb.alloc (.cells #[.bool false, .slice none 0 0, .slice none 0 0] 26)) = w1 at bx by_ okx oky bw bk ⊢
      refine (rfvalid_any w1 x true okx l1 l2 (decide_eq_true HVX.out)).mono ?_
      rintro e wn ⟨rfl, bb⟩
      try replace bx := bx.below bb
      try replace by_ := by_.below bb
      try replace bk := bk.below bb
      try replace okx := okx.below bb
      try replace oky := oky.below bb
      try replace ok1 := ok1.below bb
      try replace na := na.below bb
      try replace nb := nb.below bb
      try replace nc := nc.below bb
      try replace nd := nd.below bb
      try replace ne := ne.below bb
      replace bw := below_on bw bb bw.size
      clear bb
      have ty := by_
      obtain ⟨y0, y1, y2, yf0, yf1, yf2, ylt, yb⟩ := ty
      clear yb
      go_wp2_with fail
      clear y0 y1 y2 yf0 yf1 yf2 ylt
      refine (rfvalid_any wn y true oky m1 m2 (decide_eq_true HVY.out)).mono ?_
      rintro e wn ⟨rfl, bb⟩
      try replace bx := bx.below bb
      try replace by_ := by_.below bb
      try replace bk := bk.below bb
      try replace okx := okx.below bb
      try replace oky := oky.below bb
      try replace ok1 := ok1.below bb
      try replace na := na.below bb
      try replace nb := nb.below bb
      try replace nc := nc.below bb
      try replace nd := nd.below bb
      try replace ne := ne.below bb
      replace bw := below_on bw bb bw.size
      clear bb
      have ty := by_
      obtain ⟨y0, y1, y2, yf0, yf1, yf2, ylt, yb⟩ := ty
      clear yb
      go_wp2_with fail
      clear y0 y1 y2 yf0 yf1 yf2 ylt
      refine (rtrim_any wn y.A y.c _ y.xs oky.num rfl (by omega)).mono ?_
      rintro e wn ⟨AT, cT, rfl, gn, bb⟩
      clear gn
      try replace bx := bx.below bb
      try replace by_ := by_.below bb
      try replace bk := bk.below bb
      try replace okx := okx.below bb
      try replace oky := oky.below bb
      try replace ok1 := ok1.below bb
      try replace na := na.below bb
      try replace nb := nb.below bb
      try replace nc := nc.below bb
      try replace nd := nd.below bb
      try replace ne := ne.below bb
      replace bw := below_on bw bb bw.size
      clear bb
      have tk := bk
      obtain ⟨k0, k1, k2, kf0, kf1, kf2, klt, kb⟩ := tk
      clear kb
      go_wp2_with fail
      refine bodyPost_ret (v := .tuple #[(Fx.nil : Fx).val, .int .i64 3]) (by simp [results, Try.results22, go_sem, k0, k1, k2]) rfl ?_
      rw [← HS.out, quoF, if_pos HV.out, if_pos HZ.out]
      exact ⟨Fx.nil, rfl, ⟨rfl, rfl, rfl⟩, Fx.nil_ok _, set3g bw (by omega)⟩
    · have HZ : Hid (¬ nv y.xs = 0) := hz
      have hzl : (lim (nv y.xs)).length ≠ 0 := fun h => hz (lim_eq_nil.1 (List.length_eq_zero_iff.1 h))
      have hzb : (((lim (nv y.xs)).length : Int) == 0) = false := beq_eq_false_iff_ne.2 (by omega)
      clear hz
      skip
      have HV := Lib.hid hv
      have HVX := Lib.hid hv.1
      have HVY := Lib.hid hv.2
      have DX : Hid (nv x.ys ≠ 0) := Lib.hid hv.1.1
      have DY : Hid (nv y.ys ≠ 0) := Lib.hid hv.2.1
      have lx1 : (lim (nv x.xs)).length ≤ 128 := hv.1.2.2
      have lx2 : (lim (nv x.ys)).length ≤ 128 := hv.1.2.1
      have ly1 : (lim (nv y.xs)).length ≤ 128 := hv.2.2.2
      have ly2 : (lim (nv y.ys)).length ≤ 128 := hv.2.2.1
      clear hv
      go_enter Try.func22, Try.ntmps22
      go_wp2_with fail
      have b0 := (Below.refl w.heap.size w).alloc (Nat.le_refl _) (.cells x.cells 26)
      have bx := bk3_alloc w (.bool x.b) (.slice x.A x.xs.length x.c) (.slice x.D x.ys.length x.d)
      have okx := hx.below b0
      have oky := hy.below b0
      have sz0 := size_box w (.cells x.cells 26)
      have bw := b0
      clear b0
      generalize (w.alloc (.cells x.cells 26)) = wa at bx okx oky sz0 bw ⊢
      have b1 := (Below.refl wa.heap.size wa).alloc (Nat.le_refl _) (.cells y.cells 26)
      have by_ := bk3_alloc wa (.bool y.b) (.slice y.A y.xs.length y.c) (.slice y.D y.ys.length y.d)
      have sz1 := size_box wa (.cells y.cells 26)
      rw [sz0] at by_ sz1
      replace bx := bx.below b1
      replace okx := okx.below b1
      replace oky := oky.below b1
      replace bw := below_on bw b1 bw.size
      clear b1
      generalize (wa.alloc (.cells y.cells 26)) = wb at bx by_ okx oky bw sz1 ⊢
      have b2 := (Below.refl wb.heap.size wb).alloc (Nat.le_refl _) (.cells #[.bool false, .slice none 0 0, .slice none 0 0] 26)
      have bk := bk3_new wb
      rw [sz1] at bk
      replace bx := bx.below b2
      replace by_ := by_.below b2
      replace okx := okx.below b2
      replace oky := oky.below b2
      replace bw := below_on bw b2 bw.size
      clear b2 sz0 sz1
      generalize (wb.alloc (.cells #[.bool false, .slice none 0 0, .slice none 0 0] 26)) = w1 at bx by_ okx oky bw bk ⊢
      refine (rfvalid_any w1 x true okx l1 l2 (decide_eq_true HVX.out)).mono ?_
      rintro e wn ⟨rfl, bb⟩
      try replace bx := bx.below bb
      try replace by_ := by_.below bb
      try replace bk := bk.below bb
      try replace okx := okx.below bb
      try replace oky := oky.below bb
      try replace ok1 := ok1.below bb
      try replace na := na.below bb
      try replace nb := nb.below bb
      try replace nc := nc.below bb
      try replace nd := nd.below bb
      try replace ne := ne.below bb
      replace bw := below_on bw bb bw.size
      clear bb
      have ty := by_
      obtain ⟨y0, y1, y2, yf0, yf1, yf2, ylt, yb⟩ := ty
      clear yb
      go_wp2_with fail
      clear y0 y1 y2 yf0 yf1 yf2 ylt
      refine (rfvalid_any wn y true oky m1 m2 (decide_eq_true HVY.out)).mono ?_
      rintro e wn ⟨rfl, bb⟩
      try replace bx := bx.below bb
      try replace by_ := by_.below bb
      try replace bk := bk.below bb
      try replace okx := okx.below bb
      try replace oky := oky.below bb
      try replace ok1 := ok1.below bb
      try replace na := na.below bb
      try replace nb := nb.below bb
      try replace nc := nc.below bb
      try replace nd := nd.below bb
      try replace ne := ne.below bb
      replace bw := below_on bw bb bw.size
      clear bb
      have ty := by_
      obtain ⟨y0, y1, y2, yf0, yf1, yf2, ylt, yb⟩ := ty
      clear yb
      go_wp2_with fail
      clear y0 y1 y2 yf0 yf1 yf2 ylt
      refine (rtrim_any wn y.A y.c _ y.xs oky.num rfl (by omega)).mono ?_
      rintro e wn ⟨AT, cT, rfl, gn, bb⟩
      clear gn
      try replace bx := bx.below bb
      try replace by_ := by_.below bb
      try replace bk := bk.below bb
      try replace okx := okx.below bb
      try replace oky := oky.below bb
      try replace ok1 := ok1.below bb
      try replace na := na.below bb
      try replace nb := nb.below bb
      try replace nc := nc.below bb
      try replace nd := nd.below bb
      try replace ne := ne.below bb
      replace bw := below_on bw bb bw.size
      clear bb
      have hnn : (lim (nv (lim (nv x.xs * nv y.ys)))).length ≤ 512 := by rw [nv_lim]; have := len_mulf lx1 ly2; omega
      have hdd : (lim (nv (lim (nv x.ys * nv y.xs)))).length ≤ 512 := by rw [nv_lim]; have := len_mulf lx2 ly1; omega
      have hn1 : (lim (nv x.xs * nv y.ys)).length ≤ 512 := by have := len_mulf lx1 ly2; omega
      have hn2 : (lim (nv x.ys * nv y.xs)).length ≤ 512 := by have := len_mulf lx2 ly1; omega
      have hne : nv (lim (nv x.ys * nv y.xs)) ≠ 0 := by rw [nv_lim]; exact Nat.mul_ne_zero DX.out HZ.out
      have n20 : w.heap.size + 1 + 1 ≠ w.heap.size := by omega
      have n21 : w.heap.size + 1 + 1 ≠ w.heap.size + 1 := by omega
      have NN := Lib.hid hnn
      have DD := Lib.hid hdd
      have NE : Hid (nv (lim (nv x.ys * nv y.xs)) ≠ 0) := hne
      clear hnn hdd hne
      go_wp2_with fail
      have bb := below_drew (Below.refl wn.heap.size wn)
      try replace bx := bx.below bb
      try replace by_ := by_.below bb
      try replace bk := bk.below bb
      try replace okx := okx.below bb
      try replace oky := oky.below bb
      try replace ok1 := ok1.below bb
      try replace na := na.below bb
      try replace nb := nb.below bb
      try replace nc := nc.below bb
      try replace nd := nd.below bb
      try replace ne := ne.below bb
      replace bw := below_on bw bb bw.size
      clear bb
      clear hzl hzb
      go_region_held3 (fun w' => w'.cell? ⟨w.heap.size, 0, none⟩ = some (.bool x.b) ∧ w'.cell? ⟨w.heap.size, 1, none⟩ = some (.slice x.A x.xs.length x.c) ∧ w'.cell? ⟨w.heap.size, 2, none⟩ = some (.slice x.D x.ys.length x.d) ∧ w'.cell? ⟨w.heap.size + 1, 0, none⟩ = some (.bool y.b) ∧ w'.cell? ⟨w.heap.size + 1, 1, none⟩ = some (.slice y.A y.xs.length y.c) ∧ w'.cell? ⟨w.heap.size + 1, 2, none⟩ = some (.slice y.D y.ys.length y.d))
        (first | exact ⟨bx.c0, bx.c1, bx.c2, by_.c0, by_.c1, by_.c2⟩ | exact ⟨cell_set3 bx.c0 n20, cell_set3 bx.c1 n20, cell_set3 bx.c2 n20, cell_set3 by_.c0 n21, cell_set3 by_.c1 n21, cell_set3 by_.c2 n21⟩ | go_keep)
        (first
          | (go_at_call 41
             with_reducible refine (rftimes_ok _ x.A y.D x.c y.d _ _ x.xs y.ys okx.num oky.den rfl rfl l1 m2 lx1 ly2).mono ?_
             rintro e wn ⟨AN, cN, rfl, na, bb⟩
             try replace nb := nb.below bb
             replace bx := bx.below bb
             replace by_ := by_.below bb
             replace bk := bk.below bb
             replace okx := okx.below bb
             replace oky := oky.below bb
             replace bw := below_on bw bb bw.size
             clear bb)
          | (go_at_call 41
             with_reducible refine (rftimes_ok _ x.D y.A x.d y.c _ _ x.ys y.xs okx.den oky.num rfl rfl l2 m1 lx2 ly1).mono ?_
             rintro e wn ⟨AD, cD, rfl, nb, bb⟩
             try replace na := na.below bb
             replace bx := bx.below bb
             replace by_ := by_.below bb
             replace bk := bk.below bb
             replace okx := okx.below bb
             replace oky := oky.below bb
             replace bw := below_on bw bb bw.size
             clear bb)
          | (go_at_call 44
             with_reducible refine (rflowest_any _ (!(x.b == y.b)) AN AD cN cD _ _ (lim (nv x.xs * nv y.ys)) (lim (nv x.ys * nv y.xs)) na nb rfl rfl NE.out (by omega) (by omega) NN.out DD.out).mono ?_
             rintro e wn ⟨x0, rfl, hs0, ok0, bb⟩
             have HF0 := Lib.hid (low_fits hs0 NE.out NN.out DD.out)
             replace bx := bx.below bb
             replace by_ := by_.below bb
             replace bk := bk.below bb
             replace bw := below_on bw bb bw.size
             clear bb hs0)
          | (go_at_call 43
             with_reducible refine (rffits_any _ x0 _ ok0 HF0.out.2.1 HF0.out.2.2 HF0.out.1).mono ?_
             rintro e wn ⟨x1, rfl, hs1, ok1, bb⟩
             have HS1 := Lib.hid hs1
             replace bx := bx.below bb
             replace by_ := by_.below bb
             replace bk := bk.below bb
             replace bw := below_on bw bb bw.size
             have kk := bk
             obtain ⟨k0, k1, k2, kf0, kf1, kf2, klt, _⟩ := kk
             clear bb hs1))
      all_goals
        skip
        go_wp2_with fail
        refine bodyPost_ret (v := .tuple #[(x1 : Fx).val, .int .i64 (frS (qv (!(x.b == y.b)) (nv (lim (nv x.xs * nv y.ys))) (nv (lim (nv x.ys * nv y.xs))))).2.2.2]) (by simp [results, Try.results22, go_sem, k0, k1, k2]) rfl ?_
        have hS : S = frS (qv (!(x.b == y.b)) (nv (lim (nv x.xs * nv y.ys))) (nv (lim (nv x.ys * nv y.xs)))) := by
          rw [← HS.out, quoF, if_pos HV.out, if_neg HZ.out, nv_lim, nv_lim, Fx.q, Fx.q, qv_quo HZ.out]; rfl
        rw [hS]
        exact ⟨x1, rfl, HS1.out, set3_ok ok1 bk rfl rfl rfl, set3g bw (by omega)⟩
  · skip
    by_cases hvx : x.v
    · have hvy : ¬ y.v := fun h => hv ⟨hvx, h⟩
      have HVX := Lib.hid hvx
      have HVY : Hid (¬ y.v) := hvy
      have HV : Hid (¬ (x.v ∧ y.v)) := hv
      clear hvx hvy hv
      go_enter Try.func22, Try.ntmps22
      go_wp2_with fail
      have b0 := (Below.refl w.heap.size w).alloc (Nat.le_refl _) (.cells x.cells 26)
      have bx := bk3_alloc w (.bool x.b) (.slice x.A x.xs.length x.c) (.slice x.D x.ys.length x.d)
      have okx := hx.below b0
      have oky := hy.below b0
      have sz0 := size_box w (.cells x.cells 26)
      have bw := b0
      clear b0
      generalize (w.alloc (.cells x.cells 26)) = wa at bx okx oky sz0 bw ⊢
      have b1 := (Below.refl wa.heap.size wa).alloc (Nat.le_refl _) (.cells y.cells 26)
      have by_ := bk3_alloc wa (.bool y.b) (.slice y.A y.xs.length y.c) (.slice y.D y.ys.length y.d)
      have sz1 := size_box wa (.cells y.cells 26)
      rw [sz0] at by_ sz1
      replace bx := bx.below b1
      replace okx := okx.below b1
      replace oky := oky.below b1
      replace bw := below_on bw b1 bw.size
      clear b1
      generalize (wa.alloc (.cells y.cells 26)) = wb at bx by_ okx oky bw sz1 ⊢
      have b2 := (Below.refl wb.heap.size wb).alloc (Nat.le_refl _) (.cells #[.bool false, .slice none 0 0, .slice none 0 0] 26)
      have bk := bk3_new wb
      rw [sz1] at bk
      replace bx := bx.below b2
      replace by_ := by_.below b2
      replace okx := okx.below b2
      replace oky := oky.below b2
      replace bw := below_on bw b2 bw.size
      clear b2 sz0 sz1
      generalize (wb.alloc (.cells #[.bool false, .slice none 0 0, .slice none 0 0] 26)) = w1 at bx by_ okx oky bw bk ⊢
      refine (rfvalid_any w1 x true okx l1 l2 (decide_eq_true HVX.out)).mono ?_
      rintro e wn ⟨rfl, bb⟩
      try replace bx := bx.below bb
      try replace by_ := by_.below bb
      try replace bk := bk.below bb
      try replace okx := okx.below bb
      try replace oky := oky.below bb
      try replace ok1 := ok1.below bb
      try replace na := na.below bb
      try replace nb := nb.below bb
      try replace nc := nc.below bb
      try replace nd := nd.below bb
      try replace ne := ne.below bb
      replace bw := below_on bw bb bw.size
      clear bb
      have ty := by_
      obtain ⟨y0, y1, y2, yf0, yf1, yf2, ylt, yb⟩ := ty
      clear yb
      go_wp2_with fail
      clear y0 y1 y2 yf0 yf1 yf2 ylt
      refine (rfvalid_any wn y false oky m1 m2 (decide_eq_false HVY.out)).mono ?_
      rintro e wn ⟨rfl, bb⟩
      try replace bx := bx.below bb
      try replace by_ := by_.below bb
      try replace bk := bk.below bb
      try replace okx := okx.below bb
      try replace oky := oky.below bb
      try replace ok1 := ok1.below bb
      try replace na := na.below bb
      try replace nb := nb.below bb
      try replace nc := nc.below bb
      try replace nd := nd.below bb
      try replace ne := ne.below bb
      replace bw := below_on bw bb bw.size
      clear bb
      have tk := bk
      obtain ⟨k0, k1, k2, kf0, kf1, kf2, klt, kb⟩ := tk
      clear kb
      go_wp2_with fail
      refine bodyPost_ret (v := .tuple #[(Fx.nil : Fx).val, .int .i64 1]) (by simp [results, Try.results22, go_sem, k0, k1, k2]) rfl ?_
      rw [← HS.out, quoF, if_neg HV.out]
      exact ⟨Fx.nil, rfl, ⟨rfl, rfl, rfl⟩, Fx.nil_ok _, set3g bw (by omega)⟩
    · have HVX : Hid (¬ x.v) := hvx
      have HV : Hid (¬ (x.v ∧ y.v)) := hv
      clear hvx hv
      go_enter Try.func22, Try.ntmps22
      go_wp2_with fail
      have b0 := (Below.refl w.heap.size w).alloc (Nat.le_refl _) (.cells x.cells 26)
      have bx := bk3_alloc w (.bool x.b) (.slice x.A x.xs.length x.c) (.slice x.D x.ys.length x.d)
      have okx := hx.below b0
      have oky := hy.below b0
      have sz0 := size_box w (.cells x.cells 26)
      have bw := b0
      clear b0
      generalize (w.alloc (.cells x.cells 26)) = wa at bx okx oky sz0 bw ⊢
      have b1 := (Below.refl wa.heap.size wa).alloc (Nat.le_refl _) (.cells y.cells 26)
      have by_ := bk3_alloc wa (.bool y.b) (.slice y.A y.xs.length y.c) (.slice y.D y.ys.length y.d)
      have sz1 := size_box wa (.cells y.cells 26)
      rw [sz0] at by_ sz1
      replace bx := bx.below b1
      replace okx := okx.below b1
      replace oky := oky.below b1
      replace bw := below_on bw b1 bw.size
      clear b1
      generalize (wa.alloc (.cells y.cells 26)) = wb at bx by_ okx oky bw sz1 ⊢
      have b2 := (Below.refl wb.heap.size wb).alloc (Nat.le_refl _) (.cells #[.bool false, .slice none 0 0, .slice none 0 0] 26)
      have bk := bk3_new wb
      rw [sz1] at bk
      replace bx := bx.below b2
      replace by_ := by_.below b2
      replace okx := okx.below b2
      replace oky := oky.below b2
      replace bw := below_on bw b2 bw.size
      clear b2 sz0 sz1
      generalize (wb.alloc (.cells #[.bool false, .slice none 0 0, .slice none 0 0] 26)) = w1 at bx by_ okx oky bw bk ⊢
      refine (rfvalid_any w1 x false okx l1 l2 (decide_eq_false HVX.out)).mono ?_
      rintro e wn ⟨rfl, bb⟩
      try replace bx := bx.below bb
      try replace by_ := by_.below bb
      try replace bk := bk.below bb
      try replace okx := okx.below bb
      try replace oky := oky.below bb
      try replace ok1 := ok1.below bb
      try replace na := na.below bb
      try replace nb := nb.below bb
      try replace nc := nc.below bb
      try replace nd := nd.below bb
      try replace ne := ne.below bb
      replace bw := below_on bw bb bw.size
      clear bb
      have tk := bk
      obtain ⟨k0, k1, k2, kf0, kf1, kf2, klt, kb⟩ := tk
      clear kb
      go_wp2_with fail
      refine bodyPost_ret (v := .tuple #[(Fx.nil : Fx).val, .int .i64 1]) (by simp [results, Try.results22, go_sem, k0, k1, k2]) rfl ?_
      rw [← HS.out, quoF, if_neg HV.out]
      exact ⟨Fx.nil, rfl, ⟨rfl, rfl, rfl⟩, Fx.nil_ok _, set3g bw (by omega)⟩
end Go.Proofs.Ytnmomigaedfdoaa
