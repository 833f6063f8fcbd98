/- The walks of package fraction: Reduce, Make. The walks of package fraction: Mul, Quo. -/
import Derived.Test.YthdfflbhogfejaaFrA
import Derived.Deep.RegionHeld3
namespace Go.Proofs.Ythdfflbhogfejaa
set_option maxRecDepth 100000
open Go.RowKit

theorem bk3_alloc (w : World) (v0 v1 v2 : Value) : Bk3 (w.alloc (.cells #[v0, v1, v2] 41)) w.heap.size v0 v1 v2 :=
  ⟨by go_simp, by go_simp, by go_simp, by go_simp, by go_simp, by go_simp, by simp, _, (0, 0), heap_alloc_new w _⟩
theorem size_box (w : World) (o : Obj) : (w.alloc o).heap.size = w.heap.size + 1 := by simp
/-- the fraction that was stored into the block that is handed back -/
theorem set3_ok {w : World} {x : Fx} {G : Nat} {v0 v1 v2 u0 u1 u2 : Value} (h : x.ok w) (bk : Bk3 w G v0 v1 v2) (e0 : isInt v0 = false) (e1 : isInt v1 = false) (e2 : isInt v2 = false) :
    x.ok (((w.setCell ⟨G, 0, none⟩ u0).setCell ⟨G, 1, none⟩ u1).setCell ⟨G, 2, none⟩ u2) := by
  constructor
  · rcases Nat.eq_zero_or_pos x.xs.length with h0 | h0
    · exact h.num.nil_any h0 _
    · exact nt_set3 h.num (h.num.sep3 bk e0 e1 e2 h0)
  · rcases Nat.eq_zero_or_pos x.ys.length with h0 | h0
    · exact h.den.nil_any h0 _
    · exact nt_set3 h.den (h.den.sep3 bk e0 e1 e2 h0)
theorem set3g {w wc : World} {B G : Nat} {a b c : Value} (h : Below B w wc) (hG : B ≤ G) : Below B w (((wc.setCell ⟨G, 0, none⟩ a).setCell ⟨G, 1, none⟩ b).setCell ⟨G, 2, none⟩ c) :=
  ((h.setCell (p := ⟨G, 0, none⟩) hG _).setCell (p := ⟨G, 1, none⟩) hG _).setCell (p := ⟨G, 2, none⟩) hG _
def errF (e : Int) : Bool × List Nat × List Nat × Int := (false, [], [], e)
def redS (x : Fx) : Bool × List Nat × List Nat × Int := if x.v then frS x.q else errF 1

set_option maxHeartbeats 400000 in
theorem freduce_any (w : World) (x : Fx) (S : Bool × List Nat × List Nat × Int) (hx : x.ok w) (l1 : x.xs.length ≤ 10000) (l2 : x.ys.length ≤ 10000) (hs : redS x = S) : Calls Try.prog 42 #[x.val] w (FracRes w S) := by
  have HS := Lib.hid hs
  clear hs
  by_cases hv : x.v
  · have HV := Lib.hid hv
    have hv1 := hv.1
    have HV1 : Hid (nv x.ys ≠ 0) := hv1
    have lx : (lim (nv x.xs)).length ≤ 128 := hv.2.2
    have ly : (lim (nv x.ys)).length ≤ 128 := hv.2.1
    clear hv hv1
    go_enter Try.func42, Try.ntmps42
    go_wp2_with fail
    have hs1 : w.heap.size < (w.alloc (.cells x.cells 41)).heap.size := by simp
    have b0 := (Below.refl w.heap.size w).alloc (Nat.le_refl _) (.cells x.cells 41)
    have b1 := (Below.refl (w.alloc (.cells x.cells 41)).heap.size (w.alloc (.cells x.cells 41))).alloc (Nat.le_refl _) (.cells #[.bool false, .slice none 0 0, .slice none 0 0] 41)
    have bx := (bk3_alloc w (.bool x.b) (.slice x.A x.xs.length x.c) (.slice x.D x.ys.length x.d)).below b1
    have bk := bk3_new (w.alloc (.cells x.cells 41))
    rw [size_box] at bk
    have okx := (hx.below b0).below b1
    have bw := below_on b0 b1 (Nat.le_of_lt hs1)
    clear hs1 b0 b1
    revert bx bk okx bw
    generalize ((w.alloc (.cells x.cells 41)).alloc (.cells #[.bool false, .slice none 0 0, .slice none 0 0] 41)) = w1
    intro bx bk okx bw
    refine (fvalid_any w1 x true okx l1 l2 (decide_eq_true HV.out)).mono ?_
    rintro e wn ⟨rfl, bb⟩
    try replace bx := bx.below bb
    try replace by_ := by_.below bb
    try replace bk := bk.below bb
    try replace okx := okx.below bb
    try replace oky := oky.below bb
    try replace ok1 := ok1.below bb
    try replace na := na.below bb
    try replace nb := nb.below bb
    try replace nc := nc.below bb
    try replace nd := nd.below bb
    try replace ne := ne.below bb
    replace bw := below_on bw bb bw.size
    clear bb
    have tx := bx
    obtain ⟨x0, x1, x2, xf0, xf1, xf2, xlt, xb⟩ := tx
    clear xb
    go_wp2_with fail
    clear x0 x1 x2 xf0 xf1 xf2 xlt
    refine (flowest_any wn x.b x.A x.D x.c x.d _ _ x.xs x.ys okx.num okx.den rfl rfl HV1.out l1 l2 (by omega) (by omega)).mono ?_
    rintro e wn ⟨x1, rfl, hs1, ok1, bb⟩
    have HS1 := Lib.hid hs1
    clear hs1
    try replace bx := bx.below bb
    try replace by_ := by_.below bb
    try replace bk := bk.below bb
    try replace okx := okx.below bb
    try replace oky := oky.below bb
    try replace ok1 := ok1.below bb
    try replace na := na.below bb
    try replace nb := nb.below bb
    try replace nc := nc.below bb
    try replace nd := nd.below bb
    try replace ne := ne.below bb
    replace bw := below_on bw bb bw.size
    clear bb
    have tk := bk
    obtain ⟨k0, k1, k2, kf0, kf1, kf2, klt, kb⟩ := tk
    clear kb
    go_wp2_with fail
    refine bodyPost_ret (v := .tuple #[(x1 : Fx).val, .int .i64 (frS (qv x.b (nv x.xs) (nv x.ys))).2.2.2]) (by simp [results, Try.results42, go_sem, k0, k1, k2]) rfl ?_
    have hS : S = frS (qv x.b (nv x.xs) (nv x.ys)) := by rw [← HS.out, redS, if_pos HV.out]; rfl
    rw [hS]
    exact ⟨x1, rfl, HS1.out, set3_ok ok1 bk rfl rfl rfl, set3g bw (by omega)⟩
  · have HV : Hid (¬ x.v) := hv
    clear hv
    go_enter Try.func42, Try.ntmps42
    go_wp2_with fail
    have hs1 : w.heap.size < (w.alloc (.cells x.cells 41)).heap.size := by simp
    have b0 := (Below.refl w.heap.size w).alloc (Nat.le_refl _) (.cells x.cells 41)
    have b1 := (Below.refl (w.alloc (.cells x.cells 41)).heap.size (w.alloc (.cells x.cells 41))).alloc (Nat.le_refl _) (.cells #[.bool false, .slice none 0 0, .slice none 0 0] 41)
    have bx := (bk3_alloc w (.bool x.b) (.slice x.A x.xs.length x.c) (.slice x.D x.ys.length x.d)).below b1
    have bk := bk3_new (w.alloc (.cells x.cells 41))
    rw [size_box] at bk
    have okx := (hx.below b0).below b1
    have bw := below_on b0 b1 (Nat.le_of_lt hs1)
    clear hs1 b0 b1
    revert bx bk okx bw
    generalize ((w.alloc (.cells x.cells 41)).alloc (.cells #[.bool false, .slice none 0 0, .slice none 0 0] 41)) = w1
    intro bx bk okx bw
    refine (fvalid_any w1 x false okx l1 l2 (decide_eq_false HV.out)).mono ?_
    rintro e wn ⟨rfl, bb⟩
    try replace bx := bx.below bb
    try replace by_ := by_.below bb
    try replace bk := bk.below bb
    try replace okx := okx.below bb
    try replace oky := oky.below bb
    try replace ok1 := ok1.below bb
    try replace na := na.below bb
    try replace nb := nb.below bb
    try replace nc := nc.below bb
    try replace nd := nd.below bb
    try replace ne := ne.below bb
    replace bw := below_on bw bb bw.size
    clear bb
    have tk := bk
    obtain ⟨k0, k1, k2, kf0, kf1, kf2, klt, kb⟩ := tk
    clear kb
    go_wp2_with fail
    refine bodyPost_ret (v := .tuple #[(Fx.nil : Fx).val, .int .i64 1]) (by simp [results, Try.results42, go_sem, k0, k1, k2]) rfl ?_
    rw [← HS.out, redS, if_neg HV.out]
    exact ⟨Fx.nil, rfl, ⟨rfl, rfl, rfl⟩, Fx.nil_ok _, set3g bw (by omega)⟩
end Go.Proofs.Ythdfflbhogfejaa
namespace Go.Proofs.Ythdfflbhogfejaa
set_option maxRecDepth 100000
open Go.RowKit

theorem cell_set3 {w : World} {G P k : Nat} {a b c v : Value} (h : w.cell? ⟨P, k, none⟩ = some v) (hne : G ≠ P) : (((w.setCell ⟨G, 0, none⟩ a).setCell ⟨G, 1, none⟩ b).setCell ⟨G, 2, none⟩ c).cell? ⟨P, k, none⟩ = some v := by
  rw [World.cell?_setCell_far _ _ _ _ hne, World.cell?_setCell_far _ _ _ _ hne, World.cell?_setCell_far _ _ _ _ hne]; exact h
def mulF (x y : Fx) : Bool × List Nat × List Nat × Int := if x.v ∧ y.v then frS (x.q * y.q) else errF 1
def quoF (x y : Fx) : Bool × List Nat × List Nat × Int := if x.v ∧ y.v then (if nv y.xs = 0 then errF 3 else frS (x.q / y.q)) else errF 1
set_option maxHeartbeats 800000 in
theorem fquo_any (w : World) (x y : Fx) (S : Bool × List Nat × List Nat × Int) (hx : x.ok w) (hy : y.ok w) (l1 : x.xs.length ≤ 10000) (l2 : x.ys.length ≤ 10000) (m1 : y.xs.length ≤ 10000) (m2 : y.ys.length ≤ 10000) (hs : quoF x y = S) : Calls Try.prog 63 #[x.val, y.val] w (FracRes w S) := by
  have HS := Lib.hid hs
  clear hs
  by_cases hv : x.v ∧ y.v
  · by_cases hz : nv y.xs = 0
    · have HZ := Lib.hid hz
      clear hz
      skip
      have HV := Lib.hid hv
      have HVX := Lib.hid hv.1
      have HVY := Lib.hid hv.2
      have DX : Hid (nv x.ys ≠ 0) := Lib.hid hv.1.1
      have DY : Hid (nv y.ys ≠ 0) := Lib.hid hv.2.1
      have lx1 : (lim (nv x.xs)).length ≤ 128 := hv.1.2.2
      have lx2 : (lim (nv x.ys)).length ≤ 128 := hv.1.2.1
      have ly1 : (lim (nv y.xs)).length ≤ 128 := hv.2.2.2
      have ly2 : (lim (nv y.ys)).length ≤ 128 := hv.2.2.1
      clear hv
      go_enter Try.func63, Try.ntmps63
      go_wp2_with fail
      have b0 := (Below.refl w.heap.size w).alloc (Nat.le_refl _) (.cells x.cells 41)
      have bx := bk3_alloc w (.bool x.b) (.slice x.A x.xs.length x.c) (.slice x.D x.ys.length x.d)
      have okx := hx.below b0
      have oky := hy.below b0
      have sz0 := size_box w (.cells x.cells 41)
      have bw := b0
      clear b0
      generalize (w.alloc (.cells x.cells 41)) = wa at bx okx oky sz0 bw ⊢
      have b1 := (Below.refl wa.heap.size wa).alloc (Nat.le_refl _) (.cells y.cells 41)
      have by_ := bk3_alloc wa (.bool y.b) (.slice y.A y.xs.length y.c) (.slice y.D y.ys.length y.d)
      have sz1 := size_box wa (.cells y.cells 41)
      rw [sz0] at by_ sz1
      replace bx := bx.below b1
      replace okx := okx.below b1
      replace oky := oky.below b1
      replace bw := below_on bw b1 bw.size
      clear b1
      generalize (wa.alloc (.cells y.cells 41)) = wb at bx by_ okx oky bw sz1 ⊢
      have b2 := (Below.refl wb.heap.size wb).alloc (Nat.le_refl _) (.cells #[.bool false, .slice none 0 0, .slice none 0 0] 41)
      have bk := bk3_new wb
      rw [sz1] at bk
      replace bx := bx.below b2
      replace by_ := by_.below b2
      replace okx := okx.below b2
      replace oky := oky.below b2
      replace bw := below_on bw b2 bw.size
      clear b2 sz0 sz1
      generalize (wb.alloc (.cells #[.bool false, .slice none 0 0, .slice none 0 0] 41)) = w1 at bx by_ okx oky bw bk ⊢
      refine (fvalid_any w1 x true okx l1 l2 (decide_eq_true HVX.out)).mono ?_
      rintro e wn ⟨rfl, bb⟩
      try replace bx := bx.below bb
      try replace by_ := by_.below bb
      try replace bk := bk.below bb
      try replace okx := okx.below bb
      try replace oky := oky.below bb
      try replace ok1 := ok1.below bb
      try replace na := na.below bb
      try replace nb := nb.below bb
      try replace nc := nc.below bb
      try replace nd := nd.below bb
      try replace ne := ne.below bb
      replace bw := below_on bw bb bw.size
      clear bb
      have ty := by_
      obtain ⟨y0, y1, y2, yf0, yf1, yf2, ylt, yb⟩ := ty
      clear yb
      go_wp2_with fail
      clear y0 y1 y2 yf0 yf1 yf2 ylt
      refine (fvalid_any wn y true oky m1 m2 (decide_eq_true HVY.out)).mono ?_
      rintro e wn ⟨rfl, bb⟩
      try replace bx := bx.below bb
      try replace by_ := by_.below bb
      try replace bk := bk.below bb
      try replace okx := okx.below bb
      try replace oky := oky.below bb
      try replace ok1 := ok1.below bb
      try replace na := na.below bb
      try replace nb := nb.below bb
      try replace nc := nc.below bb
      try replace nd := nd.below bb
      try replace ne := ne.below bb
      replace bw := below_on bw bb bw.size
      clear bb
      have ty := by_
      obtain ⟨y0, y1, y2, yf0, yf1, yf2, ylt, yb⟩ := ty
      clear yb
      go_wp2_with fail
      clear y0 y1 y2 yf0 yf1 yf2 ylt
      refine (fzero_any wn y true oky.num (by omega) (decide_eq_true HZ.out)).mono ?_
      rintro e wn ⟨rfl, bb⟩
      try replace bx := bx.below bb
      try replace by_ := by_.below bb
      try replace bk := bk.below bb
      try replace okx := okx.below bb
      try replace oky := oky.below bb
      try replace ok1 := ok1.below bb
      try replace na := na.below bb
      try replace nb := nb.below bb
      try replace nc := nc.below bb
      try replace nd := nd.below bb
      try replace ne := ne.below bb
      replace bw := below_on bw bb bw.size
      clear bb
      have tk := bk
      obtain ⟨k0, k1, k2, kf0, kf1, kf2, klt, kb⟩ := tk
      clear kb
      go_wp2_with fail
      refine bodyPost_ret (v := .tuple #[(Fx.nil : Fx).val, .int .i64 3]) (by simp [results, Try.results63, go_sem, k0, k1, k2]) rfl ?_
      rw [← HS.out, quoF, if_pos HV.out, if_pos HZ.out]
      exact ⟨Fx.nil, rfl, ⟨rfl, rfl, rfl⟩, Fx.nil_ok _, set3g bw (by omega)⟩
    · have HZ : Hid (¬ nv y.xs = 0) := hz
      clear hz
      skip
      have HV := Lib.hid hv
      have HVX := Lib.hid hv.1
      have HVY := Lib.hid hv.2
      have DX : Hid (nv x.ys ≠ 0) := Lib.hid hv.1.1
      have DY : Hid (nv y.ys ≠ 0) := Lib.hid hv.2.1
      have lx1 : (lim (nv x.xs)).length ≤ 128 := hv.1.2.2
      have lx2 : (lim (nv x.ys)).length ≤ 128 := hv.1.2.1
      have ly1 : (lim (nv y.xs)).length ≤ 128 := hv.2.2.2
      have ly2 : (lim (nv y.ys)).length ≤ 128 := hv.2.2.1
      clear hv
      go_enter Try.func63, Try.ntmps63
      go_wp2_with fail
      have b0 := (Below.refl w.heap.size w).alloc (Nat.le_refl _) (.cells x.cells 41)
      have bx := bk3_alloc w (.bool x.b) (.slice x.A x.xs.length x.c) (.slice x.D x.ys.length x.d)
      have okx := hx.below b0
      have oky := hy.below b0
      have sz0 := size_box w (.cells x.cells 41)
      have bw := b0
      clear b0
      generalize (w.alloc (.cells x.cells 41)) = wa at bx okx oky sz0 bw ⊢
      have b1 := (Below.refl wa.heap.size wa).alloc (Nat.le_refl _) (.cells y.cells 41)
      have by_ := bk3_alloc wa (.bool y.b) (.slice y.A y.xs.length y.c) (.slice y.D y.ys.length y.d)
      have sz1 := size_box wa (.cells y.cells 41)
      rw [sz0] at by_ sz1
      replace bx := bx.below b1
      replace okx := okx.below b1
      replace oky := oky.below b1
      replace bw := below_on bw b1 bw.size
      clear b1
      generalize (wa.alloc (.cells y.cells 41)) = wb at bx by_ okx oky bw sz1 ⊢
      have b2 := (Below.refl wb.heap.size wb).alloc (Nat.le_refl _) (.cells #[.bool false, .slice none 0 0, .slice none 0 0] 41)
      have bk := bk3_new wb
      rw [sz1] at bk
      replace bx := bx.below b2
      replace by_ := by_.below b2
      replace okx := okx.below b2
      replace oky := oky.below b2
      replace bw := below_on bw b2 bw.size
      clear b2 sz0 sz1
      generalize (wb.alloc (.cells #[.bool false, .slice none 0 0, .slice none 0 0] 41)) = w1 at bx by_ okx oky bw bk ⊢
      refine (fvalid_any w1 x true okx l1 l2 (decide_eq_true HVX.out)).mono ?_
      rintro e wn ⟨rfl, bb⟩
      try replace bx := bx.below bb
      try replace by_ := by_.below bb
      try replace bk := bk.below bb
      try replace okx := okx.below bb
      try replace oky := oky.below bb
      try replace ok1 := ok1.below bb
      try replace na := na.below bb
      try replace nb := nb.below bb
      try replace nc := nc.below bb
      try replace nd := nd.below bb
      try replace ne := ne.below bb
      replace bw := below_on bw bb bw.size
      clear bb
      have ty := by_
      obtain ⟨y0, y1, y2, yf0, yf1, yf2, ylt, yb⟩ := ty
      clear yb
      go_wp2_with fail
      clear y0 y1 y2 yf0 yf1 yf2 ylt
      refine (fvalid_any wn y true oky m1 m2 (decide_eq_true HVY.out)).mono ?_
      rintro e wn ⟨rfl, bb⟩
      try replace bx := bx.below bb
      try replace by_ := by_.below bb
      try replace bk := bk.below bb
      try replace okx := okx.below bb
      try replace oky := oky.below bb
      try replace ok1 := ok1.below bb
      try replace na := na.below bb
      try replace nb := nb.below bb
      try replace nc := nc.below bb
      try replace nd := nd.below bb
      try replace ne := ne.below bb
      replace bw := below_on bw bb bw.size
      clear bb
      have ty := by_
      obtain ⟨y0, y1, y2, yf0, yf1, yf2, ylt, yb⟩ := ty
      clear yb
      go_wp2_with fail
      clear y0 y1 y2 yf0 yf1 yf2 ylt
      refine (fzero_any wn y false oky.num (by omega) (decide_eq_false HZ.out)).mono ?_
      rintro e wn ⟨rfl, bb⟩
      try replace bx := bx.below bb
      try replace by_ := by_.below bb
      try replace bk := bk.below bb
      try replace okx := okx.below bb
      try replace oky := oky.below bb
      try replace ok1 := ok1.below bb
      try replace na := na.below bb
      try replace nb := nb.below bb
      try replace nc := nc.below bb
      try replace nd := nd.below bb
      try replace ne := ne.below bb
      replace bw := below_on bw bb bw.size
      clear bb
      have hnn : (lim (nv (lim (nv x.xs * nv y.ys)))).length ≤ 512 := by rw [nv_lim]; have := len_mulf lx1 ly2; omega
      have hdd : (lim (nv (lim (nv x.ys * nv y.xs)))).length ≤ 512 := by rw [nv_lim]; have := len_mulf lx2 ly1; omega
      have hn1 : (lim (nv x.xs * nv y.ys)).length ≤ 512 := by have := len_mulf lx1 ly2; omega
      have hn2 : (lim (nv x.ys * nv y.xs)).length ≤ 512 := by have := len_mulf lx2 ly1; omega
      have hne : nv (lim (nv x.ys * nv y.xs)) ≠ 0 := by rw [nv_lim]; exact Nat.mul_ne_zero DX.out HZ.out
      have n20 : w.heap.size + 1 + 1 ≠ w.heap.size := by omega
      have n21 : w.heap.size + 1 + 1 ≠ w.heap.size + 1 := by omega
      have NN := Lib.hid hnn
      have DD := Lib.hid hdd
      have NE : Hid (nv (lim (nv x.ys * nv y.xs)) ≠ 0) := hne
      clear hnn hdd hne
      go_wp2_with fail
      have bb := below_drew (Below.refl wn.heap.size wn)
      try replace bx := bx.below bb
      try replace by_ := by_.below bb
      try replace bk := bk.below bb
      try replace okx := okx.below bb
      try replace oky := oky.below bb
      try replace ok1 := ok1.below bb
      try replace na := na.below bb
      try replace nb := nb.below bb
      try replace nc := nc.below bb
      try replace nd := nd.below bb
      try replace ne := ne.below bb
      replace bw := below_on bw bb bw.size
      clear bb
      go_region_held3 (fun w' => w'.cell? ⟨w.heap.size, 0, none⟩ = some (.bool x.b) ∧ w'.cell? ⟨w.heap.size, 1, none⟩ = some (.slice x.A x.xs.length x.c) ∧ w'.cell? ⟨w.heap.size, 2, none⟩ = some (.slice x.D x.ys.length x.d) ∧ w'.cell? ⟨w.heap.size + 1, 0, none⟩ = some (.bool y.b) ∧ w'.cell? ⟨w.heap.size + 1, 1, none⟩ = some (.slice y.A y.xs.length y.c) ∧ w'.cell? ⟨w.heap.size + 1, 2, none⟩ = some (.slice y.D y.ys.length y.d))
        (first | exact ⟨bx.c0, bx.c1, bx.c2, by_.c0, by_.c1, by_.c2⟩ | exact ⟨cell_set3 bx.c0 n20, cell_set3 bx.c1 n20, cell_set3 bx.c2 n20, cell_set3 by_.c0 n21, cell_set3 by_.c1 n21, cell_set3 by_.c2 n21⟩ | go_keep)
        (first
          | (go_at_call 84
             with_reducible refine (ftimes_ok _ x.A y.D x.c y.d _ _ x.xs y.ys okx.num oky.den rfl rfl lx1 ly2).mono ?_
             rintro e wn ⟨AN, cN, rfl, na, bb⟩
             try replace nb := nb.below bb
             replace bx := bx.below bb
             replace by_ := by_.below bb
             replace bk := bk.below bb
             replace okx := okx.below bb
             replace oky := oky.below bb
             replace bw := below_on bw bb bw.size
             clear bb)
          | (go_at_call 84
             with_reducible refine (ftimes_ok _ x.D y.A x.d y.c _ _ x.ys y.xs okx.den oky.num rfl rfl lx2 ly1).mono ?_
             rintro e wn ⟨AD, cD, rfl, nb, bb⟩
             try replace na := na.below bb
             replace bx := bx.below bb
             replace by_ := by_.below bb
             replace bk := bk.below bb
             replace okx := okx.below bb
             replace oky := oky.below bb
             replace bw := below_on bw bb bw.size
             clear bb)
          | (go_at_call 65
             with_reducible refine (flowest_any _ (!(x.b == y.b)) AN AD cN cD _ _ (lim (nv x.xs * nv y.ys)) (lim (nv x.ys * nv y.xs)) na nb rfl rfl NE.out (by omega) (by omega) NN.out DD.out).mono ?_
             rintro e wn ⟨x1, rfl, hs1, ok1, bb⟩
             have HS1 := Lib.hid hs1
             replace bx := bx.below bb
             replace by_ := by_.below bb
             replace bk := bk.below bb
             replace bw := below_on bw bb bw.size
             have kk := bk
             obtain ⟨k0, k1, k2, kf0, kf1, kf2, klt, _⟩ := kk
             clear bb hs1))
      all_goals
        skip
        go_wp2_with fail
        refine bodyPost_ret (v := .tuple #[(x1 : Fx).val, .int .i64 (frS (qv (!(x.b == y.b)) (nv (lim (nv x.xs * nv y.ys))) (nv (lim (nv x.ys * nv y.xs))))).2.2.2]) (by simp [results, Try.results63, go_sem, k0, k1, k2]) rfl ?_
        have hS : S = frS (qv (!(x.b == y.b)) (nv (lim (nv x.xs * nv y.ys))) (nv (lim (nv x.ys * nv y.xs)))) := by
          rw [← HS.out, quoF, if_pos HV.out, if_neg HZ.out, nv_lim, nv_lim, Fx.q, Fx.q, qv_quo HZ.out]; rfl
        rw [hS]
        exact ⟨x1, rfl, HS1.out, set3_ok ok1 bk rfl rfl rfl, set3g bw (by omega)⟩
  · skip
    by_cases hvx : x.v
    · have hvy : ¬ y.v := fun h => hv ⟨hvx, h⟩
      have HVX := Lib.hid hvx
      have HVY : Hid (¬ y.v) := hvy
      have HV : Hid (¬ (x.v ∧ y.v)) := hv
      clear hvx hvy hv
      go_enter Try.func63, Try.ntmps63
      go_wp2_with fail
      have b0 := (Below.refl w.heap.size w).alloc (Nat.le_refl _) (.cells x.cells 41)
      have bx := bk3_alloc w (.bool x.b) (.slice x.A x.xs.length x.c) (.slice x.D x.ys.length x.d)
      have okx := hx.below b0
      have oky := hy.below b0
      have sz0 := size_box w (.cells x.cells 41)
      have bw := b0
      clear b0
      generalize (w.alloc (.cells x.cells 41)) = wa at bx okx oky sz0 bw ⊢
      have b1 := (Below.refl wa.heap.size wa).alloc (Nat.le_refl _) (.cells y.cells 41)
      have by_ := bk3_alloc wa (.bool y.b) (.slice y.A y.xs.length y.c) (.slice y.D y.ys.length y.d)
      have sz1 := size_box wa (.cells y.cells 41)
      rw [sz0] at by_ sz1
      replace bx := bx.below b1
      replace okx := okx.below b1
      replace oky := oky.below b1
      replace bw := below_on bw b1 bw.size
      clear b1
      generalize (wa.alloc (.cells y.cells 41)) = wb at bx by_ okx oky bw sz1 ⊢
      have b2 := (Below.refl wb.heap.size wb).alloc (Nat.le_refl _) (.cells #[.bool false, .slice none 0 0, .slice none 0 0] 41)
      have bk := bk3_new wb
      rw [sz1] at bk
      replace bx := bx.below b2
      replace by_ := by_.below b2
      replace okx := okx.below b2
      replace oky := oky.below b2
      replace bw := below_on bw b2 bw.size
      clear b2 sz0 sz1
      generalize (wb.alloc (.cells #[.bool false, .slice none 0 0, .slice none 0 0] 41)) = w1 at bx by_ okx oky bw bk ⊢
      refine (fvalid_any w1 x true okx l1 l2 (decide_eq_true HVX.out)).mono ?_
      rintro e wn ⟨rfl, bb⟩
      try replace bx := bx.below bb
      try replace by_ := by_.below bb
      try replace bk := bk.below bb
      try replace okx := okx.below bb
      try replace oky := oky.below bb
      try replace ok1 := ok1.below bb
      try replace na := na.below bb
      try replace nb := nb.below bb
      try replace nc := nc.below bb
      try replace nd := nd.below bb
      try replace ne := ne.below bb
      replace bw := below_on bw bb bw.size
      clear bb
      have ty := by_
      obtain ⟨y0, y1, y2, yf0, yf1, yf2, ylt, yb⟩ := ty
      clear yb
      go_wp2_with fail
      clear y0 y1 y2 yf0 yf1 yf2 ylt
      refine (fvalid_any wn y false oky m1 m2 (decide_eq_false HVY.out)).mono ?_
      rintro e wn ⟨rfl, bb⟩
      try replace bx := bx.below bb
      try replace by_ := by_.below bb
      try replace bk := bk.below bb
      try replace okx := okx.below bb
      try replace oky := oky.below bb
      try replace ok1 := ok1.below bb
      try replace na := na.below bb
      try replace nb := nb.below bb
      try replace nc := nc.below bb
      try replace nd := nd.below bb
      try replace ne := ne.below bb
      replace bw := below_on bw bb bw.size
      clear bb
      have tk := bk
      obtain ⟨k0, k1, k2, kf0, kf1, kf2, klt, kb⟩ := tk
      clear kb
      go_wp2_with fail
      refine bodyPost_ret (v := .tuple #[(Fx.nil : Fx).val, .int .i64 1]) (by simp [results, Try.results63, go_sem, k0, k1, k2]) rfl ?_
      rw [← HS.out, quoF, if_neg HV.out]
      exact ⟨Fx.nil, rfl, ⟨rfl, rfl, rfl⟩, Fx.nil_ok _, set3g bw (by omega)⟩
    · have HVX : Hid (¬ x.v) := hvx
      have HV : Hid (¬ (x.v ∧ y.v)) := hv
      clear hvx hv
      go_enter Try.func63, Try.ntmps63
      go_wp2_with fail
      have b0 := (Below.refl w.heap.size w).alloc (Nat.le_refl _) (.cells x.cells 41)
      have bx := bk3_alloc w (.bool x.b) (.slice x.A x.xs.length x.c) (.slice x.D x.ys.length x.d)
      have okx := hx.below b0
      have oky := hy.below b0
      have sz0 := size_box w (.cells x.cells 41)
      have bw := b0
      clear b0
      generalize (w.alloc (.cells x.cells 41)) = wa at bx okx oky sz0 bw ⊢
      have b1 := (Below.refl wa.heap.size wa).alloc (Nat.le_refl _) (.cells y.cells 41)
      have by_ := bk3_alloc wa (.bool y.b) (.slice y.A y.xs.length y.c) (.slice y.D y.ys.length y.d)
      have sz1 := size_box wa (.cells y.cells 41)
      rw [sz0] at by_ sz1
      replace bx := bx.below b1
      replace okx := okx.below b1
      replace oky := oky.below b1
      replace bw := below_on bw b1 bw.size
      clear b1
      generalize (wa.alloc (.cells y.cells 41)) = wb at bx by_ okx oky bw sz1 ⊢
      have b2 := (Below.refl wb.heap.size wb).alloc (Nat.le_refl _) (.cells #[.bool false, .slice none 0 0, .slice none 0 0] 41)
      have bk := bk3_new wb
      rw [sz1] at bk
      replace bx := bx.below b2
      replace by_ := by_.below b2
      replace okx := okx.below b2
      replace oky := oky.below b2
      replace bw := below_on bw b2 bw.size
      clear b2 sz0 sz1
      generalize (wb.alloc (.cells #[.bool false, .slice none 0 0, .slice none 0 0] 41)) = w1 at bx by_ okx oky bw bk ⊢
      refine (fvalid_any w1 x false okx l1 l2 (decide_eq_false HVX.out)).mono ?_
      rintro e wn ⟨rfl, bb⟩
      try replace bx := bx.below bb
      try replace by_ := by_.below bb
      try replace bk := bk.below bb
      try replace okx := okx.below bb
      try replace oky := oky.below bb
      try replace ok1 := ok1.below bb
      try replace na := na.below bb
      try replace nb := nb.below bb
      try replace nc := nc.below bb
      try replace nd := nd.below bb
      try replace ne := ne.below bb
      replace bw := below_on bw bb bw.size
      clear bb
      have tk := bk
      obtain ⟨k0, k1, k2, kf0, kf1, kf2, klt, kb⟩ := tk
      clear kb
      go_wp2_with fail
      refine bodyPost_ret (v := .tuple #[(Fx.nil : Fx).val, .int .i64 1]) (by simp [results, Try.results63, go_sem, k0, k1, k2]) rfl ?_
      rw [← HS.out, quoF, if_neg HV.out]
      exact ⟨Fx.nil, rfl, ⟨rfl, rfl, rfl⟩, Fx.nil_ok _, set3g bw (by omega)⟩
end Go.Proofs.Ythdfflbhogfejaa
