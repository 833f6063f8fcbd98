/- The walks of package fraction: Reduce, Make. -/
import Derived.Test.YtnmomigaedfdoaaFrA
namespace Go.Proofs.Ytnmomigaedfdoaa
set_option maxRecDepth 100000
open Go.RowKit

theorem bk3_alloc (w : World) (v0 v1 v2 : Value) : Bk3 (w.alloc (.cells #[v0, v1, v2] 26)) w.heap.size v0 v1 v2 :=
  ⟨by go_simp, by go_simp, by go_simp, by go_simp, by go_simp, by go_simp, by simp, _, (0, 0), heap_alloc_new w _⟩
theorem size_box (w : World) (o : Obj) : (w.alloc o).heap.size = w.heap.size + 1 := by simp
/-- the fraction that was stored into the block that is handed back -/
theorem set3_ok {w : World} {x : Fx} {G : Nat} {v0 v1 v2 u0 u1 u2 : Value} (h : x.ok w) (bk : Bk3 w G v0 v1 v2) (e0 : isInt v0 = false) (e1 : isInt v1 = false) (e2 : isInt v2 = false) :
    x.ok (((w.setCell ⟨G, 0, none⟩ u0).setCell ⟨G, 1, none⟩ u1).setCell ⟨G, 2, none⟩ u2) := by
  constructor
  · rcases Nat.eq_zero_or_pos x.xs.length with h0 | h0
    · exact h.num.nil_any h0 _
    · exact nt_set3 h.num (h.num.sep3 bk e0 e1 e2 h0)
  · rcases Nat.eq_zero_or_pos x.ys.length with h0 | h0
    · exact h.den.nil_any h0 _
    · exact nt_set3 h.den (h.den.sep3 bk e0 e1 e2 h0)
theorem set3g {w wc : World} {B G : Nat} {a b c : Value} (h : Below B w wc) (hG : B ≤ G) : Below B w (((wc.setCell ⟨G, 0, none⟩ a).setCell ⟨G, 1, none⟩ b).setCell ⟨G, 2, none⟩ c) :=
  ((h.setCell (p := ⟨G, 0, none⟩) hG _).setCell (p := ⟨G, 1, none⟩) hG _).setCell (p := ⟨G, 2, none⟩) hG _
def errF (e : Int) : Bool × List Nat × List Nat × Int := (false, [], [], e)
def redS (x : Fx) : Bool × List Nat × List Nat × Int := if x.v then frS x.q else errF 1

set_option maxHeartbeats 400000 in
theorem freduce_any (w : World) (x : Fx) (S : Bool × List Nat × List Nat × Int) (hx : x.ok w) (l1 : x.xs.length ≤ 10000) (l2 : x.ys.length ≤ 10000) (hs : redS x = S) : Calls Try.prog 87 #[x.val] w (FracRes w S) := by
  have HS := Lib.hid hs
  clear hs
  by_cases hv : x.v
  · have HV := Lib.hid hv
    have hv1 := hv.1
    have HV1 : Hid (nv x.ys ≠ 0) := hv1
    have lx : (lim (nv x.xs)).length ≤ 128 := hv.2.2
    have ly : (lim (nv x.ys)).length ≤ 128 := hv.2.1
    clear hv hv1
    go_enter Try.func87, Try.ntmps87
    go_wp2_with fail
    have hs1 : w.heap.size < (w.alloc (.cells x.cells 26)).heap.size := by simp
    have b0 := (Below.refl w.heap.size w).alloc (Nat.le_refl _) (.cells x.cells 26)
    have b1 := (Below.refl (w.alloc (.cells x.cells 26)).heap.size (w.alloc (.cells x.cells 26))).alloc (Nat.le_refl _) (.cells #[.bool false, .slice none 0 0, .slice none 0 0] 26)
    have bx := (bk3_alloc w (.bool x.b) (.slice x.A x.xs.length x.c) (.slice x.D x.ys.length x.d)).below b1
    have bk := bk3_new (w.alloc (.cells x.cells 26))
    rw [size_box] at bk
    have okx := (hx.below b0).below b1
    have bw := below_on b0 b1 (Nat.le_of_lt hs1)
    clear hs1 b0 b1
    revert bx bk okx bw
    generalize ((w.alloc (.cells x.cells 26)).alloc (.cells #[.bool false, .slice none 0 0, .slice none 0 0] 26)) = w1
    intro bx bk okx bw
    refine (fvalid_any w1 x true okx l1 l2 (decide_eq_true HV.out)).mono ?_
    rintro e wn ⟨rfl, bb⟩
    try replace bx := bx.below bb
    try replace by_ := by_.below bb
    try replace bk := bk.below bb
    try replace okx := okx.below bb
    try replace oky := oky.below bb
    try replace ok1 := ok1.below bb
    try replace na := na.below bb
    try replace nb := nb.below bb
    try replace nc := nc.below bb
    try replace nd := nd.below bb
    try replace ne := ne.below bb
    replace bw := below_on bw bb bw.size
    clear bb
    have tx := bx
    obtain ⟨x0, x1, x2, xf0, xf1, xf2, xlt, xb⟩ := tx
    clear xb
    go_wp2_with fail
    clear x0 x1 x2 xf0 xf1 xf2 xlt
    refine (flowest_any wn x.b x.A x.D x.c x.d _ _ x.xs x.ys okx.num okx.den rfl rfl HV1.out l1 l2 (by omega) (by omega)).mono ?_
    rintro e wn ⟨x1, rfl, hs1, ok1, bb⟩
    have HS1 := Lib.hid hs1
    clear hs1
    try replace bx := bx.below bb
    try replace by_ := by_.below bb
    try replace bk := bk.below bb
    try replace okx := okx.below bb
    try replace oky := oky.below bb
    try replace ok1 := ok1.below bb
    try replace na := na.below bb
    try replace nb := nb.below bb
    try replace nc := nc.below bb
    try replace nd := nd.below bb
    try replace ne := ne.below bb
    replace bw := below_on bw bb bw.size
    clear bb
    have tk := bk
    obtain ⟨k0, k1, k2, kf0, kf1, kf2, klt, kb⟩ := tk
    clear kb
    go_wp2_with fail
    refine bodyPost_ret (v := .tuple #[(x1 : Fx).val, .int .i64 (frS (qv x.b (nv x.xs) (nv x.ys))).2.2.2]) (by simp [results, Try.results87, go_sem, k0, k1, k2]) rfl ?_
    have hS : S = frS (qv x.b (nv x.xs) (nv x.ys)) := by rw [← HS.out, redS, if_pos HV.out]; rfl
    rw [hS]
    exact ⟨x1, rfl, HS1.out, set3_ok ok1 bk rfl rfl rfl, set3g bw (by omega)⟩
  · have HV : Hid (¬ x.v) := hv
    clear hv
    go_enter Try.func87, Try.ntmps87
    go_wp2_with fail
    have hs1 : w.heap.size < (w.alloc (.cells x.cells 26)).heap.size := by simp
    have b0 := (Below.refl w.heap.size w).alloc (Nat.le_refl _) (.cells x.cells 26)
    have b1 := (Below.refl (w.alloc (.cells x.cells 26)).heap.size (w.alloc (.cells x.cells 26))).alloc (Nat.le_refl _) (.cells #[.bool false, .slice none 0 0, .slice none 0 0] 26)
    have bx := (bk3_alloc w (.bool x.b) (.slice x.A x.xs.length x.c) (.slice x.D x.ys.length x.d)).below b1
    have bk := bk3_new (w.alloc (.cells x.cells 26))
    rw [size_box] at bk
    have okx := (hx.below b0).below b1
    have bw := below_on b0 b1 (Nat.le_of_lt hs1)
    clear hs1 b0 b1
    revert bx bk okx bw
    generalize ((w.alloc (.cells x.cells 26)).alloc (.cells #[.bool false, .slice none 0 0, .slice none 0 0] 26)) = w1
    intro bx bk okx bw
    refine (fvalid_any w1 x false okx l1 l2 (decide_eq_false HV.out)).mono ?_
    rintro e wn ⟨rfl, bb⟩
    try replace bx := bx.below bb
    try replace by_ := by_.below bb
    try replace bk := bk.below bb
    try replace okx := okx.below bb
    try replace oky := oky.below bb
    try replace ok1 := ok1.below bb
    try replace na := na.below bb
    try replace nb := nb.below bb
    try replace nc := nc.below bb
    try replace nd := nd.below bb
    try replace ne := ne.below bb
    replace bw := below_on bw bb bw.size
    clear bb
    have tk := bk
    obtain ⟨k0, k1, k2, kf0, kf1, kf2, klt, kb⟩ := tk
    clear kb
    go_wp2_with fail
    refine bodyPost_ret (v := .tuple #[(Fx.nil : Fx).val, .int .i64 1]) (by simp [results, Try.results87, go_sem, k0, k1, k2]) rfl ?_
    rw [← HS.out, redS, if_neg HV.out]
    exact ⟨Fx.nil, rfl, ⟨rfl, rfl, rfl⟩, Fx.nil_ok _, set3g bw (by omega)⟩
end Go.Proofs.Ytnmomigaedfdoaa
