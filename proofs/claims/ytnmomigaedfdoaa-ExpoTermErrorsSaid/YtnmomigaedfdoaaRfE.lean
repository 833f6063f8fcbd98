/- The walks of drydockref02: fits, Reduce, Opposite. The walks of drydockref02: Mul, Quo. The walk of drydockref02.Add. Printed by a program from XFrE. The walks of drydockref02: Opposite, Sub. -/
import Derived.Test.YtnmomigaedfdoaaRfA
import Derived.Deep.RegionHeld3
namespace Go.Proofs.Ytnmomigaedfdoaa
set_option maxRecDepth 100000
open Go.RowKit

def fitS (s : Bool × List Nat × List Nat) : Bool × List Nat × List Nat × Int := if 128 < s.2.1.length ∨ 128 < s.2.2.length then errF 2 else (s.1, s.2.1, s.2.2, 0)
theorem redS_low {x : Fx} (hv : x.v) : redS x = ((lowS x.q).1, (lowS x.q).2.1, (lowS x.q).2.2, 0) := by
  rw [redS, if_pos hv, frS, if_neg, lowS]
  have h1 := lim_length_mono (Nat.div_le_self (nv x.xs) (Nat.gcd (nv x.xs) (nv x.ys)))
  have h2 := lim_length_mono (Nat.div_le_self (nv x.ys) (Nat.gcd (nv x.xs) (nv x.ys)))
  have h3 := hv.2.1
  have h4 := hv.2.2
  rw [bigQ, Fx.q, qv_abs hv.1, qv_den hv.1]
  omega
set_option maxHeartbeats 400000 in
theorem rfreduce_any (w : World) (x : Fx) (S : Bool × List Nat × List Nat × Int) (hx : x.ok w) (l1 : x.xs.length ≤ 10000) (l2 : x.ys.length ≤ 10000) (hs : redS x = S) : Calls Try.prog 77 #[x.val] w (FracRes w S) := by
  by_cases hv : x.v
  · have HS : Hid (((lowS x.q).1, (lowS x.q).2.1, (lowS x.q).2.2, 0) = S) := Lib.hid ((redS_low hv).symm.trans hs)
    have HV := Lib.hid hv
    have hv1 := hv.1
    have HV1 : Hid (nv x.ys ≠ 0) := hv1
    have lx : (lim (nv x.xs)).length ≤ 128 := hv.2.2
    have ly : (lim (nv x.ys)).length ≤ 128 := hv.2.1
    clear hv hv1 hs
    go_enter Try.func77, Try.ntmps77
    go_wp2_with fail
    have hs1 : w.heap.size < (w.alloc (.cells x.cells 26)).heap.size := by simp
    have b0 := (Below.refl w.heap.size w).alloc (Nat.le_refl _) (.cells x.cells 26)
    have b1 := (Below.refl (w.alloc (.cells x.cells 26)).heap.size (w.alloc (.cells x.cells 26))).alloc (Nat.le_refl _) (.cells #[.bool false, .slice none 0 0, .slice none 0 0] 26)
    have bx := (bk3_alloc w (.bool x.b) (.slice x.A x.xs.length x.c) (.slice x.D x.ys.length x.d)).below b1
    have bk := bk3_new (w.alloc (.cells x.cells 26))
    rw [size_box] at bk
    have okx := (hx.below b0).below b1
    have bw := below_on b0 b1 (Nat.le_of_lt hs1)
    clear hs1 b0 b1
    revert bx bk okx bw
    generalize ((w.alloc (.cells x.cells 26)).alloc (.cells #[.bool false, .slice none 0 0, .slice none 0 0] 26)) = w1
    intro bx bk okx bw
    have tx := bx
    obtain ⟨x0, x1, x2, xf0, xf1, xf2, xlt, xb⟩ := tx
    clear xb
    go_wp2_with fail
    clear x0 x1 x2 xf0 xf1 xf2 xlt
    refine (rfvalid_any w1 x true okx l1 l2 (decide_eq_true HV.out)).mono ?_
    rintro e wn ⟨rfl, bb⟩
    try replace bx := bx.below bb
    try replace by_ := by_.below bb
    try replace bk := bk.below bb
    try replace okx := okx.below bb
    try replace oky := oky.below bb
    try replace ok1 := ok1.below bb
    try replace na := na.below bb
    try replace nb := nb.below bb
    try replace nc := nc.below bb
    try replace nd := nd.below bb
    try replace ne := ne.below bb
    replace bw := below_on bw bb bw.size
    clear bb
    have tx := bx
    obtain ⟨x0, x1, x2, xf0, xf1, xf2, xlt, xb⟩ := tx
    clear xb
    go_wp2_with fail
    clear x0 x1 x2 xf0 xf1 xf2 xlt
    refine (rflowest_any wn x.b x.A x.D x.c x.d _ _ x.xs x.ys okx.num okx.den rfl rfl HV1.out l1 l2 (by omega) (by omega)).mono ?_
    rintro e wn ⟨x1, rfl, hs1, ok1, bb⟩
    have HS1 := Lib.hid hs1
    clear hs1
    try replace bx := bx.below bb
    try replace by_ := by_.below bb
    try replace bk := bk.below bb
    try replace okx := okx.below bb
    try replace oky := oky.below bb
    try replace ok1 := ok1.below bb
    try replace na := na.below bb
    try replace nb := nb.below bb
    try replace nc := nc.below bb
    try replace nd := nd.below bb
    try replace ne := ne.below bb
    replace bw := below_on bw bb bw.size
    clear bb
    have tk := bk
    obtain ⟨k0, k1, k2, kf0, kf1, kf2, klt, kb⟩ := tk
    clear kb
    go_wp2_with fail
    refine bodyPost_ret (v := .tuple #[(x1 : Fx).val, .int .i64 0]) (by simp [results, Try.results77, go_sem, k0, k1, k2]) rfl ?_
    rw [← HS.out]
    exact ⟨x1, rfl, HS1.out, set3_ok ok1 bk rfl rfl rfl, set3g bw (by omega)⟩
  · have HS := Lib.hid hs
    have HV : Hid (¬ x.v) := hv
    clear hv hs
    go_enter Try.func77, Try.ntmps77
    go_wp2_with fail
    have hs1 : w.heap.size < (w.alloc (.cells x.cells 26)).heap.size := by simp
    have b0 := (Below.refl w.heap.size w).alloc (Nat.le_refl _) (.cells x.cells 26)
    have b1 := (Below.refl (w.alloc (.cells x.cells 26)).heap.size (w.alloc (.cells x.cells 26))).alloc (Nat.le_refl _) (.cells #[.bool false, .slice none 0 0, .slice none 0 0] 26)
    have bx := (bk3_alloc w (.bool x.b) (.slice x.A x.xs.length x.c) (.slice x.D x.ys.length x.d)).below b1
    have bk := bk3_new (w.alloc (.cells x.cells 26))
    rw [size_box] at bk
    have okx := (hx.below b0).below b1
    have bw := below_on b0 b1 (Nat.le_of_lt hs1)
    clear hs1 b0 b1
    revert bx bk okx bw
    generalize ((w.alloc (.cells x.cells 26)).alloc (.cells #[.bool false, .slice none 0 0, .slice none 0 0] 26)) = w1
    intro bx bk okx bw
    have tx := bx
    obtain ⟨x0, x1, x2, xf0, xf1, xf2, xlt, xb⟩ := tx
    clear xb
    go_wp2_with fail
    clear x0 x1 x2 xf0 xf1 xf2 xlt
    refine (rfvalid_any w1 x false okx l1 l2 (decide_eq_false HV.out)).mono ?_
    rintro e wn ⟨rfl, bb⟩
    try replace bx := bx.below bb
    try replace by_ := by_.below bb
    try replace bk := bk.below bb
    try replace okx := okx.below bb
    try replace oky := oky.below bb
    try replace ok1 := ok1.below bb
    try replace na := na.below bb
    try replace nb := nb.below bb
    try replace nc := nc.below bb
    try replace nd := nd.below bb
    try replace ne := ne.below bb
    replace bw := below_on bw bb bw.size
    clear bb
    have tk := bk
    obtain ⟨k0, k1, k2, kf0, kf1, kf2, klt, kb⟩ := tk
    clear kb
    go_wp2_with fail
    refine bodyPost_ret (v := .tuple #[(Fx.nil : Fx).val, .int .i64 1]) (by simp [results, Try.results77, go_sem, k0, k1, k2]) rfl ?_
    rw [← HS.out, redS, if_neg HV.out]
    exact ⟨Fx.nil, rfl, ⟨rfl, rfl, rfl⟩, Fx.nil_ok _, set3g bw (by omega)⟩
end Go.Proofs.Ytnmomigaedfdoaa
namespace Go.Proofs.Ytnmomigaedfdoaa
set_option maxRecDepth 100000
open Go.RowKit

end Go.Proofs.Ytnmomigaedfdoaa
namespace Go.Proofs.Ytnmomigaedfdoaa
set_option maxRecDepth 100000
open Go.RowKit

end Go.Proofs.Ytnmomigaedfdoaa
namespace Go.Proofs.Ytnmomigaedfdoaa
set_option maxRecDepth 100000
open Go.RowKit

/-- the reference leaves a zero as it is -/
abbrev oppF (x : Fx) : Fx := { x with b := if nv x.xs = 0 then x.b else !x.b }
end Go.Proofs.Ytnmomigaedfdoaa
