/- The walks of drydockref02: fits, Reduce, Opposite. -/
import Derived.Test.YtnmomigaedfdoaaRfA
namespace Go.Proofs.Ytnmomigaedfdoaa
set_option maxRecDepth 100000
open Go.RowKit

def fitS (s : Bool × List Nat × List Nat) : Bool × List Nat × List Nat × Int := if 128 < s.2.1.length ∨ 128 < s.2.2.length then errF 2 else (s.1, s.2.1, s.2.2, 0)
theorem fitS_low (q : Rat) : fitS (lowS q) = frS q := rfl
set_option maxHeartbeats 400000 in
theorem rffits_any (w : World) (x : Fx) (S : Bool × List Nat × List Nat × Int) (hx : x.ok w) (l1 : x.xs.length ≤ 10000) (l2 : x.ys.length ≤ 10000) (hs : fitS (x.b, x.xs, x.ys) = S) : Calls Try.prog 43 #[x.val] w (FracRes w S) := by
  have HS := Lib.hid hs
  clear hs
  by_cases hl : 128 < x.xs.length ∨ 128 < x.ys.length
  · have HL := Lib.hid hl
    clear hl
    go_enter Try.func43, Try.ntmps43
    go_wp2_with fail
    have hs1 : w.heap.size < (w.alloc (.cells x.cells 26)).heap.size := by simp
    have b0 := (Below.refl w.heap.size w).alloc (Nat.le_refl _) (.cells x.cells 26)
    have b1 := (Below.refl (w.alloc (.cells x.cells 26)).heap.size (w.alloc (.cells x.cells 26))).alloc (Nat.le_refl _) (.cells #[.bool false, .slice none 0 0, .slice none 0 0] 26)
    have bx := (bk3_alloc w (.bool x.b) (.slice x.A x.xs.length x.c) (.slice x.D x.ys.length x.d)).below b1
    have bk := bk3_new (w.alloc (.cells x.cells 26))
    rw [size_box] at bk
    have okx := (hx.below b0).below b1
    have bw := below_on b0 b1 (Nat.le_of_lt hs1)
    clear hs1 b0 b1
    revert bx bk okx bw
    generalize ((w.alloc (.cells x.cells 26)).alloc (.cells #[.bool false, .slice none 0 0, .slice none 0 0] 26)) = w1
    intro bx bk okx bw
    have tx := bx
    obtain ⟨x0, x1, x2, xf0, xf1, xf2, xlt, xb⟩ := tx
    clear xb
    go_wp2_with fail
    clear x0 x1 x2 xf0 xf1 xf2 xlt
    refine (rflarge_any w1 x true l1 l2 (decide_eq_true HL.out)).mono ?_
    rintro e wn ⟨rfl, bb⟩
    try replace bx := bx.below bb
    try replace by_ := by_.below bb
    try replace bk := bk.below bb
    try replace okx := okx.below bb
    try replace oky := oky.below bb
    try replace na := na.below bb
    try replace nb := nb.below bb
    try replace nc := nc.below bb
    try replace nd := nd.below bb
    try replace ne := ne.below bb
    replace bw := below_on bw bb bw.size
    clear bb
    have tk := bk
    obtain ⟨k0, k1, k2, kf0, kf1, kf2, klt, kb⟩ := tk
    clear kb
    go_wp2_with fail
    refine bodyPost_ret (v := .tuple #[(Fx.nil : Fx).val, .int .i64 2]) (by simp [results, Try.results43, go_sem, k0, k1, k2]) rfl ?_
    rw [← HS.out, fitS, if_pos HL.out]
    exact ⟨Fx.nil, rfl, ⟨rfl, rfl, rfl⟩, Fx.nil_ok _, set3g bw (by omega)⟩
  · have HL : Hid (¬ (128 < x.xs.length ∨ 128 < x.ys.length)) := hl
    clear hl
    go_enter Try.func43, Try.ntmps43
    go_wp2_with fail
    have hs1 : w.heap.size < (w.alloc (.cells x.cells 26)).heap.size := by simp
    have b0 := (Below.refl w.heap.size w).alloc (Nat.le_refl _) (.cells x.cells 26)
    have b1 := (Below.refl (w.alloc (.cells x.cells 26)).heap.size (w.alloc (.cells x.cells 26))).alloc (Nat.le_refl _) (.cells #[.bool false, .slice none 0 0, .slice none 0 0] 26)
    have bx := (bk3_alloc w (.bool x.b) (.slice x.A x.xs.length x.c) (.slice x.D x.ys.length x.d)).below b1
    have bk := bk3_new (w.alloc (.cells x.cells 26))
    rw [size_box] at bk
    have okx := (hx.below b0).below b1
    have bw := below_on b0 b1 (Nat.le_of_lt hs1)
    clear hs1 b0 b1
    revert bx bk okx bw
    generalize ((w.alloc (.cells x.cells 26)).alloc (.cells #[.bool false, .slice none 0 0, .slice none 0 0] 26)) = w1
    intro bx bk okx bw
    have tx := bx
    obtain ⟨x0, x1, x2, xf0, xf1, xf2, xlt, xb⟩ := tx
    clear xb
    go_wp2_with fail
    clear x0 x1 x2 xf0 xf1 xf2 xlt
    refine (rflarge_any w1 x false l1 l2 (decide_eq_false HL.out)).mono ?_
    rintro e wn ⟨rfl, bb⟩
    try replace bx := bx.below bb
    try replace by_ := by_.below bb
    try replace bk := bk.below bb
    try replace okx := okx.below bb
    try replace oky := oky.below bb
    try replace na := na.below bb
    try replace nb := nb.below bb
    try replace nc := nc.below bb
    try replace nd := nd.below bb
    try replace ne := ne.below bb
    replace bw := below_on bw bb bw.size
    clear bb
    have tx := bx
    obtain ⟨x0, x1, x2, xf0, xf1, xf2, xlt, xb⟩ := tx
    clear xb
    have tk := bk
    obtain ⟨k0, k1, k2, kf0, kf1, kf2, klt, kb⟩ := tk
    clear kb
    go_wp2_with fail
    refine bodyPost_ret (v := .tuple #[(x : Fx).val, .int .i64 0]) (by simp [results, Try.results43, go_sem, k0, k1, k2]) rfl ?_
    rw [← HS.out, fitS, if_neg HL.out]
    exact ⟨x, rfl, ⟨rfl, rfl, rfl⟩, set3_ok okx bk rfl rfl rfl, set3g bw (by omega)⟩
end Go.Proofs.Ytnmomigaedfdoaa
