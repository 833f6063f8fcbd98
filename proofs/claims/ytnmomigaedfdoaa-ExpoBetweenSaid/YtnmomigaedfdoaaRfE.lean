/- The walks of drydockref02: Opposite, Sub. -/
import Derived.Test.YtnmomigaedfdoaaRfD
namespace Go.Proofs.Ytnmomigaedfdoaa
set_option maxRecDepth 100000
open Go.RowKit

/-- the reference leaves a zero as it is -/
abbrev oppF (x : Fx) : Fx := { x with b := if nv x.xs = 0 then x.b else !x.b }
set_option maxHeartbeats 400000 in
theorem rfopposite_any (w : World) (x y : Fx) (hx : x.ok w) (l1 : x.xs.length ≤ 10000) (hs : oppF x = y) : Calls Try.prog 52 #[x.val] w fun e w' => e = .returned y.val ∧ Below w.heap.size w w' := by
  have ll := Nat.le_trans (lim_length_le_length hx.num.u) l1
  have HS := Lib.hid hs
  clear hs
  by_cases hz : nv x.xs = 0
  · have hzl : (lim (nv x.xs)).length = 0 := by rw [hz, lim_zero]; rfl
    have HY : Hid (x = y) := Lib.hid (by rw [← HS.out, oppF, if_pos hz])
    clear hz
    go_enter Try.func52, Try.ntmps52
    go_wp2_with fail
    have hs1 : w.heap.size < (w.alloc (.cells x.cells 26)).heap.size := by simp
    have b0 := (Below.refl w.heap.size w).alloc (Nat.le_refl _) (.cells x.cells 26)
    have b1 := (Below.refl (w.alloc (.cells x.cells 26)).heap.size (w.alloc (.cells x.cells 26))).alloc (Nat.le_refl _) (.cells #[.bool false, .slice none 0 0, .slice none 0 0] 26)
    have bx := (bk3_alloc w (.bool x.b) (.slice x.A x.xs.length x.c) (.slice x.D x.ys.length x.d)).below b1
    have bk := bk3_new (w.alloc (.cells x.cells 26))
    rw [size_box] at bk
    have okx := (hx.below b0).below b1
    have bw := below_on b0 b1 (Nat.le_of_lt hs1)
    clear hs1 b0 b1
    revert bx bk okx bw
    generalize ((w.alloc (.cells x.cells 26)).alloc (.cells #[.bool false, .slice none 0 0, .slice none 0 0] 26)) = w1
    intro bx bk okx bw
    have tx := bx
    obtain ⟨x0, x1, x2, xf0, xf1, xf2, xlt, xb⟩ := tx
    clear xb
    go_wp2_with fail
    clear x0 x1 x2 xf0 xf1 xf2 xlt
    refine (rtrim_any w1 x.A x.c _ x.xs okx.num rfl (by omega)).mono ?_
    rintro e wn ⟨AT, cT, rfl, gn, bb⟩
    clear gn
    try replace bx := bx.below bb
    try replace by_ := by_.below bb
    try replace bk := bk.below bb
    try replace okx := okx.below bb
    try replace oky := oky.below bb
    try replace na := na.below bb
    try replace nb := nb.below bb
    try replace nc := nc.below bb
    try replace nd := nd.below bb
    try replace ne := ne.below bb
    replace bw := below_on bw bb bw.size
    clear bb
    have tx := bx
    obtain ⟨x0, x1, x2, xf0, xf1, xf2, xlt, xb⟩ := tx
    clear xb
    have tk := bk
    obtain ⟨k0, k1, k2, kf0, kf1, kf2, klt, kb⟩ := tk
    clear kb
    go_wp2_with fail
    refine bodyPost_ret (v := x.val) (by simp [results, Try.results52, go_sem, k0, k1, k2]) rfl ?_
    rw [← HY.out]
    exact ⟨rfl, set3g bw (by omega)⟩
  · have hzl : (lim (nv x.xs)).length ≠ 0 := fun h => hz (lim_eq_nil.1 (List.length_eq_zero_iff.1 h))
    have hzb : (((lim (nv x.xs)).length : Int) == 0) = false := beq_eq_false_iff_ne.2 (by omega)
    have HY : Hid (({ x with b := !x.b } : Fx) = y) := Lib.hid (by rw [← HS.out, oppF, if_neg hz])
    clear hz
    go_enter Try.func52, Try.ntmps52
    go_wp2_with fail
    have hs1 : w.heap.size < (w.alloc (.cells x.cells 26)).heap.size := by simp
    have b0 := (Below.refl w.heap.size w).alloc (Nat.le_refl _) (.cells x.cells 26)
    have b1 := (Below.refl (w.alloc (.cells x.cells 26)).heap.size (w.alloc (.cells x.cells 26))).alloc (Nat.le_refl _) (.cells #[.bool false, .slice none 0 0, .slice none 0 0] 26)
    have bx := (bk3_alloc w (.bool x.b) (.slice x.A x.xs.length x.c) (.slice x.D x.ys.length x.d)).below b1
    have bk := bk3_new (w.alloc (.cells x.cells 26))
    rw [size_box] at bk
    have okx := (hx.below b0).below b1
    have bw := below_on b0 b1 (Nat.le_of_lt hs1)
    clear hs1 b0 b1
    revert bx bk okx bw
    generalize ((w.alloc (.cells x.cells 26)).alloc (.cells #[.bool false, .slice none 0 0, .slice none 0 0] 26)) = w1
    intro bx bk okx bw
    have tx := bx
    obtain ⟨x0, x1, x2, xf0, xf1, xf2, xlt, xb⟩ := tx
    clear xb
    go_wp2_with fail
    clear x0 x1 x2 xf0 xf1 xf2 xlt
    refine (rtrim_any w1 x.A x.c _ x.xs okx.num rfl (by omega)).mono ?_
    rintro e wn ⟨AT, cT, rfl, gn, bb⟩
    clear gn
    try replace bx := bx.below bb
    try replace by_ := by_.below bb
    try replace bk := bk.below bb
    try replace okx := okx.below bb
    try replace oky := oky.below bb
    try replace na := na.below bb
    try replace nb := nb.below bb
    try replace nc := nc.below bb
    try replace nd := nd.below bb
    try replace ne := ne.below bb
    replace bw := below_on bw bb bw.size
    clear bb
    have tx := bx
    obtain ⟨x0, x1, x2, xf0, xf1, xf2, xlt, xb⟩ := tx
    clear xb
    have tk := bk
    obtain ⟨k0, k1, k2, kf0, kf1, kf2, klt, kb⟩ := tk
    clear kb
    go_wp2_with fail
    refine bodyPost_ret (v := ({ x with b := !x.b } : Fx).val) (by simp [results, Try.results52, go_sem, k0, k1, k2]) rfl ?_
    rw [← HY.out]
    exact ⟨rfl, set3g bw (by omega)⟩
theorem oppF_q (x : Fx) : (oppF x).q = - x.q := by
  unfold oppF Fx.q
  by_cases h : nv x.xs = 0
  · rw [if_pos h, h]
    rcases Nat.eq_zero_or_pos (nv x.ys) with h0 | h0
    · rw [h0]; simp [qv]
    · rw [(qv_zero (b := x.b) (n := 0) (d := nv x.ys) (by omega)).2 rfl]; simp
  · rw [if_neg h]; exact qv_opp _ _ _
theorem rsubF_addF (x y : Fx) : addF x (oppF y) = subF x y := by
  have e2 : (oppF y).v ↔ y.v := Iff.rfl
  simp only [addF, subF, oppF_q, e2, Rat.sub_eq_add_neg]
set_option maxHeartbeats 1600000 in
theorem rfsub_any (w : World) (x y : Fx) (S : Bool × List Nat × List Nat × Int) (hx : x.ok w) (hy : y.ok w) (l1 : x.xs.length ≤ 10000) (l2 : x.ys.length ≤ 10000) (m1 : y.xs.length ≤ 10000) (m2 : y.ys.length ≤ 10000) (hs : subF x y = S) : Calls Try.prog 21 #[x.val, y.val] w (FracRes w S) := by
  have HS : Hid (addF x (oppF y) = S) := Lib.hid ((rsubF_addF x y).trans hs)
  clear hs
  go_enter Try.func21, Try.ntmps21
  go_wp2_with fail
  have b0 := (Below.refl w.heap.size w).alloc (Nat.le_refl _) (.cells x.cells 26)
  have bx := bk3_alloc w (.bool x.b) (.slice x.A x.xs.length x.c) (.slice x.D x.ys.length x.d)
  have okx := hx.below b0
  have oky := hy.below b0
  have sz0 := size_box w (.cells x.cells 26)
  have bw := b0
  clear b0
  generalize (w.alloc (.cells x.cells 26)) = wa at bx okx oky sz0 bw ⊢
  have b1 := (Below.refl wa.heap.size wa).alloc (Nat.le_refl _) (.cells y.cells 26)
  have by_ := bk3_alloc wa (.bool y.b) (.slice y.A y.xs.length y.c) (.slice y.D y.ys.length y.d)
  have sz1 := size_box wa (.cells y.cells 26)
  rw [sz0] at by_ sz1
  replace bx := bx.below b1
  replace okx := okx.below b1
  replace oky := oky.below b1
  replace bw := below_on bw b1 bw.size
  clear b1
  generalize (wa.alloc (.cells y.cells 26)) = wb at bx by_ okx oky bw sz1 ⊢
  have b2 := (Below.refl wb.heap.size wb).alloc (Nat.le_refl _) (.cells #[.bool false, .slice none 0 0, .slice none 0 0] 26)
  have bk := bk3_new wb
  rw [sz1] at bk
  replace bx := bx.below b2
  replace by_ := by_.below b2
  replace okx := okx.below b2
  replace oky := oky.below b2
  replace bw := below_on bw b2 bw.size
  clear b2 sz0 sz1
  generalize (wb.alloc (.cells #[.bool false, .slice none 0 0, .slice none 0 0] 26)) = w1 at bx by_ okx oky bw bk ⊢
  go_wp2_with fail
  have n20 : w.heap.size + 1 + 1 ≠ w.heap.size := by omega
  have n21 : w.heap.size + 1 + 1 ≠ w.heap.size + 1 := by omega
  have bb := below_drew (Below.refl w1.heap.size w1)
  try replace bx := bx.below bb
  try replace by_ := by_.below bb
  try replace bk := bk.below bb
  try replace okx := okx.below bb
  try replace oky := oky.below bb
  try replace ok1 := ok1.below bb
  try replace na := na.below bb
  try replace nb := nb.below bb
  try replace nc := nc.below bb
  try replace nd := nd.below bb
  try replace ne := ne.below bb
  replace bw := below_on bw bb bw.size
  clear bb
  go_region_held3 (fun w' => w'.cell? ⟨w.heap.size, 0, none⟩ = some (.bool x.b) ∧ w'.cell? ⟨w.heap.size, 1, none⟩ = some (.slice x.A x.xs.length x.c) ∧ w'.cell? ⟨w.heap.size, 2, none⟩ = some (.slice x.D x.ys.length x.d) ∧ w'.cell? ⟨w.heap.size + 1, 0, none⟩ = some (.bool y.b) ∧ w'.cell? ⟨w.heap.size + 1, 1, none⟩ = some (.slice y.A y.xs.length y.c) ∧ w'.cell? ⟨w.heap.size + 1, 2, none⟩ = some (.slice y.D y.ys.length y.d))
    (first | exact ⟨bx.c0, bx.c1, bx.c2, by_.c0, by_.c1, by_.c2⟩ | exact ⟨cell_set3 bx.c0 n20, cell_set3 bx.c1 n20, cell_set3 bx.c2 n20, cell_set3 by_.c0 n21, cell_set3 by_.c1 n21, cell_set3 by_.c2 n21⟩ | go_keep)
    (first
      | (go_at_call 52
         with_reducible refine (rfopposite_any _ y _ oky m1 rfl).mono ?_
         rintro e wn ⟨rfl, bb⟩
         replace bx := bx.below bb
         replace by_ := by_.below bb
         replace bk := bk.below bb
         replace okx := okx.below bb
         replace oky := oky.below bb
         replace bw := below_on bw bb bw.size
         clear bb)
      | (go_at_call 14
         with_reducible refine (rfadd_any _ x (oppF y) S okx ⟨oky.num, oky.den⟩ l1 l2 m1 m2 HS.out).mono ?_
         rintro e wn ⟨x1, rfl, hs1, ok1, bb⟩
         have HS1 := Lib.hid hs1
         replace bx := bx.below bb
         replace by_ := by_.below bb
         replace bk := bk.below bb
         replace bw := below_on bw bb bw.size
         have kk := bk
         obtain ⟨k0, k1, k2, kf0, kf1, kf2, klt, _⟩ := kk
         clear bb hs1))
  all_goals
    go_wp2_with fail
    refine bodyPost_ret (v := .tuple #[(x1 : Fx).val, .int .i64 S.2.2.2]) (by simp [results, Try.results21, go_sem, k0, k1, k2]) rfl ?_
    exact ⟨x1, rfl, HS1.out, set3_ok ok1 bk rfl rfl rfl, set3g bw (by omega)⟩
end Go.Proofs.Ytnmomigaedfdoaa
