/- The walks of drydockref02: Opposite, Sub. The walks of drydockref02: Order, Cmp. The walks of drydockref02: size, Make. The walks of drydockref02: Int, Sign; the slices of fractions that long takes. The order of rational numbers, as Cmp tells it. No program in sight. What the laws of fractions share. -/
import Derived.Test.YtnmomigaedfdoaaRfD
import Derived.Test.YtnmomigaedfdoaaFrG
namespace Go.Proofs.Ytnmomigaedfdoaa
set_option maxRecDepth 100000
open Go.RowKit

/-- the reference leaves a zero as it is -/
abbrev oppF (x : Fx) : Fx := { x with b := if nv x.xs = 0 then x.b else !x.b }
set_option maxHeartbeats 400000 in
theorem rfopposite_any (w : World) (x y : Fx) (hx : x.ok w) (l1 : x.xs.length ≤ 10000) (hs : oppF x = y) : Calls Try.prog 52 #[x.val] w fun e w' => e = .returned y.val ∧ Below w.heap.size w w' := by
  have ll := Nat.le_trans (lim_length_le_length hx.num.u) l1
  have HS := Lib.hid hs
  clear hs
  by_cases hz : nv x.xs = 0
  · have hzl : (lim (nv x.xs)).length = 0 := by rw [hz, lim_zero]; rfl
    have HY : Hid (x = y) := Lib.hid (by rw [← HS.out, oppF, if_pos hz])
    clear hz
    go_enter Try.func52, Try.ntmps52
    go_wp2_with fail
    have hs1 : w.heap.size < (w.alloc (.cells x.cells 26)).heap.size := by simp
    have b0 := (Below.refl w.heap.size w).alloc (Nat.le_refl _) (.cells x.cells 26)
    have b1 := (Below.refl (w.alloc (.cells x.cells 26)).heap.size (w.alloc (.cells x.cells 26))).alloc (Nat.le_refl _) (.cells #[.bool false, .slice none 0 0, .slice none 0 0] 26)
    have bx := (bk3_alloc w (.bool x.b) (.slice x.A x.xs.length x.c) (.slice x.D x.ys.length x.d)).below b1
    have bk := bk3_new (w.alloc (.cells x.cells 26))
    rw [size_box] at bk
    have okx := (hx.below b0).below b1
    have bw := below_on b0 b1 (Nat.le_of_lt hs1)
    clear hs1 b0 b1
    revert bx bk okx bw
    generalize ((w.alloc (.cells x.cells 26)).alloc (.cells #[.bool false, .slice none 0 0, .slice none 0 0] 26)) = w1
    intro bx bk okx bw
    have tx := bx
    obtain ⟨x0, x1, x2, xf0, xf1, xf2, xlt, xb⟩ := tx
    clear xb
    go_wp2_with fail
    clear x0 x1 x2 xf0 xf1 xf2 xlt
    refine (rtrim_any w1 x.A x.c _ x.xs okx.num rfl (by omega)).mono ?_
    rintro e wn ⟨AT, cT, rfl, gn, bb⟩
    clear gn
    try replace bx := bx.below bb
    try replace by_ := by_.below bb
    try replace bk := bk.below bb
    try replace okx := okx.below bb
    try replace oky := oky.below bb
    try replace na := na.below bb
    try replace nb := nb.below bb
    try replace nc := nc.below bb
    try replace nd := nd.below bb
    try replace ne := ne.below bb
    replace bw := below_on bw bb bw.size
    clear bb
    have tx := bx
    obtain ⟨x0, x1, x2, xf0, xf1, xf2, xlt, xb⟩ := tx
    clear xb
    have tk := bk
    obtain ⟨k0, k1, k2, kf0, kf1, kf2, klt, kb⟩ := tk
    clear kb
    go_wp2_with fail
    refine bodyPost_ret (v := x.val) (by simp [results, Try.results52, go_sem, k0, k1, k2]) rfl ?_
    rw [← HY.out]
    exact ⟨rfl, set3g bw (by omega)⟩
  · have hzl : (lim (nv x.xs)).length ≠ 0 := fun h => hz (lim_eq_nil.1 (List.length_eq_zero_iff.1 h))
    have hzb : (((lim (nv x.xs)).length : Int) == 0) = false := beq_eq_false_iff_ne.2 (by omega)
    have HY : Hid (({ x with b := !x.b } : Fx) = y) := Lib.hid (by rw [← HS.out, oppF, if_neg hz])
    clear hz
    go_enter Try.func52, Try.ntmps52
    go_wp2_with fail
    have hs1 : w.heap.size < (w.alloc (.cells x.cells 26)).heap.size := by simp
    have b0 := (Below.refl w.heap.size w).alloc (Nat.le_refl _) (.cells x.cells 26)
    have b1 := (Below.refl (w.alloc (.cells x.cells 26)).heap.size (w.alloc (.cells x.cells 26))).alloc (Nat.le_refl _) (.cells #[.bool false, .slice none 0 0, .slice none 0 0] 26)
    have bx := (bk3_alloc w (.bool x.b) (.slice x.A x.xs.length x.c) (.slice x.D x.ys.length x.d)).below b1
    have bk := bk3_new (w.alloc (.cells x.cells 26))
    rw [size_box] at bk
    have okx := (hx.below b0).below b1
    have bw := below_on b0 b1 (Nat.le_of_lt hs1)
    clear hs1 b0 b1
    revert bx bk okx bw
    generalize ((w.alloc (.cells x.cells 26)).alloc (.cells #[.bool false, .slice none 0 0, .slice none 0 0] 26)) = w1
    intro bx bk okx bw
    have tx := bx
    obtain ⟨x0, x1, x2, xf0, xf1, xf2, xlt, xb⟩ := tx
    clear xb
    go_wp2_with fail
    clear x0 x1 x2 xf0 xf1 xf2 xlt
    refine (rtrim_any w1 x.A x.c _ x.xs okx.num rfl (by omega)).mono ?_
    rintro e wn ⟨AT, cT, rfl, gn, bb⟩
    clear gn
    try replace bx := bx.below bb
    try replace by_ := by_.below bb
    try replace bk := bk.below bb
    try replace okx := okx.below bb
    try replace oky := oky.below bb
    try replace na := na.below bb
    try replace nb := nb.below bb
    try replace nc := nc.below bb
    try replace nd := nd.below bb
    try replace ne := ne.below bb
    replace bw := below_on bw bb bw.size
    clear bb
    have tx := bx
    obtain ⟨x0, x1, x2, xf0, xf1, xf2, xlt, xb⟩ := tx
    clear xb
    have tk := bk
    obtain ⟨k0, k1, k2, kf0, kf1, kf2, klt, kb⟩ := tk
    clear kb
    go_wp2_with fail
    refine bodyPost_ret (v := ({ x with b := !x.b } : Fx).val) (by simp [results, Try.results52, go_sem, k0, k1, k2]) rfl ?_
    rw [← HY.out]
    exact ⟨rfl, set3g bw (by omega)⟩
theorem oppF_q (x : Fx) : (oppF x).q = - x.q := by
  unfold oppF Fx.q
  by_cases h : nv x.xs = 0
  · rw [if_pos h, h]
    rcases Nat.eq_zero_or_pos (nv x.ys) with h0 | h0
    · rw [h0]; simp [qv]
    · rw [(qv_zero (b := x.b) (n := 0) (d := nv x.ys) (by omega)).2 rfl]; simp
  · rw [if_neg h]; exact qv_opp _ _ _
theorem rsubF_addF (x y : Fx) : addF x (oppF y) = subF x y := by
  have e2 : (oppF y).v ↔ y.v := Iff.rfl
  simp only [addF, subF, oppF_q, e2, Rat.sub_eq_add_neg]
set_option maxHeartbeats 1600000 in
theorem rfsub_any (w : World) (x y : Fx) (S : Bool × List Nat × List Nat × Int) (hx : x.ok w) (hy : y.ok w) (l1 : x.xs.length ≤ 10000) (l2 : x.ys.length ≤ 10000) (m1 : y.xs.length ≤ 10000) (m2 : y.ys.length ≤ 10000) (hs : subF x y = S) : Calls Try.prog 21 #[x.val, y.val] w (FracRes w S) := by
  have HS : Hid (addF x (oppF y) = S) := Lib.hid ((rsubF_addF x y).trans hs)
  clear hs
  go_enter Try.func21, Try.ntmps21
  go_wp2_with fail
  have b0 := (Below.refl w.heap.size w).alloc (Nat.le_refl _) (.cells x.cells 26)
  have bx := bk3_alloc w (.bool x.b) (.slice x.A x.xs.length x.c) (.slice x.D x.ys.length x.d)
  have okx := hx.below b0
  have oky := hy.below b0
  have sz0 := size_box w (.cells x.cells 26)
  have bw := b0
  clear b0
  generalize (w.alloc (.cells x.cells 26)) = wa at bx okx oky sz0 bw ⊢
  have b1 := (Below.refl wa.heap.size wa).alloc (Nat.le_refl _) (.cells y.cells 26)
  have by_ := bk3_alloc wa (.bool y.b) (.slice y.A y.xs.length y.c) (.slice y.D y.ys.length y.d)
  have sz1 := size_box wa (.cells y.cells 26)
  rw [sz0] at by_ sz1
  replace bx := bx.below b1
  replace okx := okx.below b1
  replace oky := oky.below b1
  replace bw := below_on bw b1 bw.size
  clear b1
  generalize (wa.alloc (.cells y.cells 26)) = wb at bx by_ okx oky bw sz1 ⊢
  have b2 := (Below.refl wb.heap.size wb).alloc (Nat.le_refl _) (.cells #[.bool false, .slice none 0 0, .slice none 0 0] 26)
  have bk := bk3_new wb
  rw [sz1] at bk
  replace bx := bx.below b2
  replace by_ := by_.below b2
  replace okx := okx.below b2
  replace oky := oky.below b2
  replace bw := below_on bw b2 bw.size
  clear b2 sz0 sz1
  generalize (wb.alloc (.cells #[.bool false, .slice none 0 0, .slice none 0 0] 26)) = w1 at bx by_ okx oky bw bk ⊢
  go_wp2_with fail
  have n20 : w.heap.size + 1 + 1 ≠ w.heap.size := by omega
  have n21 : w.heap.size + 1 + 1 ≠ w.heap.size + 1 := by omega
  have bb := below_drew (Below.refl w1.heap.size w1)
  try replace bx := bx.below bb
  try replace by_ := by_.below bb
  try replace bk := bk.below bb
  try replace okx := okx.below bb
  try replace oky := oky.below bb
  try replace ok1 := ok1.below bb
  try replace na := na.below bb
  try replace nb := nb.below bb
  try replace nc := nc.below bb
  try replace nd := nd.below bb
  try replace ne := ne.below bb
  replace bw := below_on bw bb bw.size
  clear bb
  go_region_held3 (fun w' => w'.cell? ⟨w.heap.size, 0, none⟩ = some (.bool x.b) ∧ w'.cell? ⟨w.heap.size, 1, none⟩ = some (.slice x.A x.xs.length x.c) ∧ w'.cell? ⟨w.heap.size, 2, none⟩ = some (.slice x.D x.ys.length x.d) ∧ w'.cell? ⟨w.heap.size + 1, 0, none⟩ = some (.bool y.b) ∧ w'.cell? ⟨w.heap.size + 1, 1, none⟩ = some (.slice y.A y.xs.length y.c) ∧ w'.cell? ⟨w.heap.size + 1, 2, none⟩ = some (.slice y.D y.ys.length y.d))
    (first | exact ⟨bx.c0, bx.c1, bx.c2, by_.c0, by_.c1, by_.c2⟩ | exact ⟨cell_set3 bx.c0 n20, cell_set3 bx.c1 n20, cell_set3 bx.c2 n20, cell_set3 by_.c0 n21, cell_set3 by_.c1 n21, cell_set3 by_.c2 n21⟩ | go_keep)
    (first
      | (go_at_call 52
         with_reducible refine (rfopposite_any _ y _ oky m1 rfl).mono ?_
         rintro e wn ⟨rfl, bb⟩
         replace bx := bx.below bb
         replace by_ := by_.below bb
         replace bk := bk.below bb
         replace okx := okx.below bb
         replace oky := oky.below bb
         replace bw := below_on bw bb bw.size
         clear bb)
      | (go_at_call 14
         with_reducible refine (rfadd_any _ x (oppF y) S okx ⟨oky.num, oky.den⟩ l1 l2 m1 m2 HS.out).mono ?_
         rintro e wn ⟨x1, rfl, hs1, ok1, bb⟩
         have HS1 := Lib.hid hs1
         replace bx := bx.below bb
         replace by_ := by_.below bb
         replace bk := bk.below bb
         replace bw := below_on bw bb bw.size
         have kk := bk
         obtain ⟨k0, k1, k2, kf0, kf1, kf2, klt, _⟩ := kk
         clear bb hs1))
  all_goals
    go_wp2_with fail
    refine bodyPost_ret (v := .tuple #[(x1 : Fx).val, .int .i64 S.2.2.2]) (by simp [results, Try.results21, go_sem, k0, k1, k2]) rfl ?_
    exact ⟨x1, rfl, HS1.out, set3_ok ok1 bk rfl rfl rfl, set3g bw (by omega)⟩
end Go.Proofs.Ytnmomigaedfdoaa
namespace Go.Proofs.Ytnmomigaedfdoaa
set_option maxRecDepth 100000
open Go.RowKit

theorem cmp3_swap (m n : Nat) : cmp3 n m = - cmp3 m n := by
  unfold cmp3
  repeat' split
  all_goals omega
theorem cmpQ_code2 {b b' : Bool} {n d n' d' : Nat} (h : d ≠ 0) (h' : d' ≠ 0) :
    cmpQ (qv b n d) (qv b' n' d') = if (b && decide (n * d' ≠ 0)) && (b' && decide (n' * d ≠ 0)) then cmp3 (n' * d) (n * d') else if b && decide (n * d' ≠ 0) then -1 else if b' && decide (n' * d ≠ 0) then 1 else cmp3 (n * d') (n' * d) := by
  have e1 : n * d' ≠ 0 ↔ n ≠ 0 := by rw [ne_eq, Nat.mul_eq_zero]; omega
  have e2 : n' * d ≠ 0 ↔ n' ≠ 0 := by rw [ne_eq, Nat.mul_eq_zero]; omega
  rw [cmpQ_code h h', cmp3_swap (n * d') (n' * d), decide_eq_decide.2 e1, decide_eq_decide.2 e2]
set_option maxHeartbeats 1600000 in
theorem rforder_any (w : World) (x y : Fx) (z : Int) (hx : x.ok w) (hy : y.ok w) (hvx : x.v) (hvy : y.v) (l1 : x.xs.length ≤ 10000) (l2 : x.ys.length ≤ 10000) (m1 : y.xs.length ≤ 10000) (m2 : y.ys.length ≤ 10000) (hs : cmpQ x.q y.q = z) : Calls Try.prog 47 #[x.val, y.val] w fun e w' => e = .returned (.int .i64 z) ∧ Below w.heap.size w w' := by
  have lx1 : (lim (nv x.xs)).length ≤ 128 := hvx.2.2
  have lx2 : (lim (nv x.ys)).length ≤ 128 := hvx.2.1
  have ly1 : (lim (nv y.xs)).length ≤ 128 := hvy.2.2
  have ly2 : (lim (nv y.ys)).length ≤ 128 := hvy.2.1
  have HC := Lib.hid ((cmpQ_code2 (b := x.b) (b' := y.b) (n := nv x.xs) (n' := nv y.xs) hvx.1 hvy.1).symm.trans hs)
  clear hvx hvy hs
  go_enter Try.func47, Try.ntmps47
  go_upto_region 1 with fail
  have b0 := (Below.refl w.heap.size w).alloc (Nat.le_refl _) (.cells x.cells 26)
  have bx := bk3_alloc w (.bool x.b) (.slice x.A x.xs.length x.c) (.slice x.D x.ys.length x.d)
  have okx := hx.below b0
  have oky := hy.below b0
  have sz0 := size_box w (.cells x.cells 26)
  have bw := b0
  clear b0
  generalize (w.alloc (.cells x.cells 26)) = wa at bx okx oky sz0 bw ⊢
  have b1 := (Below.refl wa.heap.size wa).alloc (Nat.le_refl _) (.cells y.cells 26)
  have by_ := bk3_alloc wa (.bool y.b) (.slice y.A y.xs.length y.c) (.slice y.D y.ys.length y.d)
  rw [sz0] at by_
  replace bx := bx.below b1
  replace okx := okx.below b1
  replace oky := oky.below b1
  replace bw := below_on bw b1 bw.size
  clear b1 sz0
  generalize (wa.alloc (.cells y.cells 26)) = w1 at bx by_ okx oky bw ⊢
  go_cut [5, 6] (fun s1 s2 wx => ∃ (A1 A2 : Option Addr) (c1 c2 : Nat), s1 = .slice A1 (lim (nv x.xs * nv y.ys)).length c1 ∧ s2 = .slice A2 (lim (nv y.xs * nv x.ys)).length c2 ∧ Nt wx A1 c1 (lim (nv x.xs * nv y.ys)) ∧ Nt wx A2 c2 (lim (nv y.xs * nv x.ys)) ∧ Below w1.heap.size w1 wx)
  case first =>
    have bw0 := Below.refl w1.heap.size w1
    have bb := below_drew (Below.refl w1.heap.size w1)
    replace bw0 := below_on bw0 bb bw0.size
    replace bx := bx.below bb
    replace by_ := by_.below bb
    replace okx := okx.below bb
    replace oky := oky.below bb
    replace bw := below_on bw bb bw.size
    clear bb
    go_region_held3 (fun w' => w'.cell? ⟨w.heap.size, 0, none⟩ = some (.bool x.b) ∧ w'.cell? ⟨w.heap.size, 1, none⟩ = some (.slice x.A x.xs.length x.c) ∧ w'.cell? ⟨w.heap.size, 2, none⟩ = some (.slice x.D x.ys.length x.d) ∧ w'.cell? ⟨w.heap.size + 1, 0, none⟩ = some (.bool y.b) ∧ w'.cell? ⟨w.heap.size + 1, 1, none⟩ = some (.slice y.A y.xs.length y.c) ∧ w'.cell? ⟨w.heap.size + 1, 2, none⟩ = some (.slice y.D y.ys.length y.d))
      (first | exact ⟨bx.c0, bx.c1, bx.c2, by_.c0, by_.c1, by_.c2⟩ | go_keep)
      (first
        | (go_at_call 41
           with_reducible refine (rftimes_ok _ x.A y.D x.c y.d _ _ x.xs y.ys okx.num oky.den rfl rfl l1 m2 lx1 ly2).mono ?_
           rintro e wn ⟨A1, c1, rfl, n1, bb⟩
           try replace n2 := n2.below bb
           replace bw0 := below_on bw0 bb bw0.size
           replace bx := bx.below bb
           replace by_ := by_.below bb
           replace okx := okx.below bb
           replace oky := oky.below bb
           clear bb)
        | (go_at_call 41
           with_reducible refine (rftimes_ok _ y.A x.D y.c x.d _ _ y.xs x.ys oky.num okx.den rfl rfl m1 l2 ly1 lx2).mono ?_
           rintro e wn ⟨A2, c2, rfl, n2, bb⟩
           try replace n1 := n1.below bb
           replace bw0 := below_on bw0 bb bw0.size
           replace bx := bx.below bb
           replace by_ := by_.below bb
           replace okx := okx.below bb
           replace oky := oky.below bb
           clear bb))
    all_goals
      go_wp2_with fail
      go_meet
      case rel => exact ⟨_, _, _, _, rfl, rfl, n1, n2, bw0⟩
  case rest =>
    obtain ⟨A1, A2, c1, c2, rfl, rfl, na, nb, bb⟩ := hcut
    try replace bx := bx.below bb
    try replace by_ := by_.below bb
    try replace okx := okx.below bb
    try replace oky := oky.below bb
    try replace na := na.below bb
    try replace nb := nb.below bb
    try replace nc := nc.below bb
    try replace nd := nd.below bb
    try replace ne := ne.below bb
    replace bw := below_on bw bb bw.size
    clear bb
    have lM := len_mulf lx1 ly2
    have lN := len_mulf ly1 lx2
    revert na nb lM lN HC
    generalize nv x.xs * nv y.ys = M
    generalize nv y.xs * nv x.ys = N
    intro HC na nb lM lN
    obtain ⟨a1, ha1⟩ : ∃ a1, (x.b && decide (M ≠ 0)) = a1 := ⟨_, rfl⟩
    obtain ⟨a2, ha2⟩ : ∃ a2, (y.b && decide (N ≠ 0)) = a2 := ⟨_, rfl⟩
    rw [ha1, ha2] at HC
    have HA1 := Lib.hid ha1
    have HA2 := Lib.hid ha2
    clear ha1 ha2
    go_upto_region 2 with fail
    go_cut [7, 8] (fun av bv wx => av = .bool a1 ∧ bv = .bool a2 ∧ wx = wc)
    case first =>
      rcases Nat.eq_zero_or_pos M with hM | hM
      · have hMl : (lim M).length = 0 := by rw [hM, lim_zero]; rfl
        rcases Nat.eq_zero_or_pos N with hN | hN
        · have hNl : (lim N).length = 0 := by rw [hN, lim_zero]; rfl
          skip
          have HM0 := Lib.hid hM
          have HN0 := Lib.hid hN
          clear hM hN
          cases hxb : x.b <;> cases hyb : y.b
          all_goals
            rw [hxb] at bx
            rw [hyb] at by_
            have tx := bx
            obtain ⟨x0, x1, x2, xf0, xf1, xf2, xlt, _⟩ := tx
            have ty := by_
            obtain ⟨y0, y1, y2, yf0, yf1, yf2, ylt, _⟩ := ty
            go_wp2_with fail
            go_meet
            case rel => exact ⟨congrArg Value.bool (by have := HM0.out; rw [← HA1.out, hxb]; simp; try omega), congrArg Value.bool (by have := HN0.out; rw [← HA2.out, hyb]; simp; try omega), rfl⟩
        · have hNl : 0 < (lim N).length := lim_length_pos.2 (by omega)
          skip
          have HM0 := Lib.hid hM
          have HN0 := Lib.hid hN
          clear hM hN
          cases hxb : x.b <;> cases hyb : y.b
          all_goals
            rw [hxb] at bx
            rw [hyb] at by_
            have tx := bx
            obtain ⟨x0, x1, x2, xf0, xf1, xf2, xlt, _⟩ := tx
            have ty := by_
            obtain ⟨y0, y1, y2, yf0, yf1, yf2, ylt, _⟩ := ty
            go_wp2_with fail
            go_meet
            case rel => exact ⟨congrArg Value.bool (by have := HM0.out; rw [← HA1.out, hxb]; simp; try omega), congrArg Value.bool (by have := HN0.out; rw [← HA2.out, hyb]; simp; try omega), rfl⟩
      · have hMl : 0 < (lim M).length := lim_length_pos.2 (by omega)
        rcases Nat.eq_zero_or_pos N with hN | hN
        · have hNl : (lim N).length = 0 := by rw [hN, lim_zero]; rfl
          skip
          have HM0 := Lib.hid hM
          have HN0 := Lib.hid hN
          clear hM hN
          cases hxb : x.b <;> cases hyb : y.b
          all_goals
            rw [hxb] at bx
            rw [hyb] at by_
            have tx := bx
            obtain ⟨x0, x1, x2, xf0, xf1, xf2, xlt, _⟩ := tx
            have ty := by_
            obtain ⟨y0, y1, y2, yf0, yf1, yf2, ylt, _⟩ := ty
            go_wp2_with fail
            go_meet
            case rel => exact ⟨congrArg Value.bool (by have := HM0.out; rw [← HA1.out, hxb]; simp; try omega), congrArg Value.bool (by have := HN0.out; rw [← HA2.out, hyb]; simp; try omega), rfl⟩
        · have hNl : 0 < (lim N).length := lim_length_pos.2 (by omega)
          skip
          have HM0 := Lib.hid hM
          have HN0 := Lib.hid hN
          clear hM hN
          cases hxb : x.b <;> cases hyb : y.b
          all_goals
            rw [hxb] at bx
            rw [hyb] at by_
            have tx := bx
            obtain ⟨x0, x1, x2, xf0, xf1, xf2, xlt, _⟩ := tx
            have ty := by_
            obtain ⟨y0, y1, y2, yf0, yf1, yf2, ylt, _⟩ := ty
            go_wp2_with fail
            go_meet
            case rel => exact ⟨congrArg Value.bool (by have := HM0.out; rw [← HA1.out, hxb]; simp; try omega), congrArg Value.bool (by have := HN0.out; rw [← HA2.out, hyb]; simp; try omega), rfl⟩
    case rest =>
      obtain ⟨rfl, rfl, rfl⟩ := hcut
      cases a1 <;> cases a2
      · go_wp2_with fail
        refine (rcmp_any _ A1 A2 c1 c2 _ _ (lim M) (lim N) z na nb rfl rfl (by rw [nv_lim]; omega) (by rw [nv_lim]; omega) (by rw [nv_lim, nv_lim]; exact HC.out)).mono ?_
        rintro e wn ⟨rfl, bb⟩
        replace bw := below_on bw bb bw.size
        go_wp2_with fail
        go_ret
        exact ⟨rfl, bw⟩
      · go_wp2_with fail
        go_ret
        exact ⟨by rw [← HC.out]; rfl, bw⟩
      · go_wp2_with fail
        go_ret
        exact ⟨by rw [← HC.out]; rfl, bw⟩
      · go_wp2_with fail
        refine (rcmp_any _ A2 A1 c2 c1 _ _ (lim N) (lim M) z nb na rfl rfl (by rw [nv_lim]; omega) (by rw [nv_lim]; omega) (by rw [nv_lim, nv_lim]; exact HC.out)).mono ?_
        rintro e wn ⟨rfl, bb⟩
        replace bw := below_on bw bb bw.size
        go_wp2_with fail
        go_ret
        exact ⟨rfl, bw⟩
end Go.Proofs.Ytnmomigaedfdoaa
namespace Go.Proofs.Ytnmomigaedfdoaa
set_option maxRecDepth 100000
open Go.RowKit

theorem frS_low {b : Bool} {n d : Nat} (hd : d ≠ 0) (ln : (lim n).length ≤ 2) (ld : (lim d).length ≤ 2) : frS (qv b n d) = ((lowS (qv b n d)).1, (lowS (qv b n d)).2.1, (lowS (qv b n d)).2.2, 0) := by
  rw [frS, if_neg, lowS]
  have h1 := lim_length_mono (Nat.div_le_self n (Nat.gcd n d))
  have h2 := lim_length_mono (Nat.div_le_self d (Nat.gcd n d))
  rw [bigQ, qv_abs hd, qv_den hd]
  omega
theorem wrapi_add {v : Int} (h0 : -9223372036854775808 ≤ v) (h : v < 0) : IntKind.i64.wrap (v + 1) = v + 1 := IntWalk.i64_in _ (by omega)
theorem wrapi_neg {v : Int} (h0 : -9223372036854775808 ≤ v) (h : v < 0) : IntKind.i64.wrap (-(v + 1)) = -(v + 1) := IntWalk.i64_in _ (by omega)
theorem wrapu_neg1 {v : Int} (h0 : -9223372036854775808 ≤ v) (h : v < 0) : IntKind.u64.wrap (-(v + 1)) = -(v + 1) := by rw [IntKind.wrap_u64]; omega
theorem wrapu_size {v : Int} (h0 : -9223372036854775808 ≤ v) (h : v < 0) : IntKind.u64.wrap (-(v + 1) + 1) = (v.natAbs : Int) := by rw [IntKind.wrap_u64]; omega
theorem rfsize_any (w : World) (v : Int) (h0 : -9223372036854775808 ≤ v) (h1 : v ≤ 9223372036854775807) : Calls Try.prog 66 #[.int .i64 v] w fun e w' => e = .returned (.int .u64 (v.natAbs : Int)) ∧ w = w' := by
  by_cases hv : v < 0
  · have hw1 := wrapi_add h0 hv
    have hw2 := wrapi_neg h0 hv
    have hw3 := wrapu_neg1 h0 hv
    have hw4 := wrapu_size h0 hv
    have hd : decide (v < 0) = true := decide_eq_true hv
    go_enter Try.func66, Try.ntmps66
    go_wp2_with fail
    go_ret
    exact ⟨rfl, rfl⟩
  · have hw := wrapu_pos (Int.not_lt.1 hv) h1
    have hd : decide (v < 0) = false := decide_eq_false hv
    go_enter Try.func66, Try.ntmps66
    go_wp2_with fail
    go_ret
    exact ⟨rfl, rfl⟩
set_option maxHeartbeats 1600000 in
theorem rfmake_any (w : World) (n d : Int) (S : Bool × List Nat × List Nat × Int) (n0 : -9223372036854775808 ≤ n) (n1 : n ≤ 9223372036854775807) (d0 : -9223372036854775808 ≤ d) (d1 : d ≤ 9223372036854775807) (hs : makeF n d = S) : Calls Try.prog 39 #[.int .i64 n, .int .i64 d] w (FracRes w S) := by
  have HS := Lib.hid hs
  clear hs
  by_cases hd : d = 0
  · have HD := Lib.hid hd
    have hdd : (d == 0) = true := by simpa using hd
    clear hd
    go_enter Try.func39, Try.ntmps39
    go_wp2_with fail
    have bw := (Below.refl w.heap.size w).alloc (Nat.le_refl _) (.cells #[.bool false, .slice none 0 0, .slice none 0 0] 26)
    have bk := bk3_new w
    generalize (w.alloc (.cells #[.bool false, .slice none 0 0, .slice none 0 0] 26)) = w1 at bw bk ⊢
    have tk := bk
    obtain ⟨k0, k1, k2, kf0, kf1, kf2, klt, kb⟩ := tk
    clear kb
    go_wp2_with fail
    refine bodyPost_ret (v := .tuple #[(Fx.nil : Fx).val, .int .i64 3]) (by simp [results, Try.results39, go_sem, k0, k1, k2]) rfl ?_
    rw [← HS.out, makeF, if_pos HD.out]
    exact ⟨Fx.nil, rfl, ⟨rfl, rfl, rfl⟩, Fx.nil_ok _, bw⟩
  · have HD : Hid (¬ d = 0) := hd
    have hdd : (d == 0) = false := by simpa using hd
    have ln := lim_len2 (m := n.natAbs) (by omega)
    have ld := lim_len2 (m := d.natAbs) (by omega)
    have lnn : (lim (nv (lim n.natAbs))).length ≤ 512 := by rw [nv_lim]; omega
    have ldd : (lim (nv (lim d.natAbs))).length ≤ 512 := by rw [nv_lim]; omega
    have ne : nv (lim d.natAbs) ≠ 0 := by rw [nv_lim]; omega
    have LNN := Lib.hid lnn
    have LDD := Lib.hid ldd
    have NE : Hid (nv (lim d.natAbs) ≠ 0) := ne
    clear hd lnn ldd ne
    go_enter Try.func39, Try.ntmps39
    go_wp2_with fail
    have bw := (Below.refl w.heap.size w).alloc (Nat.le_refl _) (.cells #[.bool false, .slice none 0 0, .slice none 0 0] 26)
    have bk := bk3_new w
    generalize (w.alloc (.cells #[.bool false, .slice none 0 0, .slice none 0 0] 26)) = w1 at bw bk ⊢
    go_wp2_with fail
    refine (rfsize_any w1 n n0 n1).mono ?_
    rintro e wn ⟨rfl, rfl⟩
    go_wp2_with fail
    refine (rmake_any _ n.natAbs (by omega)).mono ?_
    rintro e wn ⟨AN, cN, rfl, gn, bb⟩
    have na := gn.nt (lim_u32 _)
    clear gn
    try replace bx := bx.below bb
    try replace by_ := by_.below bb
    try replace bk := bk.below bb
    try replace okx := okx.below bb
    try replace oky := oky.below bb
    try replace ok1 := ok1.below bb
    try replace na := na.below bb
    try replace nb := nb.below bb
    try replace nc := nc.below bb
    try replace nd := nd.below bb
    try replace ne := ne.below bb
    replace bw := below_on bw bb bw.size
    clear bb
    go_wp2_with fail
    refine (rfsize_any wn d d0 d1).mono ?_
    rintro e wn ⟨rfl, rfl⟩
    go_wp2_with fail
    refine (rmake_any _ d.natAbs (by omega)).mono ?_
    rintro e wn ⟨AD, cD, rfl, gn, bb⟩
    have nb := gn.nt (lim_u32 _)
    clear gn
    try replace bx := bx.below bb
    try replace by_ := by_.below bb
    try replace bk := bk.below bb
    try replace okx := okx.below bb
    try replace oky := oky.below bb
    try replace ok1 := ok1.below bb
    try replace na := na.below bb
    try replace nb := nb.below bb
    try replace nc := nc.below bb
    try replace nd := nd.below bb
    try replace ne := ne.below bb
    replace bw := below_on bw bb bw.size
    clear bb
    go_wp2_with fail
    refine (rflowest_any _ (!(decide (n < 0) == decide (d < 0))) AN AD cN cD _ _ (lim n.natAbs) (lim d.natAbs) na nb rfl rfl NE.out (by omega) (by omega) LNN.out LDD.out).mono ?_
    rintro e wn ⟨x1, rfl, hs1, ok1, bb⟩
    have HS1 := Lib.hid hs1
    clear hs1
    try replace bx := bx.below bb
    try replace by_ := by_.below bb
    try replace bk := bk.below bb
    try replace okx := okx.below bb
    try replace oky := oky.below bb
    try replace ok1 := ok1.below bb
    try replace na := na.below bb
    try replace nb := nb.below bb
    try replace nc := nc.below bb
    try replace nd := nd.below bb
    try replace ne := ne.below bb
    replace bw := below_on bw bb bw.size
    clear bb
    have tk := bk
    obtain ⟨k0, k1, k2, kf0, kf1, kf2, klt, kb⟩ := tk
    clear kb
    go_wp2_with fail
    refine bodyPost_ret (v := .tuple #[(x1 : Fx).val, .int .i64 0]) (by simp [results, Try.results39, go_sem, k0, k1, k2]) rfl ?_
    have hS : S = ((lowS (qv (!(decide (n < 0) == decide (d < 0))) (nv (lim n.natAbs)) (nv (lim d.natAbs)))).1, (lowS (qv (!(decide (n < 0) == decide (d < 0))) (nv (lim n.natAbs)) (nv (lim d.natAbs)))).2.1, (lowS (qv (!(decide (n < 0) == decide (d < 0))) (nv (lim n.natAbs)) (nv (lim d.natAbs)))).2.2, 0) := by
      rw [← HS.out, makeF, if_neg HD.out, nv_lim, nv_lim, ← qv_divInt HD.out]
      exact frS_low (by have := HD.out; omega) (by omega) (by omega)
    rw [hS]
    exact ⟨x1, rfl, HS1.out, set3_ok ok1 bk rfl rfl rfl, set3g bw (by omega)⟩
end Go.Proofs.Ytnmomigaedfdoaa
namespace Go.Proofs.Ytnmomigaedfdoaa
set_option maxRecDepth 100000
open Go.RowKit

set_option maxHeartbeats 1600000 in
theorem rfint_any (w : World) (n : Int) (n0 : -9223372036854775808 ≤ n) (n1 : n ≤ 9223372036854775807) (hz : makeF n 1 = okS (Rat.divInt n 1)) : Calls Try.prog 16 #[.int .i64 n] w (FracNew w ((okS (Rat.divInt n 1)).1, (okS (Rat.divInt n 1)).2.1, (okS (Rat.divInt n 1)).2.2.1)) := by
  have HZ := Lib.hid hz
  clear hz
  go_enter Try.func16, Try.ntmps16
  go_wp2_with fail
  have bw := (Below.refl w.heap.size w).alloc (Nat.le_refl _) (.cells #[.bool false, .slice none 0 0, .slice none 0 0] 26)
  have bk := bk3_new w
  generalize (w.alloc (.cells #[.bool false, .slice none 0 0, .slice none 0 0] 26)) = w1 at bw bk ⊢
  refine (rfmake_any w1 n 1 _ n0 n1 (by omega) (by omega) HZ.out).mono ?_
  rintro e wn ⟨x1, rfl, hs1, ok1, bb⟩
  have HS1 := Lib.hid hs1
  clear hs1
  replace bk := bk.below bb
  replace bw := below_on bw bb bw.size
  clear bb
  go_upto_region 2 with fail
  have a1 := (fa_alloc ok1).1
  have bb := (fa_alloc ok1).2
  clear ok1
  generalize (wn.alloc (.cells #[.bool x1.b, .slice x1.A x1.xs.length x1.c, .slice x1.D x1.ys.length x1.d] 26)) = wm at a1 bb ⊢
  replace bk := bk.below bb
  replace bw := below_on bw bb bw.size
  clear bb
  generalize wn.heap.size = g1 at a1 ⊢
  have ci0 := a1.c0
  have ci1 := a1.c1
  have ci2 := a1.c2
  have tk := bk
  obtain ⟨k0, k1, k2, kf0, kf1, kf2, klt, kb⟩ := tk
  clear kb
  go_wp2_with fail
  refine bodyPost_ret (v := x1.val) (by simp [results, Try.results16, go_sem, k0, k1, k2]) rfl ?_
  exact ⟨x1, rfl, HS1.out, set3_ok a1.ok bk rfl rfl rfl, set3g bw (Nat.le_refl _)⟩
theorem makeF_int {n : Int} (n0 : -9223372036854775808 ≤ n) (n1 : n ≤ 9223372036854775807) : makeF n 1 = okS (Rat.divInt n 1) := by
  rw [makeF, if_neg (by omega)]
  have h : Sz (Rat.divInt n 1) 2 2 := by
    rw [← qv_divInt (by omega)]
    exact Sz.of_qv (by omega) (lim_len2 (by omega)) (lim_len2 (by omega))
  exact frS_ok (h.mono (by omega) (by omega))
theorem below_undrew {w w' : World} (h : Below w.drew.heap.size w.drew w') : Below w.heap.size w w' := ⟨h.os, h.tape, h.output, h.size, h.block⟩
end Go.Proofs.Ytnmomigaedfdoaa
namespace Go.Proofs.Ytnmomigaedfdoaa
set_option maxRecDepth 100000

theorem cmpQ_lt {p q : Rat} (h : p < q) : cmpQ p q = -1 := by rw [cmpQ, if_pos h]
theorem cmpQ_gt {p q : Rat} (h : q < p) : cmpQ p q = 1 := by rw [cmpQ, if_neg (by grind), if_pos h]
theorem cmpQ_eq {p q : Rat} (h : p = q) : cmpQ p q = 0 := by subst h; rw [cmpQ, if_neg (by grind), if_neg (by grind)]
theorem tri (p q : Rat) : p < q ∨ p = q ∨ q < p := by grind
theorem cmpQ_cases (p q : Rat) : (p < q ∧ cmpQ p q = -1) ∨ (p = q ∧ cmpQ p q = 0) ∨ (q < p ∧ cmpQ p q = 1) := by
  rcases tri p q with h | h | h
  · exact .inl ⟨h, cmpQ_lt h⟩
  · exact .inr (.inl ⟨h, cmpQ_eq h⟩)
  · exact .inr (.inr ⟨h, cmpQ_gt h⟩)
end Go.Proofs.Ytnmomigaedfdoaa
namespace Go.Proofs.Ytnmomigaedfdoaa
set_option maxRecDepth 100000
open Go.RowKit

theorem Fx.ok.drew {x : Fx} {w : World} (h : x.ok w) : x.ok w.drew := h.below ((Below.refl w.heap.size w).drew)
def lensB (vs : List Fx) : Prop := ∀ v ∈ vs, v.xs.length ≤ 9223372036854775807 ∧ v.ys.length ≤ 9223372036854775807
theorem addF_ok {x y : Fx} {p q : Rat} (hx : x.v) (hy : y.v) (ex : x.q = p) (ey : y.q = q) (h : Sz (p + q) 128 128) : addF x y = okS (p + q) := by
  rw [addF, if_pos ⟨hx, hy⟩, ex, ey]; exact frS_ok h
theorem cmpF_ok {x y : Fx} {p q : Rat} {z : Int} (hx : x.v) (hy : y.v) (ex : x.q = p) (ey : y.q = q) (h : cmpQ p q = z) : cmpF x y = (z, 0) := by
  rw [cmpF, if_pos ⟨hx, hy⟩, ex, ey, h]
theorem subF_ok {x y : Fx} {p q : Rat} (hx : x.v) (hy : y.v) (ex : x.q = p) (ey : y.q = q) (h : Sz (p - q) 128 128) : subF x y = okS (p - q) := by
  rw [subF, if_pos ⟨hx, hy⟩, ex, ey]; exact frS_ok h
theorem Rp.zero {x : Fx} {q : Rat} (h : Rp x q) : nv x.xs = 0 ↔ q = 0 := by
  rw [h.n, nv_lim, Int.natAbs_eq_zero, Rat.num_eq_zero]
theorem quoF_ok {x y : Fx} {p q : Rat} (hx : x.v) (hy : Rp y q) (ex : x.q = p) (hv : y.v) (hq : q ≠ 0) (h : Sz (p / q) 128 128) : quoF x y = okS (p / q) := by
  rw [quoF, if_pos ⟨hx, hv⟩, if_neg (fun e => hq (hy.zero.1 e)), ex, hy.q]; exact frS_ok h
theorem redS_okS {x : Fx} (hv : x.v) : redS x = okS x.q := (redS_ok hv).1
end Go.Proofs.Ytnmomigaedfdoaa
