/- The walks of drydockref02: Opposite, Sub. The walks of drydockref02: Order, Cmp. -/
import Derived.Test.YthdfflbhogfejaaRfD
namespace Go.Proofs.Ythdfflbhogfejaa
set_option maxRecDepth 100000
open Go.RowKit

/-- the reference leaves a zero as it is -/
abbrev oppF (x : Fx) : Fx := { x with b := if nv x.xs = 0 then x.b else !x.b }
set_option maxHeartbeats 400000 in
theorem rfopposite_any (w : World) (x y : Fx) (hx : x.ok w) (l1 : x.xs.length ≤ 10000) (hs : oppF x = y) : Calls Try.prog 94 #[x.val] w fun e w' => e = .returned y.val ∧ Below w.heap.size w w' := by
  have ll := Nat.le_trans (lim_length_le_length hx.num.u) l1
  have HS := Lib.hid hs
  clear hs
  by_cases hz : nv x.xs = 0
  · have hzl : (lim (nv x.xs)).length = 0 := by rw [hz, lim_zero]; rfl
    have HY : Hid (x = y) := Lib.hid (by rw [← HS.out, oppF, if_pos hz])
    clear hz
    go_enter Try.func94, Try.ntmps94
    go_wp2_with fail
    have hs1 : w.heap.size < (w.alloc (.cells x.cells 41)).heap.size := by simp
    have b0 := (Below.refl w.heap.size w).alloc (Nat.le_refl _) (.cells x.cells 41)
    have b1 := (Below.refl (w.alloc (.cells x.cells 41)).heap.size (w.alloc (.cells x.cells 41))).alloc (Nat.le_refl _) (.cells #[.bool false, .slice none 0 0, .slice none 0 0] 41)
    have bx := (bk3_alloc w (.bool x.b) (.slice x.A x.xs.length x.c) (.slice x.D x.ys.length x.d)).below b1
    have bk := bk3_new (w.alloc (.cells x.cells 41))
    rw [size_box] at bk
    have okx := (hx.below b0).below b1
    have bw := below_on b0 b1 (Nat.le_of_lt hs1)
    clear hs1 b0 b1
    revert bx bk okx bw
    generalize ((w.alloc (.cells x.cells 41)).alloc (.cells #[.bool false, .slice none 0 0, .slice none 0 0] 41)) = w1
    intro bx bk okx bw
    have tx := bx
    obtain ⟨x0, x1, x2, xf0, xf1, xf2, xlt, xb⟩ := tx
    clear xb
    go_wp2_with fail
    clear x0 x1 x2 xf0 xf1 xf2 xlt
    refine (rtrim_any w1 x.A x.c _ x.xs okx.num rfl (by omega)).mono ?_
    rintro e wn ⟨AT, cT, rfl, gn, bb⟩
    clear gn
    try replace bx := bx.below bb
    try replace by_ := by_.below bb
    try replace bk := bk.below bb
    try replace okx := okx.below bb
    try replace oky := oky.below bb
    try replace na := na.below bb
    try replace nb := nb.below bb
    try replace nc := nc.below bb
    try replace nd := nd.below bb
    try replace ne := ne.below bb
    replace bw := below_on bw bb bw.size
    clear bb
    have tx := bx
    obtain ⟨x0, x1, x2, xf0, xf1, xf2, xlt, xb⟩ := tx
    clear xb
    have tk := bk
    obtain ⟨k0, k1, k2, kf0, kf1, kf2, klt, kb⟩ := tk
    clear kb
    go_wp2_with fail
    refine bodyPost_ret (v := x.val) (by simp [results, Try.results94, go_sem, k0, k1, k2]) rfl ?_
    rw [← HY.out]
    exact ⟨rfl, set3g bw (by omega)⟩
  · have hzl : (lim (nv x.xs)).length ≠ 0 := fun h => hz (lim_eq_nil.1 (List.length_eq_zero_iff.1 h))
    have hzb : (((lim (nv x.xs)).length : Int) == 0) = false := beq_eq_false_iff_ne.2 (by omega)
    have HY : Hid (({ x with b := !x.b } : Fx) = y) := Lib.hid (by rw [← HS.out, oppF, if_neg hz])
    clear hz
    go_enter Try.func94, Try.ntmps94
    go_wp2_with fail
    have hs1 : w.heap.size < (w.alloc (.cells x.cells 41)).heap.size := by simp
    have b0 := (Below.refl w.heap.size w).alloc (Nat.le_refl _) (.cells x.cells 41)
    have b1 := (Below.refl (w.alloc (.cells x.cells 41)).heap.size (w.alloc (.cells x.cells 41))).alloc (Nat.le_refl _) (.cells #[.bool false, .slice none 0 0, .slice none 0 0] 41)
    have bx := (bk3_alloc w (.bool x.b) (.slice x.A x.xs.length x.c) (.slice x.D x.ys.length x.d)).below b1
    have bk := bk3_new (w.alloc (.cells x.cells 41))
    rw [size_box] at bk
    have okx := (hx.below b0).below b1
    have bw := below_on b0 b1 (Nat.le_of_lt hs1)
    clear hs1 b0 b1
    revert bx bk okx bw
    generalize ((w.alloc (.cells x.cells 41)).alloc (.cells #[.bool false, .slice none 0 0, .slice none 0 0] 41)) = w1
    intro bx bk okx bw
    have tx := bx
    obtain ⟨x0, x1, x2, xf0, xf1, xf2, xlt, xb⟩ := tx
    clear xb
    go_wp2_with fail
    clear x0 x1 x2 xf0 xf1 xf2 xlt
    refine (rtrim_any w1 x.A x.c _ x.xs okx.num rfl (by omega)).mono ?_
    rintro e wn ⟨AT, cT, rfl, gn, bb⟩
    clear gn
    try replace bx := bx.below bb
    try replace by_ := by_.below bb
    try replace bk := bk.below bb
    try replace okx := okx.below bb
    try replace oky := oky.below bb
    try replace na := na.below bb
    try replace nb := nb.below bb
    try replace nc := nc.below bb
    try replace nd := nd.below bb
    try replace ne := ne.below bb
    replace bw := below_on bw bb bw.size
    clear bb
    have tx := bx
    obtain ⟨x0, x1, x2, xf0, xf1, xf2, xlt, xb⟩ := tx
    clear xb
    have tk := bk
    obtain ⟨k0, k1, k2, kf0, kf1, kf2, klt, kb⟩ := tk
    clear kb
    go_wp2_with fail
    refine bodyPost_ret (v := ({ x with b := !x.b } : Fx).val) (by simp [results, Try.results94, go_sem, k0, k1, k2]) rfl ?_
    rw [← HY.out]
    exact ⟨rfl, set3g bw (by omega)⟩
theorem oppF_q (x : Fx) : (oppF x).q = - x.q := by
  unfold oppF Fx.q
  by_cases h : nv x.xs = 0
  · rw [if_pos h, h]
    rcases Nat.eq_zero_or_pos (nv x.ys) with h0 | h0
    · rw [h0]; simp [qv]
    · rw [(qv_zero (b := x.b) (n := 0) (d := nv x.ys) (by omega)).2 rfl]; simp
  · rw [if_neg h]; exact qv_opp _ _ _
theorem rsubF_addF (x y : Fx) : addF x (oppF y) = subF x y := by
  have e2 : (oppF y).v ↔ y.v := Iff.rfl
  simp only [addF, subF, oppF_q, e2, Rat.sub_eq_add_neg]
set_option maxHeartbeats 1600000 in
theorem rfsub_any (w : World) (x y : Fx) (S : Bool × List Nat × List Nat × Int) (hx : x.ok w) (hy : y.ok w) (l1 : x.xs.length ≤ 10000) (l2 : x.ys.length ≤ 10000) (m1 : y.xs.length ≤ 10000) (m2 : y.ys.length ≤ 10000) (hs : subF x y = S) : Calls Try.prog 71 #[x.val, y.val] w (FracRes w S) := by
  have HS : Hid (addF x (oppF y) = S) := Lib.hid ((rsubF_addF x y).trans hs)
  clear hs
  go_enter Try.func71, Try.ntmps71
  go_wp2_with fail
  have b0 := (Below.refl w.heap.size w).alloc (Nat.le_refl _) (.cells x.cells 41)
  have bx := bk3_alloc w (.bool x.b) (.slice x.A x.xs.length x.c) (.slice x.D x.ys.length x.d)
  have okx := hx.below b0
  have oky := hy.below b0
  have sz0 := size_box w (.cells x.cells 41)
  have bw := b0
  clear b0
  generalize (w.alloc (.cells x.cells 41)) = wa at bx okx oky sz0 bw ⊢
  have b1 := (Below.refl wa.heap.size wa).alloc (Nat.le_refl _) (.cells y.cells 41)
  have by_ := bk3_alloc wa (.bool y.b) (.slice y.A y.xs.length y.c) (.slice y.D y.ys.length y.d)
  have sz1 := size_box wa (.cells y.cells 41)
  rw [sz0] at by_ sz1
  replace bx := bx.below b1
  replace okx := okx.below b1
  replace oky := oky.below b1
  replace bw := below_on bw b1 bw.size
  clear b1
  generalize (wa.alloc (.cells y.cells 41)) = wb at bx by_ okx oky bw sz1 ⊢
  have b2 := (Below.refl wb.heap.size wb).alloc (Nat.le_refl _) (.cells #[.bool false, .slice none 0 0, .slice none 0 0] 41)
  have bk := bk3_new wb
  rw [sz1] at bk
  replace bx := bx.below b2
  replace by_ := by_.below b2
  replace okx := okx.below b2
  replace oky := oky.below b2
  replace bw := below_on bw b2 bw.size
  clear b2 sz0 sz1
  generalize (wb.alloc (.cells #[.bool false, .slice none 0 0, .slice none 0 0] 41)) = w1 at bx by_ okx oky bw bk ⊢
  go_wp2_with fail
  have n20 : w.heap.size + 1 + 1 ≠ w.heap.size := by omega
  have n21 : w.heap.size + 1 + 1 ≠ w.heap.size + 1 := by omega
  have bb := below_drew (Below.refl w1.heap.size w1)
  try replace bx := bx.below bb
  try replace by_ := by_.below bb
  try replace bk := bk.below bb
  try replace okx := okx.below bb
  try replace oky := oky.below bb
  try replace ok1 := ok1.below bb
  try replace na := na.below bb
  try replace nb := nb.below bb
  try replace nc := nc.below bb
  try replace nd := nd.below bb
  try replace ne := ne.below bb
  replace bw := below_on bw bb bw.size
  clear bb
  go_region_held3 (fun w' => w'.cell? ⟨w.heap.size, 0, none⟩ = some (.bool x.b) ∧ w'.cell? ⟨w.heap.size, 1, none⟩ = some (.slice x.A x.xs.length x.c) ∧ w'.cell? ⟨w.heap.size, 2, none⟩ = some (.slice x.D x.ys.length x.d) ∧ w'.cell? ⟨w.heap.size + 1, 0, none⟩ = some (.bool y.b) ∧ w'.cell? ⟨w.heap.size + 1, 1, none⟩ = some (.slice y.A y.xs.length y.c) ∧ w'.cell? ⟨w.heap.size + 1, 2, none⟩ = some (.slice y.D y.ys.length y.d))
    (first | exact ⟨bx.c0, bx.c1, bx.c2, by_.c0, by_.c1, by_.c2⟩ | exact ⟨cell_set3 bx.c0 n20, cell_set3 bx.c1 n20, cell_set3 bx.c2 n20, cell_set3 by_.c0 n21, cell_set3 by_.c1 n21, cell_set3 by_.c2 n21⟩ | go_keep)
    (first
      | (go_at_call 94
         with_reducible refine (rfopposite_any _ y _ oky m1 rfl).mono ?_
         rintro e wn ⟨rfl, bb⟩
         replace bx := bx.below bb
         replace by_ := by_.below bb
         replace bk := bk.below bb
         replace okx := okx.below bb
         replace oky := oky.below bb
         replace bw := below_on bw bb bw.size
         clear bb)
      | (go_at_call 70
         with_reducible refine (rfadd_any _ x (oppF y) S okx ⟨oky.num, oky.den⟩ l1 l2 m1 m2 HS.out).mono ?_
         rintro e wn ⟨x1, rfl, hs1, ok1, bb⟩
         have HS1 := Lib.hid hs1
         replace bx := bx.below bb
         replace by_ := by_.below bb
         replace bk := bk.below bb
         replace bw := below_on bw bb bw.size
         have kk := bk
         obtain ⟨k0, k1, k2, kf0, kf1, kf2, klt, _⟩ := kk
         clear bb hs1))
  all_goals
    go_wp2_with fail
    refine bodyPost_ret (v := .tuple #[(x1 : Fx).val, .int .i64 S.2.2.2]) (by simp [results, Try.results71, go_sem, k0, k1, k2]) rfl ?_
    exact ⟨x1, rfl, HS1.out, set3_ok ok1 bk rfl rfl rfl, set3g bw (by omega)⟩
end Go.Proofs.Ythdfflbhogfejaa
namespace Go.Proofs.Ythdfflbhogfejaa
set_option maxRecDepth 100000
open Go.RowKit

theorem cmp3_swap (m n : Nat) : cmp3 n m = - cmp3 m n := by
  unfold cmp3
  repeat' split
  all_goals omega
theorem cmpQ_code2 {b b' : Bool} {n d n' d' : Nat} (h : d ≠ 0) (h' : d' ≠ 0) :
    cmpQ (qv b n d) (qv b' n' d') = if (b && decide (n * d' ≠ 0)) && (b' && decide (n' * d ≠ 0)) then cmp3 (n' * d) (n * d') else if b && decide (n * d' ≠ 0) then -1 else if b' && decide (n' * d ≠ 0) then 1 else cmp3 (n * d') (n' * d) := by
  have e1 : n * d' ≠ 0 ↔ n ≠ 0 := by rw [ne_eq, Nat.mul_eq_zero]; omega
  have e2 : n' * d ≠ 0 ↔ n' ≠ 0 := by rw [ne_eq, Nat.mul_eq_zero]; omega
  rw [cmpQ_code h h', cmp3_swap (n * d') (n' * d), decide_eq_decide.2 e1, decide_eq_decide.2 e2]
set_option maxHeartbeats 1600000 in
theorem rforder_any (w : World) (x y : Fx) (z : Int) (hx : x.ok w) (hy : y.ok w) (hvx : x.v) (hvy : y.v) (l1 : x.xs.length ≤ 10000) (l2 : x.ys.length ≤ 10000) (m1 : y.xs.length ≤ 10000) (m2 : y.ys.length ≤ 10000) (hs : cmpQ x.q y.q = z) : Calls Try.prog 77 #[x.val, y.val] w fun e w' => e = .returned (.int .i64 z) ∧ Below w.heap.size w w' := by
  have lx1 : (lim (nv x.xs)).length ≤ 128 := hvx.2.2
  have lx2 : (lim (nv x.ys)).length ≤ 128 := hvx.2.1
  have ly1 : (lim (nv y.xs)).length ≤ 128 := hvy.2.2
  have ly2 : (lim (nv y.ys)).length ≤ 128 := hvy.2.1
  have HC := Lib.hid ((cmpQ_code2 (b := x.b) (b' := y.b) (n := nv x.xs) (n' := nv y.xs) hvx.1 hvy.1).symm.trans hs)
  clear hvx hvy hs
  go_enter Try.func77, Try.ntmps77
  go_upto_region 1 with fail
  have b0 := (Below.refl w.heap.size w).alloc (Nat.le_refl _) (.cells x.cells 41)
  have bx := bk3_alloc w (.bool x.b) (.slice x.A x.xs.length x.c) (.slice x.D x.ys.length x.d)
  have okx := hx.below b0
  have oky := hy.below b0
  have sz0 := size_box w (.cells x.cells 41)
  have bw := b0
  clear b0
  generalize (w.alloc (.cells x.cells 41)) = wa at bx okx oky sz0 bw ⊢
  have b1 := (Below.refl wa.heap.size wa).alloc (Nat.le_refl _) (.cells y.cells 41)
  have by_ := bk3_alloc wa (.bool y.b) (.slice y.A y.xs.length y.c) (.slice y.D y.ys.length y.d)
  rw [sz0] at by_
  replace bx := bx.below b1
  replace okx := okx.below b1
  replace oky := oky.below b1
  replace bw := below_on bw b1 bw.size
  clear b1 sz0
  generalize (wa.alloc (.cells y.cells 41)) = w1 at bx by_ okx oky bw ⊢
  go_cut [5, 6] (fun s1 s2 wx => ∃ (A1 A2 : Option Addr) (c1 c2 : Nat), s1 = .slice A1 (lim (nv x.xs * nv y.ys)).length c1 ∧ s2 = .slice A2 (lim (nv y.xs * nv x.ys)).length c2 ∧ Nt wx A1 c1 (lim (nv x.xs * nv y.ys)) ∧ Nt wx A2 c2 (lim (nv y.xs * nv x.ys)) ∧ Below w1.heap.size w1 wx)
  case first =>
    have bw0 := Below.refl w1.heap.size w1
    have bb := below_drew (Below.refl w1.heap.size w1)
    replace bw0 := below_on bw0 bb bw0.size
    replace bx := bx.below bb
    replace by_ := by_.below bb
    replace okx := okx.below bb
    replace oky := oky.below bb
    replace bw := below_on bw bb bw.size
    clear bb
    go_region_held3 (fun w' => w'.cell? ⟨w.heap.size, 0, none⟩ = some (.bool x.b) ∧ w'.cell? ⟨w.heap.size, 1, none⟩ = some (.slice x.A x.xs.length x.c) ∧ w'.cell? ⟨w.heap.size, 2, none⟩ = some (.slice x.D x.ys.length x.d) ∧ w'.cell? ⟨w.heap.size + 1, 0, none⟩ = some (.bool y.b) ∧ w'.cell? ⟨w.heap.size + 1, 1, none⟩ = some (.slice y.A y.xs.length y.c) ∧ w'.cell? ⟨w.heap.size + 1, 2, none⟩ = some (.slice y.D y.ys.length y.d))
      (first | exact ⟨bx.c0, bx.c1, bx.c2, by_.c0, by_.c1, by_.c2⟩ | go_keep)
      (first
        | (go_at_call 59
           with_reducible refine (rftimes_ok _ x.A y.D x.c y.d _ _ x.xs y.ys okx.num oky.den rfl rfl l1 m2 lx1 ly2).mono ?_
           rintro e wn ⟨A1, c1, rfl, n1, bb⟩
           try replace n2 := n2.below bb
           replace bw0 := below_on bw0 bb bw0.size
           replace bx := bx.below bb
           replace by_ := by_.below bb
           replace okx := okx.below bb
           replace oky := oky.below bb
           clear bb)
        | (go_at_call 59
           with_reducible refine (rftimes_ok _ y.A x.D y.c x.d _ _ y.xs x.ys oky.num okx.den rfl rfl m1 l2 ly1 lx2).mono ?_
           rintro e wn ⟨A2, c2, rfl, n2, bb⟩
           try replace n1 := n1.below bb
           replace bw0 := below_on bw0 bb bw0.size
           replace bx := bx.below bb
           replace by_ := by_.below bb
           replace okx := okx.below bb
           replace oky := oky.below bb
           clear bb))
    all_goals
      go_wp2_with fail
      go_meet
      case rel => exact ⟨_, _, _, _, rfl, rfl, n1, n2, bw0⟩
  case rest =>
    obtain ⟨A1, A2, c1, c2, rfl, rfl, na, nb, bb⟩ := hcut
    try replace bx := bx.below bb
    try replace by_ := by_.below bb
    try replace okx := okx.below bb
    try replace oky := oky.below bb
    try replace na := na.below bb
    try replace nb := nb.below bb
    try replace nc := nc.below bb
    try replace nd := nd.below bb
    try replace ne := ne.below bb
    replace bw := below_on bw bb bw.size
    clear bb
    have lM := len_mulf lx1 ly2
    have lN := len_mulf ly1 lx2
    revert na nb lM lN HC
    generalize nv x.xs * nv y.ys = M
    generalize nv y.xs * nv x.ys = N
    intro HC na nb lM lN
    obtain ⟨a1, ha1⟩ : ∃ a1, (x.b && decide (M ≠ 0)) = a1 := ⟨_, rfl⟩
    obtain ⟨a2, ha2⟩ : ∃ a2, (y.b && decide (N ≠ 0)) = a2 := ⟨_, rfl⟩
    rw [ha1, ha2] at HC
    have HA1 := Lib.hid ha1
    have HA2 := Lib.hid ha2
    clear ha1 ha2
    go_upto_region 2 with fail
    go_cut [7, 8] (fun av bv wx => av = .bool a1 ∧ bv = .bool a2 ∧ wx = wc)
    case first =>
      rcases Nat.eq_zero_or_pos M with hM | hM
      · have hMl : (lim M).length = 0 := by rw [hM, lim_zero]; rfl
        rcases Nat.eq_zero_or_pos N with hN | hN
        · have hNl : (lim N).length = 0 := by rw [hN, lim_zero]; rfl
          skip
          have HM0 := Lib.hid hM
          have HN0 := Lib.hid hN
          clear hM hN
          cases hxb : x.b <;> cases hyb : y.b
          all_goals
            rw [hxb] at bx
            rw [hyb] at by_
            have tx := bx
            obtain ⟨x0, x1, x2, xf0, xf1, xf2, xlt, _⟩ := tx
            have ty := by_
            obtain ⟨y0, y1, y2, yf0, yf1, yf2, ylt, _⟩ := ty
            go_wp2_with fail
            go_meet
            case rel => exact ⟨congrArg Value.bool (by have := HM0.out; rw [← HA1.out, hxb]; simp; try omega), congrArg Value.bool (by have := HN0.out; rw [← HA2.out, hyb]; simp; try omega), rfl⟩
        · have hNl : 0 < (lim N).length := lim_length_pos.2 (by omega)
          skip
          have HM0 := Lib.hid hM
          have HN0 := Lib.hid hN
          clear hM hN
          cases hxb : x.b <;> cases hyb : y.b
          all_goals
            rw [hxb] at bx
            rw [hyb] at by_
            have tx := bx
            obtain ⟨x0, x1, x2, xf0, xf1, xf2, xlt, _⟩ := tx
            have ty := by_
            obtain ⟨y0, y1, y2, yf0, yf1, yf2, ylt, _⟩ := ty
            go_wp2_with fail
            go_meet
            case rel => exact ⟨congrArg Value.bool (by have := HM0.out; rw [← HA1.out, hxb]; simp; try omega), congrArg Value.bool (by have := HN0.out; rw [← HA2.out, hyb]; simp; try omega), rfl⟩
      · have hMl : 0 < (lim M).length := lim_length_pos.2 (by omega)
        rcases Nat.eq_zero_or_pos N with hN | hN
        · have hNl : (lim N).length = 0 := by rw [hN, lim_zero]; rfl
          skip
          have HM0 := Lib.hid hM
          have HN0 := Lib.hid hN
          clear hM hN
          cases hxb : x.b <;> cases hyb : y.b
          all_goals
            rw [hxb] at bx
            rw [hyb] at by_
            have tx := bx
            obtain ⟨x0, x1, x2, xf0, xf1, xf2, xlt, _⟩ := tx
            have ty := by_
            obtain ⟨y0, y1, y2, yf0, yf1, yf2, ylt, _⟩ := ty
            go_wp2_with fail
            go_meet
            case rel => exact ⟨congrArg Value.bool (by have := HM0.out; rw [← HA1.out, hxb]; simp; try omega), congrArg Value.bool (by have := HN0.out; rw [← HA2.out, hyb]; simp; try omega), rfl⟩
        · have hNl : 0 < (lim N).length := lim_length_pos.2 (by omega)
          skip
          have HM0 := Lib.hid hM
          have HN0 := Lib.hid hN
          clear hM hN
          cases hxb : x.b <;> cases hyb : y.b
          all_goals
            rw [hxb] at bx
            rw [hyb] at by_
            have tx := bx
            obtain ⟨x0, x1, x2, xf0, xf1, xf2, xlt, _⟩ := tx
            have ty := by_
            obtain ⟨y0, y1, y2, yf0, yf1, yf2, ylt, _⟩ := ty
            go_wp2_with fail
            go_meet
            case rel => exact ⟨congrArg Value.bool (by have := HM0.out; rw [← HA1.out, hxb]; simp; try omega), congrArg Value.bool (by have := HN0.out; rw [← HA2.out, hyb]; simp; try omega), rfl⟩
    case rest =>
      obtain ⟨rfl, rfl, rfl⟩ := hcut
      cases a1 <;> cases a2
      · go_wp2_with fail
        refine (rcmp_any _ A1 A2 c1 c2 _ _ (lim M) (lim N) z na nb rfl rfl (by rw [nv_lim]; omega) (by rw [nv_lim]; omega) (by rw [nv_lim, nv_lim]; exact HC.out)).mono ?_
        rintro e wn ⟨rfl, bb⟩
        replace bw := below_on bw bb bw.size
        go_wp2_with fail
        go_ret
        exact ⟨rfl, bw⟩
      · go_wp2_with fail
        go_ret
        exact ⟨by rw [← HC.out]; rfl, bw⟩
      · go_wp2_with fail
        go_ret
        exact ⟨by rw [← HC.out]; rfl, bw⟩
      · go_wp2_with fail
        refine (rcmp_any _ A2 A1 c2 c1 _ _ (lim N) (lim M) z nb na rfl rfl (by rw [nv_lim]; omega) (by rw [nv_lim]; omega) (by rw [nv_lim, nv_lim]; exact HC.out)).mono ?_
        rintro e wn ⟨rfl, bb⟩
        replace bw := below_on bw bb bw.size
        go_wp2_with fail
        go_ret
        exact ⟨rfl, bw⟩
set_option maxHeartbeats 1600000 in
theorem rfcmp_any (w : World) (x y : Fx) (S : Int × Int) (hx : x.ok w) (hy : y.ok w) (l1 : x.xs.length ≤ 10000) (l2 : x.ys.length ≤ 10000) (m1 : y.xs.length ≤ 10000) (m2 : y.ys.length ≤ 10000) (hs : cmpF x y = S) : Calls Try.prog 57 #[x.val, y.val] w (IntsRes w S) := by
  have HS := Lib.hid hs
  clear hs
  by_cases hvx : x.v
  · have HVX := Lib.hid hvx
    by_cases hvy : y.v
    · have HVY := Lib.hid hvy
      have HS' : Hid ((cmpQ x.q y.q, 0) = S) := Lib.hid (by rw [← HS.out, cmpF, if_pos ⟨hvx, hvy⟩])
      clear hvx hvy
      skip
      go_enter Try.func57, Try.ntmps57
      go_wp2_with fail
      have b0 := (Below.refl w.heap.size w).alloc (Nat.le_refl _) (.cells x.cells 41)
      have bx := bk3_alloc w (.bool x.b) (.slice x.A x.xs.length x.c) (.slice x.D x.ys.length x.d)
      have okx := hx.below b0
      have oky := hy.below b0
      have sz0 := size_box w (.cells x.cells 41)
      have bw := b0
      clear b0
      generalize (w.alloc (.cells x.cells 41)) = wa at bx okx oky sz0 bw ⊢
      have b1 := (Below.refl wa.heap.size wa).alloc (Nat.le_refl _) (.cells y.cells 41)
      have by_ := bk3_alloc wa (.bool y.b) (.slice y.A y.xs.length y.c) (.slice y.D y.ys.length y.d)
      rw [sz0] at by_
      replace bx := bx.below b1
      replace okx := okx.below b1
      replace oky := oky.below b1
      replace bw := below_on bw b1 bw.size
      clear b1 sz0
      generalize (wa.alloc (.cells y.cells 41)) = w1 at bx by_ okx oky bw ⊢
      have tx := bx
      obtain ⟨x0, x1, x2, xf0, xf1, xf2, xlt, xb⟩ := tx
      clear xb
      go_wp2_with fail
      clear x0 x1 x2 xf0 xf1 xf2 xlt
      refine (rfvalid_any w1 x true okx l1 l2 (decide_eq_true HVX.out)).mono ?_
      rintro e wn ⟨rfl, bb⟩
      replace bx := bx.below bb
      replace by_ := by_.below bb
      replace okx := okx.below bb
      replace oky := oky.below bb
      replace bw := below_on bw bb bw.size
      clear bb
      have ty := by_
      obtain ⟨y0, y1, y2, yf0, yf1, yf2, ylt, yb⟩ := ty
      clear yb
      go_wp2_with fail
      clear y0 y1 y2 yf0 yf1 yf2 ylt
      refine (rfvalid_any wn y true oky m1 m2 (decide_eq_true HVY.out)).mono ?_
      rintro e wn ⟨rfl, bb⟩
      replace bx := bx.below bb
      replace by_ := by_.below bb
      replace okx := okx.below bb
      replace oky := oky.below bb
      replace bw := below_on bw bb bw.size
      clear bb
      have tx := bx
      obtain ⟨x0, x1, x2, xf0, xf1, xf2, xlt, xb⟩ := tx
      clear xb
      have ty := by_
      obtain ⟨y0, y1, y2, yf0, yf1, yf2, ylt, yb⟩ := ty
      clear yb
      go_wp2_with fail
      clear x0 x1 x2 xf0 xf1 xf2 xlt
      clear y0 y1 y2 yf0 yf1 yf2 ylt
      refine (rforder_any wn x y _ okx oky HVX.out HVY.out l1 l2 m1 m2 rfl).mono ?_
      rintro e wn ⟨rfl, bb⟩
      replace bx := bx.below bb
      replace by_ := by_.below bb
      replace okx := okx.below bb
      replace oky := oky.below bb
      replace bw := below_on bw bb bw.size
      clear bb
      go_wp2_with fail
      go_ret2
      rw [← HS'.out]
      exact ⟨rfl, bw⟩
    · have HVY : Hid (¬ y.v) := hvy
      have HS' : Hid ((0, 1) = S) := Lib.hid (by rw [← HS.out, cmpF, if_neg (fun h => hvy h.2)])
      clear hvx hvy
      skip
      go_enter Try.func57, Try.ntmps57
      go_wp2_with fail
      have b0 := (Below.refl w.heap.size w).alloc (Nat.le_refl _) (.cells x.cells 41)
      have bx := bk3_alloc w (.bool x.b) (.slice x.A x.xs.length x.c) (.slice x.D x.ys.length x.d)
      have okx := hx.below b0
      have oky := hy.below b0
      have sz0 := size_box w (.cells x.cells 41)
      have bw := b0
      clear b0
      generalize (w.alloc (.cells x.cells 41)) = wa at bx okx oky sz0 bw ⊢
      have b1 := (Below.refl wa.heap.size wa).alloc (Nat.le_refl _) (.cells y.cells 41)
      have by_ := bk3_alloc wa (.bool y.b) (.slice y.A y.xs.length y.c) (.slice y.D y.ys.length y.d)
      rw [sz0] at by_
      replace bx := bx.below b1
      replace okx := okx.below b1
      replace oky := oky.below b1
      replace bw := below_on bw b1 bw.size
      clear b1 sz0
      generalize (wa.alloc (.cells y.cells 41)) = w1 at bx by_ okx oky bw ⊢
      have tx := bx
      obtain ⟨x0, x1, x2, xf0, xf1, xf2, xlt, xb⟩ := tx
      clear xb
      go_wp2_with fail
      clear x0 x1 x2 xf0 xf1 xf2 xlt
      refine (rfvalid_any w1 x true okx l1 l2 (decide_eq_true HVX.out)).mono ?_
      rintro e wn ⟨rfl, bb⟩
      replace bx := bx.below bb
      replace by_ := by_.below bb
      replace okx := okx.below bb
      replace oky := oky.below bb
      replace bw := below_on bw bb bw.size
      clear bb
      have ty := by_
      obtain ⟨y0, y1, y2, yf0, yf1, yf2, ylt, yb⟩ := ty
      clear yb
      go_wp2_with fail
      clear y0 y1 y2 yf0 yf1 yf2 ylt
      refine (rfvalid_any wn y false oky m1 m2 (decide_eq_false HVY.out)).mono ?_
      rintro e wn ⟨rfl, bb⟩
      replace bx := bx.below bb
      replace by_ := by_.below bb
      replace okx := okx.below bb
      replace oky := oky.below bb
      replace bw := below_on bw bb bw.size
      clear bb
      go_wp2_with fail
      go_ret2
      rw [← HS'.out]
      exact ⟨rfl, bw⟩
  · have HVX : Hid (¬ x.v) := hvx
    have HS' : Hid ((0, 1) = S) := Lib.hid (by rw [← HS.out, cmpF, if_neg (fun h => hvx h.1)])
    clear hvx
    skip
    go_enter Try.func57, Try.ntmps57
    go_wp2_with fail
    have b0 := (Below.refl w.heap.size w).alloc (Nat.le_refl _) (.cells x.cells 41)
    have bx := bk3_alloc w (.bool x.b) (.slice x.A x.xs.length x.c) (.slice x.D x.ys.length x.d)
    have okx := hx.below b0
    have oky := hy.below b0
    have sz0 := size_box w (.cells x.cells 41)
    have bw := b0
    clear b0
    generalize (w.alloc (.cells x.cells 41)) = wa at bx okx oky sz0 bw ⊢
    have b1 := (Below.refl wa.heap.size wa).alloc (Nat.le_refl _) (.cells y.cells 41)
    have by_ := bk3_alloc wa (.bool y.b) (.slice y.A y.xs.length y.c) (.slice y.D y.ys.length y.d)
    rw [sz0] at by_
    replace bx := bx.below b1
    replace okx := okx.below b1
    replace oky := oky.below b1
    replace bw := below_on bw b1 bw.size
    clear b1 sz0
    generalize (wa.alloc (.cells y.cells 41)) = w1 at bx by_ okx oky bw ⊢
    have tx := bx
    obtain ⟨x0, x1, x2, xf0, xf1, xf2, xlt, xb⟩ := tx
    clear xb
    go_wp2_with fail
    clear x0 x1 x2 xf0 xf1 xf2 xlt
    refine (rfvalid_any w1 x false okx l1 l2 (decide_eq_false HVX.out)).mono ?_
    rintro e wn ⟨rfl, bb⟩
    replace bx := bx.below bb
    replace by_ := by_.below bb
    replace okx := okx.below bb
    replace oky := oky.below bb
    replace bw := below_on bw bb bw.size
    clear bb
    go_wp2_with fail
    go_ret2
    rw [← HS'.out]
    exact ⟨rfl, bw⟩
end Go.Proofs.Ythdfflbhogfejaa
