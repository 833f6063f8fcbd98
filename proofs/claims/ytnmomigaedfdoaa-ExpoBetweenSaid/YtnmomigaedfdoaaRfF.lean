/- The walks of drydockref02: Order, Cmp. -/
import Derived.Test.YtnmomigaedfdoaaRfE
namespace Go.Proofs.Ytnmomigaedfdoaa
set_option maxRecDepth 100000
open Go.RowKit

theorem cmp3_swap (m n : Nat) : cmp3 n m = - cmp3 m n := by
  unfold cmp3
  repeat' split
  all_goals omega
theorem cmpQ_code2 {b b' : Bool} {n d n' d' : Nat} (h : d ≠ 0) (h' : d' ≠ 0) :
    cmpQ (qv b n d) (qv b' n' d') = if (b && decide (n * d' ≠ 0)) && (b' && decide (n' * d ≠ 0)) then cmp3 (n' * d) (n * d') else if b && decide (n * d' ≠ 0) then -1 else if b' && decide (n' * d ≠ 0) then 1 else cmp3 (n * d') (n' * d) := by
  have e1 : n * d' ≠ 0 ↔ n ≠ 0 := by rw [ne_eq, Nat.mul_eq_zero]; omega
  have e2 : n' * d ≠ 0 ↔ n' ≠ 0 := by rw [ne_eq, Nat.mul_eq_zero]; omega
  rw [cmpQ_code h h', cmp3_swap (n * d') (n' * d), decide_eq_decide.2 e1, decide_eq_decide.2 e2]
set_option maxHeartbeats 1600000 in
theorem rforder_any (w : World) (x y : Fx) (z : Int) (hx : x.ok w) (hy : y.ok w) (hvx : x.v) (hvy : y.v) (l1 : x.xs.length ≤ 10000) (l2 : x.ys.length ≤ 10000) (m1 : y.xs.length ≤ 10000) (m2 : y.ys.length ≤ 10000) (hs : cmpQ x.q y.q = z) : Calls Try.prog 47 #[x.val, y.val] w fun e w' => e = .returned (.int .i64 z) ∧ Below w.heap.size w w' := by
  have lx1 : (lim (nv x.xs)).length ≤ 128 := hvx.2.2
  have lx2 : (lim (nv x.ys)).length ≤ 128 := hvx.2.1
  have ly1 : (lim (nv y.xs)).length ≤ 128 := hvy.2.2
  have ly2 : (lim (nv y.ys)).length ≤ 128 := hvy.2.1
  have HC := Lib.hid ((cmpQ_code2 (b := x.b) (b' := y.b) (n := nv x.xs) (n' := nv y.xs) hvx.1 hvy.1).symm.trans hs)
  clear hvx hvy hs
  go_enter Try.func47, Try.ntmps47
  go_upto_region 1 with fail
  have b0 := (Below.refl w.heap.size w).alloc (Nat.le_refl _) (.cells x.cells 26)
  have bx := bk3_alloc w (.bool x.b) (.slice x.A x.xs.length x.c) (.slice x.D x.ys.length x.d)
  have okx := hx.below b0
  have oky := hy.below b0
  have sz0 := size_box w (.cells x.cells 26)
  have bw := b0
  clear b0
  generalize (w.alloc (.cells x.cells 26)) = wa at bx okx oky sz0 bw ⊢
  have b1 := (Below.refl wa.heap.size wa).alloc (Nat.le_refl _) (.cells y.cells 26)
  have by_ := bk3_alloc wa (.bool y.b) (.slice y.A y.xs.length y.c) (.slice y.D y.ys.length y.d)
  rw [sz0] at by_
  replace bx := bx.below b1
  replace okx := okx.below b1
  replace oky := oky.below b1
  replace bw := below_on bw b1 bw.size
  clear b1 sz0
  generalize (wa.alloc (.cells y.cells 26)) = w1 at bx by_ okx oky bw ⊢
  go_cut [5, 6] (fun s1 s2 wx => ∃ (A1 A2 : Option Addr) (c1 c2 : Nat), s1 = .slice A1 (lim (nv x.xs * nv y.ys)).length c1 ∧ s2 = .slice A2 (lim (nv y.xs * nv x.ys)).length c2 ∧ Nt wx A1 c1 (lim (nv x.xs * nv y.ys)) ∧ Nt wx A2 c2 (lim (nv y.xs * nv x.ys)) ∧ Below w1.heap.size w1 wx)
  case first =>
    have bw0 := Below.refl w1.heap.size w1
    have bb := below_drew (Below.refl w1.heap.size w1)
    replace bw0 := below_on bw0 bb bw0.size
    replace bx := bx.below bb
    replace by_ := by_.below bb
    replace okx := okx.below bb
    replace oky := oky.below bb
    replace bw := below_on bw bb bw.size
    clear bb
    go_region_held3 (fun w' => w'.cell? ⟨w.heap.size, 0, none⟩ = some (.bool x.b) ∧ w'.cell? ⟨w.heap.size, 1, none⟩ = some (.slice x.A x.xs.length x.c) ∧ w'.cell? ⟨w.heap.size, 2, none⟩ = some (.slice x.D x.ys.length x.d) ∧ w'.cell? ⟨w.heap.size + 1, 0, none⟩ = some (.bool y.b) ∧ w'.cell? ⟨w.heap.size + 1, 1, none⟩ = some (.slice y.A y.xs.length y.c) ∧ w'.cell? ⟨w.heap.size + 1, 2, none⟩ = some (.slice y.D y.ys.length y.d))
      (first | exact ⟨bx.c0, bx.c1, bx.c2, by_.c0, by_.c1, by_.c2⟩ | go_keep)
      (first
        | (go_at_call 41
           with_reducible refine (rftimes_ok _ x.A y.D x.c y.d _ _ x.xs y.ys okx.num oky.den rfl rfl l1 m2 lx1 ly2).mono ?_
           rintro e wn ⟨A1, c1, rfl, n1, bb⟩
           try replace n2 := n2.below bb
           replace bw0 := below_on bw0 bb bw0.size
           replace bx := bx.below bb
           replace by_ := by_.below bb
           replace okx := okx.below bb
           replace oky := oky.below bb
           clear bb)
        | (go_at_call 41
           with_reducible refine (rftimes_ok _ y.A x.D y.c x.d _ _ y.xs x.ys oky.num okx.den rfl rfl m1 l2 ly1 lx2).mono ?_
           rintro e wn ⟨A2, c2, rfl, n2, bb⟩
           try replace n1 := n1.below bb
           replace bw0 := below_on bw0 bb bw0.size
           replace bx := bx.below bb
           replace by_ := by_.below bb
           replace okx := okx.below bb
           replace oky := oky.below bb
           clear bb))
    all_goals
      go_wp2_with fail
      go_meet
      case rel => exact ⟨_, _, _, _, rfl, rfl, n1, n2, bw0⟩
  case rest =>
    obtain ⟨A1, A2, c1, c2, rfl, rfl, na, nb, bb⟩ := hcut
    try replace bx := bx.below bb
    try replace by_ := by_.below bb
    try replace okx := okx.below bb
    try replace oky := oky.below bb
    try replace na := na.below bb
    try replace nb := nb.below bb
    try replace nc := nc.below bb
    try replace nd := nd.below bb
    try replace ne := ne.below bb
    replace bw := below_on bw bb bw.size
    clear bb
    have lM := len_mulf lx1 ly2
    have lN := len_mulf ly1 lx2
    revert na nb lM lN HC
    generalize nv x.xs * nv y.ys = M
    generalize nv y.xs * nv x.ys = N
    intro HC na nb lM lN
    obtain ⟨a1, ha1⟩ : ∃ a1, (x.b && decide (M ≠ 0)) = a1 := ⟨_, rfl⟩
    obtain ⟨a2, ha2⟩ : ∃ a2, (y.b && decide (N ≠ 0)) = a2 := ⟨_, rfl⟩
    rw [ha1, ha2] at HC
    have HA1 := Lib.hid ha1
    have HA2 := Lib.hid ha2
    clear ha1 ha2
    go_upto_region 2 with fail
    go_cut [7, 8] (fun av bv wx => av = .bool a1 ∧ bv = .bool a2 ∧ wx = wc)
    case first =>
      rcases Nat.eq_zero_or_pos M with hM | hM
      · have hMl : (lim M).length = 0 := by rw [hM, lim_zero]; rfl
        rcases Nat.eq_zero_or_pos N with hN | hN
        · have hNl : (lim N).length = 0 := by rw [hN, lim_zero]; rfl
          skip
          have HM0 := Lib.hid hM
          have HN0 := Lib.hid hN
          clear hM hN
          cases hxb : x.b <;> cases hyb : y.b
          all_goals
            rw [hxb] at bx
            rw [hyb] at by_
            have tx := bx
            obtain ⟨x0, x1, x2, xf0, xf1, xf2, xlt, _⟩ := tx
            have ty := by_
            obtain ⟨y0, y1, y2, yf0, yf1, yf2, ylt, _⟩ := ty
            go_wp2_with fail
            go_meet
            case rel => exact ⟨congrArg Value.bool (by have := HM0.out; rw [← HA1.out, hxb]; simp; try omega), congrArg Value.bool (by have := HN0.out; rw [← HA2.out, hyb]; simp; try omega), rfl⟩
        · have hNl : 0 < (lim N).length := lim_length_pos.2 (by omega)
          skip
          have HM0 := Lib.hid hM
          have HN0 := Lib.hid hN
          clear hM hN
          cases hxb : x.b <;> cases hyb : y.b
          all_goals
            rw [hxb] at bx
            rw [hyb] at by_
            have tx := bx
            obtain ⟨x0, x1, x2, xf0, xf1, xf2, xlt, _⟩ := tx
            have ty := by_
            obtain ⟨y0, y1, y2, yf0, yf1, yf2, ylt, _⟩ := ty
            go_wp2_with fail
            go_meet
            case rel => exact ⟨congrArg Value.bool (by have := HM0.out; rw [← HA1.out, hxb]; simp; try omega), congrArg Value.bool (by have := HN0.out; rw [← HA2.out, hyb]; simp; try omega), rfl⟩
      · have hMl : 0 < (lim M).length := lim_length_pos.2 (by omega)
        rcases Nat.eq_zero_or_pos N with hN | hN
        · have hNl : (lim N).length = 0 := by rw [hN, lim_zero]; rfl
          skip
          have HM0 := Lib.hid hM
          have HN0 := Lib.hid hN
          clear hM hN
          cases hxb : x.b <;> cases hyb : y.b
          all_goals
            rw [hxb] at bx
            rw [hyb] at by_
            have tx := bx
            obtain ⟨x0, x1, x2, xf0, xf1, xf2, xlt, _⟩ := tx
            have ty := by_
            obtain ⟨y0, y1, y2, yf0, yf1, yf2, ylt, _⟩ := ty
            go_wp2_with fail
            go_meet
            case rel => exact ⟨congrArg Value.bool (by have := HM0.out; rw [← HA1.out, hxb]; simp; try omega), congrArg Value.bool (by have := HN0.out; rw [← HA2.out, hyb]; simp; try omega), rfl⟩
        · have hNl : 0 < (lim N).length := lim_length_pos.2 (by omega)
          skip
          have HM0 := Lib.hid hM
          have HN0 := Lib.hid hN
          clear hM hN
          cases hxb : x.b <;> cases hyb : y.b
          all_goals
            rw [hxb] at bx
            rw [hyb] at by_
            have tx := bx
            obtain ⟨x0, x1, x2, xf0, xf1, xf2, xlt, _⟩ := tx
            have ty := by_
            obtain ⟨y0, y1, y2, yf0, yf1, yf2, ylt, _⟩ := ty
            go_wp2_with fail
            go_meet
            case rel => exact ⟨congrArg Value.bool (by have := HM0.out; rw [← HA1.out, hxb]; simp; try omega), congrArg Value.bool (by have := HN0.out; rw [← HA2.out, hyb]; simp; try omega), rfl⟩
    case rest =>
      obtain ⟨rfl, rfl, rfl⟩ := hcut
      cases a1 <;> cases a2
      · go_wp2_with fail
        refine (rcmp_any _ A1 A2 c1 c2 _ _ (lim M) (lim N) z na nb rfl rfl (by rw [nv_lim]; omega) (by rw [nv_lim]; omega) (by rw [nv_lim, nv_lim]; exact HC.out)).mono ?_
        rintro e wn ⟨rfl, bb⟩
        replace bw := below_on bw bb bw.size
        go_wp2_with fail
        go_ret
        exact ⟨rfl, bw⟩
      · go_wp2_with fail
        go_ret
        exact ⟨by rw [← HC.out]; rfl, bw⟩
      · go_wp2_with fail
        go_ret
        exact ⟨by rw [← HC.out]; rfl, bw⟩
      · go_wp2_with fail
        refine (rcmp_any _ A2 A1 c2 c1 _ _ (lim N) (lim M) z nb na rfl rfl (by rw [nv_lim]; omega) (by rw [nv_lim]; omega) (by rw [nv_lim, nv_lim]; exact HC.out)).mono ?_
        rintro e wn ⟨rfl, bb⟩
        replace bw := below_on bw bb bw.size
        go_wp2_with fail
        go_ret
        exact ⟨rfl, bw⟩
end Go.Proofs.Ytnmomigaedfdoaa
