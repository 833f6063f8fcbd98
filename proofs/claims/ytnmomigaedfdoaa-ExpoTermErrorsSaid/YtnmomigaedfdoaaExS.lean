/- The reference's check. -/
import Derived.Test.YtnmomigaedfdoaaExL
import Derived.Test.YtnmomigaedfdoaaExN
namespace Go.Proofs.Ytnmomigaedfdoaa
set_option maxRecDepth 100000
open Go.RowKit

set_option maxHeartbeats 6400000 in
theorem echeck_any (w : World) (x : Fx) (n bits E : Int) (hx : x.ok w) (l1 : x.xs.length ≤ 10000) (l2 : x.ys.length ≤ 10000) (he : chkE x bits n = E) :
    Calls Try.prog 54 #[x.val, .int .i64 n, .int .i64 bits] w fun e w' => ∃ y : Fx, e = .returned (.tuple #[y.val, .int .i64 E]) ∧ y.ok w' ∧ (E = 0 → Rp y x.q) ∧ Below w.heap.size w w' := by
  have HE := Lib.hid he
  clear he
  by_cases hv : x.v
  · have HV := Lib.hid hv
    have HSZ : Hid (Sz x.q 128 128) := Lib.hid (redS_ok hv).2
    clear hv
    go_enter Try.func54, Try.ntmps54
    go_wp2_with fail
    have hs1 : w.heap.size < (w.alloc (.cells x.cells 26)).heap.size := by simp
    have b0 := (Below.refl w.heap.size w).alloc (Nat.le_refl _) (.cells x.cells 26)
    have b1 := (Below.refl (w.alloc (.cells x.cells 26)).heap.size (w.alloc (.cells x.cells 26))).alloc (Nat.le_refl _) (.cells #[.bool false, .slice none 0 0, .slice none 0 0] 26)
    have bx := (bk3_alloc w (.bool x.b) (.slice x.A x.xs.length x.c) (.slice x.D x.ys.length x.d)).below b1
    have bk := bk3_new (w.alloc (.cells x.cells 26))
    rw [size_box] at bk
    have okx := (hx.below b0).below b1
    have bw := below_on b0 b1 (Nat.le_of_lt hs1)
    clear hs1 b0 b1
    revert bx bk okx bw
    generalize ((w.alloc (.cells x.cells 26)).alloc (.cells #[.bool false, .slice none 0 0, .slice none 0 0] 26)) = w1
    intro bx bk okx bw
    have tx := bx
    obtain ⟨x0, x1, x2, xf0, xf1, xf2, xlt, xb⟩ := tx
    clear xb
    go_wp2_with fail
    clear x0 x1 x2 xf0 xf1 xf2 xlt
    refine (rfreduce_any w1 x (okS x.q) okx l1 l2 (redS_okS HV.out)).mono ?_
    rintro _ wn ⟨⟨yb, yA, yc, yxs, yD, yd, yys⟩, rfl, hs, ok1, bb⟩
    have HY := Lib.hid (Rp.of hs)
    have e0 : (okS x.q).2.2.2 = 0 := rfl
    clear hs bx
    try replace bx := bx.below bb
    try replace by_ := by_.below bb
    try replace bk := bk.below bb
    try replace okx := okx.below bb
    try replace oky := oky.below bb
    try replace ok1 := ok1.below bb
    try replace na := na.below bb
    try replace nb := nb.below bb
    try replace nc := nc.below bb
    try replace nd := nd.below bb
    try replace ne := ne.below bb
    replace bw := below_on bw bb bw.size
    clear bb
    go_upto_region 4 with fail
    clear e0
    have a8 := (fa_alloc ok1).1
    have bb := (fa_alloc ok1).2
    clear ok1
    generalize (wn.alloc (.cells #[.bool yb, .slice yA yxs.length yc, .slice yD yys.length yd] 26)) = w3 at a8 bb ⊢
    replace bk := bk.below bb
    replace bw := below_on bw bb bw.size
    clear bb
    generalize wn.heap.size = g8 at a8 ⊢
    have A8 := Lib.hid a8
    have BK := Lib.hid bk
    have HBW := Lib.hid bw
    clear a8 bk bw okx
    have HYB : Hid (yb = decide (x.q < 0)) := Lib.hid (by
      rw [show yb = decide (x.q.num < 0) from HY.out.b]
      by_cases h : x.q < 0
      · rw [decide_eq_true h, decide_eq_true (by have := (not_congr (Rat.num_nonneg (q := x.q))).2 (by grind); omega)]
      · rw [decide_eq_false h, decide_eq_false (by have := (Rat.num_nonneg (q := x.q)).2 (by grind); omega)])
    by_cases q0 : x.q < 0
    · have PR : Hid (rangeP x.q bits n) := Lib.hid (Or.inl q0)
      obtain rfl : yb = true := by rw [HYB.out]; exact decide_eq_true q0
      clear q0
      refine wp_region_held_drew (S := fun w' => w'.cell? ⟨g8, 0, none⟩ = some (.bool true) ∧ w'.cell? ⟨g8, 1, none⟩ = some (.slice yA yxs.length yc) ∧ w'.cell? ⟨g8, 2, none⟩ = some (.slice yD yys.length yd)) (by kernel_rfl) ⟨(A8.out.below ((Below.refl w3.heap.size w3).drew)).c0, (A8.out.below ((Below.refl w3.heap.size w3).drew)).c1, (A8.out.below ((Below.refl w3.heap.size w3).drew)).c2⟩ (fun hHeld => ?_)
      have bz := (Below.refl w3.heap.size w3).drew
      generalize w3.drew = wd at *
      refine tkw 0 (.pointer (some ⟨g8, 0, none⟩)) rfl (by kernel_rfl) (by kernel_rfl) (by kernel_rfl) (fun _ _ _ h => h) ⟨by rfl, ?_⟩ (by assumption) ?_
      ·intro w hSw; go_simp; (try with_reducible rfl)
      try simp only [Act.put, tzA, tzB, tzD, tzE, tzF]
      refine tkw 1 (.bool true) rfl (by kernel_rfl) (by kernel_rfl) (by kernel_rfl) (fun _ _ _ h => h) ⟨by rfl, ?_⟩ (by assumption) ?_
      ·intro w hSw; (try dsimp only at hSw); obtain ⟨s0, _⟩ := hSw; go_simp; (try with_reducible rfl)
      try simp only [Act.put, tzA, tzB, tzC, tzD, tzE, tzF]
      refine tkw 2 (.bool true) rfl (by kernel_rfl) (by kernel_rfl) (by kernel_rfl) (fun _ _ _ h => h) ⟨by rfl, ?_⟩ (by assumption) ?_
      ·intro w hSw; go_simp; (try with_reducible rfl)
      try simp only [Act.put, tzA, tzB, tzC, tzD, tzE, tzF]
      refine tku 3 rfl (by kernel_rfl) (by kernel_rfl) (by kernel_rfl) (fun _ _ _ h => h) (by kernel_rfl) (by assumption) ?_
      try simp only [Act.put, tzA, tzB, tzC, tzD, tzE, tzF]
      refine tku 4 rfl (by kernel_rfl) (by kernel_rfl) (by kernel_rfl) (fun _ _ _ h => h) (by kernel_rfl) (by assumption) ?_
      try simp only [Act.put, tzA, tzB, tzC, tzD, tzE, tzF]
      refine tku 5 rfl (by kernel_rfl) (by kernel_rfl) (by kernel_rfl) (fun _ _ _ h => h) (by kernel_rfl) (by assumption) ?_
      try simp only [Act.put, tzA, tzB, tzC, tzD, tzE, tzF]
      refine tkw 6 (.bool true) rfl (by kernel_rfl) (by kernel_rfl) (by kernel_rfl) (fun _ _ _ h => h) ⟨by rfl, ?_⟩ (by assumption) ?_
      ·intro w hSw; go_simp; (try with_reducible rfl)
      try simp only [Act.put, tzA, tzB, tzC, tzD, tzE, tzF]
      refine tkw 7 (.bool true) rfl (by kernel_rfl) (by kernel_rfl) (by kernel_rfl) (fun _ _ _ h => h) ⟨by rfl, ?_⟩ (by assumption) ?_
      ·intro w hSw; go_simp; (try with_reducible rfl)
      try simp only [Act.put, tzA, tzB, tzC, tzD, tzE, tzF]
      refine tku 8 rfl (by kernel_rfl) (by kernel_rfl) (by kernel_rfl) (fun _ _ _ h => h) (by kernel_rfl) (by assumption) ?_
      try simp only [Act.put, tzA, tzB, tzC, tzD, tzE, tzF]
      refine tku 9 rfl (by kernel_rfl) (by kernel_rfl) (by kernel_rfl) (fun _ _ _ h => h) (by kernel_rfl) (by assumption) ?_
      try simp only [Act.put, tzA, tzB, tzC, tzD, tzE, tzF]
      refine tkw 10 (.bool true) rfl (by kernel_rfl) (by kernel_rfl) (by kernel_rfl) (fun _ _ _ h => h) ⟨by rfl, ?_⟩ (by assumption) ?_
      ·intro w hSw; go_simp; (try with_reducible rfl)
      try simp only [Act.put, tzA, tzB, tzC, tzD, tzE, tzF]
      refine tkw 11 (.bool true) rfl (by kernel_rfl) (by kernel_rfl) (by kernel_rfl) (fun _ _ _ h => h) ⟨by rfl, ?_⟩ (by assumption) ?_
      ·intro w hSw; go_simp; (try with_reducible rfl)
      try simp only [Act.put, tzA, tzB, tzC, tzD, tzE, tzF]
      refine tku 12 rfl (by kernel_rfl) (by kernel_rfl) (by kernel_rfl) (fun _ _ _ h => h) (by kernel_rfl) (by assumption) ?_
      try simp only [Act.put, tzA, tzB, tzC, tzD, tzE, tzF]
      refine tku 13 rfl (by kernel_rfl) (by kernel_rfl) (by kernel_rfl) (fun _ _ _ h => h) (by kernel_rfl) (by assumption) ?_
      try simp only [Act.put, tzA, tzB, tzC, tzD, tzE, tzF]
      refine tkw 14 (.bool true) rfl (by kernel_rfl) (by kernel_rfl) (by kernel_rfl) (fun _ _ _ h => h) ⟨by rfl, ?_⟩ (by assumption) ?_
      ·intro w hSw; go_simp; (try with_reducible rfl)
      try simp only [Act.put, tzA, tzB, tzC, tzD, tzE, tzF]
      refine tkw 15 (.bool true) rfl (by kernel_rfl) (by kernel_rfl) (by kernel_rfl) (fun _ _ _ h => h) ⟨by rfl, ?_⟩ (by assumption) ?_
      ·intro w hSw; go_simp; (try with_reducible rfl)
      try simp only [Act.put, tzA, tzB, tzC, tzD, tzE, tzF]
      refine tku 16 rfl (by kernel_rfl) (by kernel_rfl) (by kernel_rfl) (fun _ _ _ h => h) (by kernel_rfl) (by assumption) ?_
      try simp only [Act.put, tzA, tzB, tzC, tzD, tzE, tzF]
      refine tku 17 rfl (by kernel_rfl) (by kernel_rfl) (by kernel_rfl) (fun _ _ _ h => h) (by kernel_rfl) (by assumption) ?_
      try simp only [Act.put, tzA, tzB, tzC, tzD, tzE, tzF]
      refine tkw 18 (.bool true) rfl (by kernel_rfl) (by kernel_rfl) (by kernel_rfl) (fun _ _ _ h => h) ⟨by rfl, ?_⟩ (by assumption) ?_
      ·intro w hSw; go_simp; (try with_reducible rfl)
      try simp only [Act.put, tzA, tzB, tzC, tzD, tzE, tzF]
      refine tkw 19 (.bool true) rfl (by kernel_rfl) (by kernel_rfl) (by kernel_rfl) (fun _ _ _ h => h) ⟨by rfl, ?_⟩ (by assumption) ?_
      ·intro w hSw; go_simp; (try with_reducible rfl)
      try simp only [Act.put, tzA, tzB, tzC, tzD, tzE, tzF]
      refine tku 20 rfl (by kernel_rfl) (by kernel_rfl) (by kernel_rfl) (fun _ _ _ h => h) (by kernel_rfl) (by assumption) ?_
      try simp only [Act.put, tzA, tzB, tzC, tzD, tzE, tzF]
      refine tku 21 rfl (by kernel_rfl) (by kernel_rfl) (by kernel_rfl) (fun _ _ _ h => h) (by kernel_rfl) (by assumption) ?_
      try simp only [Act.put, tzA, tzB, tzC, tzD, tzE, tzF]
      refine tkw 22 (.bool true) rfl (by kernel_rfl) (by kernel_rfl) (by kernel_rfl) (fun _ _ _ h => h) ⟨by rfl, ?_⟩ (by assumption) ?_
      ·intro w hSw; go_simp; (try with_reducible rfl)
      try simp only [Act.put, tzA, tzB, tzC, tzD, tzE, tzF]
      refine wpAnyH_done (by kernel_rfl) ?_ _
      have kq := BK.out.below bz
      have bt := below_on HBW.out bz HBW.out.size
      have tk := kq
      obtain ⟨k0, k1, k2, kf0, kf1, kf2, klt, kb⟩ := tk
      clear kb
      go_wp2_with fail
      refine bodyPost_ret (v := .tuple #[(Fx.nil : Fx).val, .int .i64 5]) (by simp [results, Try.results54, go_sem, k0, k1, k2]) rfl ?_
      obtain rfl : E = 5 := by rw [← HE.out, chkE, if_neg (fun k => k HV.out), if_pos PR.out]
      exact ⟨Fx.nil, rfl, Fx.nil_ok _, fun h => absurd h (by decide), set3g bt (by omega)⟩
    · obtain rfl : yb = false := by rw [HYB.out]; exact decide_eq_false q0
      by_cases q1 : ((64 : Int) : Rat) < x.q
      · have PR : Hid (rangeP x.q bits n) := Lib.hid (Or.inr (Or.inl q1))
        have HLS : Hid (decide (((64 : Int) : Rat) < x.q) = true) := Lib.hid (decide_eq_true q1)
        clear q0 q1
        refine wp_region_held_drew (S := fun w' => w'.cell? ⟨g8, 0, none⟩ = some (.bool false) ∧ w'.cell? ⟨g8, 1, none⟩ = some (.slice yA yxs.length yc) ∧ w'.cell? ⟨g8, 2, none⟩ = some (.slice yD yys.length yd)) (by kernel_rfl) ⟨(A8.out.below ((Below.refl w3.heap.size w3).drew)).c0, (A8.out.below ((Below.refl w3.heap.size w3).drew)).c1, (A8.out.below ((Below.refl w3.heap.size w3).drew)).c2⟩ (fun hHeld => ?_)
        have bz := (Below.refl w3.heap.size w3).drew
        generalize w3.drew = wd at *
        refine tkw 0 (.pointer (some ⟨g8, 0, none⟩)) rfl (by kernel_rfl) (by kernel_rfl) (by kernel_rfl) (fun _ _ _ h => h) ⟨by rfl, ?_⟩ (by assumption) ?_
        ·intro w hSw; go_simp; (try with_reducible rfl)
        try simp only [Act.put, tzA, tzB, tzD, tzE, tzF]
        refine tkw 1 (.bool false) rfl (by kernel_rfl) (by kernel_rfl) (by kernel_rfl) (fun _ _ _ h => h) ⟨by rfl, ?_⟩ (by assumption) ?_
        ·intro w hSw; (try dsimp only at hSw); obtain ⟨s0, _⟩ := hSw; go_simp; (try with_reducible rfl)
        try simp only [Act.put, tzA, tzB, tzC, tzD, tzE, tzF]
        refine tkw 2 (.bool false) rfl (by kernel_rfl) (by kernel_rfl) (by kernel_rfl) (fun _ _ _ h => h) ⟨by rfl, ?_⟩ (by assumption) ?_
        ·intro w hSw; go_simp; (try with_reducible rfl)
        try simp only [Act.put, tzA, tzB, tzC, tzD, tzE, tzF]
        refine tkw 4 (.agg #[.bool false, .slice yA yxs.length yc, .slice yD yys.length yd]) rfl (by kernel_rfl) (by kernel_rfl) (by kernel_rfl) (fun _ _ _ h => h) ⟨by kernel_rfl, ?_⟩ (by assumption) ?_
        ·intro w hSw; (try dsimp only at hSw); obtain ⟨s0, s1, s2⟩ := hSw; go_simp; (try with_reducible rfl)
        try simp only [Act.put, tzA, tzB, tzC, tzD, tzE, tzF]
        refine wpAnyH_ready (rs := [3]) (by kernel_rfl) (by simp) ?_
        refine AllReadyH.cons rfl (fun K hK => ?_) ?_
        ·go_simp
         go_at_call 16
         refine (xint_any wd 64 (by omega) (by omega)).mono ?_
         rintro _ wd ⟨z1, rfl, rz, oz, bb⟩
         try replace oz := oz.below bb
         replace bz := below_on bz bb bz.size
         clear bb
         refine hK.out _ _ ⟨(A8.out.below bz).c0, (A8.out.below bz).c1, (A8.out.below bz).c2⟩ (fun hHeld => ?_)
         clear hK K
         try simp only [Act.put]
         try simp only [tzD, tzE, tzF]
         refine wpAnyH_ready (rs := [5]) (by kernel_rfl) (by simp) ?_
         refine AllReadyH.cons rfl (fun K hK => ?_) ?_
         ·go_simp
          go_at_call 15
          refine (xless_any wd z1 ⟨false, yA, yc, yxs, yD, yd, yys⟩ true oz (A8.out.below bz).ok (rz.v sz_64) (HY.out.v HSZ.out) (rz.l1 sz_64) (rz.l2 sz_64) (HY.out.l1 HSZ.out) (HY.out.l2 HSZ.out) (by rw [rz.q, HY.out.q]; exact HLS.out)).mono ?_
          rintro _ wd ⟨rfl, bb⟩
          try replace oz := oz.below bb
          replace bz := below_on bz bb bz.size
          clear bb
          refine hK.out _ _ ⟨(A8.out.below bz).c0, (A8.out.below bz).c1, (A8.out.below bz).c2⟩ (fun hHeld => ?_)
          clear hK K
          try simp only [Act.put]
          try simp only [tzD, tzE, tzF]
          refine tkw 6 (.bool true) rfl (by kernel_rfl) (by kernel_rfl) (by kernel_rfl) (fun _ _ _ h => h) ⟨by rfl, ?_⟩ (by assumption) ?_
          ·intro w hSw; go_simp; (try with_reducible rfl)
          try simp only [Act.put, tzA, tzB, tzC, tzD, tzE, tzF]
          refine tkw 7 (.bool true) rfl (by kernel_rfl) (by kernel_rfl) (by kernel_rfl) (fun _ _ _ h => h) ⟨by rfl, ?_⟩ (by assumption) ?_
          ·intro w hSw; go_simp; (try with_reducible rfl)
          try simp only [Act.put, tzA, tzB, tzC, tzD, tzE, tzF]
          refine tku 8 rfl (by kernel_rfl) (by kernel_rfl) (by kernel_rfl) (fun _ _ _ h => h) (by kernel_rfl) (by assumption) ?_
          try simp only [Act.put, tzA, tzB, tzC, tzD, tzE, tzF]
          refine tku 9 rfl (by kernel_rfl) (by kernel_rfl) (by kernel_rfl) (fun _ _ _ h => h) (by kernel_rfl) (by assumption) ?_
          try simp only [Act.put, tzA, tzB, tzC, tzD, tzE, tzF]
          refine tkw 10 (.bool true) rfl (by kernel_rfl) (by kernel_rfl) (by kernel_rfl) (fun _ _ _ h => h) ⟨by rfl, ?_⟩ (by assumption) ?_
          ·intro w hSw; go_simp; (try with_reducible rfl)
          try simp only [Act.put, tzA, tzB, tzC, tzD, tzE, tzF]
          refine tkw 11 (.bool true) rfl (by kernel_rfl) (by kernel_rfl) (by kernel_rfl) (fun _ _ _ h => h) ⟨by rfl, ?_⟩ (by assumption) ?_
          ·intro w hSw; go_simp; (try with_reducible rfl)
          try simp only [Act.put, tzA, tzB, tzC, tzD, tzE, tzF]
          refine tku 12 rfl (by kernel_rfl) (by kernel_rfl) (by kernel_rfl) (fun _ _ _ h => h) (by kernel_rfl) (by assumption) ?_
          try simp only [Act.put, tzA, tzB, tzC, tzD, tzE, tzF]
          refine tku 13 rfl (by kernel_rfl) (by kernel_rfl) (by kernel_rfl) (fun _ _ _ h => h) (by kernel_rfl) (by assumption) ?_
          try simp only [Act.put, tzA, tzB, tzC, tzD, tzE, tzF]
          refine tkw 14 (.bool true) rfl (by kernel_rfl) (by kernel_rfl) (by kernel_rfl) (fun _ _ _ h => h) ⟨by rfl, ?_⟩ (by assumption) ?_
          ·intro w hSw; go_simp; (try with_reducible rfl)
          try simp only [Act.put, tzA, tzB, tzC, tzD, tzE, tzF]
          refine tkw 15 (.bool true) rfl (by kernel_rfl) (by kernel_rfl) (by kernel_rfl) (fun _ _ _ h => h) ⟨by rfl, ?_⟩ (by assumption) ?_
          ·intro w hSw; go_simp; (try with_reducible rfl)
          try simp only [Act.put, tzA, tzB, tzC, tzD, tzE, tzF]
          refine tku 16 rfl (by kernel_rfl) (by kernel_rfl) (by kernel_rfl) (fun _ _ _ h => h) (by kernel_rfl) (by assumption) ?_
          try simp only [Act.put, tzA, tzB, tzC, tzD, tzE, tzF]
          refine tku 17 rfl (by kernel_rfl) (by kernel_rfl) (by kernel_rfl) (fun _ _ _ h => h) (by kernel_rfl) (by assumption) ?_
          try simp only [Act.put, tzA, tzB, tzC, tzD, tzE, tzF]
          refine tkw 18 (.bool true) rfl (by kernel_rfl) (by kernel_rfl) (by kernel_rfl) (fun _ _ _ h => h) ⟨by rfl, ?_⟩ (by assumption) ?_
          ·intro w hSw; go_simp; (try with_reducible rfl)
          try simp only [Act.put, tzA, tzB, tzC, tzD, tzE, tzF]
          refine tkw 19 (.bool true) rfl (by kernel_rfl) (by kernel_rfl) (by kernel_rfl) (fun _ _ _ h => h) ⟨by rfl, ?_⟩ (by assumption) ?_
          ·intro w hSw; go_simp; (try with_reducible rfl)
          try simp only [Act.put, tzA, tzB, tzC, tzD, tzE, tzF]
          refine tku 20 rfl (by kernel_rfl) (by kernel_rfl) (by kernel_rfl) (fun _ _ _ h => h) (by kernel_rfl) (by assumption) ?_
          try simp only [Act.put, tzA, tzB, tzC, tzD, tzE, tzF]
          refine tku 21 rfl (by kernel_rfl) (by kernel_rfl) (by kernel_rfl) (fun _ _ _ h => h) (by kernel_rfl) (by assumption) ?_
          try simp only [Act.put, tzA, tzB, tzC, tzD, tzE, tzF]
          refine tkw 22 (.bool true) rfl (by kernel_rfl) (by kernel_rfl) (by kernel_rfl) (fun _ _ _ h => h) ⟨by rfl, ?_⟩ (by assumption) ?_
          ·intro w hSw; go_simp; (try with_reducible rfl)
          try simp only [Act.put, tzA, tzB, tzC, tzD, tzE, tzF]
          refine wpAnyH_done (by kernel_rfl) ?_ _
          have kq := BK.out.below bz
          have bt := below_on HBW.out bz HBW.out.size
          have tk := kq
          obtain ⟨k0, k1, k2, kf0, kf1, kf2, klt, kb⟩ := tk
          clear kb
          go_wp2_with fail
          refine bodyPost_ret (v := .tuple #[(Fx.nil : Fx).val, .int .i64 5]) (by simp [results, Try.results54, go_sem, k0, k1, k2]) rfl ?_
          obtain rfl : E = 5 := by rw [← HE.out, chkE, if_neg (fun k => k HV.out), if_pos PR.out]
          exact ⟨Fx.nil, rfl, Fx.nil_ok _, fun h => absurd h (by decide), set3g bt (by omega)⟩
         exact AllReadyH.nil
        exact AllReadyH.nil
      · have HLS : Hid (decide (((64 : Int) : Rat) < x.q) = false) := Lib.hid (decide_eq_false q1)
        by_cases q2 : bits < 1
        · have PR : Hid (rangeP x.q bits n) := Lib.hid (Or.inr (Or.inr (Or.inl q2)))
          have d2 : decide (bits < 1) = true := decide_eq_true q2
          clear q0 q1 q2
          refine wp_region_held_drew (S := fun w' => w'.cell? ⟨g8, 0, none⟩ = some (.bool false) ∧ w'.cell? ⟨g8, 1, none⟩ = some (.slice yA yxs.length yc) ∧ w'.cell? ⟨g8, 2, none⟩ = some (.slice yD yys.length yd)) (by kernel_rfl) ⟨(A8.out.below ((Below.refl w3.heap.size w3).drew)).c0, (A8.out.below ((Below.refl w3.heap.size w3).drew)).c1, (A8.out.below ((Below.refl w3.heap.size w3).drew)).c2⟩ (fun hHeld => ?_)
          have bz := (Below.refl w3.heap.size w3).drew
          generalize w3.drew = wd at *
          refine tkw 0 (.pointer (some ⟨g8, 0, none⟩)) rfl (by kernel_rfl) (by kernel_rfl) (by kernel_rfl) (fun _ _ _ h => h) ⟨by rfl, ?_⟩ (by assumption) ?_
          ·intro w hSw; go_simp; (try with_reducible rfl)
          try simp only [Act.put, tzA, tzB, tzD, tzE, tzF]
          refine tkw 1 (.bool false) rfl (by kernel_rfl) (by kernel_rfl) (by kernel_rfl) (fun _ _ _ h => h) ⟨by rfl, ?_⟩ (by assumption) ?_
          ·intro w hSw; (try dsimp only at hSw); obtain ⟨s0, _⟩ := hSw; go_simp; (try with_reducible rfl)
          try simp only [Act.put, tzA, tzB, tzC, tzD, tzE, tzF]
          refine tkw 2 (.bool false) rfl (by kernel_rfl) (by kernel_rfl) (by kernel_rfl) (fun _ _ _ h => h) ⟨by rfl, ?_⟩ (by assumption) ?_
          ·intro w hSw; go_simp; (try with_reducible rfl)
          try simp only [Act.put, tzA, tzB, tzC, tzD, tzE, tzF]
          refine tkw 4 (.agg #[.bool false, .slice yA yxs.length yc, .slice yD yys.length yd]) rfl (by kernel_rfl) (by kernel_rfl) (by kernel_rfl) (fun _ _ _ h => h) ⟨by kernel_rfl, ?_⟩ (by assumption) ?_
          ·intro w hSw; (try dsimp only at hSw); obtain ⟨s0, s1, s2⟩ := hSw; go_simp; (try with_reducible rfl)
          try simp only [Act.put, tzA, tzB, tzC, tzD, tzE, tzF]
          refine wpAnyH_ready (rs := [3]) (by kernel_rfl) (by simp) ?_
          refine AllReadyH.cons rfl (fun K hK => ?_) ?_
          ·go_simp
           go_at_call 16
           refine (xint_any wd 64 (by omega) (by omega)).mono ?_
           rintro _ wd ⟨z1, rfl, rz, oz, bb⟩
           try replace oz := oz.below bb
           replace bz := below_on bz bb bz.size
           clear bb
           refine hK.out _ _ ⟨(A8.out.below bz).c0, (A8.out.below bz).c1, (A8.out.below bz).c2⟩ (fun hHeld => ?_)
           clear hK K
           try simp only [Act.put]
           try simp only [tzD, tzE, tzF]
           refine wpAnyH_ready (rs := [5]) (by kernel_rfl) (by simp) ?_
           refine AllReadyH.cons rfl (fun K hK => ?_) ?_
           ·go_simp
            go_at_call 15
            refine (xless_any wd z1 ⟨false, yA, yc, yxs, yD, yd, yys⟩ false oz (A8.out.below bz).ok (rz.v sz_64) (HY.out.v HSZ.out) (rz.l1 sz_64) (rz.l2 sz_64) (HY.out.l1 HSZ.out) (HY.out.l2 HSZ.out) (by rw [rz.q, HY.out.q]; exact HLS.out)).mono ?_
            rintro _ wd ⟨rfl, bb⟩
            try replace oz := oz.below bb
            replace bz := below_on bz bb bz.size
            clear bb
            refine hK.out _ _ ⟨(A8.out.below bz).c0, (A8.out.below bz).c1, (A8.out.below bz).c2⟩ (fun hHeld => ?_)
            clear hK K
            try simp only [Act.put]
            try simp only [tzD, tzE, tzF]
            refine tkw 6 (.bool false) rfl (by kernel_rfl) (by kernel_rfl) (by kernel_rfl) (fun _ _ _ h => h) ⟨by rfl, ?_⟩ (by assumption) ?_
            ·intro w hSw; go_simp; (try with_reducible rfl)
            try simp only [Act.put, tzA, tzB, tzC, tzD, tzE, tzF]
            refine tkw 7 (.bool false) rfl (by kernel_rfl) (by kernel_rfl) (by kernel_rfl) (fun _ _ _ h => h) ⟨by rfl, ?_⟩ (by assumption) ?_
            ·intro w hSw; go_simp; (try with_reducible rfl)
            try simp only [Act.put, tzA, tzB, tzC, tzD, tzE, tzF]
            refine tkw 8 (.int .i64 bits) rfl (by kernel_rfl) (by kernel_rfl) (by kernel_rfl) (fun _ _ _ h => h) ⟨by kernel_rfl, ?_⟩ (by assumption) ?_
            ·intro w hSw; go_simp; (try with_reducible rfl)
            try simp only [Act.put, tzA, tzB, tzC, tzD, tzE, tzF]
            refine tkw 9 (.bool true) rfl (by kernel_rfl) (by kernel_rfl) (by kernel_rfl) (fun _ _ _ h => h) ⟨by kernel_rfl, ?_⟩ (by assumption) ?_
            ·intro w hSw; go_simp; (try with_reducible rfl)
            try simp only [Act.put, tzA, tzB, tzC, tzD, tzE, tzF]
            refine tkw 10 (.bool true) rfl (by kernel_rfl) (by kernel_rfl) (by kernel_rfl) (fun _ _ _ h => h) ⟨by rfl, ?_⟩ (by assumption) ?_
            ·intro w hSw; go_simp; (try with_reducible rfl)
            try simp only [Act.put, tzA, tzB, tzC, tzD, tzE, tzF]
            refine tkw 11 (.bool true) rfl (by kernel_rfl) (by kernel_rfl) (by kernel_rfl) (fun _ _ _ h => h) ⟨by rfl, ?_⟩ (by assumption) ?_
            ·intro w hSw; go_simp; (try with_reducible rfl)
            try simp only [Act.put, tzA, tzB, tzC, tzD, tzE, tzF]
            refine tku 12 rfl (by kernel_rfl) (by kernel_rfl) (by kernel_rfl) (fun _ _ _ h => h) (by kernel_rfl) (by assumption) ?_
            try simp only [Act.put, tzA, tzB, tzC, tzD, tzE, tzF]
            refine tku 13 rfl (by kernel_rfl) (by kernel_rfl) (by kernel_rfl) (fun _ _ _ h => h) (by kernel_rfl) (by assumption) ?_
            try simp only [Act.put, tzA, tzB, tzC, tzD, tzE, tzF]
            refine tkw 14 (.bool true) rfl (by kernel_rfl) (by kernel_rfl) (by kernel_rfl) (fun _ _ _ h => h) ⟨by rfl, ?_⟩ (by assumption) ?_
            ·intro w hSw; go_simp; (try with_reducible rfl)
            try simp only [Act.put, tzA, tzB, tzC, tzD, tzE, tzF]
            refine tkw 15 (.bool true) rfl (by kernel_rfl) (by kernel_rfl) (by kernel_rfl) (fun _ _ _ h => h) ⟨by rfl, ?_⟩ (by assumption) ?_
            ·intro w hSw; go_simp; (try with_reducible rfl)
            try simp only [Act.put, tzA, tzB, tzC, tzD, tzE, tzF]
            refine tku 16 rfl (by kernel_rfl) (by kernel_rfl) (by kernel_rfl) (fun _ _ _ h => h) (by kernel_rfl) (by assumption) ?_
            try simp only [Act.put, tzA, tzB, tzC, tzD, tzE, tzF]
            refine tku 17 rfl (by kernel_rfl) (by kernel_rfl) (by kernel_rfl) (fun _ _ _ h => h) (by kernel_rfl) (by assumption) ?_
            try simp only [Act.put, tzA, tzB, tzC, tzD, tzE, tzF]
            refine tkw 18 (.bool true) rfl (by kernel_rfl) (by kernel_rfl) (by kernel_rfl) (fun _ _ _ h => h) ⟨by rfl, ?_⟩ (by assumption) ?_
            ·intro w hSw; go_simp; (try with_reducible rfl)
            try simp only [Act.put, tzA, tzB, tzC, tzD, tzE, tzF]
            refine tkw 19 (.bool true) rfl (by kernel_rfl) (by kernel_rfl) (by kernel_rfl) (fun _ _ _ h => h) ⟨by rfl, ?_⟩ (by assumption) ?_
            ·intro w hSw; go_simp; (try with_reducible rfl)
            try simp only [Act.put, tzA, tzB, tzC, tzD, tzE, tzF]
            refine tku 20 rfl (by kernel_rfl) (by kernel_rfl) (by kernel_rfl) (fun _ _ _ h => h) (by kernel_rfl) (by assumption) ?_
            try simp only [Act.put, tzA, tzB, tzC, tzD, tzE, tzF]
            refine tku 21 rfl (by kernel_rfl) (by kernel_rfl) (by kernel_rfl) (fun _ _ _ h => h) (by kernel_rfl) (by assumption) ?_
            try simp only [Act.put, tzA, tzB, tzC, tzD, tzE, tzF]
            refine tkw 22 (.bool true) rfl (by kernel_rfl) (by kernel_rfl) (by kernel_rfl) (fun _ _ _ h => h) ⟨by rfl, ?_⟩ (by assumption) ?_
            ·intro w hSw; go_simp; (try with_reducible rfl)
            try simp only [Act.put, tzA, tzB, tzC, tzD, tzE, tzF]
            refine wpAnyH_done (by kernel_rfl) ?_ _
            have kq := BK.out.below bz
            have bt := below_on HBW.out bz HBW.out.size
            have tk := kq
            obtain ⟨k0, k1, k2, kf0, kf1, kf2, klt, kb⟩ := tk
            clear kb
            go_wp2_with fail
            refine bodyPost_ret (v := .tuple #[(Fx.nil : Fx).val, .int .i64 5]) (by simp [results, Try.results54, go_sem, k0, k1, k2]) rfl ?_
            obtain rfl : E = 5 := by rw [← HE.out, chkE, if_neg (fun k => k HV.out), if_pos PR.out]
            exact ⟨Fx.nil, rfl, Fx.nil_ok _, fun h => absurd h (by decide), set3g bt (by omega)⟩
           exact AllReadyH.nil
          exact AllReadyH.nil
        · have d2 : decide (bits < 1) = false := decide_eq_false q2
          by_cases q3 : 64 < bits
          · have PR : Hid (rangeP x.q bits n) := Lib.hid (Or.inr (Or.inr (Or.inr (Or.inl q3))))
            have d3 : decide (64 < bits) = true := decide_eq_true q3
            clear q0 q1 q2 q3
            refine wp_region_held_drew (S := fun w' => w'.cell? ⟨g8, 0, none⟩ = some (.bool false) ∧ w'.cell? ⟨g8, 1, none⟩ = some (.slice yA yxs.length yc) ∧ w'.cell? ⟨g8, 2, none⟩ = some (.slice yD yys.length yd)) (by kernel_rfl) ⟨(A8.out.below ((Below.refl w3.heap.size w3).drew)).c0, (A8.out.below ((Below.refl w3.heap.size w3).drew)).c1, (A8.out.below ((Below.refl w3.heap.size w3).drew)).c2⟩ (fun hHeld => ?_)
            have bz := (Below.refl w3.heap.size w3).drew
            generalize w3.drew = wd at *
            refine tkw 0 (.pointer (some ⟨g8, 0, none⟩)) rfl (by kernel_rfl) (by kernel_rfl) (by kernel_rfl) (fun _ _ _ h => h) ⟨by rfl, ?_⟩ (by assumption) ?_
            ·intro w hSw; go_simp; (try with_reducible rfl)
            try simp only [Act.put, tzA, tzB, tzD, tzE, tzF]
            refine tkw 1 (.bool false) rfl (by kernel_rfl) (by kernel_rfl) (by kernel_rfl) (fun _ _ _ h => h) ⟨by rfl, ?_⟩ (by assumption) ?_
            ·intro w hSw; (try dsimp only at hSw); obtain ⟨s0, _⟩ := hSw; go_simp; (try with_reducible rfl)
            try simp only [Act.put, tzA, tzB, tzC, tzD, tzE, tzF]
            refine tkw 2 (.bool false) rfl (by kernel_rfl) (by kernel_rfl) (by kernel_rfl) (fun _ _ _ h => h) ⟨by rfl, ?_⟩ (by assumption) ?_
            ·intro w hSw; go_simp; (try with_reducible rfl)
            try simp only [Act.put, tzA, tzB, tzC, tzD, tzE, tzF]
            refine tkw 4 (.agg #[.bool false, .slice yA yxs.length yc, .slice yD yys.length yd]) rfl (by kernel_rfl) (by kernel_rfl) (by kernel_rfl) (fun _ _ _ h => h) ⟨by kernel_rfl, ?_⟩ (by assumption) ?_
            ·intro w hSw; (try dsimp only at hSw); obtain ⟨s0, s1, s2⟩ := hSw; go_simp; (try with_reducible rfl)
            try simp only [Act.put, tzA, tzB, tzC, tzD, tzE, tzF]
            refine wpAnyH_ready (rs := [3]) (by kernel_rfl) (by simp) ?_
            refine AllReadyH.cons rfl (fun K hK => ?_) ?_
            ·go_simp
             go_at_call 16
             refine (xint_any wd 64 (by omega) (by omega)).mono ?_
             rintro _ wd ⟨z1, rfl, rz, oz, bb⟩
             try replace oz := oz.below bb
             replace bz := below_on bz bb bz.size
             clear bb
             refine hK.out _ _ ⟨(A8.out.below bz).c0, (A8.out.below bz).c1, (A8.out.below bz).c2⟩ (fun hHeld => ?_)
             clear hK K
             try simp only [Act.put]
             try simp only [tzD, tzE, tzF]
             refine wpAnyH_ready (rs := [5]) (by kernel_rfl) (by simp) ?_
             refine AllReadyH.cons rfl (fun K hK => ?_) ?_
             ·go_simp
              go_at_call 15
              refine (xless_any wd z1 ⟨false, yA, yc, yxs, yD, yd, yys⟩ false oz (A8.out.below bz).ok (rz.v sz_64) (HY.out.v HSZ.out) (rz.l1 sz_64) (rz.l2 sz_64) (HY.out.l1 HSZ.out) (HY.out.l2 HSZ.out) (by rw [rz.q, HY.out.q]; exact HLS.out)).mono ?_
              rintro _ wd ⟨rfl, bb⟩
              try replace oz := oz.below bb
              replace bz := below_on bz bb bz.size
              clear bb
              refine hK.out _ _ ⟨(A8.out.below bz).c0, (A8.out.below bz).c1, (A8.out.below bz).c2⟩ (fun hHeld => ?_)
              clear hK K
              try simp only [Act.put]
              try simp only [tzD, tzE, tzF]
              refine tkw 6 (.bool false) rfl (by kernel_rfl) (by kernel_rfl) (by kernel_rfl) (fun _ _ _ h => h) ⟨by rfl, ?_⟩ (by assumption) ?_
              ·intro w hSw; go_simp; (try with_reducible rfl)
              try simp only [Act.put, tzA, tzB, tzC, tzD, tzE, tzF]
              refine tkw 7 (.bool false) rfl (by kernel_rfl) (by kernel_rfl) (by kernel_rfl) (fun _ _ _ h => h) ⟨by rfl, ?_⟩ (by assumption) ?_
              ·intro w hSw; go_simp; (try with_reducible rfl)
              try simp only [Act.put, tzA, tzB, tzC, tzD, tzE, tzF]
              refine tkw 8 (.int .i64 bits) rfl (by kernel_rfl) (by kernel_rfl) (by kernel_rfl) (fun _ _ _ h => h) ⟨by kernel_rfl, ?_⟩ (by assumption) ?_
              ·intro w hSw; go_simp; (try with_reducible rfl)
              try simp only [Act.put, tzA, tzB, tzC, tzD, tzE, tzF]
              refine tkw 9 (.bool false) rfl (by kernel_rfl) (by kernel_rfl) (by kernel_rfl) (fun _ _ _ h => h) ⟨by kernel_rfl, ?_⟩ (by assumption) ?_
              ·intro w hSw; go_simp; (try with_reducible rfl)
              try simp only [Act.put, tzA, tzB, tzC, tzD, tzE, tzF]
              refine tkw 10 (.bool false) rfl (by kernel_rfl) (by kernel_rfl) (by kernel_rfl) (fun _ _ _ h => h) ⟨by rfl, ?_⟩ (by assumption) ?_
              ·intro w hSw; go_simp; (try with_reducible rfl)
              try simp only [Act.put, tzA, tzB, tzC, tzD, tzE, tzF]
              refine tkw 11 (.bool false) rfl (by kernel_rfl) (by kernel_rfl) (by kernel_rfl) (fun _ _ _ h => h) ⟨by rfl, ?_⟩ (by assumption) ?_
              ·intro w hSw; go_simp; (try with_reducible rfl)
              try simp only [Act.put, tzA, tzB, tzC, tzD, tzE, tzF]
              refine tkw 12 (.int .i64 bits) rfl (by kernel_rfl) (by kernel_rfl) (by kernel_rfl) (fun _ _ _ h => h) ⟨by kernel_rfl, ?_⟩ (by assumption) ?_
              ·intro w hSw; go_simp; (try with_reducible rfl)
              try simp only [Act.put, tzA, tzB, tzC, tzD, tzE, tzF]
              refine tkw 13 (.bool true) rfl (by kernel_rfl) (by kernel_rfl) (by kernel_rfl) (fun _ _ _ h => h) ⟨by kernel_rfl, ?_⟩ (by assumption) ?_
              ·intro w hSw; go_simp; (try with_reducible rfl)
              try simp only [Act.put, tzA, tzB, tzC, tzD, tzE, tzF]
              refine tkw 14 (.bool true) rfl (by kernel_rfl) (by kernel_rfl) (by kernel_rfl) (fun _ _ _ h => h) ⟨by rfl, ?_⟩ (by assumption) ?_
              ·intro w hSw; go_simp; (try with_reducible rfl)
              try simp only [Act.put, tzA, tzB, tzC, tzD, tzE, tzF]
              refine tkw 15 (.bool true) rfl (by kernel_rfl) (by kernel_rfl) (by kernel_rfl) (fun _ _ _ h => h) ⟨by rfl, ?_⟩ (by assumption) ?_
              ·intro w hSw; go_simp; (try with_reducible rfl)
              try simp only [Act.put, tzA, tzB, tzC, tzD, tzE, tzF]
              refine tku 16 rfl (by kernel_rfl) (by kernel_rfl) (by kernel_rfl) (fun _ _ _ h => h) (by kernel_rfl) (by assumption) ?_
              try simp only [Act.put, tzA, tzB, tzC, tzD, tzE, tzF]
              refine tku 17 rfl (by kernel_rfl) (by kernel_rfl) (by kernel_rfl) (fun _ _ _ h => h) (by kernel_rfl) (by assumption) ?_
              try simp only [Act.put, tzA, tzB, tzC, tzD, tzE, tzF]
              refine tkw 18 (.bool true) rfl (by kernel_rfl) (by kernel_rfl) (by kernel_rfl) (fun _ _ _ h => h) ⟨by rfl, ?_⟩ (by assumption) ?_
              ·intro w hSw; go_simp; (try with_reducible rfl)
              try simp only [Act.put, tzA, tzB, tzC, tzD, tzE, tzF]
              refine tkw 19 (.bool true) rfl (by kernel_rfl) (by kernel_rfl) (by kernel_rfl) (fun _ _ _ h => h) ⟨by rfl, ?_⟩ (by assumption) ?_
              ·intro w hSw; go_simp; (try with_reducible rfl)
              try simp only [Act.put, tzA, tzB, tzC, tzD, tzE, tzF]
              refine tku 20 rfl (by kernel_rfl) (by kernel_rfl) (by kernel_rfl) (fun _ _ _ h => h) (by kernel_rfl) (by assumption) ?_
              try simp only [Act.put, tzA, tzB, tzC, tzD, tzE, tzF]
              refine tku 21 rfl (by kernel_rfl) (by kernel_rfl) (by kernel_rfl) (fun _ _ _ h => h) (by kernel_rfl) (by assumption) ?_
              try simp only [Act.put, tzA, tzB, tzC, tzD, tzE, tzF]
              refine tkw 22 (.bool true) rfl (by kernel_rfl) (by kernel_rfl) (by kernel_rfl) (fun _ _ _ h => h) ⟨by rfl, ?_⟩ (by assumption) ?_
              ·intro w hSw; go_simp; (try with_reducible rfl)
              try simp only [Act.put, tzA, tzB, tzC, tzD, tzE, tzF]
              refine wpAnyH_done (by kernel_rfl) ?_ _
              have kq := BK.out.below bz
              have bt := below_on HBW.out bz HBW.out.size
              have tk := kq
              obtain ⟨k0, k1, k2, kf0, kf1, kf2, klt, kb⟩ := tk
              clear kb
              go_wp2_with fail
              refine bodyPost_ret (v := .tuple #[(Fx.nil : Fx).val, .int .i64 5]) (by simp [results, Try.results54, go_sem, k0, k1, k2]) rfl ?_
              obtain rfl : E = 5 := by rw [← HE.out, chkE, if_neg (fun k => k HV.out), if_pos PR.out]
              exact ⟨Fx.nil, rfl, Fx.nil_ok _, fun h => absurd h (by decide), set3g bt (by omega)⟩
             exact AllReadyH.nil
            exact AllReadyH.nil
          · have d3 : decide (64 < bits) = false := decide_eq_false q3
            by_cases q4 : n < 0
            · have PR : Hid (rangeP x.q bits n) := Lib.hid (Or.inr (Or.inr (Or.inr (Or.inr (Or.inl q4)))))
              have d4 : decide (n < 0) = true := decide_eq_true q4
              clear q0 q1 q2 q3 q4
              refine wp_region_held_drew (S := fun w' => w'.cell? ⟨g8, 0, none⟩ = some (.bool false) ∧ w'.cell? ⟨g8, 1, none⟩ = some (.slice yA yxs.length yc) ∧ w'.cell? ⟨g8, 2, none⟩ = some (.slice yD yys.length yd)) (by kernel_rfl) ⟨(A8.out.below ((Below.refl w3.heap.size w3).drew)).c0, (A8.out.below ((Below.refl w3.heap.size w3).drew)).c1, (A8.out.below ((Below.refl w3.heap.size w3).drew)).c2⟩ (fun hHeld => ?_)
              have bz := (Below.refl w3.heap.size w3).drew
              generalize w3.drew = wd at *
              refine tkw 0 (.pointer (some ⟨g8, 0, none⟩)) rfl (by kernel_rfl) (by kernel_rfl) (by kernel_rfl) (fun _ _ _ h => h) ⟨by rfl, ?_⟩ (by assumption) ?_
              ·intro w hSw; go_simp; (try with_reducible rfl)
              try simp only [Act.put, tzA, tzB, tzD, tzE, tzF]
              refine tkw 1 (.bool false) rfl (by kernel_rfl) (by kernel_rfl) (by kernel_rfl) (fun _ _ _ h => h) ⟨by rfl, ?_⟩ (by assumption) ?_
              ·intro w hSw; (try dsimp only at hSw); obtain ⟨s0, _⟩ := hSw; go_simp; (try with_reducible rfl)
              try simp only [Act.put, tzA, tzB, tzC, tzD, tzE, tzF]
              refine tkw 2 (.bool false) rfl (by kernel_rfl) (by kernel_rfl) (by kernel_rfl) (fun _ _ _ h => h) ⟨by rfl, ?_⟩ (by assumption) ?_
              ·intro w hSw; go_simp; (try with_reducible rfl)
              try simp only [Act.put, tzA, tzB, tzC, tzD, tzE, tzF]
              refine tkw 4 (.agg #[.bool false, .slice yA yxs.length yc, .slice yD yys.length yd]) rfl (by kernel_rfl) (by kernel_rfl) (by kernel_rfl) (fun _ _ _ h => h) ⟨by kernel_rfl, ?_⟩ (by assumption) ?_
              ·intro w hSw; (try dsimp only at hSw); obtain ⟨s0, s1, s2⟩ := hSw; go_simp; (try with_reducible rfl)
              try simp only [Act.put, tzA, tzB, tzC, tzD, tzE, tzF]
              refine wpAnyH_ready (rs := [3]) (by kernel_rfl) (by simp) ?_
              refine AllReadyH.cons rfl (fun K hK => ?_) ?_
              ·go_simp
               go_at_call 16
               refine (xint_any wd 64 (by omega) (by omega)).mono ?_
               rintro _ wd ⟨z1, rfl, rz, oz, bb⟩
               try replace oz := oz.below bb
               replace bz := below_on bz bb bz.size
               clear bb
               refine hK.out _ _ ⟨(A8.out.below bz).c0, (A8.out.below bz).c1, (A8.out.below bz).c2⟩ (fun hHeld => ?_)
               clear hK K
               try simp only [Act.put]
               try simp only [tzD, tzE, tzF]
               refine wpAnyH_ready (rs := [5]) (by kernel_rfl) (by simp) ?_
               refine AllReadyH.cons rfl (fun K hK => ?_) ?_
               ·go_simp
                go_at_call 15
                refine (xless_any wd z1 ⟨false, yA, yc, yxs, yD, yd, yys⟩ false oz (A8.out.below bz).ok (rz.v sz_64) (HY.out.v HSZ.out) (rz.l1 sz_64) (rz.l2 sz_64) (HY.out.l1 HSZ.out) (HY.out.l2 HSZ.out) (by rw [rz.q, HY.out.q]; exact HLS.out)).mono ?_
                rintro _ wd ⟨rfl, bb⟩
                try replace oz := oz.below bb
                replace bz := below_on bz bb bz.size
                clear bb
                refine hK.out _ _ ⟨(A8.out.below bz).c0, (A8.out.below bz).c1, (A8.out.below bz).c2⟩ (fun hHeld => ?_)
                clear hK K
                try simp only [Act.put]
                try simp only [tzD, tzE, tzF]
                refine tkw 6 (.bool false) rfl (by kernel_rfl) (by kernel_rfl) (by kernel_rfl) (fun _ _ _ h => h) ⟨by rfl, ?_⟩ (by assumption) ?_
                ·intro w hSw; go_simp; (try with_reducible rfl)
                try simp only [Act.put, tzA, tzB, tzC, tzD, tzE, tzF]
                refine tkw 7 (.bool false) rfl (by kernel_rfl) (by kernel_rfl) (by kernel_rfl) (fun _ _ _ h => h) ⟨by rfl, ?_⟩ (by assumption) ?_
                ·intro w hSw; go_simp; (try with_reducible rfl)
                try simp only [Act.put, tzA, tzB, tzC, tzD, tzE, tzF]
                refine tkw 8 (.int .i64 bits) rfl (by kernel_rfl) (by kernel_rfl) (by kernel_rfl) (fun _ _ _ h => h) ⟨by kernel_rfl, ?_⟩ (by assumption) ?_
                ·intro w hSw; go_simp; (try with_reducible rfl)
                try simp only [Act.put, tzA, tzB, tzC, tzD, tzE, tzF]
                refine tkw 9 (.bool false) rfl (by kernel_rfl) (by kernel_rfl) (by kernel_rfl) (fun _ _ _ h => h) ⟨by kernel_rfl, ?_⟩ (by assumption) ?_
                ·intro w hSw; go_simp; (try with_reducible rfl)
                try simp only [Act.put, tzA, tzB, tzC, tzD, tzE, tzF]
                refine tkw 10 (.bool false) rfl (by kernel_rfl) (by kernel_rfl) (by kernel_rfl) (fun _ _ _ h => h) ⟨by rfl, ?_⟩ (by assumption) ?_
                ·intro w hSw; go_simp; (try with_reducible rfl)
                try simp only [Act.put, tzA, tzB, tzC, tzD, tzE, tzF]
                refine tkw 11 (.bool false) rfl (by kernel_rfl) (by kernel_rfl) (by kernel_rfl) (fun _ _ _ h => h) ⟨by rfl, ?_⟩ (by assumption) ?_
                ·intro w hSw; go_simp; (try with_reducible rfl)
                try simp only [Act.put, tzA, tzB, tzC, tzD, tzE, tzF]
                refine tkw 12 (.int .i64 bits) rfl (by kernel_rfl) (by kernel_rfl) (by kernel_rfl) (fun _ _ _ h => h) ⟨by kernel_rfl, ?_⟩ (by assumption) ?_
                ·intro w hSw; go_simp; (try with_reducible rfl)
                try simp only [Act.put, tzA, tzB, tzC, tzD, tzE, tzF]
                refine tkw 13 (.bool false) rfl (by kernel_rfl) (by kernel_rfl) (by kernel_rfl) (fun _ _ _ h => h) ⟨by kernel_rfl, ?_⟩ (by assumption) ?_
                ·intro w hSw; go_simp; (try with_reducible rfl)
                try simp only [Act.put, tzA, tzB, tzC, tzD, tzE, tzF]
                refine tkw 14 (.bool false) rfl (by kernel_rfl) (by kernel_rfl) (by kernel_rfl) (fun _ _ _ h => h) ⟨by rfl, ?_⟩ (by assumption) ?_
                ·intro w hSw; go_simp; (try with_reducible rfl)
                try simp only [Act.put, tzA, tzB, tzC, tzD, tzE, tzF]
                refine tkw 15 (.bool false) rfl (by kernel_rfl) (by kernel_rfl) (by kernel_rfl) (fun _ _ _ h => h) ⟨by rfl, ?_⟩ (by assumption) ?_
                ·intro w hSw; go_simp; (try with_reducible rfl)
                try simp only [Act.put, tzA, tzB, tzC, tzD, tzE, tzF]
                refine tkw 16 (.int .i64 n) rfl (by kernel_rfl) (by kernel_rfl) (by kernel_rfl) (fun _ _ _ h => h) ⟨by kernel_rfl, ?_⟩ (by assumption) ?_
                ·intro w hSw; go_simp; (try with_reducible rfl)
                try simp only [Act.put, tzA, tzB, tzC, tzD, tzE, tzF]
                refine tkw 17 (.bool true) rfl (by kernel_rfl) (by kernel_rfl) (by kernel_rfl) (fun _ _ _ h => h) ⟨by kernel_rfl, ?_⟩ (by assumption) ?_
                ·intro w hSw; go_simp; (try with_reducible rfl)
                try simp only [Act.put, tzA, tzB, tzC, tzD, tzE, tzF]
                refine tkw 18 (.bool true) rfl (by kernel_rfl) (by kernel_rfl) (by kernel_rfl) (fun _ _ _ h => h) ⟨by rfl, ?_⟩ (by assumption) ?_
                ·intro w hSw; go_simp; (try with_reducible rfl)
                try simp only [Act.put, tzA, tzB, tzC, tzD, tzE, tzF]
                refine tkw 19 (.bool true) rfl (by kernel_rfl) (by kernel_rfl) (by kernel_rfl) (fun _ _ _ h => h) ⟨by rfl, ?_⟩ (by assumption) ?_
                ·intro w hSw; go_simp; (try with_reducible rfl)
                try simp only [Act.put, tzA, tzB, tzC, tzD, tzE, tzF]
                refine tku 20 rfl (by kernel_rfl) (by kernel_rfl) (by kernel_rfl) (fun _ _ _ h => h) (by kernel_rfl) (by assumption) ?_
                try simp only [Act.put, tzA, tzB, tzC, tzD, tzE, tzF]
                refine tku 21 rfl (by kernel_rfl) (by kernel_rfl) (by kernel_rfl) (fun _ _ _ h => h) (by kernel_rfl) (by assumption) ?_
                try simp only [Act.put, tzA, tzB, tzC, tzD, tzE, tzF]
                refine tkw 22 (.bool true) rfl (by kernel_rfl) (by kernel_rfl) (by kernel_rfl) (fun _ _ _ h => h) ⟨by rfl, ?_⟩ (by assumption) ?_
                ·intro w hSw; go_simp; (try with_reducible rfl)
                try simp only [Act.put, tzA, tzB, tzC, tzD, tzE, tzF]
                refine wpAnyH_done (by kernel_rfl) ?_ _
                have kq := BK.out.below bz
                have bt := below_on HBW.out bz HBW.out.size
                have tk := kq
                obtain ⟨k0, k1, k2, kf0, kf1, kf2, klt, kb⟩ := tk
                clear kb
                go_wp2_with fail
                refine bodyPost_ret (v := .tuple #[(Fx.nil : Fx).val, .int .i64 5]) (by simp [results, Try.results54, go_sem, k0, k1, k2]) rfl ?_
                obtain rfl : E = 5 := by rw [← HE.out, chkE, if_neg (fun k => k HV.out), if_pos PR.out]
                exact ⟨Fx.nil, rfl, Fx.nil_ok _, fun h => absurd h (by decide), set3g bt (by omega)⟩
               exact AllReadyH.nil
              exact AllReadyH.nil
            · have d4 : decide (n < 0) = false := decide_eq_false q4
              by_cases q5 : 256 < n
              · have PR : Hid (rangeP x.q bits n) := Lib.hid (Or.inr (Or.inr (Or.inr (Or.inr (Or.inr (q5))))))
                have d5 : decide (256 < n) = true := decide_eq_true q5
                clear q0 q1 q2 q3 q4 q5
                refine wp_region_held_drew (S := fun w' => w'.cell? ⟨g8, 0, none⟩ = some (.bool false) ∧ w'.cell? ⟨g8, 1, none⟩ = some (.slice yA yxs.length yc) ∧ w'.cell? ⟨g8, 2, none⟩ = some (.slice yD yys.length yd)) (by kernel_rfl) ⟨(A8.out.below ((Below.refl w3.heap.size w3).drew)).c0, (A8.out.below ((Below.refl w3.heap.size w3).drew)).c1, (A8.out.below ((Below.refl w3.heap.size w3).drew)).c2⟩ (fun hHeld => ?_)
                have bz := (Below.refl w3.heap.size w3).drew
                generalize w3.drew = wd at *
                refine tkw 0 (.pointer (some ⟨g8, 0, none⟩)) rfl (by kernel_rfl) (by kernel_rfl) (by kernel_rfl) (fun _ _ _ h => h) ⟨by rfl, ?_⟩ (by assumption) ?_
                ·intro w hSw; go_simp; (try with_reducible rfl)
                try simp only [Act.put, tzA, tzB, tzD, tzE, tzF]
                refine tkw 1 (.bool false) rfl (by kernel_rfl) (by kernel_rfl) (by kernel_rfl) (fun _ _ _ h => h) ⟨by rfl, ?_⟩ (by assumption) ?_
                ·intro w hSw; (try dsimp only at hSw); obtain ⟨s0, _⟩ := hSw; go_simp; (try with_reducible rfl)
                try simp only [Act.put, tzA, tzB, tzC, tzD, tzE, tzF]
                refine tkw 2 (.bool false) rfl (by kernel_rfl) (by kernel_rfl) (by kernel_rfl) (fun _ _ _ h => h) ⟨by rfl, ?_⟩ (by assumption) ?_
                ·intro w hSw; go_simp; (try with_reducible rfl)
                try simp only [Act.put, tzA, tzB, tzC, tzD, tzE, tzF]
                refine tkw 4 (.agg #[.bool false, .slice yA yxs.length yc, .slice yD yys.length yd]) rfl (by kernel_rfl) (by kernel_rfl) (by kernel_rfl) (fun _ _ _ h => h) ⟨by kernel_rfl, ?_⟩ (by assumption) ?_
                ·intro w hSw; (try dsimp only at hSw); obtain ⟨s0, s1, s2⟩ := hSw; go_simp; (try with_reducible rfl)
                try simp only [Act.put, tzA, tzB, tzC, tzD, tzE, tzF]
                refine wpAnyH_ready (rs := [3]) (by kernel_rfl) (by simp) ?_
                refine AllReadyH.cons rfl (fun K hK => ?_) ?_
                ·go_simp
                 go_at_call 16
                 refine (xint_any wd 64 (by omega) (by omega)).mono ?_
                 rintro _ wd ⟨z1, rfl, rz, oz, bb⟩
                 try replace oz := oz.below bb
                 replace bz := below_on bz bb bz.size
                 clear bb
                 refine hK.out _ _ ⟨(A8.out.below bz).c0, (A8.out.below bz).c1, (A8.out.below bz).c2⟩ (fun hHeld => ?_)
                 clear hK K
                 try simp only [Act.put]
                 try simp only [tzD, tzE, tzF]
                 refine wpAnyH_ready (rs := [5]) (by kernel_rfl) (by simp) ?_
                 refine AllReadyH.cons rfl (fun K hK => ?_) ?_
                 ·go_simp
                  go_at_call 15
                  refine (xless_any wd z1 ⟨false, yA, yc, yxs, yD, yd, yys⟩ false oz (A8.out.below bz).ok (rz.v sz_64) (HY.out.v HSZ.out) (rz.l1 sz_64) (rz.l2 sz_64) (HY.out.l1 HSZ.out) (HY.out.l2 HSZ.out) (by rw [rz.q, HY.out.q]; exact HLS.out)).mono ?_
                  rintro _ wd ⟨rfl, bb⟩
                  try replace oz := oz.below bb
                  replace bz := below_on bz bb bz.size
                  clear bb
                  refine hK.out _ _ ⟨(A8.out.below bz).c0, (A8.out.below bz).c1, (A8.out.below bz).c2⟩ (fun hHeld => ?_)
                  clear hK K
                  try simp only [Act.put]
                  try simp only [tzD, tzE, tzF]
                  refine tkw 6 (.bool false) rfl (by kernel_rfl) (by kernel_rfl) (by kernel_rfl) (fun _ _ _ h => h) ⟨by rfl, ?_⟩ (by assumption) ?_
                  ·intro w hSw; go_simp; (try with_reducible rfl)
                  try simp only [Act.put, tzA, tzB, tzC, tzD, tzE, tzF]
                  refine tkw 7 (.bool false) rfl (by kernel_rfl) (by kernel_rfl) (by kernel_rfl) (fun _ _ _ h => h) ⟨by rfl, ?_⟩ (by assumption) ?_
                  ·intro w hSw; go_simp; (try with_reducible rfl)
                  try simp only [Act.put, tzA, tzB, tzC, tzD, tzE, tzF]
                  refine tkw 8 (.int .i64 bits) rfl (by kernel_rfl) (by kernel_rfl) (by kernel_rfl) (fun _ _ _ h => h) ⟨by kernel_rfl, ?_⟩ (by assumption) ?_
                  ·intro w hSw; go_simp; (try with_reducible rfl)
                  try simp only [Act.put, tzA, tzB, tzC, tzD, tzE, tzF]
                  refine tkw 9 (.bool false) rfl (by kernel_rfl) (by kernel_rfl) (by kernel_rfl) (fun _ _ _ h => h) ⟨by kernel_rfl, ?_⟩ (by assumption) ?_
                  ·intro w hSw; go_simp; (try with_reducible rfl)
                  try simp only [Act.put, tzA, tzB, tzC, tzD, tzE, tzF]
                  refine tkw 10 (.bool false) rfl (by kernel_rfl) (by kernel_rfl) (by kernel_rfl) (fun _ _ _ h => h) ⟨by rfl, ?_⟩ (by assumption) ?_
                  ·intro w hSw; go_simp; (try with_reducible rfl)
                  try simp only [Act.put, tzA, tzB, tzC, tzD, tzE, tzF]
                  refine tkw 11 (.bool false) rfl (by kernel_rfl) (by kernel_rfl) (by kernel_rfl) (fun _ _ _ h => h) ⟨by rfl, ?_⟩ (by assumption) ?_
                  ·intro w hSw; go_simp; (try with_reducible rfl)
                  try simp only [Act.put, tzA, tzB, tzC, tzD, tzE, tzF]
                  refine tkw 12 (.int .i64 bits) rfl (by kernel_rfl) (by kernel_rfl) (by kernel_rfl) (fun _ _ _ h => h) ⟨by kernel_rfl, ?_⟩ (by assumption) ?_
                  ·intro w hSw; go_simp; (try with_reducible rfl)
                  try simp only [Act.put, tzA, tzB, tzC, tzD, tzE, tzF]
                  refine tkw 13 (.bool false) rfl (by kernel_rfl) (by kernel_rfl) (by kernel_rfl) (fun _ _ _ h => h) ⟨by kernel_rfl, ?_⟩ (by assumption) ?_
                  ·intro w hSw; go_simp; (try with_reducible rfl)
                  try simp only [Act.put, tzA, tzB, tzC, tzD, tzE, tzF]
                  refine tkw 14 (.bool false) rfl (by kernel_rfl) (by kernel_rfl) (by kernel_rfl) (fun _ _ _ h => h) ⟨by rfl, ?_⟩ (by assumption) ?_
                  ·intro w hSw; go_simp; (try with_reducible rfl)
                  try simp only [Act.put, tzA, tzB, tzC, tzD, tzE, tzF]
                  refine tkw 15 (.bool false) rfl (by kernel_rfl) (by kernel_rfl) (by kernel_rfl) (fun _ _ _ h => h) ⟨by rfl, ?_⟩ (by assumption) ?_
                  ·intro w hSw; go_simp; (try with_reducible rfl)
                  try simp only [Act.put, tzA, tzB, tzC, tzD, tzE, tzF]
                  refine tkw 16 (.int .i64 n) rfl (by kernel_rfl) (by kernel_rfl) (by kernel_rfl) (fun _ _ _ h => h) ⟨by kernel_rfl, ?_⟩ (by assumption) ?_
                  ·intro w hSw; go_simp; (try with_reducible rfl)
                  try simp only [Act.put, tzA, tzB, tzC, tzD, tzE, tzF]
                  refine tkw 17 (.bool false) rfl (by kernel_rfl) (by kernel_rfl) (by kernel_rfl) (fun _ _ _ h => h) ⟨by kernel_rfl, ?_⟩ (by assumption) ?_
                  ·intro w hSw; go_simp; (try with_reducible rfl)
                  try simp only [Act.put, tzA, tzB, tzC, tzD, tzE, tzF]
                  refine tkw 18 (.bool false) rfl (by kernel_rfl) (by kernel_rfl) (by kernel_rfl) (fun _ _ _ h => h) ⟨by rfl, ?_⟩ (by assumption) ?_
                  ·intro w hSw; go_simp; (try with_reducible rfl)
                  try simp only [Act.put, tzA, tzB, tzC, tzD, tzE, tzF]
                  refine tkw 19 (.bool false) rfl (by kernel_rfl) (by kernel_rfl) (by kernel_rfl) (fun _ _ _ h => h) ⟨by rfl, ?_⟩ (by assumption) ?_
                  ·intro w hSw; go_simp; (try with_reducible rfl)
                  try simp only [Act.put, tzA, tzB, tzC, tzD, tzE, tzF]
                  refine tkw 20 (.int .i64 n) rfl (by kernel_rfl) (by kernel_rfl) (by kernel_rfl) (fun _ _ _ h => h) ⟨by kernel_rfl, ?_⟩ (by assumption) ?_
                  ·intro w hSw; go_simp; (try with_reducible rfl)
                  try simp only [Act.put, tzA, tzB, tzC, tzD, tzE, tzF]
                  refine tkw 21 (.bool true) rfl (by kernel_rfl) (by kernel_rfl) (by kernel_rfl) (fun _ _ _ h => h) ⟨by kernel_rfl, ?_⟩ (by assumption) ?_
                  ·intro w hSw; go_simp; (try with_reducible rfl)
                  try simp only [Act.put, tzA, tzB, tzC, tzD, tzE, tzF]
                  refine tkw 22 (.bool true) rfl (by kernel_rfl) (by kernel_rfl) (by kernel_rfl) (fun _ _ _ h => h) ⟨by rfl, ?_⟩ (by assumption) ?_
                  ·intro w hSw; go_simp; (try with_reducible rfl)
                  try simp only [Act.put, tzA, tzB, tzC, tzD, tzE, tzF]
                  refine wpAnyH_done (by kernel_rfl) ?_ _
                  have kq := BK.out.below bz
                  have bt := below_on HBW.out bz HBW.out.size
                  have tk := kq
                  obtain ⟨k0, k1, k2, kf0, kf1, kf2, klt, kb⟩ := tk
                  clear kb
                  go_wp2_with fail
                  refine bodyPost_ret (v := .tuple #[(Fx.nil : Fx).val, .int .i64 5]) (by simp [results, Try.results54, go_sem, k0, k1, k2]) rfl ?_
                  obtain rfl : E = 5 := by rw [← HE.out, chkE, if_neg (fun k => k HV.out), if_pos PR.out]
                  exact ⟨Fx.nil, rfl, Fx.nil_ok _, fun h => absurd h (by decide), set3g bt (by omega)⟩
                 exact AllReadyH.nil
                exact AllReadyH.nil
              · have d5 : decide (256 < n) = false := decide_eq_false q5
                have PR : Hid (¬ rangeP x.q bits n) := Lib.hid (fun h => h.elim q0 (fun h => h.elim q1 (fun h => h.elim q2 (fun h => h.elim q3 (fun h => h.elim q4 q5)))))
                clear q0 q1 q2 q3 q4 q5
                refine wp_region_held_drew (S := fun w' => w'.cell? ⟨g8, 0, none⟩ = some (.bool false) ∧ w'.cell? ⟨g8, 1, none⟩ = some (.slice yA yxs.length yc) ∧ w'.cell? ⟨g8, 2, none⟩ = some (.slice yD yys.length yd)) (by kernel_rfl) ⟨(A8.out.below ((Below.refl w3.heap.size w3).drew)).c0, (A8.out.below ((Below.refl w3.heap.size w3).drew)).c1, (A8.out.below ((Below.refl w3.heap.size w3).drew)).c2⟩ (fun hHeld => ?_)
                have bz := (Below.refl w3.heap.size w3).drew
                generalize w3.drew = wd at *
                refine tkw 0 (.pointer (some ⟨g8, 0, none⟩)) rfl (by kernel_rfl) (by kernel_rfl) (by kernel_rfl) (fun _ _ _ h => h) ⟨by rfl, ?_⟩ (by assumption) ?_
                ·intro w hSw; go_simp; (try with_reducible rfl)
                try simp only [Act.put, tzA, tzB, tzD, tzE, tzF]
                refine tkw 1 (.bool false) rfl (by kernel_rfl) (by kernel_rfl) (by kernel_rfl) (fun _ _ _ h => h) ⟨by rfl, ?_⟩ (by assumption) ?_
                ·intro w hSw; (try dsimp only at hSw); obtain ⟨s0, _⟩ := hSw; go_simp; (try with_reducible rfl)
                try simp only [Act.put, tzA, tzB, tzC, tzD, tzE, tzF]
                refine tkw 2 (.bool false) rfl (by kernel_rfl) (by kernel_rfl) (by kernel_rfl) (fun _ _ _ h => h) ⟨by rfl, ?_⟩ (by assumption) ?_
                ·intro w hSw; go_simp; (try with_reducible rfl)
                try simp only [Act.put, tzA, tzB, tzC, tzD, tzE, tzF]
                refine tkw 4 (.agg #[.bool false, .slice yA yxs.length yc, .slice yD yys.length yd]) rfl (by kernel_rfl) (by kernel_rfl) (by kernel_rfl) (fun _ _ _ h => h) ⟨by kernel_rfl, ?_⟩ (by assumption) ?_
                ·intro w hSw; (try dsimp only at hSw); obtain ⟨s0, s1, s2⟩ := hSw; go_simp; (try with_reducible rfl)
                try simp only [Act.put, tzA, tzB, tzC, tzD, tzE, tzF]
                refine wpAnyH_ready (rs := [3]) (by kernel_rfl) (by simp) ?_
                refine AllReadyH.cons rfl (fun K hK => ?_) ?_
                ·go_simp
                 go_at_call 16
                 refine (xint_any wd 64 (by omega) (by omega)).mono ?_
                 rintro _ wd ⟨z1, rfl, rz, oz, bb⟩
                 try replace oz := oz.below bb
                 replace bz := below_on bz bb bz.size
                 clear bb
                 refine hK.out _ _ ⟨(A8.out.below bz).c0, (A8.out.below bz).c1, (A8.out.below bz).c2⟩ (fun hHeld => ?_)
                 clear hK K
                 try simp only [Act.put]
                 try simp only [tzD, tzE, tzF]
                 refine wpAnyH_ready (rs := [5]) (by kernel_rfl) (by simp) ?_
                 refine AllReadyH.cons rfl (fun K hK => ?_) ?_
                 ·go_simp
                  go_at_call 15
                  refine (xless_any wd z1 ⟨false, yA, yc, yxs, yD, yd, yys⟩ false oz (A8.out.below bz).ok (rz.v sz_64) (HY.out.v HSZ.out) (rz.l1 sz_64) (rz.l2 sz_64) (HY.out.l1 HSZ.out) (HY.out.l2 HSZ.out) (by rw [rz.q, HY.out.q]; exact HLS.out)).mono ?_
                  rintro _ wd ⟨rfl, bb⟩
                  try replace oz := oz.below bb
                  replace bz := below_on bz bb bz.size
                  clear bb
                  refine hK.out _ _ ⟨(A8.out.below bz).c0, (A8.out.below bz).c1, (A8.out.below bz).c2⟩ (fun hHeld => ?_)
                  clear hK K
                  try simp only [Act.put]
                  try simp only [tzD, tzE, tzF]
                  refine tkw 6 (.bool false) rfl (by kernel_rfl) (by kernel_rfl) (by kernel_rfl) (fun _ _ _ h => h) ⟨by rfl, ?_⟩ (by assumption) ?_
                  ·intro w hSw; go_simp; (try with_reducible rfl)
                  try simp only [Act.put, tzA, tzB, tzC, tzD, tzE, tzF]
                  refine tkw 7 (.bool false) rfl (by kernel_rfl) (by kernel_rfl) (by kernel_rfl) (fun _ _ _ h => h) ⟨by rfl, ?_⟩ (by assumption) ?_
                  ·intro w hSw; go_simp; (try with_reducible rfl)
                  try simp only [Act.put, tzA, tzB, tzC, tzD, tzE, tzF]
                  refine tkw 8 (.int .i64 bits) rfl (by kernel_rfl) (by kernel_rfl) (by kernel_rfl) (fun _ _ _ h => h) ⟨by kernel_rfl, ?_⟩ (by assumption) ?_
                  ·intro w hSw; go_simp; (try with_reducible rfl)
                  try simp only [Act.put, tzA, tzB, tzC, tzD, tzE, tzF]
                  refine tkw 9 (.bool false) rfl (by kernel_rfl) (by kernel_rfl) (by kernel_rfl) (fun _ _ _ h => h) ⟨by kernel_rfl, ?_⟩ (by assumption) ?_
                  ·intro w hSw; go_simp; (try with_reducible rfl)
                  try simp only [Act.put, tzA, tzB, tzC, tzD, tzE, tzF]
                  refine tkw 10 (.bool false) rfl (by kernel_rfl) (by kernel_rfl) (by kernel_rfl) (fun _ _ _ h => h) ⟨by rfl, ?_⟩ (by assumption) ?_
                  ·intro w hSw; go_simp; (try with_reducible rfl)
                  try simp only [Act.put, tzA, tzB, tzC, tzD, tzE, tzF]
                  refine tkw 11 (.bool false) rfl (by kernel_rfl) (by kernel_rfl) (by kernel_rfl) (fun _ _ _ h => h) ⟨by rfl, ?_⟩ (by assumption) ?_
                  ·intro w hSw; go_simp; (try with_reducible rfl)
                  try simp only [Act.put, tzA, tzB, tzC, tzD, tzE, tzF]
                  refine tkw 12 (.int .i64 bits) rfl (by kernel_rfl) (by kernel_rfl) (by kernel_rfl) (fun _ _ _ h => h) ⟨by kernel_rfl, ?_⟩ (by assumption) ?_
                  ·intro w hSw; go_simp; (try with_reducible rfl)
                  try simp only [Act.put, tzA, tzB, tzC, tzD, tzE, tzF]
                  refine tkw 13 (.bool false) rfl (by kernel_rfl) (by kernel_rfl) (by kernel_rfl) (fun _ _ _ h => h) ⟨by kernel_rfl, ?_⟩ (by assumption) ?_
                  ·intro w hSw; go_simp; (try with_reducible rfl)
                  try simp only [Act.put, tzA, tzB, tzC, tzD, tzE, tzF]
                  refine tkw 14 (.bool false) rfl (by kernel_rfl) (by kernel_rfl) (by kernel_rfl) (fun _ _ _ h => h) ⟨by rfl, ?_⟩ (by assumption) ?_
                  ·intro w hSw; go_simp; (try with_reducible rfl)
                  try simp only [Act.put, tzA, tzB, tzC, tzD, tzE, tzF]
                  refine tkw 15 (.bool false) rfl (by kernel_rfl) (by kernel_rfl) (by kernel_rfl) (fun _ _ _ h => h) ⟨by rfl, ?_⟩ (by assumption) ?_
                  ·intro w hSw; go_simp; (try with_reducible rfl)
                  try simp only [Act.put, tzA, tzB, tzC, tzD, tzE, tzF]
                  refine tkw 16 (.int .i64 n) rfl (by kernel_rfl) (by kernel_rfl) (by kernel_rfl) (fun _ _ _ h => h) ⟨by kernel_rfl, ?_⟩ (by assumption) ?_
                  ·intro w hSw; go_simp; (try with_reducible rfl)
                  try simp only [Act.put, tzA, tzB, tzC, tzD, tzE, tzF]
                  refine tkw 17 (.bool false) rfl (by kernel_rfl) (by kernel_rfl) (by kernel_rfl) (fun _ _ _ h => h) ⟨by kernel_rfl, ?_⟩ (by assumption) ?_
                  ·intro w hSw; go_simp; (try with_reducible rfl)
                  try simp only [Act.put, tzA, tzB, tzC, tzD, tzE, tzF]
                  refine tkw 18 (.bool false) rfl (by kernel_rfl) (by kernel_rfl) (by kernel_rfl) (fun _ _ _ h => h) ⟨by rfl, ?_⟩ (by assumption) ?_
                  ·intro w hSw; go_simp; (try with_reducible rfl)
                  try simp only [Act.put, tzA, tzB, tzC, tzD, tzE, tzF]
                  refine tkw 19 (.bool false) rfl (by kernel_rfl) (by kernel_rfl) (by kernel_rfl) (fun _ _ _ h => h) ⟨by rfl, ?_⟩ (by assumption) ?_
                  ·intro w hSw; go_simp; (try with_reducible rfl)
                  try simp only [Act.put, tzA, tzB, tzC, tzD, tzE, tzF]
                  refine tkw 20 (.int .i64 n) rfl (by kernel_rfl) (by kernel_rfl) (by kernel_rfl) (fun _ _ _ h => h) ⟨by kernel_rfl, ?_⟩ (by assumption) ?_
                  ·intro w hSw; go_simp; (try with_reducible rfl)
                  try simp only [Act.put, tzA, tzB, tzC, tzD, tzE, tzF]
                  refine tkw 21 (.bool false) rfl (by kernel_rfl) (by kernel_rfl) (by kernel_rfl) (fun _ _ _ h => h) ⟨by kernel_rfl, ?_⟩ (by assumption) ?_
                  ·intro w hSw; go_simp; (try with_reducible rfl)
                  try simp only [Act.put, tzA, tzB, tzC, tzD, tzE, tzF]
                  refine tkw 22 (.bool false) rfl (by kernel_rfl) (by kernel_rfl) (by kernel_rfl) (fun _ _ _ h => h) ⟨by rfl, ?_⟩ (by assumption) ?_
                  ·intro w hSw; go_simp; (try with_reducible rfl)
                  try simp only [Act.put, tzA, tzB, tzC, tzD, tzE, tzF]
                  refine wpAnyH_done (by kernel_rfl) ?_ _
                  have kq := BK.out.below bz
                  have aq := A8.out.below bz
                  have bt := below_on HBW.out bz HBW.out.size
                  have tk := kq
                  obtain ⟨k0, k1, k2, kf0, kf1, kf2, klt, kb⟩ := tk
                  clear kb
                  have taa := aq.bk
                  obtain ⟨aa0, aa1, aa2, aaf0, aaf1, aaf2, aalt, aab⟩ := taa
                  clear aab
                  by_cases c1 : 2 < yxs.length
                  ·have e2 : decide ((2 : Int) < (yxs.length : Int)) = true := decide_eq_true (by omega)
                   have HLG : Hid (longP x.q) := Lib.hid (Or.inl (by rw [← HY.out.n]; exact c1))
                   clear c1
                   go_wp2_with fail
                   refine bodyPost_ret (v := .tuple #[(Fx.nil : Fx).val, .int .i64 2]) (by simp [results, Try.results54, go_sem, k0, k1, k2]) rfl ?_
                   obtain rfl : E = 2 := by rw [← HE.out, chkE, if_neg (fun k => k HV.out), if_neg PR.out, if_pos HLG.out]
                   exact ⟨Fx.nil, rfl, Fx.nil_ok _, fun h => absurd h (by decide), set3g bt (by omega)⟩
                  ·have e2 : decide ((2 : Int) < (yxs.length : Int)) = false := decide_eq_false (by omega)
                   by_cases c2 : 2 < yys.length
                   ·have e3 : decide ((2 : Int) < (yys.length : Int)) = true := decide_eq_true (by omega)
                    have HLG : Hid (longP x.q) := Lib.hid (Or.inr (by rw [← HY.out.d]; exact c2))
                    clear c1 c2
                    go_wp2_with fail
                    refine bodyPost_ret (v := .tuple #[(Fx.nil : Fx).val, .int .i64 2]) (by simp [results, Try.results54, go_sem, k0, k1, k2]) rfl ?_
                    obtain rfl : E = 2 := by rw [← HE.out, chkE, if_neg (fun k => k HV.out), if_neg PR.out, if_pos HLG.out]
                    exact ⟨Fx.nil, rfl, Fx.nil_ok _, fun h => absurd h (by decide), set3g bt (by omega)⟩
                   ·have e3 : decide ((2 : Int) < (yys.length : Int)) = false := decide_eq_false (by omega)
                    have HLG : Hid (¬ longP x.q) := Lib.hid (fun h => h.elim (fun h => c1 (by rw [← HY.out.n] at h; exact h)) (fun h => c2 (by rw [← HY.out.d] at h; exact h)))
                    clear c1 c2
                    go_wp2_with fail
                    refine bodyPost_ret (v := .tuple #[((⟨false, yA, yc, yxs, yD, yd, yys⟩ : Fx) : Fx).val, .int .i64 0]) (by simp [results, Try.results54, go_sem, k0, k1, k2]) rfl ?_
                    obtain rfl : E = 0 := by rw [← HE.out, chkE, if_neg (fun k => k HV.out), if_neg PR.out, if_neg HLG.out]
                    exact ⟨⟨false, yA, yc, yxs, yD, yd, yys⟩, rfl, set3_ok aq.ok kq rfl rfl rfl, fun _ => HY.out, set3g bt (by omega)⟩
                 exact AllReadyH.nil
                exact AllReadyH.nil
  · have HV : Hid (¬ x.v) := hv
    clear hv
    go_enter Try.func54, Try.ntmps54
    go_wp2_with fail
    have hs1 : w.heap.size < (w.alloc (.cells x.cells 26)).heap.size := by simp
    have b0 := (Below.refl w.heap.size w).alloc (Nat.le_refl _) (.cells x.cells 26)
    have b1 := (Below.refl (w.alloc (.cells x.cells 26)).heap.size (w.alloc (.cells x.cells 26))).alloc (Nat.le_refl _) (.cells #[.bool false, .slice none 0 0, .slice none 0 0] 26)
    have bx := (bk3_alloc w (.bool x.b) (.slice x.A x.xs.length x.c) (.slice x.D x.ys.length x.d)).below b1
    have bk := bk3_new (w.alloc (.cells x.cells 26))
    rw [size_box] at bk
    have okx := (hx.below b0).below b1
    have bw := below_on b0 b1 (Nat.le_of_lt hs1)
    clear hs1 b0 b1
    revert bx bk okx bw
    generalize ((w.alloc (.cells x.cells 26)).alloc (.cells #[.bool false, .slice none 0 0, .slice none 0 0] 26)) = w1
    intro bx bk okx bw
    have tx := bx
    obtain ⟨x0, x1, x2, xf0, xf1, xf2, xlt, xb⟩ := tx
    clear xb
    go_wp2_with fail
    clear x0 x1 x2 xf0 xf1 xf2 xlt
    refine (rfreduce_any w1 x (errF 1) okx l1 l2 (by rw [redS, if_neg HV.out])).mono ?_
    rintro _ wn ⟨y, rfl, hs, ok1, bb⟩
    have e0 : (errF 1).2.2.2 = 1 := rfl
    clear bx
    try replace bx := bx.below bb
    try replace by_ := by_.below bb
    try replace bk := bk.below bb
    try replace okx := okx.below bb
    try replace oky := oky.below bb
    try replace ok1 := ok1.below bb
    try replace na := na.below bb
    try replace nb := nb.below bb
    try replace nc := nc.below bb
    try replace nd := nd.below bb
    try replace ne := ne.below bb
    replace bw := below_on bw bb bw.size
    clear bb
    have tk := bk
    obtain ⟨k0, k1, k2, kf0, kf1, kf2, klt, kb⟩ := tk
    clear kb
    go_wp2_with fail
    have b2 := set3g (G := w.heap.size + 1) (a := .bool false) (b := .slice none 0 0) (c := .slice none 0 0) bw (by omega)
    have b3 := b2.alloc b2.size (.cells #[.bool (errF 1).1, .slice y.A (errF 1).2.1.length y.c, .slice y.D (errF 1).2.2.1.length y.d] 26)
    refine bodyPost_ret (v := .tuple #[Fx.nil.val, .int .i64 1]) (by simp [results, Try.results54, go_sem, k0, k1, k2, klt]) rfl ?_
    obtain rfl : E = 1 := by rw [← HE.out, chkE, if_pos HV.out]
    exact ⟨Fx.nil, rfl, Fx.nil_ok _, fun h => absurd h (by decide), b3⟩
end Go.Proofs.Ytnmomigaedfdoaa
