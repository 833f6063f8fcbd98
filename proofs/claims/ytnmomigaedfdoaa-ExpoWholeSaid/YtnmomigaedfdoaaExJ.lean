/- The walk of expo.check. The walk of expo.Terms. The walks of expo.unit and expo.enclose. The walk of expo.enclose. -/
import Derived.Test.YtnmomigaedfdoaaExF
import Derived.Test.YtnmomigaedfdoaaFrG
import Derived.Test.YtnmomigaedfdoaaLwD
import Derived.Test.YtnmomigaedfdoaaExD
namespace Go.Proofs.Ytnmomigaedfdoaa
set_option maxRecDepth 100000
open Go.RowKit

/-- the error of the arguments -/
def rangeP (q : Rat) (bits n : Int) : Prop := q < 0 ∨ 64 < q ∨ bits < 1 ∨ 64 < bits ∨ n < 0 ∨ 256 < n
instance (q : Rat) (bits n : Int) : Decidable (rangeP q bits n) := inferInstanceAs (Decidable (_ ∨ _ ∨ _ ∨ _ ∨ _ ∨ _))
def longP (q : Rat) : Prop := 2 < (lim q.num.natAbs).length ∨ 2 < (lim q.den).length
instance (q : Rat) : Decidable (longP q) := inferInstanceAs (Decidable (_ ∨ _))
open Classical in
noncomputable def chkE (x : Fx) (bits n : Int) : Int := if ¬ x.v then 1 else if rangeP x.q bits n then 5 else if longP x.q then 2 else 0
abbrev F64 (A : Option Addr) (c : Nat) (D : Option Addr) (d : Nat) : Fx := ⟨false, A, c, lim 64, D, d, lim 1⟩
theorem rp64 (A : Option Addr) (c : Nat) (D : Option Addr) (d : Nat) : Rp (F64 A c D d) 64 := ⟨by show false = _; decide, by show lim 64 = lim (Int.natAbs (64 : Int)); rfl, by show lim 1 = lim 1; rfl⟩
theorem len_lim_small {a : Nat} (h : a < 4294967296) : (lim a).length ≤ 128 := Nat.le_trans (lim_len2 (by omega)) (by omega)
theorem sz64 : Sz (64 : Rat) 128 128 := ⟨len_lim_small (by decide), len_lim_small (by decide)⟩
theorem cmpQ_pos (p q : Rat) : decide (0 < cmpQ p q) = decide (q < p) := by
  rcases cmpQ_cases p q with ⟨h, e⟩ | ⟨h, e⟩ | ⟨h, e⟩ <;> rw [e]
  · rw [decide_eq_false (by omega), decide_eq_false (by grind)]
  · rw [decide_eq_false (by omega), decide_eq_false (by grind)]
  · rw [decide_eq_true (by omega), decide_eq_true h]
set_option maxHeartbeats 3200000 in
theorem xcheck_any (w : World) (x : Fx) (bits n E : Int) (hx : x.ok w) (l1 : x.xs.length ≤ 10000) (l2 : x.ys.length ≤ 10000) (he : chkE x bits n = E) :
    Calls Try.prog 62 #[x.val, .int .i64 bits, .int .i64 n] w fun e w' => ∃ y : Fx, e = .returned (.tuple #[y.val, .int .i64 E]) ∧ y.ok w' ∧ (E = 0 → Rp y x.q) ∧ Below w.heap.size w w' := by
  have HE := Lib.hid he
  clear he
  by_cases hv : x.v
  · have HV := Lib.hid hv
    have HSZ : Hid (Sz x.q 128 128) := Lib.hid (redS_ok hv).2
    clear hv
    go_enter Try.func62, Try.ntmps62
    go_wp2_with fail
    have hs1 : w.heap.size < (w.alloc (.cells x.cells 26)).heap.size := by simp
    have b0 := (Below.refl w.heap.size w).alloc (Nat.le_refl _) (.cells x.cells 26)
    have b1 := (Below.refl (w.alloc (.cells x.cells 26)).heap.size (w.alloc (.cells x.cells 26))).alloc (Nat.le_refl _) (.cells #[.bool false, .slice none 0 0, .slice none 0 0] 26)
    have bx := (bk3_alloc w (.bool x.b) (.slice x.A x.xs.length x.c) (.slice x.D x.ys.length x.d)).below b1
    have bk := bk3_new (w.alloc (.cells x.cells 26))
    rw [size_box] at bk
    have okx := (hx.below b0).below b1
    have bw := below_on b0 b1 (Nat.le_of_lt hs1)
    clear hs1 b0 b1
    revert bx bk okx bw
    generalize ((w.alloc (.cells x.cells 26)).alloc (.cells #[.bool false, .slice none 0 0, .slice none 0 0] 26)) = w1
    intro bx bk okx bw
    have tx := bx
    obtain ⟨x0, x1, x2, xf0, xf1, xf2, xlt, xb⟩ := tx
    clear xb
    go_wp2_with fail
    clear x0 x1 x2 xf0 xf1 xf2 xlt
    refine (freduce_any w1 x (okS x.q) okx l1 l2 (redS_okS HV.out)).mono ?_
    rintro e wn ⟨y, rfl, hs, ok1, bb⟩
    have HY := Lib.hid (Rp.of hs)
    clear hs
    try replace bx := bx.below bb
    try replace by_ := by_.below bb
    try replace bk := bk.below bb
    try replace okx := okx.below bb
    try replace oky := oky.below bb
    try replace ok1 := ok1.below bb
    try replace na := na.below bb
    try replace nb := nb.below bb
    try replace nc := nc.below bb
    try replace nd := nd.below bb
    try replace ne := ne.below bb
    replace bw := below_on bw bb bw.size
    clear bb
    obtain ⟨g, hg⟩ : ∃ g, w.heap.size = g := ⟨_, rfl⟩
    have hgn : g ≤ wn.heap.size := by rw [← hg]; exact bw.size
    have fx : Fa wn g x := by rw [← hg]; exact ⟨bx, okx⟩
    rw [hg] at bk bw ⊢
    clear bx okx
    have a1 := fx.put ok1
    have b1 := bk.far (H := g) (a := .bool y.b) (b := .slice y.A y.xs.length y.c) (c := .slice y.D y.ys.length y.d) (by omega)
    have w1b := set3g (G := g) (a := .bool y.b) (b := .slice y.A y.xs.length y.c) (c := .slice y.D y.ys.length y.d) bw (Nat.le_refl _)
    have tx := fx.bk
    obtain ⟨x0, x1, x2, xf0, xf1, xf2, xlt, xb⟩ := tx
    clear xb
    go_upto_region 4 with fail
    clear x0 x1 x2 xf0 xf1 xf2 xlt
    generalize (((wn.setCell ⟨g, 0, none⟩ (.bool y.b)).setCell ⟨g, 1, none⟩ (.slice y.A y.xs.length y.c)).setCell ⟨g, 2, none⟩ (.slice y.D y.ys.length y.d)) = w2 at a1 b1 w1b ⊢
    clear fx ok1 bk bw hgn
    have A1 := Lib.hid a1
    have B1 := Lib.hid b1
    have W1 := Lib.hid w1b
    have HCM : Hid (∀ M1 e1 M2 e2, cmpF y (F64 M1 e1 M2 e2) = (cmpQ x.q 64, 0)) := Lib.hid (fun M1 e1 M2 e2 => cmpF_ok (HY.out.v HSZ.out) ((rp64 M1 e1 M2 e2).v sz64) HY.out.q (rp64 M1 e1 M2 e2).q rfl)
    clear a1 b1 w1b
    go_cut [9, 10] (fun s9 s10 wx => s9 = .int .i64 (cmpQ x.q 64) ∧ s10 = .int .i64 0 ∧ Below w2.heap.size w2 wx)
    case first =>
      refine wp_region_held_drew (S := fun w' => w'.cell? ⟨g, 0, none⟩ = some (.bool y.b) ∧ w'.cell? ⟨g, 1, none⟩ = some (.slice y.A y.xs.length y.c) ∧ w'.cell? ⟨g, 2, none⟩ = some (.slice y.D y.ys.length y.d)) (by kernel_rfl) ⟨(A1.out.below ((Below.refl w2.heap.size w2).drew)).c0, (A1.out.below ((Below.refl w2.heap.size w2).drew)).c1, (A1.out.below ((Below.refl w2.heap.size w2).drew)).c2⟩ (fun hHeld => ?_)
      have bz := (Below.refl w2.heap.size w2).drew
      generalize w2.drew = wd at *
      refine tkw 0 (y.val) rfl (by kernel_rfl) (by kernel_rfl) (by kernel_rfl) (fun _ _ _ h => h) ⟨by rfl, ?_⟩ (by assumption) ?_
      ·intro w hSw; (try dsimp only at hSw); obtain ⟨s0, s1, s2⟩ := hSw; go_simp; (try with_reducible rfl)
      try simp only [Act.put, tzA, tzB, tzD, tzE, tzF]
      refine wpAnyH_ready (rs := [1]) (by kernel_rfl) (by simp) ?_
      refine AllReadyH.cons rfl (fun K hK => ?_) ?_
      ·go_simp
       go_at_call 74
       refine (make_any wd 64 (by omega)).mono ?_
       rintro _ wd ⟨M1, e1, rfl, m1, bb⟩
       try replace m1 := m1.below bb
       try replace m2 := m2.below bb
       replace bz := below_on bz bb bz.size
       clear bb
       refine hK.out _ _ ⟨(A1.out.below bz).c0, (A1.out.below bz).c1, (A1.out.below bz).c2⟩ (fun hHeld => ?_)
       clear hK K
       try simp only [Act.put]
       try simp only [tzD, tzE, tzF]
       refine wpAnyH_ready (rs := [2]) (by kernel_rfl) (by simp) ?_
       refine AllReadyH.cons rfl (fun K hK => ?_) ?_
       ·go_simp
        go_at_call 74
        refine (make_any wd 1 (by omega)).mono ?_
        rintro _ wd ⟨M2, e2, rfl, m2, bb⟩
        try replace m1 := m1.below bb
        try replace m2 := m2.below bb
        replace bz := below_on bz bb bz.size
        clear bb
        refine hK.out _ _ ⟨(A1.out.below bz).c0, (A1.out.below bz).c1, (A1.out.below bz).c2⟩ (fun hHeld => ?_)
        clear hK K
        try simp only [Act.put]
        try simp only [tzD, tzE, tzF]
        refine tkw 3 (.agg #[.bool false, .slice M1 (lim 64).length e1, .slice M2 (lim 1).length e2]) rfl (by kernel_rfl) (by kernel_rfl) (by kernel_rfl) (fun _ _ _ h => h) ⟨by rfl, ?_⟩ (by assumption) ?_
        ·intro w hSw; go_simp; (try with_reducible rfl)
        try simp only [Act.put, tzA, tzB, tzC, tzD, tzE, tzF]
        refine wpAnyH_ready (rs := [4]) (by kernel_rfl) (by simp) ?_
        refine AllReadyH.cons rfl (fun K hK => ?_) ?_
        ·go_simp
         go_at_call 88
         refine (fcmp_any wd y (F64 M1 e1 M2 e2) (cmpQ x.q 64, 0) (A1.out.below bz).ok ⟨m1, m2⟩ (HY.out.l1 HSZ.out) (HY.out.l2 HSZ.out) ((rp64 M1 e1 M2 e2).l1 sz64) ((rp64 M1 e1 M2 e2).l2 sz64) (HCM.out M1 e1 M2 e2)).mono ?_
         rintro _ wd ⟨rfl, bb⟩
         try replace m1 := m1.below bb
         try replace m2 := m2.below bb
         replace bz := below_on bz bb bz.size
         clear bb
         refine hK.out _ _ ⟨(A1.out.below bz).c0, (A1.out.below bz).c1, (A1.out.below bz).c2⟩ (fun hHeld => ?_)
         clear hK K
         refine tkw 5 (.tuple #[.int .i64 (cmpQ x.q 64), .int .i64 0]) rfl (by kernel_rfl) (by kernel_rfl) (by kernel_rfl) (fun _ _ _ h => h) ⟨by rfl, ?_⟩ (by assumption) ?_
         ·intro w hSw; go_simp; (try with_reducible rfl)
         try simp only [Act.put, tzA, tzB, tzC, tzD, tzE, tzF]
         refine tkw 6 (.int .i64 (cmpQ x.q 64)) rfl (by kernel_rfl) (by kernel_rfl) (by kernel_rfl) (fun _ _ _ h => h) ⟨by rfl, ?_⟩ (by assumption) ?_
         ·intro w hSw; go_simp; (try with_reducible rfl)
         try simp only [Act.put, tzA, tzB, tzC, tzD, tzE, tzF]
         refine tkw 7 (.int .i64 0) rfl (by kernel_rfl) (by kernel_rfl) (by kernel_rfl) (fun _ _ _ h => h) ⟨by rfl, ?_⟩ (by assumption) ?_
         ·intro w hSw; go_simp; (try with_reducible rfl)
         try simp only [Act.put, tzA, tzB, tzC, tzD, tzE, tzF]
         refine wpAnyH_ready (rs := [8]) (by kernel_rfl) (by simp) ?_
         refine AllReadyH.cons rfl (fun K hK => ?_) ?_
         ·go_simp
          refine hK.out _ _ ⟨(A1.out.below bz).c0, (A1.out.below bz).c1, (A1.out.below bz).c2⟩ (fun hHeld => ?_)
          clear hK K
          try simp only [Act.put]
          try simp only [tzD, tzE, tzF]
          refine wpAnyH_ready (rs := [9]) (by kernel_rfl) (by simp) ?_
          refine AllReadyH.cons rfl (fun K hK => ?_) ?_
          ·go_simp
           refine hK.out _ _ ⟨(A1.out.below bz).c0, (A1.out.below bz).c1, (A1.out.below bz).c2⟩ (fun hHeld => ?_)
           clear hK K
           try simp only [Act.put]
           try simp only [tzD, tzE, tzF]
           refine wpAnyH_done (by kernel_rfl) ?_ _
           go_wp2_with fail
           go_meet
           case rel => exact ⟨rfl, rfl, bz⟩
          exact AllReadyH.nil
         exact AllReadyH.nil
        exact AllReadyH.nil
       exact AllReadyH.nil
      exact AllReadyH.nil
    case rest =>
      obtain ⟨rfl, rfl, bb⟩ := hcut
      have a1 := A1.out.below bb
      have b1 := B1.out.below bb
      have bw := below_on W1.out bb (by rw [← hg]; exact W1.out.size)
      clear bb
      have HYB : Hid (y.b = decide (x.q < 0)) := Lib.hid (by
        rw [HY.out.b]
        show decide (x.q.num < 0) = _
        by_cases h : x.q < 0
        · rw [decide_eq_true h, decide_eq_true (by have := (not_congr (Rat.num_nonneg (q := x.q))).2 (by grind); omega)]
        · rw [decide_eq_false h, decide_eq_false (by have := (Rat.num_nonneg (q := x.q)).2 (by grind); omega)])
      have k0 := a1.c0
      go_upto_region 5 with fail
      go_cut [27] (fun v wx => v = .bool (decide (rangeP x.q bits n)) ∧ wx = wc)
      case first =>
        by_cases q0 : x.q < 0
        · have PR : Hid (rangeP x.q bits n) := Lib.hid (Or.inl q0)
          have d0 : y.b = true := by rw [HYB.out]; exact decide_eq_true q0
          rw [d0] at k0
          clear q0
          go_wp2_with fail
          go_meet
          case rel => exact ⟨by rw [decide_eq_true PR.out], rfl⟩
        · have d0 : y.b = false := by rw [HYB.out]; exact decide_eq_false q0
          rw [d0] at k0
          by_cases q1 : 64 < x.q
          · have PR : Hid (rangeP x.q bits n) := Lib.hid (Or.inr (Or.inl q1))
            have d1 : decide (0 < cmpQ x.q 64) = true := by rw [cmpQ_pos]; exact decide_eq_true q1
            clear q0 q1
            go_wp2_with fail
            go_meet
            case rel => exact ⟨by rw [decide_eq_true PR.out], rfl⟩
          · have d1 : decide (0 < cmpQ x.q 64) = false := by rw [cmpQ_pos]; exact decide_eq_false q1
            by_cases q2 : bits < 1
            · have PR : Hid (rangeP x.q bits n) := Lib.hid (Or.inr (Or.inr (Or.inl q2)))
              have d2 : decide (bits < 1) = true := decide_eq_true q2
              clear q0 q1 q2
              go_wp2_with fail
              go_meet
              case rel => exact ⟨by rw [decide_eq_true PR.out], rfl⟩
            · have d2 : decide (bits < 1) = false := decide_eq_false q2
              by_cases q3 : 64 < bits
              · have PR : Hid (rangeP x.q bits n) := Lib.hid (Or.inr (Or.inr (Or.inr (Or.inl q3))))
                have d3 : decide (64 < bits) = true := decide_eq_true q3
                clear q0 q1 q2 q3
                go_wp2_with fail
                go_meet
                case rel => exact ⟨by rw [decide_eq_true PR.out], rfl⟩
              · have d3 : decide (64 < bits) = false := decide_eq_false q3
                by_cases q4 : n < 0
                · have PR : Hid (rangeP x.q bits n) := Lib.hid (Or.inr (Or.inr (Or.inr (Or.inr (Or.inl q4)))))
                  have d4 : decide (n < 0) = true := decide_eq_true q4
                  clear q0 q1 q2 q3 q4
                  go_wp2_with fail
                  go_meet
                  case rel => exact ⟨by rw [decide_eq_true PR.out], rfl⟩
                · have d4 : decide (n < 0) = false := decide_eq_false q4
                  by_cases q5 : 256 < n
                  · have PR : Hid (rangeP x.q bits n) := Lib.hid (Or.inr (Or.inr (Or.inr (Or.inr (Or.inr (q5))))))
                    have d5 : decide (256 < n) = true := decide_eq_true q5
                    clear q0 q1 q2 q3 q4 q5
                    go_wp2_with fail
                    go_meet
                    case rel => exact ⟨by rw [decide_eq_true PR.out], rfl⟩
                  · have d5 : decide (256 < n) = false := decide_eq_false q5
                    have PR : Hid (¬ rangeP x.q bits n) := Lib.hid (fun h => h.elim q0 (fun h => h.elim q1 (fun h => h.elim q2 (fun h => h.elim q3 (fun h => h.elim q4 q5)))))
                    clear q0 q1 q2 q3 q4 q5
                    go_wp2_with fail
                    go_meet
                    case rel => exact ⟨by rw [decide_eq_false PR.out], rfl⟩
      case rest =>
        obtain ⟨rfl, rfl⟩ := hcut
        clear k0
        by_cases hr : rangeP x.q bits n
        · have e1 : decide (rangeP x.q bits n) = true := decide_eq_true hr
          have HR : Hid (rangeP x.q bits n) := Lib.hid hr
          clear hr
          have tk := b1
          obtain ⟨k0, k1, k2, kf0, kf1, kf2, klt, kb⟩ := tk
          clear kb
          go_wp2_with fail
          refine bodyPost_ret (v := .tuple #[(Fx.nil : Fx).val, .int .i64 5]) (by simp [results, Try.results62, go_sem, k0, k1, k2]) rfl ?_
          obtain rfl : E = 5 := by rw [← HE.out, chkE, if_neg (fun k => k HV.out), if_pos HR.out]
          exact ⟨Fx.nil, rfl, Fx.nil_ok _, fun h => absurd h (by decide), by rw [hg]; exact set3g bw (by omega)⟩
        · have e1 : decide (rangeP x.q bits n) = false := decide_eq_false hr
          have HR : Hid (¬ rangeP x.q bits n) := Lib.hid hr
          clear hr
          have OKY := Lib.hid a1.ok
          have HNM := Lib.hid HY.out.n
          have HDN := Lib.hid HY.out.d
          have taa := a1.bk
          obtain ⟨aa0, aa1, aa2, aaf0, aaf1, aaf2, aalt, aab⟩ := taa
          clear aab
          have tk := b1
          obtain ⟨k0, k1, k2, kf0, kf1, kf2, klt, kb⟩ := tk
          clear kb
          go_upto_region 7 with fail
          have HL1 : Hid (y.xs = lim x.q.num.natAbs) := HNM
          by_cases c1 : 2 < y.xs.length
          · have e2 : decide ((2 : Int) < (y.xs.length : Int)) = true := decide_eq_true (by omega)
            have HLG : Hid (longP x.q) := Lib.hid (Or.inl (by rw [← HNM.out]; exact c1))
            clear c1
            go_wp2_with fail
            refine bodyPost_ret (v := .tuple #[(Fx.nil : Fx).val, .int .i64 2]) (by simp [results, Try.results62, go_sem, k0, k1, k2]) rfl ?_
            obtain rfl : E = 2 := by rw [← HE.out, chkE, if_neg (fun k => k HV.out), if_neg HR.out, if_pos HLG.out]
            exact ⟨Fx.nil, rfl, Fx.nil_ok _, fun h => absurd h (by decide), by rw [hg]; exact set3g bw (by omega)⟩
          · have e2 : decide ((2 : Int) < (y.xs.length : Int)) = false := decide_eq_false (by omega)
            by_cases c2 : 2 < y.ys.length
            · have e3 : decide ((2 : Int) < (y.ys.length : Int)) = true := decide_eq_true (by omega)
              have HLG : Hid (longP x.q) := Lib.hid (Or.inr (by rw [← HDN.out]; exact c2))
              clear c1 c2
              go_wp2_with fail
              refine bodyPost_ret (v := .tuple #[(Fx.nil : Fx).val, .int .i64 2]) (by simp [results, Try.results62, go_sem, k0, k1, k2]) rfl ?_
              obtain rfl : E = 2 := by rw [← HE.out, chkE, if_neg (fun k => k HV.out), if_neg HR.out, if_pos HLG.out]
              exact ⟨Fx.nil, rfl, Fx.nil_ok _, fun h => absurd h (by decide), by rw [hg]; exact set3g bw (by omega)⟩
            · have e3 : decide ((2 : Int) < (y.ys.length : Int)) = false := decide_eq_false (by omega)
              have HLG : Hid (¬ longP x.q) := Lib.hid (fun h => h.elim (fun h => c1 (by rw [HNM.out]; exact h)) (fun h => c2 (by rw [HDN.out]; exact h)))
              clear c1 c2
              go_wp2_with fail
              refine bodyPost_ret (v := .tuple #[(y : Fx).val, .int .i64 0]) (by simp [results, Try.results62, go_sem, k0, k1, k2]) rfl ?_
              obtain rfl : E = 0 := by rw [← HE.out, chkE, if_neg (fun k => k HV.out), if_neg HR.out, if_neg HLG.out]
              exact ⟨y, rfl, set3_ok OKY.out b1 rfl rfl rfl, fun _ => HY.out, by rw [hg]; exact set3g bw (by omega)⟩
  · have HV : Hid (¬ x.v) := hv
    clear hv
    go_enter Try.func62, Try.ntmps62
    go_wp2_with fail
    have hs1 : w.heap.size < (w.alloc (.cells x.cells 26)).heap.size := by simp
    have b0 := (Below.refl w.heap.size w).alloc (Nat.le_refl _) (.cells x.cells 26)
    have b1 := (Below.refl (w.alloc (.cells x.cells 26)).heap.size (w.alloc (.cells x.cells 26))).alloc (Nat.le_refl _) (.cells #[.bool false, .slice none 0 0, .slice none 0 0] 26)
    have bx := (bk3_alloc w (.bool x.b) (.slice x.A x.xs.length x.c) (.slice x.D x.ys.length x.d)).below b1
    have bk := bk3_new (w.alloc (.cells x.cells 26))
    rw [size_box] at bk
    have okx := (hx.below b0).below b1
    have bw := below_on b0 b1 (Nat.le_of_lt hs1)
    clear hs1 b0 b1
    revert bx bk okx bw
    generalize ((w.alloc (.cells x.cells 26)).alloc (.cells #[.bool false, .slice none 0 0, .slice none 0 0] 26)) = w1
    intro bx bk okx bw
    have tx := bx
    obtain ⟨x0, x1, x2, xf0, xf1, xf2, xlt, xb⟩ := tx
    clear xb
    go_wp2_with fail
    clear x0 x1 x2 xf0 xf1 xf2 xlt
    refine (freduce_any w1 x (errF 1) okx l1 l2 (by rw [redS, if_neg HV.out])).mono ?_
    rintro e wn ⟨y, rfl, hs, ok1, bb⟩
    try replace bx := bx.below bb
    try replace by_ := by_.below bb
    try replace bk := bk.below bb
    try replace okx := okx.below bb
    try replace oky := oky.below bb
    try replace ok1 := ok1.below bb
    try replace na := na.below bb
    try replace nb := nb.below bb
    try replace nc := nc.below bb
    try replace nd := nd.below bb
    try replace ne := ne.below bb
    replace bw := below_on bw bb bw.size
    clear bb
    have fx : Fa wn w.heap.size x := ⟨bx, okx⟩
    clear bx okx
    have tx := fx.bk
    obtain ⟨x0, x1, x2, xf0, xf1, xf2, xlt, xb⟩ := tx
    clear xb
    have tk := bk
    obtain ⟨k0, k1, k2, kf0, kf1, kf2, klt, kb⟩ := tk
    clear kb
    go_wp2_with fail
    refine bodyPost_ret (v := .tuple #[(Fx.nil : Fx).val, .int .i64 1]) (by simp [results, Try.results62, go_sem, k0, k1, k2]) rfl ?_
    obtain rfl : E = 1 := by rw [← HE.out, chkE, if_pos HV.out]
    exact ⟨Fx.nil, rfl, Fx.nil_ok _, fun h => absurd h (by decide), set3g (set3g bw (Nat.le_refl _)) (by omega)⟩
end Go.Proofs.Ytnmomigaedfdoaa
namespace Go.Proofs.Ytnmomigaedfdoaa
set_option maxRecDepth 100000
open Go.RowKit

theorem xok_of {q : Rat} {bits n : Int} (h : ¬ rangeP q bits n) (hl : ¬ longP q) : XOk q.num.natAbs q.den := by
  have h1 : ¬ q < 0 := fun k => h (Or.inl k)
  have h2 : ¬ 64 < q := fun k => h (Or.inr (Or.inl k))
  have l1 : (lim q.num.natAbs).length ≤ 2 := Nat.le_of_not_lt fun k => hl (Or.inl k)
  have l2 : (lim q.den).length ≤ 2 := Nat.le_of_not_lt fun k => hl (Or.inr k)
  rw [lim_length_le] at l1 l2
  refine ⟨q.den_pos, l2, l1, ?_⟩
  have h3 : q ≤ 64 := by grind
  have hn : 0 ≤ q.num := Rat.num_nonneg.2 (by grind)
  have h4 := Rat.le_iff (a := q) (b := 64) |>.1 h3
  have e1 : (64 : Rat).num = 64 := rfl
  have e2 : (64 : Rat).den = 1 := rfl
  rw [e1, e2] at h4
  omega
theorem bits_of {q : Rat} {bits n : Int} (h : ¬ rangeP q bits n) : (1 ≤ bits ∧ bits ≤ 64) ∧ 0 ≤ n ∧ n ≤ 256 := by
  unfold rangeP at h
  refine ⟨⟨?_, ?_⟩, ?_, ?_⟩
  · exact Int.not_lt.1 fun k => h (Or.inr (Or.inr (Or.inl k)))
  · exact Int.not_lt.1 fun k => h (Or.inr (Or.inr (Or.inr (Or.inl k))))
  · exact Int.not_lt.1 fun k => h (Or.inr (Or.inr (Or.inr (Or.inr (Or.inl k)))))
  · exact Int.not_lt.1 fun k => h (Or.inr (Or.inr (Or.inr (Or.inr (Or.inr k)))))
theorem chkE_ok {x : Fx} {bits n : Int} (h : chkE x bits n = 0) : x.v ∧ ¬ rangeP x.q bits n ∧ ¬ longP x.q := by
  unfold chkE at h
  by_cases h1 : x.v
  · rw [if_neg (fun k => k h1)] at h
    by_cases h2 : rangeP x.q bits n
    · rw [if_pos h2] at h; exact absurd h (by decide)
    · rw [if_neg h2] at h
      by_cases h3 : longP x.q
      · rw [if_pos h3] at h; exact absurd h (by decide)
      · exact ⟨h1, h2, h3⟩
  · rw [if_pos h1] at h; exact absurd h (by decide)
/-- the sum of the weights behind m is below 2^-b -/
def zP (q : Rat) (b m : Nat) : Prop := floorM q.num.natAbs q.den m b 2 = 0
def termsP (q : Rat) (b r : Nat) : Prop := (q = 0 ∧ r = 0) ∨ (q ≠ 0 ∧ zP q b r ∧ (r = 0 ∨ ¬ zP q b (r - 1)))
end Go.Proofs.Ytnmomigaedfdoaa
namespace Go.Proofs.Ytnmomigaedfdoaa
set_option maxRecDepth 100000
open Go.RowKit

/-- m parts of 2^-b -/
abbrev prt (m b : Nat) : Rat := qv false m (2 ^ b)
theorem len128 {m : Nat} (h : m ≤ 36893488147419103232) : (lim m).length ≤ 128 := by
  have h3 : (lim m).length ≤ 3 := by
    rw [lim_length_le]
    have h4 : pw 3 = 79228162514264337593543950336 := by rfl
    omega
  omega
theorem pow64 {b : Nat} (h : b ≤ 64) : 1 ≤ 2 ^ b ∧ 2 ^ b ≤ 18446744073709551616 := by
  have h2 := Nat.pow_le_pow_right (n := 2) (by omega) h
  exact ⟨Nat.one_le_two_pow, by omega⟩
theorem prt_v {m b : Nat} (A D : Option Addr) (c d : Nat) (hm : m ≤ 36893488147419103232) (hb : b ≤ 64) : (⟨false, A, c, lim m, D, d, lim (2 ^ b)⟩ : Fx).v ∧ (⟨false, A, c, lim m, D, d, lim (2 ^ b)⟩ : Fx).q = prt m b := by
  have h1 := pow64 hb
  refine ⟨?_, ?_⟩
  · show Vf (nv (lim m)) (nv (lim (2 ^ b)))
    rw [nv_lim, nv_lim]
    exact ⟨by omega, len128 (by omega), len128 (by omega)⟩
  · show qv false (nv (lim m)) (nv (lim (2 ^ b))) = _
    rw [nv_lim, nv_lim]
theorem prt_red {m b : Nat} (A D : Option Addr) (c d : Nat) (hm : m ≤ 36893488147419103232) (hb : b ≤ 64) : redS ⟨false, A, c, lim m, D, d, lim (2 ^ b)⟩ = okS (prt m b) := by
  obtain ⟨h1, h2⟩ := prt_v A D c d hm hb
  rw [redS_okS h1, h2]
set_option maxHeartbeats 1600000 in
theorem xunit_any (w : World) (A : Option Addr) (c m b : Nat) (h : Nt w A c (lim m)) (hm : m ≤ 18446744073709551616) (hb : b ≤ 64) :
    Calls Try.prog 75 #[.slice A (lim m).length c, .int .i64 (b : Int)] w fun e w' => ∃ i : Ix, e = .returned i.val ∧ Rp i.lo (prt m b) ∧ Rp i.hi (prt (m + 1) b) ∧ i.ok w' ∧ Below w.heap.size w w' := by
  have HSB : Hid (shO b = 2 ^ b) := Lib.hid (shO_ok (by omega))
  have HAD : Hid (addO m 1 = m + 1) := Lib.hid (addO_ok (Nat.le_trans (len128 (by omega)) (by omega)) (Nat.le_trans (len128 (by omega)) (by omega)) (Nat.le_trans (len128 (by omega)) (by omega)))
  have HL0 : Hid ((lim m).length ≤ 10000) := Lib.hid (Nat.le_trans (len128 (by omega)) (by omega))
  have HL1 : Hid ((lim (m + 1)).length ≤ 10000) := Lib.hid (Nat.le_trans (len128 (by omega)) (by omega))
  have HL2 : Hid ((lim (2 ^ b)).length ≤ 10000) := Lib.hid (Nat.le_trans (len128 (by have := (pow64 hb).2; omega)) (by omega))
  go_enter Try.func75, Try.ntmps75
  go_upto_region 1 with fail
  have br := (zr_alloc w).1
  have bw := (zr_alloc w).2
  replace h := h.below bw
  generalize (w.alloc (.cells zcells 35)) = w1 at br bw h ⊢
  go_wp2_with fail
  refine (make_any w1 1 (by omega)).mono ?_
  rintro _ w2 ⟨A1, c1, rfl, n1, bb⟩
  replace h := h.below bb
  replace br := br.below bb
  replace bw := below_on bw bb bw.size
  clear bb
  go_wp2_with fail
  refine (nsh_any w2 A1 c1 b n1).mono ?_
  rintro _ w3 ⟨A2, c2, E2, rfl, n2, bb⟩
  rw [HSB.out] at n2 ⊢
  replace h := h.below bb
  replace br := br.below bb
  replace bw := below_on bw bb bw.size
  clear bb n1
  go_wp2_with fail
  refine (make_any w3 1 (by omega)).mono ?_
  rintro _ w4 ⟨A3, c3, rfl, n3, bb⟩
  replace h := h.below bb
  replace n2 := n2.below bb
  replace br := br.below bb
  replace bw := below_on bw bb bw.size
  clear bb
  go_wp2_with fail
  refine (nadd_any w4 A A3 c c3 m 1 h n3).mono ?_
  rintro _ w5 ⟨A4, c4, E4, rfl, n4, bb⟩
  rw [HAD.out] at n4 ⊢
  replace h := h.below bb
  replace n2 := n2.below bb
  replace br := br.below bb
  replace bw := below_on bw bb bw.size
  clear bb n3
  go_wp2_with fail
  refine (freduce_any w5 ⟨false, A, c, lim m, A2, c2, lim (2 ^ b)⟩ (okS (prt m b)) ⟨h, n2⟩ HL0.out HL2.out (prt_red A A2 c c2 (by omega) hb)).mono ?_
  rintro _ w6 ⟨x3, rfl, hs3, ok3, bb⟩
  have R3 := Lib.hid (Rp.of hs3)
  replace n2 := n2.below bb
  replace n4 := n4.below bb
  replace br := br.below bb
  replace bw := below_on bw bb bw.size
  clear bb h hs3
  go_upto_region 4 with fail
  have a3 := (fa_alloc ok3).1
  have bb := (fa_alloc ok3).2
  clear ok3
  generalize (w6.alloc (.cells #[.bool x3.b, .slice x3.A x3.xs.length x3.c, .slice x3.D x3.ys.length x3.d] 26)) = w7 at a3 bb ⊢
  replace n2 := n2.below bb
  replace n4 := n4.below bb
  replace br := br.below bb
  replace bw := below_on bw bb bw.size
  clear bb
  generalize w6.heap.size = g3 at a3 ⊢
  go_wp2_with fail
  refine (freduce_any w7 ⟨false, A4, c4, lim (m + 1), A2, c2, lim (2 ^ b)⟩ (okS (prt (m + 1) b)) ⟨n4, n2⟩ HL1.out HL2.out (prt_red A4 A2 c4 c2 (by omega) hb)).mono ?_
  rintro _ w8 ⟨x4, rfl, hs4, ok4, bb⟩
  have R4 := Lib.hid (Rp.of hs4)
  replace a3 := a3.below bb
  replace br := br.below bb
  replace bw := below_on bw bb bw.size
  clear bb n2 n4 hs4
  go_upto_region 5 with fail
  have a4 := (fa_alloc ok4).1
  have bb := (fa_alloc ok4).2
  clear ok4
  generalize (w8.alloc (.cells #[.bool x4.b, .slice x4.A x4.xs.length x4.c, .slice x4.D x4.ys.length x4.d] 26)) = w9 at a4 bb ⊢
  replace a3 := a3.below bb
  replace br := br.below bb
  replace bw := below_on bw bb bw.size
  clear bb
  generalize w8.heap.size = g4 at a4 ⊢
  have ci0 := a3.c0
  have ci1 := a3.c1
  have ci2 := a3.c2
  have cj0 := a4.c0
  have cj1 := a4.c1
  have cj2 := a4.c2
  have r0 := br.cell 0
  have r1 := br.cell 1
  have r2 := br.cell 2
  have r3 := br.cell 3
  have r4 := br.cell 4
  have r5 := br.cell 5
  have rf0 := br.unf 0
  have rf1 := br.unf 1
  have rf2 := br.unf 2
  have rf3 := br.unf 3
  have rf4 := br.unf 4
  have rf5 := br.unf 5
  simp only [List.getElem?_toArray, List.getElem?_cons_succ, List.getElem?_cons_zero] at r0 r1 r2 r3 r4 r5
  go_wp2_with fail
  refine bodyPost_ret (v := (⟨x3, x4⟩ : Ix).val) (by simp [results, Try.results75, go_sem, r0, r1, r2, r3, r4, r5]) rfl ?_
  exact ⟨⟨x3, x4⟩, rfl, R3.out, R4.out, ⟨set6_ok a3.ok br noInt_z, set6_ok a4.ok br noInt_z⟩, set6_below bw (by omega)⟩
end Go.Proofs.Ytnmomigaedfdoaa
namespace Go.Proofs.Ytnmomigaedfdoaa
set_option maxRecDepth 100000
open Go.RowKit

/-- what enclose hands back where the arguments are good -/
def encP (q : Rat) (n b kind zv : Nat) (i : Ix) : Prop :=
  (q = 0 → Rp i.lo (zv : Rat) ∧ Rp i.hi (zv : Rat)) ∧ (q ≠ 0 → Rp i.lo (prt (floorM q.num.natAbs q.den n b kind) b) ∧ Rp i.hi (prt (floorM q.num.natAbs q.den n b kind + 1) b))
theorem rp_nat (z : Nat) (A D : Option Addr) (c d : Nat) : Rp (⟨false, A, c, lim z, D, d, lim 1⟩ : Fx) (z : Rat) := by
  refine ⟨?_, ?_, ?_⟩
  · show false = decide (((z : Rat)).num < 0)
    rw [Rat.num_natCast, decide_eq_false (by omega)]
  · show lim z = lim ((z : Rat)).num.natAbs
    rw [Rat.num_natCast, Int.natAbs_natCast]
  · show lim 1 = lim ((z : Rat)).den
    rw [Rat.den_natCast]
set_option maxHeartbeats 1600000 in
theorem xenclose_any (w : World) (x : Fx) (n bits E : Int) (kind zv : Nat) (hx : x.ok w) (l1 : x.xs.length ≤ 10000) (l2 : x.ys.length ≤ 10000) (hk : kind ≤ 2) (hz : zv ≤ 1) (he : chkE x bits n = E) :
    Calls Try.prog 48 #[x.val, .int .i64 n, .int .i64 bits, .int .i64 (kind : Int), .int .u64 (zv : Int)] w fun e w' => ∃ i : Ix, e = .returned (.tuple #[i.val, .int .i64 E]) ∧ i.ok w' ∧ (E = 0 → encP x.q n.toNat bits.toNat kind zv i) ∧ Below w.heap.size w w' := by
  have HE := Lib.hid he
  clear he
  go_enter Try.func48, Try.ntmps48
  go_upto_region 1 with fail
  have fx := (fa_alloc hx).1
  have bw := (fa_alloc hx).2
  have sz := size_al w (.cells #[.bool x.b, .slice x.A x.xs.length x.c, .slice x.D x.ys.length x.d] 26)
  clear hx
  generalize (w.alloc (.cells #[.bool x.b, .slice x.A x.xs.length x.c, .slice x.D x.ys.length x.d] 26)) = w1 at fx bw sz ⊢
  have br := (zr_alloc w1).1
  have bb := (zr_alloc w1).2
  rw [sz] at br
  generalize (w1.alloc (.cells zcells 35)) = w2 at br bb ⊢
  replace fx := fx.below bb
  replace bw := below_on bw bb bw.size
  clear bb sz
  obtain ⟨g, hg⟩ : ∃ g, w.heap.size = g := ⟨_, rfl⟩
  rw [hg] at fx bw br ⊢
  have tx := fx.bk
  obtain ⟨x0, x1, x2, xf0, xf1, xf2, xlt, xb⟩ := tx
  clear xb
  go_wp2_with fail
  clear x0 x1 x2 xf0 xf1 xf2 xlt
  refine (xcheck_any w2 x bits n E fx.ok l1 l2 HE.out).mono ?_
  rintro e wn ⟨y, rfl, ok1, hy, bb⟩
  replace fx := fx.below bb
  replace br := br.below bb
  replace bw := below_on bw bb (by rw [← hg]; exact bw.size)
  clear bb
  have a1 := fx.put ok1
  have b2 : Blk _ (g + 1) _ := ((br.far (p := ⟨g, 0, none⟩) (by simp) (.bool y.b)).far (p := ⟨g, 1, none⟩) (by simp) (.slice y.A y.xs.length y.c)).far (p := ⟨g, 2, none⟩) (by simp) (.slice y.D y.ys.length y.d)
  have w1b := set3g (G := g) (a := .bool y.b) (b := .slice y.A y.xs.length y.c) (c := .slice y.D y.ys.length y.d) bw (Nat.le_refl _)
  have tx := fx.bk
  obtain ⟨x0, x1, x2, xf0, xf1, xf2, xlt, xb⟩ := tx
  clear xb
  by_cases h0 : E = 0
  · subst h0
    have HY := Lib.hid (hy rfl)
    have HOK := Lib.hid (xok_of (chkE_ok HE.out).2.1 (chkE_ok HE.out).2.2)
    have HBT := Lib.hid (bits_of (chkE_ok HE.out).2.1)
    obtain ⟨b, hb⟩ : ∃ b : Nat, bits = (b : Int) := ⟨bits.toNat, by have := HBT.out; omega⟩
    subst hb
    obtain ⟨m, hm⟩ : ∃ m : Nat, n = (m : Int) := ⟨n.toNat, by have := HBT.out; omega⟩
    subst hm
    clear hy
    go_upto_region 4 with fail
    clear x0 x1 x2 xf0 xf1 xf2 xlt
    generalize (((wn.setCell ⟨g, 0, none⟩ (.bool y.b)).setCell ⟨g, 1, none⟩ (.slice y.A y.xs.length y.c)).setCell ⟨g, 2, none⟩ (.slice y.D y.ys.length y.d)) = w3 at a1 b2 w1b ⊢
    clear fx ok1 bw br
    have br := b2
    clear b2
    have taa := a1.bk
    obtain ⟨aa0, aa1, aa2, aaf0, aaf1, aaf2, aalt, aab⟩ := taa
    clear aab
    have HZ := Lib.hid HY.out.zero
    by_cases hz0 : y.xs.length = 0
    · have e1 : ((y.xs.length : Int) == 0) = true := by simp [hz0]
      have HQ : Hid (x.q = 0) := Lib.hid (HZ.out.1 (by rw [List.eq_nil_of_length_eq_zero hz0]; rfl))
      clear hz0
      go_wp2_with fail
      refine (make_any w3 zv (by omega)).mono ?_
      rintro _ w4 ⟨A1, c1, rfl, n1, bb⟩
      replace br := br.below bb
      replace w1b := below_on w1b bb (by rw [← hg]; exact w1b.size)
      clear bb
      go_wp2_with fail
      refine (make_any w4 1 (by omega)).mono ?_
      rintro _ w5 ⟨A2, c2, rfl, n2, bb⟩
      replace br := br.below bb
      replace n1 := n1.below bb
      replace w1b := below_on w1b bb (by rw [← hg]; exact w1b.size)
      clear bb
      go_wp2_with fail
      refine (make_any w5 zv (by omega)).mono ?_
      rintro _ w6 ⟨A3, c3, rfl, n3, bb⟩
      replace br := br.below bb
      replace n1 := n1.below bb
      replace n2 := n2.below bb
      replace w1b := below_on w1b bb (by rw [← hg]; exact w1b.size)
      clear bb
      go_wp2_with fail
      refine (make_any w6 1 (by omega)).mono ?_
      rintro _ w7 ⟨A4, c4, rfl, n4, bb⟩
      replace br := br.below bb
      replace n1 := n1.below bb
      replace n2 := n2.below bb
      replace n3 := n3.below bb
      replace w1b := below_on w1b bb (by rw [← hg]; exact w1b.size)
      clear bb
      have r0 := br.cell 0
      have r1 := br.cell 1
      have r2 := br.cell 2
      have r3 := br.cell 3
      have r4 := br.cell 4
      have r5 := br.cell 5
      have rf0 := br.unf 0
      have rf1 := br.unf 1
      have rf2 := br.unf 2
      have rf3 := br.unf 3
      have rf4 := br.unf 4
      have rf5 := br.unf 5
      simp only [List.getElem?_toArray, List.getElem?_cons_succ, List.getElem?_cons_zero] at r0 r1 r2 r3 r4 r5
      go_wp2_with fail
      refine bodyPost_ret (v := .tuple #[(⟨⟨false, A1, c1, lim zv, A2, c2, lim 1⟩, ⟨false, A3, c3, lim zv, A4, c4, lim 1⟩⟩ : Ix).val, .int .i64 0]) (by simp [results, Try.results48, go_sem, r0, r1, r2, r3, r4, r5]) rfl ?_
      exact ⟨⟨⟨false, A1, c1, lim zv, A2, c2, lim 1⟩, ⟨false, A3, c3, lim zv, A4, c4, lim 1⟩⟩, rfl, ⟨set6_ok (x := ⟨false, A1, c1, lim zv, A2, c2, lim 1⟩) ⟨n1, n2⟩ br noInt_z, set6_ok (x := ⟨false, A3, c3, lim zv, A4, c4, lim 1⟩) ⟨n3, n4⟩ br noInt_z⟩, ⟨fun _ => ⟨rp_nat _ _ _ _ _, rp_nat _ _ _ _ _⟩, fun k => absurd HQ.out k⟩, set6_below w1b (by omega)⟩
    · have e1 : ((y.xs.length : Int) == 0) = false := beq_eq_false_iff_ne.2 (by omega)
      have HQ : Hid (x.q ≠ 0) := Lib.hid (fun k => hz0 (by rw [HY.out.n, k, show (0 : Rat).num.natAbs = 0 from rfl, lim_zero]; rfl))
      clear hz0
      go_wp2_with fail
      have hF := xfloor_any w3 y x.q.num.natAbs x.q.den m b kind a1.ok HY.out.n HY.out.d HOK.out (by have := HBT.out; omega) (by have := HBT.out; omega) (by have := HBT.out; omega) hk
      have hle := floorM_le (kind := kind) HOK.out (show m ≤ 256 by have := HBT.out; omega) (show 1 ≤ b by have := HBT.out; omega) (by have := HBT.out; omega)
      have HV : Hid (∀ i : Ix, Rp i.lo (prt (floorM x.q.num.natAbs x.q.den m b kind) b) → Rp i.hi (prt (floorM x.q.num.natAbs x.q.den m b kind + 1) b) → encP x.q m b kind zv i) := Lib.hid (fun i h1 h2 => ⟨fun k => absurd k HQ.out, fun _ => ⟨h1, h2⟩⟩)
      generalize floorM x.q.num.natAbs x.q.den m b kind = v at hle hF HV
      have HLE := Lib.hid hle
      clear hle
      refine hF.mono ?_
      rintro _ w4 ⟨A3, c3, rfl, n3, bb⟩
      clear hF
      replace br := br.below bb
      replace w1b := below_on w1b bb (by rw [← hg]; exact w1b.size)
      clear bb
      go_wp2_with fail
      refine (xunit_any w4 A3 c3 v b n3 (by have := HLE.out; have := (pow64 (b := b) (by have := HBT.out; omega)).2; omega) (by have := HBT.out; omega)).mono ?_
      rintro _ w5 ⟨i, rfl, hi1, hi2, oki, bb⟩
      have HI := Lib.hid (HV.out i hi1 hi2)
      replace br := br.below bb
      replace w1b := below_on w1b bb (by rw [← hg]; exact w1b.size)
      clear bb n3 hi1 hi2
      have r0 := br.cell 0
      have r1 := br.cell 1
      have r2 := br.cell 2
      have r3 := br.cell 3
      have r4 := br.cell 4
      have r5 := br.cell 5
      have rf0 := br.unf 0
      have rf1 := br.unf 1
      have rf2 := br.unf 2
      have rf3 := br.unf 3
      have rf4 := br.unf 4
      have rf5 := br.unf 5
      simp only [List.getElem?_toArray, List.getElem?_cons_succ, List.getElem?_cons_zero] at r0 r1 r2 r3 r4 r5
      go_wp2_with fail
      refine bodyPost_ret (v := .tuple #[i.val, .int .i64 0]) (by simp [results, Try.results48, go_sem, r0, r1, r2, r3, r4, r5]) rfl ?_
      exact ⟨i, rfl, ⟨set6_ok oki.lo br noInt_z, set6_ok oki.hi br noInt_z⟩, HI.out, set6_below w1b (by omega)⟩
  · have e0 : (E != 0) = true := bne_iff_ne.2 h0
    have H0 : Hid (E ≠ 0) := h0
    clear h0
    have br := b2
    clear fx bw
    have r0 := br.cell 0
    have r1 := br.cell 1
    have r2 := br.cell 2
    have r3 := br.cell 3
    have r4 := br.cell 4
    have r5 := br.cell 5
    have rf0 := br.unf 0
    have rf1 := br.unf 1
    have rf2 := br.unf 2
    have rf3 := br.unf 3
    have rf4 := br.unf 4
    have rf5 := br.unf 5
    simp only [List.getElem?_toArray, List.getElem?_cons_succ, List.getElem?_cons_zero] at r0 r1 r2 r3 r4 r5
    go_wp2_with fail
    refine bodyPost_ret (v := .tuple #[Ix.nil.val, .int .i64 E]) (by simp [results, Try.results48, go_sem, r0, r1, r2, r3, r4, r5]) rfl ?_
    exact ⟨Ix.nil, rfl, Ix.nil_ok _, fun h => absurd h H0.out, by rw [hg]; exact set6_below w1b (by omega)⟩
end Go.Proofs.Ytnmomigaedfdoaa
