/- The walk of expo.check. -/
import Derived.Test.YtnmomigaedfdoaaExF
import Derived.Test.YtnmomigaedfdoaaFrD
import Derived.Test.YtnmomigaedfdoaaLwD
import Derived.Test.YtnmomigaedfdoaaFrG
namespace Go.Proofs.Ytnmomigaedfdoaa
set_option maxRecDepth 100000
open Go.RowKit

/-- the error of the arguments -/
def rangeP (q : Rat) (bits n : Int) : Prop := q < 0 ∨ 64 < q ∨ bits < 1 ∨ 64 < bits ∨ n < 0 ∨ 256 < n
instance (q : Rat) (bits n : Int) : Decidable (rangeP q bits n) := inferInstanceAs (Decidable (_ ∨ _ ∨ _ ∨ _ ∨ _ ∨ _))
def longP (q : Rat) : Prop := 2 < (lim q.num.natAbs).length ∨ 2 < (lim q.den).length
instance (q : Rat) : Decidable (longP q) := inferInstanceAs (Decidable (_ ∨ _))
open Classical in
noncomputable def chkE (x : Fx) (bits n : Int) : Int := if ¬ x.v then 1 else if rangeP x.q bits n then 5 else if longP x.q then 2 else 0
abbrev F64 (A : Option Addr) (c : Nat) (D : Option Addr) (d : Nat) : Fx := ⟨false, A, c, lim 64, D, d, lim 1⟩
theorem rp64 (A : Option Addr) (c : Nat) (D : Option Addr) (d : Nat) : Rp (F64 A c D d) 64 := ⟨by show false = _; decide, by show lim 64 = lim (Int.natAbs (64 : Int)); rfl, by show lim 1 = lim 1; rfl⟩
theorem len_lim_small {a : Nat} (h : a < 4294967296) : (lim a).length ≤ 128 := Nat.le_trans (lim_len2 (by omega)) (by omega)
theorem sz64 : Sz (64 : Rat) 128 128 := ⟨len_lim_small (by decide), len_lim_small (by decide)⟩
theorem cmpQ_pos (p q : Rat) : decide (0 < cmpQ p q) = decide (q < p) := by
  rcases cmpQ_cases p q with ⟨h, e⟩ | ⟨h, e⟩ | ⟨h, e⟩ <;> rw [e]
  · rw [decide_eq_false (by omega), decide_eq_false (by grind)]
  · rw [decide_eq_false (by omega), decide_eq_false (by grind)]
  · rw [decide_eq_true (by omega), decide_eq_true h]
set_option maxHeartbeats 3200000 in
theorem xcheck_any (w : World) (x : Fx) (bits n E : Int) (hx : x.ok w) (l1 : x.xs.length ≤ 10000) (l2 : x.ys.length ≤ 10000) (he : chkE x bits n = E) :
    Calls Try.prog 62 #[x.val, .int .i64 bits, .int .i64 n] w fun e w' => ∃ y : Fx, e = .returned (.tuple #[y.val, .int .i64 E]) ∧ y.ok w' ∧ (E = 0 → Rp y x.q) ∧ Below w.heap.size w w' := by
  have HE := Lib.hid he
  clear he
  by_cases hv : x.v
  · have HV := Lib.hid hv
    have HSZ : Hid (Sz x.q 128 128) := Lib.hid (redS_ok hv).2
    clear hv
    go_enter Try.func62, Try.ntmps62
    go_wp2_with fail
    have hs1 : w.heap.size < (w.alloc (.cells x.cells 26)).heap.size := by simp
    have b0 := (Below.refl w.heap.size w).alloc (Nat.le_refl _) (.cells x.cells 26)
    have b1 := (Below.refl (w.alloc (.cells x.cells 26)).heap.size (w.alloc (.cells x.cells 26))).alloc (Nat.le_refl _) (.cells #[.bool false, .slice none 0 0, .slice none 0 0] 26)
    have bx := (bk3_alloc w (.bool x.b) (.slice x.A x.xs.length x.c) (.slice x.D x.ys.length x.d)).below b1
    have bk := bk3_new (w.alloc (.cells x.cells 26))
    rw [size_box] at bk
    have okx := (hx.below b0).below b1
    have bw := below_on b0 b1 (Nat.le_of_lt hs1)
    clear hs1 b0 b1
    revert bx bk okx bw
    generalize ((w.alloc (.cells x.cells 26)).alloc (.cells #[.bool false, .slice none 0 0, .slice none 0 0] 26)) = w1
    intro bx bk okx bw
    have tx := bx
    obtain ⟨x0, x1, x2, xf0, xf1, xf2, xlt, xb⟩ := tx
    clear xb
    go_wp2_with fail
    clear x0 x1 x2 xf0 xf1 xf2 xlt
    refine (freduce_any w1 x (okS x.q) okx l1 l2 (redS_okS HV.out)).mono ?_
    rintro e wn ⟨y, rfl, hs, ok1, bb⟩
    have HY := Lib.hid (Rp.of hs)
    clear hs
    try replace bx := bx.below bb
    try replace by_ := by_.below bb
    try replace bk := bk.below bb
    try replace okx := okx.below bb
    try replace oky := oky.below bb
    try replace ok1 := ok1.below bb
    try replace na := na.below bb
    try replace nb := nb.below bb
    try replace nc := nc.below bb
    try replace nd := nd.below bb
    try replace ne := ne.below bb
    replace bw := below_on bw bb bw.size
    clear bb
    obtain ⟨g, hg⟩ : ∃ g, w.heap.size = g := ⟨_, rfl⟩
    have hgn : g ≤ wn.heap.size := by rw [← hg]; exact bw.size
    have fx : Fa wn g x := by rw [← hg]; exact ⟨bx, okx⟩
    rw [hg] at bk bw ⊢
    clear bx okx
    have a1 := fx.put ok1
    have b1 := bk.far (H := g) (a := .bool y.b) (b := .slice y.A y.xs.length y.c) (c := .slice y.D y.ys.length y.d) (by omega)
    have w1b := set3g (G := g) (a := .bool y.b) (b := .slice y.A y.xs.length y.c) (c := .slice y.D y.ys.length y.d) bw (Nat.le_refl _)
    have tx := fx.bk
    obtain ⟨x0, x1, x2, xf0, xf1, xf2, xlt, xb⟩ := tx
    clear xb
    go_upto_region 4 with fail
    clear x0 x1 x2 xf0 xf1 xf2 xlt
    generalize (((wn.setCell ⟨g, 0, none⟩ (.bool y.b)).setCell ⟨g, 1, none⟩ (.slice y.A y.xs.length y.c)).setCell ⟨g, 2, none⟩ (.slice y.D y.ys.length y.d)) = w2 at a1 b1 w1b ⊢
    clear fx ok1 bk bw hgn
    have A1 := Lib.hid a1
    have B1 := Lib.hid b1
    have W1 := Lib.hid w1b
    have HCM : Hid (∀ M1 e1 M2 e2, cmpF y (F64 M1 e1 M2 e2) = (cmpQ x.q 64, 0)) := Lib.hid (fun M1 e1 M2 e2 => cmpF_ok (HY.out.v HSZ.out) ((rp64 M1 e1 M2 e2).v sz64) HY.out.q (rp64 M1 e1 M2 e2).q rfl)
    clear a1 b1 w1b
    go_cut [9, 10] (fun s9 s10 wx => s9 = .int .i64 (cmpQ x.q 64) ∧ s10 = .int .i64 0 ∧ Below w2.heap.size w2 wx)
    case first =>
      refine wp_region_held_drew (S := fun w' => w'.cell? ⟨g, 0, none⟩ = some (.bool y.b) ∧ w'.cell? ⟨g, 1, none⟩ = some (.slice y.A y.xs.length y.c) ∧ w'.cell? ⟨g, 2, none⟩ = some (.slice y.D y.ys.length y.d)) (by kernel_rfl) ⟨(A1.out.below ((Below.refl w2.heap.size w2).drew)).c0, (A1.out.below ((Below.refl w2.heap.size w2).drew)).c1, (A1.out.below ((Below.refl w2.heap.size w2).drew)).c2⟩ (fun hHeld => ?_)
      have bz := (Below.refl w2.heap.size w2).drew
      generalize w2.drew = wd at *
      refine tkw 0 (y.val) rfl (by kernel_rfl) (by kernel_rfl) (by kernel_rfl) (fun _ _ _ h => h) ⟨by rfl, ?_⟩ (by assumption) ?_
      ·intro w hSw; (try dsimp only at hSw); obtain ⟨s0, s1, s2⟩ := hSw; go_simp; (try with_reducible rfl)
      try simp only [Act.put, tzA, tzB, tzD, tzE, tzF]
      refine wpAnyH_ready (rs := [1]) (by kernel_rfl) (by simp) ?_
      refine AllReadyH.cons rfl (fun K hK => ?_) ?_
      ·go_simp
       go_at_call 74
       refine (make_any wd 64 (by omega)).mono ?_
       rintro _ wd ⟨M1, e1, rfl, m1, bb⟩
       try replace m1 := m1.below bb
       try replace m2 := m2.below bb
       replace bz := below_on bz bb bz.size
       clear bb
       refine hK.out _ _ ⟨(A1.out.below bz).c0, (A1.out.below bz).c1, (A1.out.below bz).c2⟩ (fun hHeld => ?_)
       clear hK K
       try simp only [Act.put]
       try simp only [tzD, tzE, tzF]
       refine wpAnyH_ready (rs := [2]) (by kernel_rfl) (by simp) ?_
       refine AllReadyH.cons rfl (fun K hK => ?_) ?_
       ·go_simp
        go_at_call 74
        refine (make_any wd 1 (by omega)).mono ?_
        rintro _ wd ⟨M2, e2, rfl, m2, bb⟩
        try replace m1 := m1.below bb
        try replace m2 := m2.below bb
        replace bz := below_on bz bb bz.size
        clear bb
        refine hK.out _ _ ⟨(A1.out.below bz).c0, (A1.out.below bz).c1, (A1.out.below bz).c2⟩ (fun hHeld => ?_)
        clear hK K
        try simp only [Act.put]
        try simp only [tzD, tzE, tzF]
        refine tkw 3 (.agg #[.bool false, .slice M1 (lim 64).length e1, .slice M2 (lim 1).length e2]) rfl (by kernel_rfl) (by kernel_rfl) (by kernel_rfl) (fun _ _ _ h => h) ⟨by rfl, ?_⟩ (by assumption) ?_
        ·intro w hSw; go_simp; (try with_reducible rfl)
        try simp only [Act.put, tzA, tzB, tzC, tzD, tzE, tzF]
        refine wpAnyH_ready (rs := [4]) (by kernel_rfl) (by simp) ?_
        refine AllReadyH.cons rfl (fun K hK => ?_) ?_
        ·go_simp
         go_at_call 88
         refine (fcmp_any wd y (F64 M1 e1 M2 e2) (cmpQ x.q 64, 0) (A1.out.below bz).ok ⟨m1, m2⟩ (HY.out.l1 HSZ.out) (HY.out.l2 HSZ.out) ((rp64 M1 e1 M2 e2).l1 sz64) ((rp64 M1 e1 M2 e2).l2 sz64) (HCM.out M1 e1 M2 e2)).mono ?_
         rintro _ wd ⟨rfl, bb⟩
         try replace m1 := m1.below bb
         try replace m2 := m2.below bb
         replace bz := below_on bz bb bz.size
         clear bb
         refine hK.out _ _ ⟨(A1.out.below bz).c0, (A1.out.below bz).c1, (A1.out.below bz).c2⟩ (fun hHeld => ?_)
         clear hK K
         refine tkw 5 (.tuple #[.int .i64 (cmpQ x.q 64), .int .i64 0]) rfl (by kernel_rfl) (by kernel_rfl) (by kernel_rfl) (fun _ _ _ h => h) ⟨by rfl, ?_⟩ (by assumption) ?_
         ·intro w hSw; go_simp; (try with_reducible rfl)
         try simp only [Act.put, tzA, tzB, tzC, tzD, tzE, tzF]
         refine tkw 6 (.int .i64 (cmpQ x.q 64)) rfl (by kernel_rfl) (by kernel_rfl) (by kernel_rfl) (fun _ _ _ h => h) ⟨by rfl, ?_⟩ (by assumption) ?_
         ·intro w hSw; go_simp; (try with_reducible rfl)
         try simp only [Act.put, tzA, tzB, tzC, tzD, tzE, tzF]
         refine tkw 7 (.int .i64 0) rfl (by kernel_rfl) (by kernel_rfl) (by kernel_rfl) (fun _ _ _ h => h) ⟨by rfl, ?_⟩ (by assumption) ?_
         ·intro w hSw; go_simp; (try with_reducible rfl)
         try simp only [Act.put, tzA, tzB, tzC, tzD, tzE, tzF]
         refine wpAnyH_ready (rs := [8]) (by kernel_rfl) (by simp) ?_
         refine AllReadyH.cons rfl (fun K hK => ?_) ?_
         ·go_simp
          refine hK.out _ _ ⟨(A1.out.below bz).c0, (A1.out.below bz).c1, (A1.out.below bz).c2⟩ (fun hHeld => ?_)
          clear hK K
          try simp only [Act.put]
          try simp only [tzD, tzE, tzF]
          refine wpAnyH_ready (rs := [9]) (by kernel_rfl) (by simp) ?_
          refine AllReadyH.cons rfl (fun K hK => ?_) ?_
          ·go_simp
           refine hK.out _ _ ⟨(A1.out.below bz).c0, (A1.out.below bz).c1, (A1.out.below bz).c2⟩ (fun hHeld => ?_)
           clear hK K
           try simp only [Act.put]
           try simp only [tzD, tzE, tzF]
           refine wpAnyH_done (by kernel_rfl) ?_ _
           go_wp2_with fail
           go_meet
           case rel => exact ⟨rfl, rfl, bz⟩
          exact AllReadyH.nil
         exact AllReadyH.nil
        exact AllReadyH.nil
       exact AllReadyH.nil
      exact AllReadyH.nil
    case rest =>
      obtain ⟨rfl, rfl, bb⟩ := hcut
      have a1 := A1.out.below bb
      have b1 := B1.out.below bb
      have bw := below_on W1.out bb (by rw [← hg]; exact W1.out.size)
      clear bb
      have HYB : Hid (y.b = decide (x.q < 0)) := Lib.hid (by
        rw [HY.out.b]
        show decide (x.q.num < 0) = _
        by_cases h : x.q < 0
        · rw [decide_eq_true h, decide_eq_true (by have := (not_congr (Rat.num_nonneg (q := x.q))).2 (by grind); omega)]
        · rw [decide_eq_false h, decide_eq_false (by have := (Rat.num_nonneg (q := x.q)).2 (by grind); omega)])
      have k0 := a1.c0
      go_upto_region 5 with fail
      go_cut [27] (fun v wx => v = .bool (decide (rangeP x.q bits n)) ∧ wx = wc)
      case first =>
        by_cases q0 : x.q < 0
        · have PR : Hid (rangeP x.q bits n) := Lib.hid (Or.inl q0)
          have d0 : y.b = true := by rw [HYB.out]; exact decide_eq_true q0
          rw [d0] at k0
          clear q0
          go_wp2_with fail
          go_meet
          case rel => exact ⟨by rw [decide_eq_true PR.out], rfl⟩
        · have d0 : y.b = false := by rw [HYB.out]; exact decide_eq_false q0
          rw [d0] at k0
          by_cases q1 : 64 < x.q
          · have PR : Hid (rangeP x.q bits n) := Lib.hid (Or.inr (Or.inl q1))
            have d1 : decide (0 < cmpQ x.q 64) = true := by rw [cmpQ_pos]; exact decide_eq_true q1
            clear q0 q1
            go_wp2_with fail
            go_meet
            case rel => exact ⟨by rw [decide_eq_true PR.out], rfl⟩
          · have d1 : decide (0 < cmpQ x.q 64) = false := by rw [cmpQ_pos]; exact decide_eq_false q1
            by_cases q2 : bits < 1
            · have PR : Hid (rangeP x.q bits n) := Lib.hid (Or.inr (Or.inr (Or.inl q2)))
              have d2 : decide (bits < 1) = true := decide_eq_true q2
              clear q0 q1 q2
              go_wp2_with fail
              go_meet
              case rel => exact ⟨by rw [decide_eq_true PR.out], rfl⟩
            · have d2 : decide (bits < 1) = false := decide_eq_false q2
              by_cases q3 : 64 < bits
              · have PR : Hid (rangeP x.q bits n) := Lib.hid (Or.inr (Or.inr (Or.inr (Or.inl q3))))
                have d3 : decide (64 < bits) = true := decide_eq_true q3
                clear q0 q1 q2 q3
                go_wp2_with fail
                go_meet
                case rel => exact ⟨by rw [decide_eq_true PR.out], rfl⟩
              · have d3 : decide (64 < bits) = false := decide_eq_false q3
                by_cases q4 : n < 0
                · have PR : Hid (rangeP x.q bits n) := Lib.hid (Or.inr (Or.inr (Or.inr (Or.inr (Or.inl q4)))))
                  have d4 : decide (n < 0) = true := decide_eq_true q4
                  clear q0 q1 q2 q3 q4
                  go_wp2_with fail
                  go_meet
                  case rel => exact ⟨by rw [decide_eq_true PR.out], rfl⟩
                · have d4 : decide (n < 0) = false := decide_eq_false q4
                  by_cases q5 : 256 < n
                  · have PR : Hid (rangeP x.q bits n) := Lib.hid (Or.inr (Or.inr (Or.inr (Or.inr (Or.inr (q5))))))
                    have d5 : decide (256 < n) = true := decide_eq_true q5
                    clear q0 q1 q2 q3 q4 q5
                    go_wp2_with fail
                    go_meet
                    case rel => exact ⟨by rw [decide_eq_true PR.out], rfl⟩
                  · have d5 : decide (256 < n) = false := decide_eq_false q5
                    have PR : Hid (¬ rangeP x.q bits n) := Lib.hid (fun h => h.elim q0 (fun h => h.elim q1 (fun h => h.elim q2 (fun h => h.elim q3 (fun h => h.elim q4 q5)))))
                    clear q0 q1 q2 q3 q4 q5
                    go_wp2_with fail
                    go_meet
                    case rel => exact ⟨by rw [decide_eq_false PR.out], rfl⟩
      case rest =>
        obtain ⟨rfl, rfl⟩ := hcut
        clear k0
        by_cases hr : rangeP x.q bits n
        · have e1 : decide (rangeP x.q bits n) = true := decide_eq_true hr
          have HR : Hid (rangeP x.q bits n) := Lib.hid hr
          clear hr
          have tk := b1
          obtain ⟨k0, k1, k2, kf0, kf1, kf2, klt, kb⟩ := tk
          clear kb
          go_wp2_with fail
          refine bodyPost_ret (v := .tuple #[(Fx.nil : Fx).val, .int .i64 5]) (by simp [results, Try.results62, go_sem, k0, k1, k2]) rfl ?_
          obtain rfl : E = 5 := by rw [← HE.out, chkE, if_neg (fun k => k HV.out), if_pos HR.out]
          exact ⟨Fx.nil, rfl, Fx.nil_ok _, fun h => absurd h (by decide), by rw [hg]; exact set3g bw (by omega)⟩
        · have e1 : decide (rangeP x.q bits n) = false := decide_eq_false hr
          have HR : Hid (¬ rangeP x.q bits n) := Lib.hid hr
          clear hr
          have OKY := Lib.hid a1.ok
          have HNM := Lib.hid HY.out.n
          have HDN := Lib.hid HY.out.d
          have taa := a1.bk
          obtain ⟨aa0, aa1, aa2, aaf0, aaf1, aaf2, aalt, aab⟩ := taa
          clear aab
          have tk := b1
          obtain ⟨k0, k1, k2, kf0, kf1, kf2, klt, kb⟩ := tk
          clear kb
          go_upto_region 7 with fail
          have HL1 : Hid (y.xs = lim x.q.num.natAbs) := HNM
          by_cases c1 : 2 < y.xs.length
          · have e2 : decide ((2 : Int) < (y.xs.length : Int)) = true := decide_eq_true (by omega)
            have HLG : Hid (longP x.q) := Lib.hid (Or.inl (by rw [← HNM.out]; exact c1))
            clear c1
            go_wp2_with fail
            refine bodyPost_ret (v := .tuple #[(Fx.nil : Fx).val, .int .i64 2]) (by simp [results, Try.results62, go_sem, k0, k1, k2]) rfl ?_
            obtain rfl : E = 2 := by rw [← HE.out, chkE, if_neg (fun k => k HV.out), if_neg HR.out, if_pos HLG.out]
            exact ⟨Fx.nil, rfl, Fx.nil_ok _, fun h => absurd h (by decide), by rw [hg]; exact set3g bw (by omega)⟩
          · have e2 : decide ((2 : Int) < (y.xs.length : Int)) = false := decide_eq_false (by omega)
            by_cases c2 : 2 < y.ys.length
            · have e3 : decide ((2 : Int) < (y.ys.length : Int)) = true := decide_eq_true (by omega)
              have HLG : Hid (longP x.q) := Lib.hid (Or.inr (by rw [← HDN.out]; exact c2))
              clear c1 c2
              go_wp2_with fail
              refine bodyPost_ret (v := .tuple #[(Fx.nil : Fx).val, .int .i64 2]) (by simp [results, Try.results62, go_sem, k0, k1, k2]) rfl ?_
              obtain rfl : E = 2 := by rw [← HE.out, chkE, if_neg (fun k => k HV.out), if_neg HR.out, if_pos HLG.out]
              exact ⟨Fx.nil, rfl, Fx.nil_ok _, fun h => absurd h (by decide), by rw [hg]; exact set3g bw (by omega)⟩
            · have e3 : decide ((2 : Int) < (y.ys.length : Int)) = false := decide_eq_false (by omega)
              have HLG : Hid (¬ longP x.q) := Lib.hid (fun h => h.elim (fun h => c1 (by rw [HNM.out]; exact h)) (fun h => c2 (by rw [HDN.out]; exact h)))
              clear c1 c2
              go_wp2_with fail
              refine bodyPost_ret (v := .tuple #[(y : Fx).val, .int .i64 0]) (by simp [results, Try.results62, go_sem, k0, k1, k2]) rfl ?_
              obtain rfl : E = 0 := by rw [← HE.out, chkE, if_neg (fun k => k HV.out), if_neg HR.out, if_neg HLG.out]
              exact ⟨y, rfl, set3_ok OKY.out b1 rfl rfl rfl, fun _ => HY.out, by rw [hg]; exact set3g bw (by omega)⟩
  · have HV : Hid (¬ x.v) := hv
    clear hv
    go_enter Try.func62, Try.ntmps62
    go_wp2_with fail
    have hs1 : w.heap.size < (w.alloc (.cells x.cells 26)).heap.size := by simp
    have b0 := (Below.refl w.heap.size w).alloc (Nat.le_refl _) (.cells x.cells 26)
    have b1 := (Below.refl (w.alloc (.cells x.cells 26)).heap.size (w.alloc (.cells x.cells 26))).alloc (Nat.le_refl _) (.cells #[.bool false, .slice none 0 0, .slice none 0 0] 26)
    have bx := (bk3_alloc w (.bool x.b) (.slice x.A x.xs.length x.c) (.slice x.D x.ys.length x.d)).below b1
    have bk := bk3_new (w.alloc (.cells x.cells 26))
    rw [size_box] at bk
    have okx := (hx.below b0).below b1
    have bw := below_on b0 b1 (Nat.le_of_lt hs1)
    clear hs1 b0 b1
    revert bx bk okx bw
    generalize ((w.alloc (.cells x.cells 26)).alloc (.cells #[.bool false, .slice none 0 0, .slice none 0 0] 26)) = w1
    intro bx bk okx bw
    have tx := bx
    obtain ⟨x0, x1, x2, xf0, xf1, xf2, xlt, xb⟩ := tx
    clear xb
    go_wp2_with fail
    clear x0 x1 x2 xf0 xf1 xf2 xlt
    refine (freduce_any w1 x (errF 1) okx l1 l2 (by rw [redS, if_neg HV.out])).mono ?_
    rintro e wn ⟨y, rfl, hs, ok1, bb⟩
    try replace bx := bx.below bb
    try replace by_ := by_.below bb
    try replace bk := bk.below bb
    try replace okx := okx.below bb
    try replace oky := oky.below bb
    try replace ok1 := ok1.below bb
    try replace na := na.below bb
    try replace nb := nb.below bb
    try replace nc := nc.below bb
    try replace nd := nd.below bb
    try replace ne := ne.below bb
    replace bw := below_on bw bb bw.size
    clear bb
    have fx : Fa wn w.heap.size x := ⟨bx, okx⟩
    clear bx okx
    have tx := fx.bk
    obtain ⟨x0, x1, x2, xf0, xf1, xf2, xlt, xb⟩ := tx
    clear xb
    have tk := bk
    obtain ⟨k0, k1, k2, kf0, kf1, kf2, klt, kb⟩ := tk
    clear kb
    go_wp2_with fail
    refine bodyPost_ret (v := .tuple #[(Fx.nil : Fx).val, .int .i64 1]) (by simp [results, Try.results62, go_sem, k0, k1, k2]) rfl ?_
    obtain rfl : E = 1 := by rw [← HE.out, chkE, if_pos HV.out]
    exact ⟨Fx.nil, rfl, Fx.nil_ok _, fun h => absurd h (by decide), set3g (set3g bw (Nat.le_refl _)) (by omega)⟩
end Go.Proofs.Ytnmomigaedfdoaa
