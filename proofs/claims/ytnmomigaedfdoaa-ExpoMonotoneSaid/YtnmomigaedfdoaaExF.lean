/- The walk of expo.floor. -/
import Derived.Test.YtnmomigaedfdoaaExE
import Derived.Test.YtnmomigaedfdoaaExB
namespace Go.Proofs.Ytnmomigaedfdoaa
set_option maxRecDepth 100000
open Go.RowKit

theorem cmp3_dec {a b : Nat} : (cmp3 a b == 0) = decide (a = b) := by
  unfold cmp3
  by_cases h1 : a < b
  · rw [if_pos h1, decide_eq_false (by omega)]; rfl
  · rw [if_neg h1]
    by_cases h2 : b < a
    · rw [if_pos h2, decide_eq_false (by omega)]; rfl
    · rw [if_neg h2, decide_eq_true (by omega)]; rfl
theorem pow_le_9 {j : Nat} (h : j ≤ 9) : 2 ^ j ≤ 512 := by
  have := Nat.pow_le_pow_right (n := 2) (by omega) h
  omega
theorem alloc3 {w : World} {a b c : Px} (oa : a.ok w) (ob : b.ok w) (oc : c.ok w) (t : TypeId) :
    Pv (((w.alloc (.cells a.cells t)).alloc (.cells b.cells t)).alloc (.cells c.cells t)) w.heap.size a ∧ Pv (((w.alloc (.cells a.cells t)).alloc (.cells b.cells t)).alloc (.cells c.cells t)) (w.heap.size + 1) b ∧ Pv (((w.alloc (.cells a.cells t)).alloc (.cells b.cells t)).alloc (.cells c.cells t)) (w.heap.size + 1 + 1) c ∧ Below w.heap.size w (((w.alloc (.cells a.cells t)).alloc (.cells b.cells t)).alloc (.cells c.cells t)) ∧ (((w.alloc (.cells a.cells t)).alloc (.cells b.cells t)).alloc (.cells c.cells t)).heap.size = w.heap.size + 1 + 1 + 1 := by
  obtain ⟨v1, b1⟩ := pv_alloc oa t
  have z1 := size_al w (.cells a.cells t)
  replace ob := ob.below b1
  replace oc := oc.below b1
  generalize (w.alloc (.cells a.cells t)) = w1 at v1 b1 z1 ob oc ⊢
  obtain ⟨v2, b2⟩ := pv_alloc ob t
  have z2 := size_al w1 (.cells b.cells t)
  replace oc := oc.below b2
  replace v1 := v1.below b2
  replace b1 := below_on b1 b2 b1.size
  rw [z1] at v2 z2
  generalize (w1.alloc (.cells b.cells t)) = w2 at v1 v2 b1 z2 oc ⊢
  obtain ⟨v3, b3⟩ := pv_alloc oc t
  have z3 := size_al w2 (.cells c.cells t)
  rw [z2] at v3 z3
  exact ⟨v1.below b3, v2.below b3, v3, below_on b1 b3 b1.size, z3⟩
set_option maxHeartbeats 6400000 in
theorem xfloor_any (w : World) (x : Fx) (num den n bits kind : Nat) (hx : x.ok w) (hn : x.xs = lim num) (hd : x.ys = lim den) (ho : XOk num den) (hn2 : n ≤ 256) (hb0 : 1 ≤ bits) (hb1 : bits ≤ 64) (hk : kind ≤ 2) :
    Calls Try.prog 64 #[x.val, .int .i64 (n : Int), .int .i64 (bits : Int), .int .i64 (kind : Int)] w fun e w' => ∃ A' c', e = .returned (.slice A' (lim (floorM num den n bits kind)).length c') ∧ Nt w' A' c' (lim (floorM num den n bits kind)) ∧ Below w.heap.size w w' := by
  have HO := Lib.hid ho
  have HN := Lib.hid hn
  have HD := Lib.hid hd
  clear ho hn hd
  go_enter Try.func64, Try.ntmps64
  go_upto_region 1 with fail
  have q := (qv_alloc hx 26).1
  have bw := (qv_alloc hx 26).2
  clear hx
  generalize (w.alloc (.cells x.cells 26)) = w1 at q bw ⊢
  obtain ⟨g, hg⟩ : ∃ g, w.heap.size = g := ⟨_, rfl⟩
  rw [hg] at q ⊢
  go_wp2_with fail
  go_loopw [9] (fun pv wr => ∃ (j P : Nat), j ≤ 9 ∧ P = (bits + 48) * 2 ^ j ∧ pv = .int .i64 P ∧ (∀ i, i < j → ¬ (fAt num den n bits kind ((bits + 48) * 2 ^ i)).1 = (fAt num den n bits kind ((bits + 48) * 2 ^ i)).2) ∧ Qv wr g x ∧ Below w.heap.size w wr) (fun pv _ => 200000 - (intOf pv).toNat)
  case atStart => exact ⟨0, bits + 48, by omega, by simp, by go_num, fun i h => by omega, q, bw⟩
  case round =>
    clear q bw
    obtain ⟨j, P, hj, hP, rfl, hno, q, bw⟩ := hrel
    have HNO := Lib.hid hno
    have HPE := Lib.hid hP
    have hp2 : P ≤ 57344 := by
      rw [hP]
      have := Nat.mul_le_mul (show bits + 48 ≤ 112 by omega) (pow_le_9 hj)
      omega
    have hp3 : 49 ≤ P := by
      rw [hP]
      have := Nat.mul_le_mul (show 49 ≤ bits + 48 by omega) (Nat.one_le_two_pow (n := j))
      omega
    clear hno hP
    have c0 := q.c0
    have c1 := q.c1
    have c2 := q.c2
    go_wp2_with fail
    refine (xseries_any wr x num den n P q.ok HN.out HD.out HO.out hn2 (by omega)).mono ?_
    rintro _ w2 ⟨a, b, c, rfl, ha, hb, hc, oa, ob, oc, bb⟩
    have HA := Lib.hid ha
    have HB := Lib.hid hb
    have HC := Lib.hid hc
    replace q := q.below bb
    replace bw := below_on bw bb bw.size
    clear c0 c1 c2 bb ha hb hc
    go_upto_region 4 with fail
    have h3 := alloc3 oa ob oc 97
    have bb := h3.2.2.2.1
    replace q := q.below bb
    replace bw := below_on bw bb bw.size
    obtain ⟨v10, v11, v12, _, hz⟩ := h3
    clear bb oa ob oc
    generalize (((w2.alloc (.cells #[.slice a.A (lim a.lo).length a.c, .slice a.D (lim a.hi).length a.d] 97)).alloc (.cells #[.slice b.A (lim b.lo).length b.c, .slice b.D (lim b.hi).length b.d] 97)).alloc (.cells #[.slice c.A (lim c.lo).length c.c, .slice c.D (lim c.hi).length c.d] 97)) = w3 at q v10 v11 v12 bw hz ⊢
    generalize w2.heap.size = g10 at v10 v11 v12 hz ⊢
    go_wp2_with fail
    refine (make_any w3 1 (by omega)).mono ?_
    rintro _ w4 ⟨A1, c1, rfl, n1, bb⟩
    replace q := q.below bb
    replace v10 := v10.below bb
    replace v11 := v11.below bb
    replace v12 := v12.below bb
    replace bw := below_on bw bb bw.size
    have hz1 := bb.size
    clear bb
    go_wp2_with fail
    refine (nsh_any w4 A1 c1 P n1).mono ?_
    rintro _ w5 ⟨A2, c2, E2, rfl, n2, bb⟩
    replace q := q.below bb
    replace v10 := v10.below bb
    replace v11 := v11.below bb
    replace v12 := v12.below bb
    replace bw := below_on bw bb bw.size
    have hz2 := bb.size
    clear bb n1
    go_upto_block 2 with fail
    have hok : (⟨A2, c2, shO P, A2, c2, shO P⟩ : Px).ok w5 := ⟨n2, n2⟩
    have v15 := (pv_alloc hok 97).1
    have bb := (pv_alloc hok 97).2
    have h15 : g10 + 1 + 1 < w5.heap.size := by omega
    have hw5 : w.heap.size ≤ w5.heap.size := bw.size
    have hgq := q.lt
    replace q := q.below bb
    replace v10 := v10.below bb
    replace v11 := v11.below bb
    replace v12 := v12.below bb
    replace bw := below_on bw bb bw.size
    clear bb hok n2 hz hz1 hz2
    generalize (w5.alloc (.cells #[.slice A2 (lim (shO P)).length c2, .slice A2 (lim (shO P)).length c2] 97)) = w6 at q v10 v11 v12 v15 bw ⊢
    generalize w5.heap.size = g15 at v15 h15 hw5 hgq ⊢
    have Q := Lib.hid q
    have V12 := Lib.hid v12
    have HBW := Lib.hid bw
    go_cut [] (fun wx => ∃ y : Px, y.pr = partP num den (shO P) n kind ∧ Pv wx g15 y ∧ Qv wx g x ∧ Pv wx (g10 + 1 + 1) c ∧ Below w.heap.size w wx)
    case first =>
      rcases (show kind = 0 ∨ kind = 1 ∨ kind = 2 by omega) with h0 | h0 | h0
      · have e1 : ((kind : Int) == 1) = false := beq_eq_false_iff_ne.2 (by omega)
        have e2 : ((kind : Int) == 2) = false := beq_eq_false_iff_ne.2 (by omega)
        have HP : Hid (partP num den (shO P) n kind = ⟨shO P, shO P⟩) := Lib.hid (by rw [partP, if_pos h0])
        clear h0
        go_wp2_with fail
        go_meet
        case rel => exact ⟨_, HP.out.symm, v15, q, v12, bw⟩
      · have e1 : ((kind : Int) == 1) = true := by simp [h0]
        have HP : Hid (partP num den (shO P) n kind = tP num den (shO P) n) := Lib.hid (by rw [partP, if_neg (by omega), if_pos h0])
        clear h0
        have p0 := v10.c0
        have p1 := v10.c1
        have q0 := v15.c0
        have q1 := v15.c1
        have r0 := v15.f0
        have r1 := v15.f1
        have hput := v15.put v10.ok
        have hfar := v12.far v15 (v0 := .slice a.A (lim a.lo).length a.c) (v1 := .slice a.D (lim a.hi).length a.d) (by omega)
        have hfq := q.far v15 (v0 := .slice a.A (lim a.lo).length a.c) (v1 := .slice a.D (lim a.hi).length a.d) (by omega)
        have hbw := set2_below (v0 := .slice a.A (lim a.lo).length a.c) (v1 := .slice a.D (lim a.hi).length a.d) bw hw5
        go_wp2_with fail
        go_meet
        case rel => exact ⟨a, by rw [HA.out, HP.out], hput, hfq, hfar, hbw⟩
      · have e1 : ((kind : Int) == 1) = false := beq_eq_false_iff_ne.2 (by omega)
        have e2 : ((kind : Int) == 2) = true := by simp [h0]
        have HP : Hid (partP num den (shO P) n kind = sumR num den (shO P) n) := Lib.hid (by rw [partP, if_neg (by omega), if_neg (by omega)])
        clear h0
        have p0 := v11.c0
        have p1 := v11.c1
        have q0 := v15.c0
        have q1 := v15.c1
        have r0 := v15.f0
        have r1 := v15.f1
        have hput := v15.put v11.ok
        have hfar := v12.far v15 (v0 := .slice b.A (lim b.lo).length b.c) (v1 := .slice b.D (lim b.hi).length b.d) (by omega)
        have hfq := q.far v15 (v0 := .slice b.A (lim b.lo).length b.c) (v1 := .slice b.D (lim b.hi).length b.d) (by omega)
        have hbw := set2_below (v0 := .slice b.A (lim b.lo).length b.c) (v1 := .slice b.D (lim b.hi).length b.d) bw hw5
        go_wp2_with fail
        go_meet
        case rel => exact ⟨b, by rw [HB.out, HP.out], hput, hfq, hfar, hbw⟩
    case rest =>
      obtain ⟨y, hy, v15, q, v12, bw⟩ := hcut
      have HY := Lib.hid hy
      clear hy Q V12 HBW v10 v11
      go_wp2_with fail
      refine (make_any _ 1 (by omega)).mono ?_
      rintro _ w7 ⟨A3, c3, rfl, n1, bb⟩
      replace q := q.below bb
      replace v12 := v12.below bb
      replace v15 := v15.below bb
      replace bw := below_on bw bb bw.size
      clear bb
      go_wp2_with fail
      refine (nsh_any w7 A3 c3 bits n1).mono ?_
      rintro _ w8 ⟨A4, c4, E4, rfl, n4, bb⟩
      have Q := Lib.hid (q.below bb)
      have V12 := Lib.hid (v12.below bb)
      have V15 := Lib.hid (v15.below bb)
      have HBW := Lib.hid (below_on bw bb bw.size)
      have N4 := Lib.hid n4
      clear bb n1 n4 q v12 v15 bw
      go_upto_region 12 with fail
      go_cut [18, 19] (fun s18 s19 wx => ∃ (A5 A6 : Option Addr) (c5 c6 : Nat), s18 = .slice A5 (lim (fAt num den n bits kind P).1).length c5 ∧ s19 = .slice A6 (lim (fAt num den n bits kind P).2).length c6 ∧ Nt wx A5 c5 (lim (fAt num den n bits kind P).1) ∧ Nt wx A6 c6 (lim (fAt num den n bits kind P).2) ∧ Below w8.heap.size w8 wx)
      case first =>
        have e1 : (fAt num den n bits kind P).1 = downO y.lo (shO bits) c.hi := by
          have h1 := congrArg Pr.lo HY.out
          have h2 := congrArg Pr.hi HC.out
          show downO _ _ _ = _
          rw [← h1, ← h2]
        have e2 : (fAt num den n bits kind P).2 = downO y.hi (shO bits) c.lo := by
          have h1 := congrArg Pr.hi HY.out
          have h2 := congrArg Pr.lo HC.out
          show downO _ _ _ = _
          rw [← h1, ← h2]
        have E1 := Lib.hid e1
        have E2 := Lib.hid e2
        clear e1 e2
        refine wp_region_held_drew (S := fun w' => (w'.cell? ⟨g15, 0, none⟩ = some (.slice y.A (lim y.lo).length y.c) ∧ w'.cell? ⟨g15, 1, none⟩ = some (.slice y.D (lim y.hi).length y.d)) ∧ w'.cell? ⟨g10 + 1 + 1, 0, none⟩ = some (.slice c.A (lim c.lo).length c.c) ∧ w'.cell? ⟨g10 + 1 + 1, 1, none⟩ = some (.slice c.D (lim c.hi).length c.d)) (by kernel_rfl) ⟨⟨(V15.out.below ((Below.refl w8.heap.size w8).drew)).c0, (V15.out.below ((Below.refl w8.heap.size w8).drew)).c1⟩, (V12.out.below ((Below.refl w8.heap.size w8).drew)).c0, (V12.out.below ((Below.refl w8.heap.size w8).drew)).c1⟩ (fun hHeld => ?_)
        have bz := (Below.refl w8.heap.size w8).drew
        generalize w8.drew = wd at *
        refine tkw 0 (.pointer (some ⟨g15, 0, none⟩)) rfl (by kernel_rfl) (by kernel_rfl) (by kernel_rfl) (fun _ _ _ h => h) ⟨by rfl, ?_⟩ (by assumption) ?_
        ·intro w hSw; go_simp; (try with_reducible rfl)
        try simp only [Act.put, tzA, tzB, tzD, tzE, tzF]
        refine tkw 1 (.slice y.A (lim y.lo).length y.c) rfl (by kernel_rfl) (by kernel_rfl) (by kernel_rfl) (fun _ _ _ h => h) ⟨by rfl, ?_⟩ (by assumption) ?_
        ·intro w hSw; (try dsimp only at hSw); obtain ⟨⟨s0, s1⟩, _⟩ := hSw; go_simp; (try with_reducible rfl)
        try simp only [Act.put, tzA, tzB, tzC, tzD, tzE, tzF]
        refine tkw 2 (.slice A4 (lim (shO bits)).length c4) rfl (by kernel_rfl) (by kernel_rfl) (by kernel_rfl) (fun _ _ _ h => h) ⟨by rfl, ?_⟩ (by assumption) ?_
        ·intro w hSw; go_simp; (try with_reducible rfl)
        try simp only [Act.put, tzA, tzB, tzC, tzD, tzE, tzF]
        refine tkw 3 (.pointer (some ⟨g10 + 1 + 1, 1, none⟩)) rfl (by kernel_rfl) (by kernel_rfl) (by kernel_rfl) (fun _ _ _ h => h) ⟨by rfl, ?_⟩ (by assumption) ?_
        ·intro w hSw; go_simp; (try with_reducible rfl)
        try simp only [Act.put, tzA, tzB, tzC, tzD, tzE, tzF]
        refine tkw 4 (.slice c.D (lim c.hi).length c.d) rfl (by kernel_rfl) (by kernel_rfl) (by kernel_rfl) (fun _ _ _ h => h) ⟨by rfl, ?_⟩ (by assumption) ?_
        ·intro w hSw; (try dsimp only at hSw); obtain ⟨_, s0, s1⟩ := hSw; go_simp; (try with_reducible rfl)
        try simp only [Act.put, tzA, tzB, tzC, tzD, tzE, tzF]
        refine tkw 6 (.pointer (some ⟨g15, 1, none⟩)) rfl (by kernel_rfl) (by kernel_rfl) (by kernel_rfl) (fun _ _ _ h => h) ⟨by rfl, ?_⟩ (by assumption) ?_
        ·intro w hSw; go_simp; (try with_reducible rfl)
        try simp only [Act.put, tzA, tzB, tzC, tzD, tzE, tzF]
        refine tkw 7 (.slice y.D (lim y.hi).length y.d) rfl (by kernel_rfl) (by kernel_rfl) (by kernel_rfl) (fun _ _ _ h => h) ⟨by rfl, ?_⟩ (by assumption) ?_
        ·intro w hSw; (try dsimp only at hSw); obtain ⟨⟨s0, s1⟩, _⟩ := hSw; go_simp; (try with_reducible rfl)
        try simp only [Act.put, tzA, tzB, tzC, tzD, tzE, tzF]
        refine tkw 8 (.slice A4 (lim (shO bits)).length c4) rfl (by kernel_rfl) (by kernel_rfl) (by kernel_rfl) (fun _ _ _ h => h) ⟨by rfl, ?_⟩ (by assumption) ?_
        ·intro w hSw; go_simp; (try with_reducible rfl)
        try simp only [Act.put, tzA, tzB, tzC, tzD, tzE, tzF]
        refine tkw 9 (.pointer (some ⟨g10 + 1 + 1, 0, none⟩)) rfl (by kernel_rfl) (by kernel_rfl) (by kernel_rfl) (fun _ _ _ h => h) ⟨by rfl, ?_⟩ (by assumption) ?_
        ·intro w hSw; go_simp; (try with_reducible rfl)
        try simp only [Act.put, tzA, tzB, tzC, tzD, tzE, tzF]
        refine tkw 10 (.slice c.A (lim c.lo).length c.c) rfl (by kernel_rfl) (by kernel_rfl) (by kernel_rfl) (fun _ _ _ h => h) ⟨by rfl, ?_⟩ (by assumption) ?_
        ·intro w hSw; (try dsimp only at hSw); obtain ⟨_, s0, s1⟩ := hSw; go_simp; (try with_reducible rfl)
        try simp only [Act.put, tzA, tzB, tzC, tzD, tzE, tzF]
        refine wpAnyH_ready (rs := [5]) (by kernel_rfl) (by simp) ?_
        refine AllReadyH.cons rfl (fun K hK => ?_) ?_
        ·go_simp
         go_at_call 92
         refine (xdown_any wd _ _ _ _ _ _ y.lo (shO bits) c.hi (V15.out.below bz).ok.lo (N4.out.below bz) (V12.out.below bz).ok.hi).mono ?_
         rintro _ wd ⟨A5, c5, rfl, m5, bb⟩
         try replace m5 := m5.below bb
         try replace m6 := m6.below bb
         replace bz := below_on bz bb bz.size
         clear bb
         refine hK.out _ _ ⟨⟨(V15.out.below bz).c0, (V15.out.below bz).c1⟩, (V12.out.below bz).c0, (V12.out.below bz).c1⟩ (fun hHeld => ?_)
         clear hK K
         try simp only [Act.put]
         try simp only [tzD, tzE, tzF]
         refine wpAnyH_ready (rs := [11]) (by kernel_rfl) (by simp) ?_
         refine AllReadyH.cons rfl (fun K hK => ?_) ?_
         ·go_simp
          go_at_call 92
          refine (xdown_any wd _ _ _ _ _ _ y.hi (shO bits) c.lo (V15.out.below bz).ok.hi (N4.out.below bz) (V12.out.below bz).ok.lo).mono ?_
          rintro _ wd ⟨A6, c6, rfl, m6, bb⟩
          try replace m5 := m5.below bb
          try replace m6 := m6.below bb
          replace bz := below_on bz bb bz.size
          clear bb
          refine hK.out _ _ ⟨⟨(V15.out.below bz).c0, (V15.out.below bz).c1⟩, (V12.out.below bz).c0, (V12.out.below bz).c1⟩ (fun hHeld => ?_)
          clear hK K
          try simp only [Act.put]
          try simp only [tzD, tzE, tzF]
          refine wpAnyH_ready (rs := [12]) (by kernel_rfl) (by simp) ?_
          refine AllReadyH.cons rfl (fun K hK => ?_) ?_
          ·go_simp
           refine hK.out _ _ ⟨⟨(V15.out.below bz).c0, (V15.out.below bz).c1⟩, (V12.out.below bz).c0, (V12.out.below bz).c1⟩ (fun hHeld => ?_)
           clear hK K
           try simp only [Act.put]
           try simp only [tzD, tzE, tzF]
           refine wpAnyH_ready (rs := [13]) (by kernel_rfl) (by simp) ?_
           refine AllReadyH.cons rfl (fun K hK => ?_) ?_
           ·go_simp
            refine hK.out _ _ ⟨⟨(V15.out.below bz).c0, (V15.out.below bz).c1⟩, (V12.out.below bz).c0, (V12.out.below bz).c1⟩ (fun hHeld => ?_)
            clear hK K
            try simp only [Act.put]
            try simp only [tzD, tzE, tzF]
            refine wpAnyH_done (by kernel_rfl) ?_ _
            go_wp2_with fail
            go_meet
            case rel => exact ⟨A5, A6, c5, c6, by rw [E1.out], by rw [E2.out], by rw [E1.out]; exact m5, by rw [E2.out]; exact m6, bz⟩
           exact AllReadyH.nil
          exact AllReadyH.nil
         exact AllReadyH.nil
        exact AllReadyH.nil
      case rest =>
        obtain ⟨A5, A6, c5, c6, rfl, rfl, n5, n6, bb⟩ := hcut
        have q := Q.out.below bb
        have bw := below_on HBW.out bb HBW.out.size
        obtain ⟨u, hu⟩ : ∃ u, (fAt num den n bits kind P).1 = u := ⟨_, rfl⟩
        obtain ⟨v, hv⟩ : ∃ v, (fAt num den n bits kind P).2 = v := ⟨_, rfl⟩
        rw [hu] at n5 ⊢
        rw [hv] at n6 ⊢
        have HU := Lib.hid hu
        have HV := Lib.hid hv
        clear hu hv bb Q V12 V15 HBW
        obtain ⟨z, hz⟩ : ∃ z, cmp3 u v = z := ⟨_, rfl⟩
        go_wp2_with fail
        refine (ncmp_any _ A5 A6 c5 c6 u v z n5 n6 hz).mono ?_
        rintro _ w9 ⟨rfl, qt⟩
        have bb := qt.keep
        replace q := q.below bb
        replace bw := below_on bw bb bw.size
        replace n5 := n5.below bb
        have HZ : Hid ((z == 0) = decide (u = v)) := Lib.hid (by rw [← hz, cmp3_dec])
        clear bb qt n6 hz
        by_cases huv : u = v
        · have e0 : (z == 0) = true := by rw [HZ.out, decide_eq_true huv]
          have HF : Hid (floorM num den n bits kind = u) := Lib.hid (by
            rw [floorM_at (j := j) (by omega) HNO.out (by rw [← HPE.out, HU.out, HV.out, huv]), ← HPE.out, HU.out])
          clear huv
          go_wp2_with fail
          go_ret
          exact ⟨A5, c5, by rw [HF.out]; rfl, by rw [HF.out]; exact n5, bw⟩
        · have e0 : (z == 0) = false := by rw [HZ.out, decide_eq_false huv]
          have hj8 : j < 9 := by
            rcases Nat.lt_or_ge j 9 with h | h
            · exact h
            · exfalso
              have := told_by (num := num) (den := den) (n := n) (bits := bits) (kind := kind) h hb0
              rw [← HPE.out, HU.out, HV.out] at this
              exact huv this
          have HN2 : Hid (∀ i, i < j + 1 → ¬ (fAt num den n bits kind ((bits + 48) * 2 ^ i)).1 = (fAt num den n bits kind ((bits + 48) * 2 ^ i)).2) := Lib.hid (fun i hi => by
            rcases Nat.lt_or_ge i j with h1 | h1
            · exact HNO.out i h1
            · obtain rfl : i = j := by omega
              rw [← HPE.out, HU.out, HV.out]; exact huv)
          clear huv n5
          go_wp2_with fail
          go_roundw
          case rel => exact ⟨j + 1, P * 2, by omega, by rw [HPE.out, Nat.pow_succ, Nat.mul_assoc], by go_num, HN2.out, q, bw⟩
          case measure => simp [intOf]; omega
end Go.Proofs.Ytnmomigaedfdoaa
