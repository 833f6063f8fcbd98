/- The walk of ExpoBetween. -/
import Derived.Test.YtnmomigaedfdoaaEwTerms
import Derived.Test.YtnmomigaedfdoaaExY
namespace Go.Proofs.Ytnmomigaedfdoaa
set_option maxRecDepth 100000
open Go.RowKit

theorem one_szb : Sz ((1 : Int) : Rat) 128 128 := one_sz.mono (by omega) (by omega)
/-- 1 - x times the series is at most 1 -/
theorem sub_eq_le {x : Rat} (hx : 0 ≤ x) : ∀ m, (1 - x) * eq_ x m ≤ 1 := by
  have key : ∀ m, (1 - x) * eq_ x (m + 1) + x * tq x m ≤ 1 := by
    intro m
    induction m with
    | zero => show (1 - x) * ((0 : Rat) + 1) + x * 1 ≤ 1; grind
    | succ m ih =>
      have e : eq_ x (m + 1 + 1) = eq_ x (m + 1) + tq x (m + 1) := rfl
      have h1 := tq_step x m
      have n1 := tq_nn hx (m + 1)
      have c : (1 : Rat) ≤ ((m + 1 : Nat) : Rat) := by exact_mod_cast (show 1 ≤ m + 1 by omega)
      have h2 := Rat.mul_le_mul_of_nonneg_right c n1
      rw [h1] at h2
      rw [e]
      have e2 : (1 - x) * (eq_ x (m + 1) + tq x (m + 1)) + x * tq x (m + 1) = (1 - x) * eq_ x (m + 1) + tq x (m + 1) := by grind
      rw [e2]
      grind
  intro m
  cases m with
  | zero => show (1 - x) * (0 : Rat) ≤ 1; grind
  | succ m =>
    have := key m
    have := Rat.mul_nonneg hx (tq_nn hx m)
    grind
theorem btw_hi {q : Rat} {b m : Nat} (h0 : 0 ≤ q) (h : ApU b m q) : ¬ prt m b < 1 - q := by
  intro k
  obtain ⟨M, hM⟩ := h
  have h1 := sub_eq_le h0 M
  have h2 := prt_mul m b
  have hT := two_pos b
  have n1 := eq_nn h0 M
  generalize ((2 ^ b : Nat) : Rat) = T at *
  generalize prt m b = z at *
  generalize (m : Rat) = v at *
  generalize eq_ q M = S at *
  -- T <= z T S, so 1 <= z S; and z S <= (1 - q) S <= 1; so z S = 1 = (1 - q) S
  have a1 : 1 ≤ z * S := by
    refine Rat.le_of_mul_le_mul_right (c := T) ?_ hT
    have e : z * S * T = v * S := by rw [← h2]; grind
    rw [e]; grind
  have a2 : z * S ≤ (1 - q) * S := Rat.mul_le_mul_of_nonneg_right (Rat.le_of_lt k) n1
  have a3 : 0 < S := by
    rcases Rat.le_iff_lt_or_eq.1 n1 with h | h
    · exact h
    · rw [← h] at a1; grind
  have a4 : z * S < (1 - q) * S := Rat.mul_lt_mul_of_pos_right k a3
  grind
theorem btw_lo {q : Rat} {b m : Nat} (h0 : 0 ≤ q) (h : ApL b m q) : ¬ 1 / (1 + q) < prt m b := by
  intro k
  have h1 := h 2
  have e : eq_ q 2 = 1 + q := by
    show (0 : Rat) + 1 + 1 * q / ((0 + 1 : Nat) : Rat) = 1 + q
    rw [show ((0 + 1 : Nat) : Rat) = 1 from rfl]
    grind
  have h2 := prt_mul m b
  have hT := two_pos b
  rw [e] at h1
  generalize ((2 ^ b : Nat) : Rat) = T at *
  generalize prt m b = z at *
  generalize (m : Rat) = v at *
  have hp : 0 < 1 + q := by grind
  have hd : 1 / (1 + q) * (1 + q) = 1 := Rat.div_mul_cancel (by grind)
  have a1 : 1 / (1 + q) * (1 + q) < z * (1 + q) := Rat.mul_lt_mul_of_pos_right k hp
  rw [hd] at a1
  have a2 : 1 * T < z * (1 + q) * T := Rat.mul_lt_mul_of_pos_right a1 hT
  have e2 : z * (1 + q) * T = v * (1 + q) := by rw [← h2]; grind
  rw [e2] at a2
  grind
theorem btw_plain {q : Rat} {b : Nat} {i : Ix} (h : encP q 0 b 0 1 i) (h0 : 0 ≤ q) (hx : XOk q.num.natAbs q.den) (hd : q.den ≤ 256) (b0 : 1 ≤ b) (b1 : b ≤ 64) :
    ∃ lo hi : Rat, Rp i.lo lo ∧ Rp i.hi hi ∧ Sz lo 128 128 ∧ Sz hi 128 128 ∧ ¬ hi < ((1 : Int) : Rat) - q ∧ ¬ ((1 : Int) : Rat) / (((1 : Int) : Rat) + q) < lo := by
  have c1 : ((1 : Int) : Rat) = 1 := rfl
  rw [c1]
  rcases exp_int h h0 hx hd b0 b1 with ⟨hq, h1, h2⟩ | ⟨_, m, hm, h1, h2, h3, h4⟩
  · refine ⟨1, 1, h1, h2, one_szb, one_szb, ?_, ?_⟩
    · rw [hq]; grind
    · rw [hq]; grind
  · have hp := pow64 b1
    exact ⟨_, _, h1, h2, prt_sz (by omega) b1, prt_sz (by omega) b1, btw_hi h0 h4, btw_lo h0 h3⟩
set_option maxHeartbeats 3200000 in
theorem btw_walk (w : World) (num den bs : Nat) (hn : num < 65536) (hd : den < 256) (hb : bs < 256) :
    Calls Try.prog 4 #[.int .u16 (num : Int), .int .u8 (den : Int), .int .u8 (bs : Int)] w fun e w' => e = .returned (.bool true) ∧ Below w.heap.size w w' := by
  obtain ⟨hsz, hq0, hq64, hlg⟩ := numQ_ok hn hd
  have HSZ := Lib.hid hsz
  have HQ0 := Lib.hid hq0
  clear hsz hq0 hq64 hlg
  go_enter Try.func4, Try.ntmps4
  go_wp2_with fail
  refine (number_any w num den hn hd).mono ?_
  rintro _ w1 ⟨x, rfl, rx, okx, bw⟩
  have RX := Lib.hid rx
  have L1 := Lib.hid (rx.l1 HSZ.out)
  have L2 := Lib.hid (rx.l2 HSZ.out)
  clear rx
  go_upto_region 2 with fail
  have a7 := (fa_alloc okx).1
  have bb := (fa_alloc okx).2
  clear okx
  generalize (w1.alloc (.cells #[.bool x.b, .slice x.A x.xs.length x.c, .slice x.D x.ys.length x.d] 26)) = w2 at a7 bb ⊢
  replace bw := below_on bw bb bw.size
  clear bb
  generalize w1.heap.size = g7 at a7 ⊢
  obtain ⟨r, hr⟩ : ∃ r, bs % 64 = r := ⟨_, rfl⟩
  have hr64 : r < 64 := by omega
  have em : (bs : Int).tmod 64 = (r : Int) := by rw [Int.tmod_eq_emod_of_nonneg (by omega)]; omega
  have em2 : (bs : Int) % 64 = (r : Int) := by omega
  obtain ⟨b, hbb⟩ : ∃ b, 1 + r = b := ⟨_, rfl⟩
  have HB : Hid (1 ≤ b ∧ b ≤ 64) := Lib.hid (by omega)
  have HBE : Hid ((1 : Int) + (r : Int) = (b : Int)) := Lib.hid (by omega)
  clear hr hbb
  have ci0 := a7.c0
  have ci1 := a7.c1
  have ci2 := a7.c2
  go_wp2_with fail
  clear ci0 ci1 ci2
  rw [HBE.out]
  refine (xexp_any w2 x (b : Int) 0 a7.ok L1.out L2.out (num_chk RX.out hn hd HB.out.1 HB.out.2 (by omega) (by omega))).mono ?_
  rintro _ w3 ⟨i, rfl, oki, hi, bb⟩
  replace a7 := a7.below bb
  replace bw := below_on bw bb bw.size
  clear bb
  have HQC : Hid (numQ num den = x.q) := Lib.hid RX.out.q.symm
  have HP : Hid (∃ lo hi : Rat, Rp i.lo lo ∧ Rp i.hi hi ∧ Sz lo 128 128 ∧ Sz hi 128 128 ∧ ¬ hi < ((1 : Int) : Rat) - numQ num den ∧ ¬ ((1 : Int) : Rat) / (((1 : Int) : Rat) + numQ num den) < lo) := Lib.hid (by
    have h1 := hi rfl
    rw [RX.out.q, Int.toNat_natCast] at h1
    have h2 := chkE_ok (num_chk RX.out hn hd HB.out.1 HB.out.2 (show (0 : Int) ≤ 0 by omega) (by omega))
    rw [RX.out.q] at h2
    exact btw_plain h1 HQ0.out (xok_of h2.2.1 h2.2.2) (numQ_den num hd) HB.out.1 HB.out.2)
  clear hi
  go_upto_region 3 with fail
  have a8 := (ia_alloc oki).1
  have bb := (ia_alloc oki).2
  clear oki
  generalize (w3.alloc (.cells i.cells 35)) = wr at a8 bb ⊢
  replace a7 := a7.below bb
  replace bw := below_on bw bb bw.size
  clear bb em em2
  generalize w3.heap.size = g8 at a8 ⊢
  have ZX := HSZ
  have H7 := Lib.hid a7
  have H8 := Lib.hid a8
  have HBW := Lib.hid bw
  have ZS : Hid (Sz (((1 : Int) : Rat) - numQ num den) 128 128) := Lib.hid ((Sz.sub one_sz (numQ_sz hn hd)).mono (by omega) (by omega))
  have ZA : Hid (Sz (((1 : Int) : Rat) + numQ num den) 128 128) := Lib.hid ((Sz.add one_sz (numQ_sz hn hd)).mono (by omega) (by omega))
  have NA : Hid (((1 : Int) : Rat) + numQ num den ≠ 0) := Lib.hid (by
    have := HQ0.out
    have c1 : ((1 : Int) : Rat) = 1 := rfl
    rw [c1]; grind)
  have ZQ : Hid (Sz (((1 : Int) : Rat) / (((1 : Int) : Rat) + numQ num den)) 128 128) := Lib.hid ((Sz.div one_sz (Sz.add one_sz (numQ_sz hn hd)) NA.out).mono (by omega) (by omega))
  clear a7 a8 bw
  go_cut [10] (fun s10 wx => ∃ (G : Nat) (z : Fx), s10 = .pointer (some ⟨G, 0, none⟩) ∧ Rp z (((1 : Int) : Rat) - numQ num den) ∧ Fa wx G z ∧ Below wr.heap.size wr wx)
  case first =>
    refine wp_region_held_drew (S := fun w' => w'.cell? ⟨g7, 0, none⟩ = some (.bool x.b) ∧ w'.cell? ⟨g7, 1, none⟩ = some (.slice x.A x.xs.length x.c) ∧ w'.cell? ⟨g7, 2, none⟩ = some (.slice x.D x.ys.length x.d)) (by kernel_rfl) ⟨(H7.out.below ((Below.refl wr.heap.size wr).drew)).c0, (H7.out.below ((Below.refl wr.heap.size wr).drew)).c1, (H7.out.below ((Below.refl wr.heap.size wr).drew)).c2⟩ (fun hHeld => ?_)
    have bz := (Below.refl wr.heap.size wr).drew
    generalize wr.drew = wd at *
    refine tkw 1 (x.val) rfl (by kernel_rfl) (by kernel_rfl) (by kernel_rfl) (fun _ _ _ h => h) ⟨by rfl, ?_⟩ (by assumption) ?_
    ·intro w hSw; (try dsimp only at hSw); obtain ⟨s0, s1, s2⟩ := hSw; go_simp; (try with_reducible rfl)
    try simp only [Act.put, tzA, tzB, tzC, tzD, tzE, tzF]
    refine wpAnyH_ready (rs := [0, 6]) (by kernel_rfl) (by simp) ?_
    refine AllReadyH.cons rfl (fun K hK => ?_) ?_
    ·go_simp
     go_at_call 16
     refine (xint_any wd 1 (by omega) (by omega)).mono ?_
     rintro e wd ⟨x1, rfl, n1, ok1, bb⟩
     try replace k10 := k10.below bb
     try replace ok1 := ok1.below bb
     try replace ok2 := ok2.below bb
     replace bz := below_on bz bb bz.size
     clear bb
     refine hK.out _ _ ⟨(H7.out.below bz).c0, (H7.out.below bz).c1, (H7.out.below bz).c2⟩ (fun hHeld => ?_)
     clear hK K
     try simp only [Act.put]
     try simp only [tzD, tzE, tzF]
     refine wpAnyH_ready (rs := [2, 6]) (by kernel_rfl) (by simp) ?_
     refine AllReadyH.cons rfl (fun K hK => ?_) ?_
     ·go_simp
      go_at_call 21
      refine (rsub_rp wd x1 x _ _ ok1 (H7.out.below bz).ok n1 RX.out one_szb ZX.out ZS.out).mono ?_
      rintro e wd ⟨x2, rfl, n2, ok2, bb⟩
      clear ok1 n1
      try replace k10 := k10.below bb
      try replace ok1 := ok1.below bb
      try replace ok2 := ok2.below bb
      replace bz := below_on bz bb bz.size
      clear bb
      refine hK.out _ _ ⟨(H7.out.below bz).c0, (H7.out.below bz).c1, (H7.out.below bz).c2⟩ (fun hHeld => ?_)
      clear hK K
      try simp only [Act.put]
      try simp only [tzD, tzE, tzF]
      refine tkw 3 (.tuple #[x2.val, .int .i64 0]) rfl (by kernel_rfl) (by kernel_rfl) (by kernel_rfl) (fun _ _ _ h => h) ⟨by rfl, ?_⟩ (by assumption) ?_
      ·intro w hSw; go_simp; (try with_reducible rfl)
      try simp only [Act.put, tzA, tzB, tzC, tzD, tzE, tzF]
      refine tkw 4 (x2.val) rfl (by kernel_rfl) (by kernel_rfl) (by kernel_rfl) (fun _ _ _ h => h) ⟨by rfl, ?_⟩ (by assumption) ?_
      ·intro w hSw; go_simp; (try with_reducible rfl)
      try simp only [Act.put, tzA, tzB, tzC, tzD, tzE, tzF]
      refine tkw 5 (.int .i64 0) rfl (by kernel_rfl) (by kernel_rfl) (by kernel_rfl) (fun _ _ _ h => h) ⟨by rfl, ?_⟩ (by assumption) ?_
      ·intro w hSw; go_simp; (try with_reducible rfl)
      try simp only [Act.put, tzA, tzB, tzC, tzD, tzE, tzF]
      refine wpAnyH_ready (rs := [6]) (by kernel_rfl) (by simp) ?_
      refine AllReadyH.cons rfl (fun K hK => ?_) ?_
      ·go_simp
       have k10 := bk3_new wd
       have bb := (Below.refl wd.heap.size wd).alloc (Nat.le_refl _) (.cells #[.bool false, .slice none 0 0, .slice none 0 0] 26)
       have s10 := bz.size
       generalize h10 : wd.heap.size = g10 at k10 s10 ⊢
       try replace k10 := k10.below bb
       try replace ok1 := ok1.below bb
       try replace ok2 := ok2.below bb
       replace bz := below_on bz bb bz.size
       clear bb
       generalize (wd.alloc (.cells #[.bool false, .slice none 0 0, .slice none 0 0] 26)) = we at *
       clear h10
       generalize we = wd at *
       refine hK.out _ _ ⟨(H7.out.below bz).c0, (H7.out.below bz).c1, (H7.out.below bz).c2⟩ (fun hHeld => ?_)
       clear hK K
       try simp only [Act.put]
       try simp only [tzD, tzE, tzF]
       refine wpAnyH_ready (rs := [7]) (by kernel_rfl) (by simp) ?_
       refine AllReadyH.cons rfl (fun K hK => ?_) ?_
       ·have t := k10
        obtain ⟨k0, k1, k2, kf0, kf1, kf2, _, _⟩ := t
        go_simp
        clear k0 k1 k2 kf0 kf1 kf2
        have hk : Fa wd g10 Fx.nil := ⟨k10, Fx.nil_ok _⟩
        have a2 := hk.put ok2
        have b5 := set3g (G := g10) (a := (.bool x2.b)) (b := (.slice x2.A x2.xs.length x2.c)) (c := (.slice x2.D x2.ys.length x2.d)) bz s10
        clear bz hk k10 ok2 hHeld
        generalize (((wd.setCell ⟨g10, 0, none⟩ (.bool x2.b)).setCell ⟨g10, 1, none⟩ (.slice x2.A x2.xs.length x2.c)).setCell ⟨g10, 2, none⟩ (.slice x2.D x2.ys.length x2.d)) = we at *
        have bz := b5
        clear b5
        generalize we = wd at *
        refine hK.out _ _ ⟨(H7.out.below bz).c0, (H7.out.below bz).c1, (H7.out.below bz).c2⟩ (fun hHeld => ?_)
        clear hK K
        try simp only [Act.put]
        try simp only [tzD, tzE, tzF]
        refine wpAnyH_ready (rs := [8]) (by kernel_rfl) (by simp) ?_
        refine AllReadyH.cons rfl (fun K hK => ?_) ?_
        ·go_simp
         refine hK.out _ _ ⟨(H7.out.below bz).c0, (H7.out.below bz).c1, (H7.out.below bz).c2⟩ (fun hHeld => ?_)
         clear hK K
         try simp only [Act.put]
         try simp only [tzD, tzE, tzF]
         refine wpAnyH_done (by kernel_rfl) ?_ _
         go_wp2_with fail
         go_meet
         case rel => exact ⟨g10, x2, rfl, n2, a2, bz⟩
        exact AllReadyH.nil
       exact AllReadyH.nil
      exact AllReadyH.nil
     refine AllReadyH.cons rfl (fun K hK => ?_) ?_
     ·go_simp
      have k10 := bk3_new wd
      have bb := (Below.refl wd.heap.size wd).alloc (Nat.le_refl _) (.cells #[.bool false, .slice none 0 0, .slice none 0 0] 26)
      have s10 := bz.size
      generalize h10 : wd.heap.size = g10 at k10 s10 ⊢
      try replace k10 := k10.below bb
      try replace ok1 := ok1.below bb
      try replace ok2 := ok2.below bb
      replace bz := below_on bz bb bz.size
      clear bb
      generalize (wd.alloc (.cells #[.bool false, .slice none 0 0, .slice none 0 0] 26)) = we at *
      clear h10
      generalize we = wd at *
      refine hK.out _ _ ⟨(H7.out.below bz).c0, (H7.out.below bz).c1, (H7.out.below bz).c2⟩ (fun hHeld => ?_)
      clear hK K
      try simp only [Act.put]
      try simp only [tzD, tzE, tzF]
      refine wpAnyH_ready (rs := [2]) (by kernel_rfl) (by simp) ?_
      refine AllReadyH.cons rfl (fun K hK => ?_) ?_
      ·go_simp
       go_at_call 21
       refine (rsub_rp wd x1 x _ _ ok1 (H7.out.below bz).ok n1 RX.out one_szb ZX.out ZS.out).mono ?_
       rintro e wd ⟨x2, rfl, n2, ok2, bb⟩
       clear ok1 n1
       try replace k10 := k10.below bb
       try replace ok1 := ok1.below bb
       try replace ok2 := ok2.below bb
       replace bz := below_on bz bb bz.size
       clear bb
       refine hK.out _ _ ⟨(H7.out.below bz).c0, (H7.out.below bz).c1, (H7.out.below bz).c2⟩ (fun hHeld => ?_)
       clear hK K
       try simp only [Act.put]
       try simp only [tzD, tzE, tzF]
       refine tkw 3 (.tuple #[x2.val, .int .i64 0]) rfl (by kernel_rfl) (by kernel_rfl) (by kernel_rfl) (fun _ _ _ h => h) ⟨by rfl, ?_⟩ (by assumption) ?_
       ·intro w hSw; go_simp; (try with_reducible rfl)
       try simp only [Act.put, tzA, tzB, tzC, tzD, tzE, tzF]
       refine tkw 4 (x2.val) rfl (by kernel_rfl) (by kernel_rfl) (by kernel_rfl) (fun _ _ _ h => h) ⟨by rfl, ?_⟩ (by assumption) ?_
       ·intro w hSw; go_simp; (try with_reducible rfl)
       try simp only [Act.put, tzA, tzB, tzC, tzD, tzE, tzF]
       refine tkw 5 (.int .i64 0) rfl (by kernel_rfl) (by kernel_rfl) (by kernel_rfl) (fun _ _ _ h => h) ⟨by rfl, ?_⟩ (by assumption) ?_
       ·intro w hSw; go_simp; (try with_reducible rfl)
       try simp only [Act.put, tzA, tzB, tzC, tzD, tzE, tzF]
       refine wpAnyH_ready (rs := [7]) (by kernel_rfl) (by simp) ?_
       refine AllReadyH.cons rfl (fun K hK => ?_) ?_
       ·have t := k10
        obtain ⟨k0, k1, k2, kf0, kf1, kf2, _, _⟩ := t
        go_simp
        clear k0 k1 k2 kf0 kf1 kf2
        have hk : Fa wd g10 Fx.nil := ⟨k10, Fx.nil_ok _⟩
        have a2 := hk.put ok2
        have b5 := set3g (G := g10) (a := (.bool x2.b)) (b := (.slice x2.A x2.xs.length x2.c)) (c := (.slice x2.D x2.ys.length x2.d)) bz s10
        clear bz hk k10 ok2 hHeld
        generalize (((wd.setCell ⟨g10, 0, none⟩ (.bool x2.b)).setCell ⟨g10, 1, none⟩ (.slice x2.A x2.xs.length x2.c)).setCell ⟨g10, 2, none⟩ (.slice x2.D x2.ys.length x2.d)) = we at *
        have bz := b5
        clear b5
        generalize we = wd at *
        refine hK.out _ _ ⟨(H7.out.below bz).c0, (H7.out.below bz).c1, (H7.out.below bz).c2⟩ (fun hHeld => ?_)
        clear hK K
        try simp only [Act.put]
        try simp only [tzD, tzE, tzF]
        refine wpAnyH_ready (rs := [8]) (by kernel_rfl) (by simp) ?_
        refine AllReadyH.cons rfl (fun K hK => ?_) ?_
        ·go_simp
         refine hK.out _ _ ⟨(H7.out.below bz).c0, (H7.out.below bz).c1, (H7.out.below bz).c2⟩ (fun hHeld => ?_)
         clear hK K
         try simp only [Act.put]
         try simp only [tzD, tzE, tzF]
         refine wpAnyH_done (by kernel_rfl) ?_ _
         go_wp2_with fail
         go_meet
         case rel => exact ⟨g10, x2, rfl, n2, a2, bz⟩
        exact AllReadyH.nil
       exact AllReadyH.nil
      exact AllReadyH.nil
     exact AllReadyH.nil
    refine AllReadyH.cons rfl (fun K hK => ?_) ?_
    ·go_simp
     have k10 := bk3_new wd
     have bb := (Below.refl wd.heap.size wd).alloc (Nat.le_refl _) (.cells #[.bool false, .slice none 0 0, .slice none 0 0] 26)
     have s10 := bz.size
     generalize h10 : wd.heap.size = g10 at k10 s10 ⊢
     try replace k10 := k10.below bb
     try replace ok1 := ok1.below bb
     try replace ok2 := ok2.below bb
     replace bz := below_on bz bb bz.size
     clear bb
     generalize (wd.alloc (.cells #[.bool false, .slice none 0 0, .slice none 0 0] 26)) = we at *
     clear h10
     generalize we = wd at *
     refine hK.out _ _ ⟨(H7.out.below bz).c0, (H7.out.below bz).c1, (H7.out.below bz).c2⟩ (fun hHeld => ?_)
     clear hK K
     try simp only [Act.put]
     try simp only [tzD, tzE, tzF]
     refine wpAnyH_ready (rs := [0]) (by kernel_rfl) (by simp) ?_
     refine AllReadyH.cons rfl (fun K hK => ?_) ?_
     ·go_simp
      go_at_call 16
      refine (xint_any wd 1 (by omega) (by omega)).mono ?_
      rintro e wd ⟨x1, rfl, n1, ok1, bb⟩
      try replace k10 := k10.below bb
      try replace ok1 := ok1.below bb
      try replace ok2 := ok2.below bb
      replace bz := below_on bz bb bz.size
      clear bb
      refine hK.out _ _ ⟨(H7.out.below bz).c0, (H7.out.below bz).c1, (H7.out.below bz).c2⟩ (fun hHeld => ?_)
      clear hK K
      try simp only [Act.put]
      try simp only [tzD, tzE, tzF]
      refine wpAnyH_ready (rs := [2]) (by kernel_rfl) (by simp) ?_
      refine AllReadyH.cons rfl (fun K hK => ?_) ?_
      ·go_simp
       go_at_call 21
       refine (rsub_rp wd x1 x _ _ ok1 (H7.out.below bz).ok n1 RX.out one_szb ZX.out ZS.out).mono ?_
       rintro e wd ⟨x2, rfl, n2, ok2, bb⟩
       clear ok1 n1
       try replace k10 := k10.below bb
       try replace ok1 := ok1.below bb
       try replace ok2 := ok2.below bb
       replace bz := below_on bz bb bz.size
       clear bb
       refine hK.out _ _ ⟨(H7.out.below bz).c0, (H7.out.below bz).c1, (H7.out.below bz).c2⟩ (fun hHeld => ?_)
       clear hK K
       try simp only [Act.put]
       try simp only [tzD, tzE, tzF]
       refine tkw 3 (.tuple #[x2.val, .int .i64 0]) rfl (by kernel_rfl) (by kernel_rfl) (by kernel_rfl) (fun _ _ _ h => h) ⟨by rfl, ?_⟩ (by assumption) ?_
       ·intro w hSw; go_simp; (try with_reducible rfl)
       try simp only [Act.put, tzA, tzB, tzC, tzD, tzE, tzF]
       refine tkw 4 (x2.val) rfl (by kernel_rfl) (by kernel_rfl) (by kernel_rfl) (fun _ _ _ h => h) ⟨by rfl, ?_⟩ (by assumption) ?_
       ·intro w hSw; go_simp; (try with_reducible rfl)
       try simp only [Act.put, tzA, tzB, tzC, tzD, tzE, tzF]
       refine tkw 5 (.int .i64 0) rfl (by kernel_rfl) (by kernel_rfl) (by kernel_rfl) (fun _ _ _ h => h) ⟨by rfl, ?_⟩ (by assumption) ?_
       ·intro w hSw; go_simp; (try with_reducible rfl)
       try simp only [Act.put, tzA, tzB, tzC, tzD, tzE, tzF]
       refine wpAnyH_ready (rs := [7]) (by kernel_rfl) (by simp) ?_
       refine AllReadyH.cons rfl (fun K hK => ?_) ?_
       ·have t := k10
        obtain ⟨k0, k1, k2, kf0, kf1, kf2, _, _⟩ := t
        go_simp
        clear k0 k1 k2 kf0 kf1 kf2
        have hk : Fa wd g10 Fx.nil := ⟨k10, Fx.nil_ok _⟩
        have a2 := hk.put ok2
        have b5 := set3g (G := g10) (a := (.bool x2.b)) (b := (.slice x2.A x2.xs.length x2.c)) (c := (.slice x2.D x2.ys.length x2.d)) bz s10
        clear bz hk k10 ok2 hHeld
        generalize (((wd.setCell ⟨g10, 0, none⟩ (.bool x2.b)).setCell ⟨g10, 1, none⟩ (.slice x2.A x2.xs.length x2.c)).setCell ⟨g10, 2, none⟩ (.slice x2.D x2.ys.length x2.d)) = we at *
        have bz := b5
        clear b5
        generalize we = wd at *
        refine hK.out _ _ ⟨(H7.out.below bz).c0, (H7.out.below bz).c1, (H7.out.below bz).c2⟩ (fun hHeld => ?_)
        clear hK K
        try simp only [Act.put]
        try simp only [tzD, tzE, tzF]
        refine wpAnyH_ready (rs := [8]) (by kernel_rfl) (by simp) ?_
        refine AllReadyH.cons rfl (fun K hK => ?_) ?_
        ·go_simp
         refine hK.out _ _ ⟨(H7.out.below bz).c0, (H7.out.below bz).c1, (H7.out.below bz).c2⟩ (fun hHeld => ?_)
         clear hK K
         try simp only [Act.put]
         try simp only [tzD, tzE, tzF]
         refine wpAnyH_done (by kernel_rfl) ?_ _
         go_wp2_with fail
         go_meet
         case rel => exact ⟨g10, x2, rfl, n2, a2, bz⟩
        exact AllReadyH.nil
       exact AllReadyH.nil
      exact AllReadyH.nil
     exact AllReadyH.nil
    exact AllReadyH.nil
  case rest =>
    obtain ⟨g10, z10, rfl, n10, a10, bb⟩ := hcut
    have N10 := Lib.hid n10
    have W10 := Lib.hid bb
    have H10 := Lib.hid a10
    replace H7 := Lib.hid (H7.out.below bb)
    clear n10 a10 bb
    generalize hwr2 : wc = wr2 at *
    clear hwr2
    go_upto_region 4 with fail
    go_cut [12] (fun s12 wx => ∃ (G : Nat) (z : Fx), s12 = .pointer (some ⟨G, 0, none⟩) ∧ Rp z (((1 : Int) : Rat) + numQ num den) ∧ Fa wx G z ∧ Below wr2.heap.size wr2 wx)
    case first =>
      refine wp_region_held_drew (S := fun w' => w'.cell? ⟨g7, 0, none⟩ = some (.bool x.b) ∧ w'.cell? ⟨g7, 1, none⟩ = some (.slice x.A x.xs.length x.c) ∧ w'.cell? ⟨g7, 2, none⟩ = some (.slice x.D x.ys.length x.d)) (by kernel_rfl) ⟨(H7.out.below ((Below.refl wr2.heap.size wr2).drew)).c0, (H7.out.below ((Below.refl wr2.heap.size wr2).drew)).c1, (H7.out.below ((Below.refl wr2.heap.size wr2).drew)).c2⟩ (fun hHeld => ?_)
      have bz := (Below.refl wr2.heap.size wr2).drew
      generalize wr2.drew = wd at *
      refine tkw 1 (x.val) rfl (by kernel_rfl) (by kernel_rfl) (by kernel_rfl) (fun _ _ _ h => h) ⟨by rfl, ?_⟩ (by assumption) ?_
      ·intro w hSw; (try dsimp only at hSw); obtain ⟨s0, s1, s2⟩ := hSw; go_simp; (try with_reducible rfl)
      try simp only [Act.put, tzA, tzB, tzC, tzD, tzE, tzF]
      refine wpAnyH_ready (rs := [0, 6]) (by kernel_rfl) (by simp) ?_
      refine AllReadyH.cons rfl (fun K hK => ?_) ?_
      ·go_simp
       go_at_call 16
       refine (xint_any wd 1 (by omega) (by omega)).mono ?_
       rintro e wd ⟨x1, rfl, n1, ok1, bb⟩
       try replace k12 := k12.below bb
       try replace ok1 := ok1.below bb
       try replace ok2 := ok2.below bb
       replace bz := below_on bz bb bz.size
       clear bb
       refine hK.out _ _ ⟨(H7.out.below bz).c0, (H7.out.below bz).c1, (H7.out.below bz).c2⟩ (fun hHeld => ?_)
       clear hK K
       try simp only [Act.put]
       try simp only [tzD, tzE, tzF]
       refine wpAnyH_ready (rs := [2, 6]) (by kernel_rfl) (by simp) ?_
       refine AllReadyH.cons rfl (fun K hK => ?_) ?_
       ·go_simp
        go_at_call 14
        refine (radd_rp wd x1 x _ _ ok1 (H7.out.below bz).ok n1 RX.out one_szb ZX.out ZA.out).mono ?_
        rintro e wd ⟨x2, rfl, n2, ok2, bb⟩
        clear ok1 n1
        try replace k12 := k12.below bb
        try replace ok1 := ok1.below bb
        try replace ok2 := ok2.below bb
        replace bz := below_on bz bb bz.size
        clear bb
        refine hK.out _ _ ⟨(H7.out.below bz).c0, (H7.out.below bz).c1, (H7.out.below bz).c2⟩ (fun hHeld => ?_)
        clear hK K
        try simp only [Act.put]
        try simp only [tzD, tzE, tzF]
        refine tkw 3 (.tuple #[x2.val, .int .i64 0]) rfl (by kernel_rfl) (by kernel_rfl) (by kernel_rfl) (fun _ _ _ h => h) ⟨by rfl, ?_⟩ (by assumption) ?_
        ·intro w hSw; go_simp; (try with_reducible rfl)
        try simp only [Act.put, tzA, tzB, tzC, tzD, tzE, tzF]
        refine tkw 4 (x2.val) rfl (by kernel_rfl) (by kernel_rfl) (by kernel_rfl) (fun _ _ _ h => h) ⟨by rfl, ?_⟩ (by assumption) ?_
        ·intro w hSw; go_simp; (try with_reducible rfl)
        try simp only [Act.put, tzA, tzB, tzC, tzD, tzE, tzF]
        refine tkw 5 (.int .i64 0) rfl (by kernel_rfl) (by kernel_rfl) (by kernel_rfl) (fun _ _ _ h => h) ⟨by rfl, ?_⟩ (by assumption) ?_
        ·intro w hSw; go_simp; (try with_reducible rfl)
        try simp only [Act.put, tzA, tzB, tzC, tzD, tzE, tzF]
        refine wpAnyH_ready (rs := [6]) (by kernel_rfl) (by simp) ?_
        refine AllReadyH.cons rfl (fun K hK => ?_) ?_
        ·go_simp
         have k12 := bk3_new wd
         have bb := (Below.refl wd.heap.size wd).alloc (Nat.le_refl _) (.cells #[.bool false, .slice none 0 0, .slice none 0 0] 26)
         have s12 := bz.size
         generalize h12 : wd.heap.size = g12 at k12 s12 ⊢
         try replace k12 := k12.below bb
         try replace ok1 := ok1.below bb
         try replace ok2 := ok2.below bb
         replace bz := below_on bz bb bz.size
         clear bb
         generalize (wd.alloc (.cells #[.bool false, .slice none 0 0, .slice none 0 0] 26)) = we at *
         clear h12
         generalize we = wd at *
         refine hK.out _ _ ⟨(H7.out.below bz).c0, (H7.out.below bz).c1, (H7.out.below bz).c2⟩ (fun hHeld => ?_)
         clear hK K
         try simp only [Act.put]
         try simp only [tzD, tzE, tzF]
         refine wpAnyH_ready (rs := [7]) (by kernel_rfl) (by simp) ?_
         refine AllReadyH.cons rfl (fun K hK => ?_) ?_
         ·have t := k12
          obtain ⟨k0, k1, k2, kf0, kf1, kf2, _, _⟩ := t
          go_simp
          clear k0 k1 k2 kf0 kf1 kf2
          have hk : Fa wd g12 Fx.nil := ⟨k12, Fx.nil_ok _⟩
          have a2 := hk.put ok2
          have b5 := set3g (G := g12) (a := (.bool x2.b)) (b := (.slice x2.A x2.xs.length x2.c)) (c := (.slice x2.D x2.ys.length x2.d)) bz s12
          clear bz hk k12 ok2 hHeld
          generalize (((wd.setCell ⟨g12, 0, none⟩ (.bool x2.b)).setCell ⟨g12, 1, none⟩ (.slice x2.A x2.xs.length x2.c)).setCell ⟨g12, 2, none⟩ (.slice x2.D x2.ys.length x2.d)) = we at *
          have bz := b5
          clear b5
          generalize we = wd at *
          refine hK.out _ _ ⟨(H7.out.below bz).c0, (H7.out.below bz).c1, (H7.out.below bz).c2⟩ (fun hHeld => ?_)
          clear hK K
          try simp only [Act.put]
          try simp only [tzD, tzE, tzF]
          refine wpAnyH_ready (rs := [8]) (by kernel_rfl) (by simp) ?_
          refine AllReadyH.cons rfl (fun K hK => ?_) ?_
          ·go_simp
           refine hK.out _ _ ⟨(H7.out.below bz).c0, (H7.out.below bz).c1, (H7.out.below bz).c2⟩ (fun hHeld => ?_)
           clear hK K
           try simp only [Act.put]
           try simp only [tzD, tzE, tzF]
           refine wpAnyH_done (by kernel_rfl) ?_ _
           go_wp2_with fail
           go_meet
           case rel => exact ⟨g12, x2, rfl, n2, a2, bz⟩
          exact AllReadyH.nil
         exact AllReadyH.nil
        exact AllReadyH.nil
       refine AllReadyH.cons rfl (fun K hK => ?_) ?_
       ·go_simp
        have k12 := bk3_new wd
        have bb := (Below.refl wd.heap.size wd).alloc (Nat.le_refl _) (.cells #[.bool false, .slice none 0 0, .slice none 0 0] 26)
        have s12 := bz.size
        generalize h12 : wd.heap.size = g12 at k12 s12 ⊢
        try replace k12 := k12.below bb
        try replace ok1 := ok1.below bb
        try replace ok2 := ok2.below bb
        replace bz := below_on bz bb bz.size
        clear bb
        generalize (wd.alloc (.cells #[.bool false, .slice none 0 0, .slice none 0 0] 26)) = we at *
        clear h12
        generalize we = wd at *
        refine hK.out _ _ ⟨(H7.out.below bz).c0, (H7.out.below bz).c1, (H7.out.below bz).c2⟩ (fun hHeld => ?_)
        clear hK K
        try simp only [Act.put]
        try simp only [tzD, tzE, tzF]
        refine wpAnyH_ready (rs := [2]) (by kernel_rfl) (by simp) ?_
        refine AllReadyH.cons rfl (fun K hK => ?_) ?_
        ·go_simp
         go_at_call 14
         refine (radd_rp wd x1 x _ _ ok1 (H7.out.below bz).ok n1 RX.out one_szb ZX.out ZA.out).mono ?_
         rintro e wd ⟨x2, rfl, n2, ok2, bb⟩
         clear ok1 n1
         try replace k12 := k12.below bb
         try replace ok1 := ok1.below bb
         try replace ok2 := ok2.below bb
         replace bz := below_on bz bb bz.size
         clear bb
         refine hK.out _ _ ⟨(H7.out.below bz).c0, (H7.out.below bz).c1, (H7.out.below bz).c2⟩ (fun hHeld => ?_)
         clear hK K
         try simp only [Act.put]
         try simp only [tzD, tzE, tzF]
         refine tkw 3 (.tuple #[x2.val, .int .i64 0]) rfl (by kernel_rfl) (by kernel_rfl) (by kernel_rfl) (fun _ _ _ h => h) ⟨by rfl, ?_⟩ (by assumption) ?_
         ·intro w hSw; go_simp; (try with_reducible rfl)
         try simp only [Act.put, tzA, tzB, tzC, tzD, tzE, tzF]
         refine tkw 4 (x2.val) rfl (by kernel_rfl) (by kernel_rfl) (by kernel_rfl) (fun _ _ _ h => h) ⟨by rfl, ?_⟩ (by assumption) ?_
         ·intro w hSw; go_simp; (try with_reducible rfl)
         try simp only [Act.put, tzA, tzB, tzC, tzD, tzE, tzF]
         refine tkw 5 (.int .i64 0) rfl (by kernel_rfl) (by kernel_rfl) (by kernel_rfl) (fun _ _ _ h => h) ⟨by rfl, ?_⟩ (by assumption) ?_
         ·intro w hSw; go_simp; (try with_reducible rfl)
         try simp only [Act.put, tzA, tzB, tzC, tzD, tzE, tzF]
         refine wpAnyH_ready (rs := [7]) (by kernel_rfl) (by simp) ?_
         refine AllReadyH.cons rfl (fun K hK => ?_) ?_
         ·have t := k12
          obtain ⟨k0, k1, k2, kf0, kf1, kf2, _, _⟩ := t
          go_simp
          clear k0 k1 k2 kf0 kf1 kf2
          have hk : Fa wd g12 Fx.nil := ⟨k12, Fx.nil_ok _⟩
          have a2 := hk.put ok2
          have b5 := set3g (G := g12) (a := (.bool x2.b)) (b := (.slice x2.A x2.xs.length x2.c)) (c := (.slice x2.D x2.ys.length x2.d)) bz s12
          clear bz hk k12 ok2 hHeld
          generalize (((wd.setCell ⟨g12, 0, none⟩ (.bool x2.b)).setCell ⟨g12, 1, none⟩ (.slice x2.A x2.xs.length x2.c)).setCell ⟨g12, 2, none⟩ (.slice x2.D x2.ys.length x2.d)) = we at *
          have bz := b5
          clear b5
          generalize we = wd at *
          refine hK.out _ _ ⟨(H7.out.below bz).c0, (H7.out.below bz).c1, (H7.out.below bz).c2⟩ (fun hHeld => ?_)
          clear hK K
          try simp only [Act.put]
          try simp only [tzD, tzE, tzF]
          refine wpAnyH_ready (rs := [8]) (by kernel_rfl) (by simp) ?_
          refine AllReadyH.cons rfl (fun K hK => ?_) ?_
          ·go_simp
           refine hK.out _ _ ⟨(H7.out.below bz).c0, (H7.out.below bz).c1, (H7.out.below bz).c2⟩ (fun hHeld => ?_)
           clear hK K
           try simp only [Act.put]
           try simp only [tzD, tzE, tzF]
           refine wpAnyH_done (by kernel_rfl) ?_ _
           go_wp2_with fail
           go_meet
           case rel => exact ⟨g12, x2, rfl, n2, a2, bz⟩
          exact AllReadyH.nil
         exact AllReadyH.nil
        exact AllReadyH.nil
       exact AllReadyH.nil
      refine AllReadyH.cons rfl (fun K hK => ?_) ?_
      ·go_simp
       have k12 := bk3_new wd
       have bb := (Below.refl wd.heap.size wd).alloc (Nat.le_refl _) (.cells #[.bool false, .slice none 0 0, .slice none 0 0] 26)
       have s12 := bz.size
       generalize h12 : wd.heap.size = g12 at k12 s12 ⊢
       try replace k12 := k12.below bb
       try replace ok1 := ok1.below bb
       try replace ok2 := ok2.below bb
       replace bz := below_on bz bb bz.size
       clear bb
       generalize (wd.alloc (.cells #[.bool false, .slice none 0 0, .slice none 0 0] 26)) = we at *
       clear h12
       generalize we = wd at *
       refine hK.out _ _ ⟨(H7.out.below bz).c0, (H7.out.below bz).c1, (H7.out.below bz).c2⟩ (fun hHeld => ?_)
       clear hK K
       try simp only [Act.put]
       try simp only [tzD, tzE, tzF]
       refine wpAnyH_ready (rs := [0]) (by kernel_rfl) (by simp) ?_
       refine AllReadyH.cons rfl (fun K hK => ?_) ?_
       ·go_simp
        go_at_call 16
        refine (xint_any wd 1 (by omega) (by omega)).mono ?_
        rintro e wd ⟨x1, rfl, n1, ok1, bb⟩
        try replace k12 := k12.below bb
        try replace ok1 := ok1.below bb
        try replace ok2 := ok2.below bb
        replace bz := below_on bz bb bz.size
        clear bb
        refine hK.out _ _ ⟨(H7.out.below bz).c0, (H7.out.below bz).c1, (H7.out.below bz).c2⟩ (fun hHeld => ?_)
        clear hK K
        try simp only [Act.put]
        try simp only [tzD, tzE, tzF]
        refine wpAnyH_ready (rs := [2]) (by kernel_rfl) (by simp) ?_
        refine AllReadyH.cons rfl (fun K hK => ?_) ?_
        ·go_simp
         go_at_call 14
         refine (radd_rp wd x1 x _ _ ok1 (H7.out.below bz).ok n1 RX.out one_szb ZX.out ZA.out).mono ?_
         rintro e wd ⟨x2, rfl, n2, ok2, bb⟩
         clear ok1 n1
         try replace k12 := k12.below bb
         try replace ok1 := ok1.below bb
         try replace ok2 := ok2.below bb
         replace bz := below_on bz bb bz.size
         clear bb
         refine hK.out _ _ ⟨(H7.out.below bz).c0, (H7.out.below bz).c1, (H7.out.below bz).c2⟩ (fun hHeld => ?_)
         clear hK K
         try simp only [Act.put]
         try simp only [tzD, tzE, tzF]
         refine tkw 3 (.tuple #[x2.val, .int .i64 0]) rfl (by kernel_rfl) (by kernel_rfl) (by kernel_rfl) (fun _ _ _ h => h) ⟨by rfl, ?_⟩ (by assumption) ?_
         ·intro w hSw; go_simp; (try with_reducible rfl)
         try simp only [Act.put, tzA, tzB, tzC, tzD, tzE, tzF]
         refine tkw 4 (x2.val) rfl (by kernel_rfl) (by kernel_rfl) (by kernel_rfl) (fun _ _ _ h => h) ⟨by rfl, ?_⟩ (by assumption) ?_
         ·intro w hSw; go_simp; (try with_reducible rfl)
         try simp only [Act.put, tzA, tzB, tzC, tzD, tzE, tzF]
         refine tkw 5 (.int .i64 0) rfl (by kernel_rfl) (by kernel_rfl) (by kernel_rfl) (fun _ _ _ h => h) ⟨by rfl, ?_⟩ (by assumption) ?_
         ·intro w hSw; go_simp; (try with_reducible rfl)
         try simp only [Act.put, tzA, tzB, tzC, tzD, tzE, tzF]
         refine wpAnyH_ready (rs := [7]) (by kernel_rfl) (by simp) ?_
         refine AllReadyH.cons rfl (fun K hK => ?_) ?_
         ·have t := k12
          obtain ⟨k0, k1, k2, kf0, kf1, kf2, _, _⟩ := t
          go_simp
          clear k0 k1 k2 kf0 kf1 kf2
          have hk : Fa wd g12 Fx.nil := ⟨k12, Fx.nil_ok _⟩
          have a2 := hk.put ok2
          have b5 := set3g (G := g12) (a := (.bool x2.b)) (b := (.slice x2.A x2.xs.length x2.c)) (c := (.slice x2.D x2.ys.length x2.d)) bz s12
          clear bz hk k12 ok2 hHeld
          generalize (((wd.setCell ⟨g12, 0, none⟩ (.bool x2.b)).setCell ⟨g12, 1, none⟩ (.slice x2.A x2.xs.length x2.c)).setCell ⟨g12, 2, none⟩ (.slice x2.D x2.ys.length x2.d)) = we at *
          have bz := b5
          clear b5
          generalize we = wd at *
          refine hK.out _ _ ⟨(H7.out.below bz).c0, (H7.out.below bz).c1, (H7.out.below bz).c2⟩ (fun hHeld => ?_)
          clear hK K
          try simp only [Act.put]
          try simp only [tzD, tzE, tzF]
          refine wpAnyH_ready (rs := [8]) (by kernel_rfl) (by simp) ?_
          refine AllReadyH.cons rfl (fun K hK => ?_) ?_
          ·go_simp
           refine hK.out _ _ ⟨(H7.out.below bz).c0, (H7.out.below bz).c1, (H7.out.below bz).c2⟩ (fun hHeld => ?_)
           clear hK K
           try simp only [Act.put]
           try simp only [tzD, tzE, tzF]
           refine wpAnyH_done (by kernel_rfl) ?_ _
           go_wp2_with fail
           go_meet
           case rel => exact ⟨g12, x2, rfl, n2, a2, bz⟩
          exact AllReadyH.nil
         exact AllReadyH.nil
        exact AllReadyH.nil
       exact AllReadyH.nil
      exact AllReadyH.nil
    case rest =>
      obtain ⟨g12, y, rfl, n12, a12, bb⟩ := hcut
      have RY := Lib.hid n12
      have W12 := Lib.hid (below_on W10.out bb W10.out.size)
      have H12 := Lib.hid a12
      replace H10 := Lib.hid (H10.out.below bb)
      clear n12 a12 bb H7 W10
      generalize hwr2 : wc = wr3 at *
      clear hwr2
      go_upto_region 5 with fail
      go_cut [14] (fun s14 wx => ∃ (G : Nat) (z : Fx), s14 = .pointer (some ⟨G, 0, none⟩) ∧ Rp z (((1 : Int) : Rat) / (((1 : Int) : Rat) + numQ num den)) ∧ Fa wx G z ∧ Below wr3.heap.size wr3 wx)
      case first =>
        refine wp_region_held_drew (S := fun w' => w'.cell? ⟨g12, 0, none⟩ = some (.bool y.b) ∧ w'.cell? ⟨g12, 1, none⟩ = some (.slice y.A y.xs.length y.c) ∧ w'.cell? ⟨g12, 2, none⟩ = some (.slice y.D y.ys.length y.d)) (by kernel_rfl) ⟨(H12.out.below ((Below.refl wr3.heap.size wr3).drew)).c0, (H12.out.below ((Below.refl wr3.heap.size wr3).drew)).c1, (H12.out.below ((Below.refl wr3.heap.size wr3).drew)).c2⟩ (fun hHeld => ?_)
        have bz := (Below.refl wr3.heap.size wr3).drew
        generalize wr3.drew = wd at *
        refine tkw 1 (y.val) rfl (by kernel_rfl) (by kernel_rfl) (by kernel_rfl) (fun _ _ _ h => h) ⟨by rfl, ?_⟩ (by assumption) ?_
        ·intro w hSw; (try dsimp only at hSw); obtain ⟨s0, s1, s2⟩ := hSw; go_simp; (try with_reducible rfl)
        try simp only [Act.put, tzA, tzB, tzC, tzD, tzE, tzF]
        refine wpAnyH_ready (rs := [0, 6]) (by kernel_rfl) (by simp) ?_
        refine AllReadyH.cons rfl (fun K hK => ?_) ?_
        ·go_simp
         go_at_call 16
         refine (xint_any wd 1 (by omega) (by omega)).mono ?_
         rintro e wd ⟨x1, rfl, n1, ok1, bb⟩
         try replace k14 := k14.below bb
         try replace ok1 := ok1.below bb
         try replace ok2 := ok2.below bb
         replace bz := below_on bz bb bz.size
         clear bb
         refine hK.out _ _ ⟨(H12.out.below bz).c0, (H12.out.below bz).c1, (H12.out.below bz).c2⟩ (fun hHeld => ?_)
         clear hK K
         try simp only [Act.put]
         try simp only [tzD, tzE, tzF]
         refine wpAnyH_ready (rs := [2, 6]) (by kernel_rfl) (by simp) ?_
         refine AllReadyH.cons rfl (fun K hK => ?_) ?_
         ·go_simp
          go_at_call 22
          refine (rquo_rp wd x1 y _ _ ok1 (H12.out.below bz).ok n1 RY.out one_szb ZA.out NA.out ZQ.out).mono ?_
          rintro e wd ⟨x2, rfl, n2, ok2, bb⟩
          clear ok1 n1
          try replace k14 := k14.below bb
          try replace ok1 := ok1.below bb
          try replace ok2 := ok2.below bb
          replace bz := below_on bz bb bz.size
          clear bb
          refine hK.out _ _ ⟨(H12.out.below bz).c0, (H12.out.below bz).c1, (H12.out.below bz).c2⟩ (fun hHeld => ?_)
          clear hK K
          try simp only [Act.put]
          try simp only [tzD, tzE, tzF]
          refine tkw 3 (.tuple #[x2.val, .int .i64 0]) rfl (by kernel_rfl) (by kernel_rfl) (by kernel_rfl) (fun _ _ _ h => h) ⟨by rfl, ?_⟩ (by assumption) ?_
          ·intro w hSw; go_simp; (try with_reducible rfl)
          try simp only [Act.put, tzA, tzB, tzC, tzD, tzE, tzF]
          refine tkw 4 (x2.val) rfl (by kernel_rfl) (by kernel_rfl) (by kernel_rfl) (fun _ _ _ h => h) ⟨by rfl, ?_⟩ (by assumption) ?_
          ·intro w hSw; go_simp; (try with_reducible rfl)
          try simp only [Act.put, tzA, tzB, tzC, tzD, tzE, tzF]
          refine tkw 5 (.int .i64 0) rfl (by kernel_rfl) (by kernel_rfl) (by kernel_rfl) (fun _ _ _ h => h) ⟨by rfl, ?_⟩ (by assumption) ?_
          ·intro w hSw; go_simp; (try with_reducible rfl)
          try simp only [Act.put, tzA, tzB, tzC, tzD, tzE, tzF]
          refine wpAnyH_ready (rs := [6]) (by kernel_rfl) (by simp) ?_
          refine AllReadyH.cons rfl (fun K hK => ?_) ?_
          ·go_simp
           have k14 := bk3_new wd
           have bb := (Below.refl wd.heap.size wd).alloc (Nat.le_refl _) (.cells #[.bool false, .slice none 0 0, .slice none 0 0] 26)
           have s14 := bz.size
           generalize h14 : wd.heap.size = g14 at k14 s14 ⊢
           try replace k14 := k14.below bb
           try replace ok1 := ok1.below bb
           try replace ok2 := ok2.below bb
           replace bz := below_on bz bb bz.size
           clear bb
           generalize (wd.alloc (.cells #[.bool false, .slice none 0 0, .slice none 0 0] 26)) = we at *
           clear h14
           generalize we = wd at *
           refine hK.out _ _ ⟨(H12.out.below bz).c0, (H12.out.below bz).c1, (H12.out.below bz).c2⟩ (fun hHeld => ?_)
           clear hK K
           try simp only [Act.put]
           try simp only [tzD, tzE, tzF]
           refine wpAnyH_ready (rs := [7]) (by kernel_rfl) (by simp) ?_
           refine AllReadyH.cons rfl (fun K hK => ?_) ?_
           ·have t := k14
            obtain ⟨k0, k1, k2, kf0, kf1, kf2, _, _⟩ := t
            go_simp
            clear k0 k1 k2 kf0 kf1 kf2
            have hk : Fa wd g14 Fx.nil := ⟨k14, Fx.nil_ok _⟩
            have a2 := hk.put ok2
            have b5 := set3g (G := g14) (a := (.bool x2.b)) (b := (.slice x2.A x2.xs.length x2.c)) (c := (.slice x2.D x2.ys.length x2.d)) bz s14
            clear bz hk k14 ok2 hHeld
            generalize (((wd.setCell ⟨g14, 0, none⟩ (.bool x2.b)).setCell ⟨g14, 1, none⟩ (.slice x2.A x2.xs.length x2.c)).setCell ⟨g14, 2, none⟩ (.slice x2.D x2.ys.length x2.d)) = we at *
            have bz := b5
            clear b5
            generalize we = wd at *
            refine hK.out _ _ ⟨(H12.out.below bz).c0, (H12.out.below bz).c1, (H12.out.below bz).c2⟩ (fun hHeld => ?_)
            clear hK K
            try simp only [Act.put]
            try simp only [tzD, tzE, tzF]
            refine wpAnyH_ready (rs := [8]) (by kernel_rfl) (by simp) ?_
            refine AllReadyH.cons rfl (fun K hK => ?_) ?_
            ·go_simp
             refine hK.out _ _ ⟨(H12.out.below bz).c0, (H12.out.below bz).c1, (H12.out.below bz).c2⟩ (fun hHeld => ?_)
             clear hK K
             try simp only [Act.put]
             try simp only [tzD, tzE, tzF]
             refine wpAnyH_done (by kernel_rfl) ?_ _
             go_wp2_with fail
             go_meet
             case rel => exact ⟨g14, x2, rfl, n2, a2, bz⟩
            exact AllReadyH.nil
           exact AllReadyH.nil
          exact AllReadyH.nil
         refine AllReadyH.cons rfl (fun K hK => ?_) ?_
         ·go_simp
          have k14 := bk3_new wd
          have bb := (Below.refl wd.heap.size wd).alloc (Nat.le_refl _) (.cells #[.bool false, .slice none 0 0, .slice none 0 0] 26)
          have s14 := bz.size
          generalize h14 : wd.heap.size = g14 at k14 s14 ⊢
          try replace k14 := k14.below bb
          try replace ok1 := ok1.below bb
          try replace ok2 := ok2.below bb
          replace bz := below_on bz bb bz.size
          clear bb
          generalize (wd.alloc (.cells #[.bool false, .slice none 0 0, .slice none 0 0] 26)) = we at *
          clear h14
          generalize we = wd at *
          refine hK.out _ _ ⟨(H12.out.below bz).c0, (H12.out.below bz).c1, (H12.out.below bz).c2⟩ (fun hHeld => ?_)
          clear hK K
          try simp only [Act.put]
          try simp only [tzD, tzE, tzF]
          refine wpAnyH_ready (rs := [2]) (by kernel_rfl) (by simp) ?_
          refine AllReadyH.cons rfl (fun K hK => ?_) ?_
          ·go_simp
           go_at_call 22
           refine (rquo_rp wd x1 y _ _ ok1 (H12.out.below bz).ok n1 RY.out one_szb ZA.out NA.out ZQ.out).mono ?_
           rintro e wd ⟨x2, rfl, n2, ok2, bb⟩
           clear ok1 n1
           try replace k14 := k14.below bb
           try replace ok1 := ok1.below bb
           try replace ok2 := ok2.below bb
           replace bz := below_on bz bb bz.size
           clear bb
           refine hK.out _ _ ⟨(H12.out.below bz).c0, (H12.out.below bz).c1, (H12.out.below bz).c2⟩ (fun hHeld => ?_)
           clear hK K
           try simp only [Act.put]
           try simp only [tzD, tzE, tzF]
           refine tkw 3 (.tuple #[x2.val, .int .i64 0]) rfl (by kernel_rfl) (by kernel_rfl) (by kernel_rfl) (fun _ _ _ h => h) ⟨by rfl, ?_⟩ (by assumption) ?_
           ·intro w hSw; go_simp; (try with_reducible rfl)
           try simp only [Act.put, tzA, tzB, tzC, tzD, tzE, tzF]
           refine tkw 4 (x2.val) rfl (by kernel_rfl) (by kernel_rfl) (by kernel_rfl) (fun _ _ _ h => h) ⟨by rfl, ?_⟩ (by assumption) ?_
           ·intro w hSw; go_simp; (try with_reducible rfl)
           try simp only [Act.put, tzA, tzB, tzC, tzD, tzE, tzF]
           refine tkw 5 (.int .i64 0) rfl (by kernel_rfl) (by kernel_rfl) (by kernel_rfl) (fun _ _ _ h => h) ⟨by rfl, ?_⟩ (by assumption) ?_
           ·intro w hSw; go_simp; (try with_reducible rfl)
           try simp only [Act.put, tzA, tzB, tzC, tzD, tzE, tzF]
           refine wpAnyH_ready (rs := [7]) (by kernel_rfl) (by simp) ?_
           refine AllReadyH.cons rfl (fun K hK => ?_) ?_
           ·have t := k14
            obtain ⟨k0, k1, k2, kf0, kf1, kf2, _, _⟩ := t
            go_simp
            clear k0 k1 k2 kf0 kf1 kf2
            have hk : Fa wd g14 Fx.nil := ⟨k14, Fx.nil_ok _⟩
            have a2 := hk.put ok2
            have b5 := set3g (G := g14) (a := (.bool x2.b)) (b := (.slice x2.A x2.xs.length x2.c)) (c := (.slice x2.D x2.ys.length x2.d)) bz s14
            clear bz hk k14 ok2 hHeld
            generalize (((wd.setCell ⟨g14, 0, none⟩ (.bool x2.b)).setCell ⟨g14, 1, none⟩ (.slice x2.A x2.xs.length x2.c)).setCell ⟨g14, 2, none⟩ (.slice x2.D x2.ys.length x2.d)) = we at *
            have bz := b5
            clear b5
            generalize we = wd at *
            refine hK.out _ _ ⟨(H12.out.below bz).c0, (H12.out.below bz).c1, (H12.out.below bz).c2⟩ (fun hHeld => ?_)
            clear hK K
            try simp only [Act.put]
            try simp only [tzD, tzE, tzF]
            refine wpAnyH_ready (rs := [8]) (by kernel_rfl) (by simp) ?_
            refine AllReadyH.cons rfl (fun K hK => ?_) ?_
            ·go_simp
             refine hK.out _ _ ⟨(H12.out.below bz).c0, (H12.out.below bz).c1, (H12.out.below bz).c2⟩ (fun hHeld => ?_)
             clear hK K
             try simp only [Act.put]
             try simp only [tzD, tzE, tzF]
             refine wpAnyH_done (by kernel_rfl) ?_ _
             go_wp2_with fail
             go_meet
             case rel => exact ⟨g14, x2, rfl, n2, a2, bz⟩
            exact AllReadyH.nil
           exact AllReadyH.nil
          exact AllReadyH.nil
         exact AllReadyH.nil
        refine AllReadyH.cons rfl (fun K hK => ?_) ?_
        ·go_simp
         have k14 := bk3_new wd
         have bb := (Below.refl wd.heap.size wd).alloc (Nat.le_refl _) (.cells #[.bool false, .slice none 0 0, .slice none 0 0] 26)
         have s14 := bz.size
         generalize h14 : wd.heap.size = g14 at k14 s14 ⊢
         try replace k14 := k14.below bb
         try replace ok1 := ok1.below bb
         try replace ok2 := ok2.below bb
         replace bz := below_on bz bb bz.size
         clear bb
         generalize (wd.alloc (.cells #[.bool false, .slice none 0 0, .slice none 0 0] 26)) = we at *
         clear h14
         generalize we = wd at *
         refine hK.out _ _ ⟨(H12.out.below bz).c0, (H12.out.below bz).c1, (H12.out.below bz).c2⟩ (fun hHeld => ?_)
         clear hK K
         try simp only [Act.put]
         try simp only [tzD, tzE, tzF]
         refine wpAnyH_ready (rs := [0]) (by kernel_rfl) (by simp) ?_
         refine AllReadyH.cons rfl (fun K hK => ?_) ?_
         ·go_simp
          go_at_call 16
          refine (xint_any wd 1 (by omega) (by omega)).mono ?_
          rintro e wd ⟨x1, rfl, n1, ok1, bb⟩
          try replace k14 := k14.below bb
          try replace ok1 := ok1.below bb
          try replace ok2 := ok2.below bb
          replace bz := below_on bz bb bz.size
          clear bb
          refine hK.out _ _ ⟨(H12.out.below bz).c0, (H12.out.below bz).c1, (H12.out.below bz).c2⟩ (fun hHeld => ?_)
          clear hK K
          try simp only [Act.put]
          try simp only [tzD, tzE, tzF]
          refine wpAnyH_ready (rs := [2]) (by kernel_rfl) (by simp) ?_
          refine AllReadyH.cons rfl (fun K hK => ?_) ?_
          ·go_simp
           go_at_call 22
           refine (rquo_rp wd x1 y _ _ ok1 (H12.out.below bz).ok n1 RY.out one_szb ZA.out NA.out ZQ.out).mono ?_
           rintro e wd ⟨x2, rfl, n2, ok2, bb⟩
           clear ok1 n1
           try replace k14 := k14.below bb
           try replace ok1 := ok1.below bb
           try replace ok2 := ok2.below bb
           replace bz := below_on bz bb bz.size
           clear bb
           refine hK.out _ _ ⟨(H12.out.below bz).c0, (H12.out.below bz).c1, (H12.out.below bz).c2⟩ (fun hHeld => ?_)
           clear hK K
           try simp only [Act.put]
           try simp only [tzD, tzE, tzF]
           refine tkw 3 (.tuple #[x2.val, .int .i64 0]) rfl (by kernel_rfl) (by kernel_rfl) (by kernel_rfl) (fun _ _ _ h => h) ⟨by rfl, ?_⟩ (by assumption) ?_
           ·intro w hSw; go_simp; (try with_reducible rfl)
           try simp only [Act.put, tzA, tzB, tzC, tzD, tzE, tzF]
           refine tkw 4 (x2.val) rfl (by kernel_rfl) (by kernel_rfl) (by kernel_rfl) (fun _ _ _ h => h) ⟨by rfl, ?_⟩ (by assumption) ?_
           ·intro w hSw; go_simp; (try with_reducible rfl)
           try simp only [Act.put, tzA, tzB, tzC, tzD, tzE, tzF]
           refine tkw 5 (.int .i64 0) rfl (by kernel_rfl) (by kernel_rfl) (by kernel_rfl) (fun _ _ _ h => h) ⟨by rfl, ?_⟩ (by assumption) ?_
           ·intro w hSw; go_simp; (try with_reducible rfl)
           try simp only [Act.put, tzA, tzB, tzC, tzD, tzE, tzF]
           refine wpAnyH_ready (rs := [7]) (by kernel_rfl) (by simp) ?_
           refine AllReadyH.cons rfl (fun K hK => ?_) ?_
           ·have t := k14
            obtain ⟨k0, k1, k2, kf0, kf1, kf2, _, _⟩ := t
            go_simp
            clear k0 k1 k2 kf0 kf1 kf2
            have hk : Fa wd g14 Fx.nil := ⟨k14, Fx.nil_ok _⟩
            have a2 := hk.put ok2
            have b5 := set3g (G := g14) (a := (.bool x2.b)) (b := (.slice x2.A x2.xs.length x2.c)) (c := (.slice x2.D x2.ys.length x2.d)) bz s14
            clear bz hk k14 ok2 hHeld
            generalize (((wd.setCell ⟨g14, 0, none⟩ (.bool x2.b)).setCell ⟨g14, 1, none⟩ (.slice x2.A x2.xs.length x2.c)).setCell ⟨g14, 2, none⟩ (.slice x2.D x2.ys.length x2.d)) = we at *
            have bz := b5
            clear b5
            generalize we = wd at *
            refine hK.out _ _ ⟨(H12.out.below bz).c0, (H12.out.below bz).c1, (H12.out.below bz).c2⟩ (fun hHeld => ?_)
            clear hK K
            try simp only [Act.put]
            try simp only [tzD, tzE, tzF]
            refine wpAnyH_ready (rs := [8]) (by kernel_rfl) (by simp) ?_
            refine AllReadyH.cons rfl (fun K hK => ?_) ?_
            ·go_simp
             refine hK.out _ _ ⟨(H12.out.below bz).c0, (H12.out.below bz).c1, (H12.out.below bz).c2⟩ (fun hHeld => ?_)
             clear hK K
             try simp only [Act.put]
             try simp only [tzD, tzE, tzF]
             refine wpAnyH_done (by kernel_rfl) ?_ _
             go_wp2_with fail
             go_meet
             case rel => exact ⟨g14, x2, rfl, n2, a2, bz⟩
            exact AllReadyH.nil
           exact AllReadyH.nil
          exact AllReadyH.nil
         exact AllReadyH.nil
        exact AllReadyH.nil
      case rest =>
        obtain ⟨g14, z14, rfl, n14, a14, bb⟩ := hcut
        have N14 := Lib.hid n14
        have bw := below_on W12.out bb W12.out.size
        have a10 := H10.out.below bb
        have a8 := H8.out.below bw
        replace bw := below_on HBW.out bw HBW.out.size
        clear n14 bb H8 HBW H10 W12 H12
        obtain ⟨lo, hi, r1, r2, s1, s2, p1, p2⟩ := HP.out
        have R1 := Lib.hid r1
        have R2 := Lib.hid r2
        have S1 := Lib.hid s1
        have S2 := Lib.hid s2
        have P1 := Lib.hid p1
        have P2 := Lib.hid p2
        clear r1 r2 s1 s2 p1 p2 HP
        have cj0 := a10.c0
        have cj1 := a10.c1
        have cj2 := a10.c2
        have ci0 := a8.c0
        have ci1 := a8.c1
        have ci2 := a8.c2
        have ci3 := a8.c3
        have ci4 := a8.c4
        have ci5 := a8.c5
        go_wp2_with fail
        clear ci0 ci1 ci2 ci3 ci4 ci5
        clear cj0 cj1 cj2
        refine (xless_any wc i.hi z10 false a8.ok.hi a10.ok (R2.out.v S2.out) (N10.out.v ZS.out) (R2.out.l1 S2.out) (R2.out.l2 S2.out) (N10.out.l1 ZS.out) (N10.out.l2 ZS.out) (decide_eq_false (by rw [R2.out.q, N10.out.q]; exact P1.out))).mono ?_
        rintro _ w5 ⟨rfl, bb⟩
        replace a8 := a8.below bb
        replace a14 := a14.below bb
        replace bw := below_on bw bb bw.size
        clear bb a10
        have cj0 := a14.c0
        have cj1 := a14.c1
        have cj2 := a14.c2
        have ci0 := a8.c0
        have ci1 := a8.c1
        have ci2 := a8.c2
        have ci3 := a8.c3
        have ci4 := a8.c4
        have ci5 := a8.c5
        go_wp2_with fail
        clear ci0 ci1 ci2 ci3 ci4 ci5
        clear cj0 cj1 cj2
        refine (xless_any w5 z14 i.lo false a14.ok a8.ok.lo (N14.out.v ZQ.out) (R1.out.v S1.out) (N14.out.l1 ZQ.out) (N14.out.l2 ZQ.out) (R1.out.l1 S1.out) (R1.out.l2 S1.out) (decide_eq_false (by rw [R1.out.q, N14.out.q]; exact P2.out))).mono ?_
        rintro _ w6 ⟨rfl, bb⟩
        replace bw := below_on bw bb bw.size
        clear bb a8 a14
        go_wp2_with fail
        refine (xawake_any w6).mono ?_
        rintro _ w7 ⟨rfl, bb⟩
        replace bw := below_on bw bb bw.size
        go_wp2_with fail
        go_ret
        exact ⟨rfl, bw⟩
theorem btw_law (w : World) (a b c : Int) (h1 : (Lit.int .u16 a).wf = true) (h2 : (Lit.int .u8 b).wf = true) (h3 : (Lit.int .u8 c).wf = true) :
    Calls Try.prog 4 #[.int .u16 a, .int .u8 b, .int .u8 c] w fun e w' => e = .returned (.bool true) ∧ Below w.heap.size w w' := by
  obtain ⟨num, rfl, hn⟩ := wf_u16 h1
  obtain ⟨den, rfl, hd⟩ := wf_u8 h2
  obtain ⟨bs, rfl, hb⟩ := wf_u8 h3
  exact btw_walk w num den bs hn hd hb
end Go.Proofs.Ytnmomigaedfdoaa
