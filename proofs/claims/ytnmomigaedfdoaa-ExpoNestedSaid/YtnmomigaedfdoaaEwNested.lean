/- The walk of ExpoNested. -/
import Derived.Test.YtnmomigaedfdoaaEwNestedP
namespace Go.Proofs.Ytnmomigaedfdoaa
set_option maxRecDepth 100000
open Go.RowKit

/-- two intervals, the one inside the other -/
structure Ins4 (i j : Ix) (a b c d : Rat) : Prop where
  r1 : Ri i a b
  r2 : Ri j c d
  o1 : c ≤ a
  o2 : b ≤ d
set_option maxHeartbeats 3200000 in
theorem nes_walk (w : World) (num den ns bs ms : Nat) (hnum : num < 65536) (hd : den < 256) (hns : ns < 256) (hbs : bs < 256) (hms : ms < 256) :
    Calls Try.prog 9 #[.int .u16 (num : Int), .int .u8 (den : Int), .int .u8 (ns : Int), .int .u8 (bs : Int), .int .u8 (ms : Int)] w fun e w' => e = .returned (.bool true) ∧ Below w.heap.size w w' := by
  have SX := Lib.hid (numQ_ok hnum hd).1
  have LX := Lib.hid (numQ_lq hnum hd)
  have HQN : Hid (num ≠ 0 → numQ num den ≠ 0) := Lib.hid numQ_pos
  have HNS := Lib.hid hns
  go_enter Try.func9, Try.ntmps9
  go_wp2_with fail
  refine (number_any w num den hnum hd).mono ?_
  rintro _ w1 ⟨x, rfl, rx, okx, bw⟩
  have RX := Lib.hid rx
  have L1 := Lib.hid (rx.l1 SX.out)
  have L2 := Lib.hid (rx.l2 SX.out)
  have CX : Hid (∀ (b : Nat) (n : Int), 1 ≤ b → b ≤ 64 → 0 ≤ n → n ≤ 256 → chkE x (b : Int) n = 0) := Lib.hid (fun b n h1 h2 h3 h4 => num_chk rx hnum hd h1 h2 h3 h4)
  clear rx
  go_upto_region 2 with fail
  have a11 := (fa_alloc okx).1
  have bb := (fa_alloc okx).2
  clear okx
  generalize (w1.alloc (.cells #[.bool x.b, .slice x.A x.xs.length x.c, .slice x.D x.ys.length x.d] 26)) = wn at a11 bb ⊢
  try replace a11 := a11.below bb
  replace bw := below_on bw bb bw.size
  clear bb
  generalize w1.heap.size = g11 at a11 ⊢
  obtain ⟨p, hp⟩ : ∃ p, numQ num den = p := ⟨_, rfl⟩
  rw [hp] at RX LX SX HQN
  clear hp
  have em := bits_mod bs 40 (by omega)
  have en := bits_mod ms 24 (by omega)
  have em2 : (bs : Int) % 40 = ((bs % 40 : Nat) : Int) := by omega
  have en2 : (ms : Int) % 24 = ((ms % 24 : Nat) : Int) := by omega
  obtain ⟨r, hr⟩ : ∃ r, bs % 40 = r := ⟨_, rfl⟩
  obtain ⟨d, hdd⟩ : ∃ d, ms % 24 = d := ⟨_, rfl⟩
  rw [hr] at em em2
  rw [hdd] at en en2
  have hr40 : r < 40 := by omega
  have hd24 : d < 24 := by omega
  obtain ⟨b, hbb⟩ : ∃ b, 1 + r = b := ⟨_, rfl⟩
  have HB : Hid (1 ≤ b ∧ b ≤ 40) := Lib.hid (by omega)
  have HD : Hid (d < 24) := Lib.hid hd24
  have HBE : Hid ((1 : Int) + (r : Int) = (b : Int)) := Lib.hid (by omega)
  have HBD : Hid ((b : Int) + (d : Int) = ((b + d : Nat) : Int)) := Lib.hid (by omega)
  clear hr hdd hbb
  go_upto_region 3 with fail
  rw [HBE.out]
  have hb40 := HB.out
  go_upto_region 4 with fail
  rw [en2, HBD.out]
  clear em em2 en en2 hr40 hb40
  obtain ⟨l, hl⟩ : ∃ l, b + d = l := ⟨_, rfl⟩
  have HL : Hid (b + d = l) := Lib.hid hl
  have HLB : Hid (1 ≤ l ∧ l ≤ 63) := Lib.hid (by have := HB.out; have := HD.out; omega)
  rw [hl]
  clear hl hd24
  have ci0 := a11.c0
  have ci1 := a11.c1
  have ci2 := a11.c2
  go_wp2_with fail
  clear ci0 ci1 ci2
  refine (xexp_any _ x (b : Int) 0 a11.ok L1.out L2.out (CX.out b 0 HB.out.1 (by have := HB.out; omega) (by omega) (by omega))).mono ?_
  rintro _ wn ⟨i14, rfl, ok14, hi14, bb⟩
  have HI14 := Lib.hid (hi14 rfl)
  clear hi14
  try replace a11 := a11.below bb
  replace bw := below_on bw bb bw.size
  clear bb
  go_upto_region 5 with fail
  have a14 := (ia_alloc ok14).1
  have bb := (ia_alloc ok14).2
  clear ok14
  generalize (wn.alloc (.cells i14.cells 35)) = wm at a14 bb ⊢
  try replace a11 := a11.below bb
  try replace a14 := a14.below bb
  replace bw := below_on bw bb bw.size
  clear bb
  generalize wn.heap.size = g14 at a14 ⊢
  have ci0 := a11.c0
  have ci1 := a11.c1
  have ci2 := a11.c2
  go_wp2_with fail
  clear ci0 ci1 ci2
  refine (xexp_any _ x (l : Int) 0 a11.ok L1.out L2.out (CX.out l 0 HLB.out.1 (by have := HLB.out; omega) (by omega) (by omega))).mono ?_
  rintro _ wn ⟨i16, rfl, ok16, hi16, bb⟩
  have HI16 := Lib.hid (hi16 rfl)
  clear hi16
  try replace a11 := a11.below bb
  try replace a14 := a14.below bb
  replace bw := below_on bw bb bw.size
  clear bb
  go_upto_region 6 with fail
  have a16 := (ia_alloc ok16).1
  have bb := (ia_alloc ok16).2
  clear ok16
  generalize (wn.alloc (.cells i16.cells 35)) = wm at a16 bb ⊢
  try replace a11 := a11.below bb
  try replace a14 := a14.below bb
  try replace a16 := a16.below bb
  replace bw := below_on bw bb bw.size
  clear bb
  generalize wn.heap.size = g16 at a16 ⊢
  have ci0 := a11.c0
  have ci1 := a11.c1
  have ci2 := a11.c2
  go_wp2_with fail
  clear ci0 ci1 ci2
  refine (xpoisson_any _ x (ns : Int) (b : Int) 0 a11.ok L1.out L2.out (CX.out b ns HB.out.1 (by have := HB.out; omega) (by omega) (by have := HNS.out; omega))).mono ?_
  rintro _ wn ⟨i18, rfl, ok18, hi18, bb⟩
  have HI18 := Lib.hid (hi18 rfl)
  clear hi18
  try replace a11 := a11.below bb
  try replace a14 := a14.below bb
  try replace a16 := a16.below bb
  replace bw := below_on bw bb bw.size
  clear bb
  go_upto_region 7 with fail
  have a18 := (ia_alloc ok18).1
  have bb := (ia_alloc ok18).2
  clear ok18
  generalize (wn.alloc (.cells i18.cells 35)) = wm at a18 bb ⊢
  try replace a11 := a11.below bb
  try replace a14 := a14.below bb
  try replace a16 := a16.below bb
  try replace a18 := a18.below bb
  replace bw := below_on bw bb bw.size
  clear bb
  generalize wn.heap.size = g18 at a18 ⊢
  have ci0 := a11.c0
  have ci1 := a11.c1
  have ci2 := a11.c2
  go_wp2_with fail
  clear ci0 ci1 ci2
  refine (xpoisson_any _ x (ns : Int) (l : Int) 0 a11.ok L1.out L2.out (CX.out l ns HLB.out.1 (by have := HLB.out; omega) (by omega) (by have := HNS.out; omega))).mono ?_
  rintro _ wn ⟨i20, rfl, ok20, hi20, bb⟩
  have HI20 := Lib.hid (hi20 rfl)
  clear hi20
  try replace a11 := a11.below bb
  try replace a14 := a14.below bb
  try replace a16 := a16.below bb
  try replace a18 := a18.below bb
  replace bw := below_on bw bb bw.size
  clear bb
  go_upto_region 8 with fail
  have a20 := (ia_alloc ok20).1
  have bb := (ia_alloc ok20).2
  clear ok20
  generalize (wn.alloc (.cells i20.cells 35)) = wm at a20 bb ⊢
  try replace a11 := a11.below bb
  try replace a14 := a14.below bb
  try replace a16 := a16.below bb
  try replace a18 := a18.below bb
  try replace a20 := a20.below bb
  replace bw := below_on bw bb bw.size
  clear bb
  generalize wn.heap.size = g20 at a20 ⊢
  have ci0 := a11.c0
  have ci1 := a11.c1
  have ci2 := a11.c2
  go_wp2_with fail
  clear ci0 ci1 ci2
  refine (xtail_any _ x (ns : Int) (b : Int) 0 a11.ok L1.out L2.out (CX.out b ns HB.out.1 (by have := HB.out; omega) (by omega) (by have := HNS.out; omega))).mono ?_
  rintro _ wn ⟨i22, rfl, ok22, hi22, bb⟩
  have HI22 := Lib.hid (hi22 rfl)
  clear hi22
  try replace a11 := a11.below bb
  try replace a14 := a14.below bb
  try replace a16 := a16.below bb
  try replace a18 := a18.below bb
  try replace a20 := a20.below bb
  replace bw := below_on bw bb bw.size
  clear bb
  go_upto_region 9 with fail
  have a22 := (ia_alloc ok22).1
  have bb := (ia_alloc ok22).2
  clear ok22
  generalize (wn.alloc (.cells i22.cells 35)) = wm at a22 bb ⊢
  try replace a11 := a11.below bb
  try replace a14 := a14.below bb
  try replace a16 := a16.below bb
  try replace a18 := a18.below bb
  try replace a20 := a20.below bb
  try replace a22 := a22.below bb
  replace bw := below_on bw bb bw.size
  clear bb
  generalize wn.heap.size = g22 at a22 ⊢
  have ci0 := a11.c0
  have ci1 := a11.c1
  have ci2 := a11.c2
  go_wp2_with fail
  clear ci0 ci1 ci2
  refine (xtail_any _ x (ns : Int) (l : Int) 0 a11.ok L1.out L2.out (CX.out l ns HLB.out.1 (by have := HLB.out; omega) (by omega) (by have := HNS.out; omega))).mono ?_
  rintro _ wn ⟨i24, rfl, ok24, hi24, bb⟩
  have HI24 := Lib.hid (hi24 rfl)
  clear hi24
  try replace a11 := a11.below bb
  try replace a14 := a14.below bb
  try replace a16 := a16.below bb
  try replace a18 := a18.below bb
  try replace a20 := a20.below bb
  try replace a22 := a22.below bb
  replace bw := below_on bw bb bw.size
  clear bb
  go_upto_region 10 with fail
  have a24 := (ia_alloc ok24).1
  have bb := (ia_alloc ok24).2
  clear ok24
  generalize (wn.alloc (.cells i24.cells 35)) = wm at a24 bb ⊢
  try replace a11 := a11.below bb
  try replace a14 := a14.below bb
  try replace a16 := a16.below bb
  try replace a18 := a18.below bb
  try replace a20 := a20.below bb
  try replace a22 := a22.below bb
  try replace a24 := a24.below bb
  replace bw := below_on bw bb bw.size
  clear bb
  generalize wn.heap.size = g24 at a24 ⊢
  have HP : Hid (InsP i16 i14 ∧ InsP i20 i18 ∧ InsP i24 i22 ∧ WidP i14 p b) := Lib.hid (by
    have h1 := HI14.out
    have h2 := HI16.out
    have h3 := HI18.out
    have h4 := HI20.out
    have h5 := HI22.out
    have h6 := HI24.out
    rw [RX.out.q, Int.toNat_natCast] at h1 h2
    rw [RX.out.q, Int.toNat_natCast, Int.toNat_natCast] at h3 h4 h5 h6
    rw [← HL.out] at h2 h4 h6
    have k1 := HB.out
    have k2 := HD.out
    have k3 := HNS.out
    exact ⟨ins_plain LX.out (by omega) k1.1 (by omega) (by omega) (fun _ => rfl) (by omega) h2 h1, ins_plain LX.out (by omega) k1.1 (by omega) (by omega) (fun h => absurd h (by omega)) (by split <;> omega) h4 h3, ins_plain LX.out (by omega) k1.1 (by omega) (by omega) (fun h => absurd h (by omega)) (by omega) h6 h5, wid_plain LX.out (by omega) k1.1 (by omega) (by omega) (fun _ => rfl) (by omega) h1⟩)
  obtain ⟨⟨x1, x2, x3, x4, x5, x6, x7, x8⟩, ⟨y1, y2, y3, y4, y5, y6, y7, y8⟩, ⟨z1, z2, z3, z4, z5, z6, z7, z8⟩, ⟨u1, u2, u3, u4, u5⟩⟩ := HP.out
  have P1 : Hid (Ins4 i16 i14 x1 x2 x3 x4) := Lib.hid ⟨x5, x6, x7, x8⟩
  have P2 : Hid (Ins4 i20 i18 y1 y2 y3 y4) := Lib.hid ⟨y5, y6, y7, y8⟩
  have P3 : Hid (Ins4 i24 i22 z1 z2 z3 z4) := Lib.hid ⟨z5, z6, z7, z8⟩
  have U3 := Lib.hid u3
  have Z26 := Lib.hid u4
  have U5 := Lib.hid u5
  clear x5 x6 x7 x8 y5 y6 y7 y8 z5 z6 z7 z8 u3 u4 u5 HP HI14 HI16 HI18 HI20 HI22 HI24 a11 HBE HBD
  have ci0 := a14.c0
  have ci1 := a14.c1
  have ci2 := a14.c2
  have ci3 := a14.c3
  have ci4 := a14.c4
  have ci5 := a14.c5
  go_wp2_with fail
  clear ci0 ci1 ci2 ci3 ci4 ci5
  refine (riwidth_rp wm i14 u1 u2 a14.ok U3.out Z26.out).mono ?_
  rintro _ wn ⟨z26, rfl, n26, ok26, bb⟩
  have N26 := Lib.hid n26
  clear n26
  try replace a11 := a11.below bb
  try replace a14 := a14.below bb
  try replace a16 := a16.below bb
  try replace a18 := a18.below bb
  try replace a20 := a20.below bb
  try replace a22 := a22.below bb
  try replace a24 := a24.below bb
  replace bw := below_on bw bb bw.size
  clear bb
  go_upto_region 13 with fail
  have a26 := (fa_alloc ok26).1
  have bb := (fa_alloc ok26).2
  clear ok26
  generalize (wn.alloc (.cells #[.bool z26.b, .slice z26.A z26.xs.length z26.c, .slice z26.D z26.ys.length z26.d] 26)) = wr at a26 bb ⊢
  try replace a11 := a11.below bb
  try replace a14 := a14.below bb
  try replace a16 := a16.below bb
  try replace a18 := a18.below bb
  try replace a20 := a20.below bb
  try replace a22 := a22.below bb
  try replace a24 := a24.below bb
  try replace a26 := a26.below bb
  replace bw := below_on bw bb bw.size
  clear bb
  generalize wn.heap.size = g26 at a26 ⊢
  have H14 := Lib.hid a14
  have H16 := Lib.hid a16
  have H18 := Lib.hid a18
  have H20 := Lib.hid a20
  have H22 := Lib.hid a22
  have H24 := Lib.hid a24
  have H26 := Lib.hid a26
  have HBW := Lib.hid bw
  clear a14 a16 a18 a20 a22 a24 a26 bw
  by_cases h0 : num = 0
  · have HE0 : Hid (((num : Int) == 0) = true) := Lib.hid (by simp [h0])
    clear h0
    refine wp_region_held_drew (S := fun w' => Celi w' g14 i14 ∧ Celi w' g16 i16 ∧ Celi w' g18 i18 ∧ Celi w' g20 i20 ∧ Celi w' g22 i22 ∧ Celi w' g24 i24 ∧ Celf w' g26 z26) (by kernel_rfl) ⟨(H14.out.below ((Below.refl wr.heap.size wr).drew)).cel, (H16.out.below ((Below.refl wr.heap.size wr).drew)).cel, (H18.out.below ((Below.refl wr.heap.size wr).drew)).cel, (H20.out.below ((Below.refl wr.heap.size wr).drew)).cel, (H22.out.below ((Below.refl wr.heap.size wr).drew)).cel, (H24.out.below ((Below.refl wr.heap.size wr).drew)).cel, (H26.out.below ((Below.refl wr.heap.size wr).drew)).cel⟩ (fun hHeld => ?_)
    have bz := (Below.refl wr.heap.size wr).drew
    generalize wr.drew = wd at *
    refine tkw 0 (i16.val) rfl (by kernel_rfl) (by kernel_rfl) (by kernel_rfl) (fun _ _ _ h => h) ⟨by rfl, ?_⟩ (by assumption) ?_
    ·intro w hSw; (try dsimp only at hSw); obtain ⟨_, ⟨s0, s1, s2, s3, s4, s5⟩, _⟩ := hSw; go_simp; (try with_reducible rfl)
    try simp only [Act.put, tzA, tzB, tzD, tzE, tzF]
    refine tkw 1 (i14.val) rfl (by kernel_rfl) (by kernel_rfl) (by kernel_rfl) (fun _ _ _ h => h) ⟨by rfl, ?_⟩ (by assumption) ?_
    ·intro w hSw; (try dsimp only at hSw); obtain ⟨⟨s0, s1, s2, s3, s4, s5⟩, _⟩ := hSw; go_simp; (try with_reducible rfl)
    try simp only [Act.put, tzA, tzB, tzC, tzD, tzE, tzF]
    refine wpAnyH_ready (rs := [2]) (by kernel_rfl) (by simp) ?_
    refine AllReadyH.cons rfl (fun K hK => ?_) ?_
    ·go_simp
     go_at_call 32
     refine (riinside_rp wd i16 i14 _ _ _ _ (H16.out.below bz).ok (H14.out.below bz).ok P1.out.r1 P1.out.r2 P1.out.o1 P1.out.o2).mono ?_
     rintro e wd ⟨rfl, bb⟩
     try replace okp := okp.below bb
     replace bz := below_on bz bb bz.size
     clear bb
     refine hK.out _ _ ⟨(H14.out.below bz).cel, (H16.out.below bz).cel, (H18.out.below bz).cel, (H20.out.below bz).cel, (H22.out.below bz).cel, (H24.out.below bz).cel, (H26.out.below bz).cel⟩ (fun hHeld => ?_)
     clear hK K
     try simp only [Act.put]
     try simp only [tzD, tzE, tzF]
     refine tkw 3 (.bool true) rfl (by kernel_rfl) (by kernel_rfl) (by kernel_rfl) (fun _ _ _ h => h) ⟨by rfl, ?_⟩ (by assumption) ?_
     ·intro w hSw; go_simp; (try with_reducible rfl)
     try simp only [Act.put, tzA, tzB, tzC, tzD, tzE, tzF]
     refine tkw 4 (i20.val) rfl (by kernel_rfl) (by kernel_rfl) (by kernel_rfl) (fun _ _ _ h => h) ⟨by kernel_rfl, ?_⟩ (by assumption) ?_
     ·intro w hSw; (try dsimp only at hSw); obtain ⟨_, _, _, ⟨s0, s1, s2, s3, s4, s5⟩, _⟩ := hSw; go_simp; (try with_reducible rfl)
     try simp only [Act.put, tzA, tzB, tzC, tzD, tzE, tzF]
     refine tkw 5 (i18.val) rfl (by kernel_rfl) (by kernel_rfl) (by kernel_rfl) (fun _ _ _ h => h) ⟨by kernel_rfl, ?_⟩ (by assumption) ?_
     ·intro w hSw; (try dsimp only at hSw); obtain ⟨_, _, ⟨s0, s1, s2, s3, s4, s5⟩, _⟩ := hSw; go_simp; (try with_reducible rfl)
     try simp only [Act.put, tzA, tzB, tzC, tzD, tzE, tzF]
     refine wpAnyH_ready (rs := [6]) (by kernel_rfl) (by simp) ?_
     refine AllReadyH.cons rfl (fun K hK => ?_) ?_
     ·go_simp
      go_at_call 32
      refine (riinside_rp wd i20 i18 _ _ _ _ (H20.out.below bz).ok (H18.out.below bz).ok P2.out.r1 P2.out.r2 P2.out.o1 P2.out.o2).mono ?_
      rintro e wd ⟨rfl, bb⟩
      try replace okp := okp.below bb
      replace bz := below_on bz bb bz.size
      clear bb
      refine hK.out _ _ ⟨(H14.out.below bz).cel, (H16.out.below bz).cel, (H18.out.below bz).cel, (H20.out.below bz).cel, (H22.out.below bz).cel, (H24.out.below bz).cel, (H26.out.below bz).cel⟩ (fun hHeld => ?_)
      clear hK K
      try simp only [Act.put]
      try simp only [tzD, tzE, tzF]
      refine tkw 7 (.bool true) rfl (by kernel_rfl) (by kernel_rfl) (by kernel_rfl) (fun _ _ _ h => h) ⟨by rfl, ?_⟩ (by assumption) ?_
      ·intro w hSw; go_simp; (try with_reducible rfl)
      try simp only [Act.put, tzA, tzB, tzC, tzD, tzE, tzF]
      refine tkw 8 (.bool true) rfl (by kernel_rfl) (by kernel_rfl) (by kernel_rfl) (fun _ _ _ h => h) ⟨by rfl, ?_⟩ (by assumption) ?_
      ·intro w hSw; go_simp; (try with_reducible rfl)
      try simp only [Act.put, tzA, tzB, tzC, tzD, tzE, tzF]
      refine tkw 9 (i24.val) rfl (by kernel_rfl) (by kernel_rfl) (by kernel_rfl) (fun _ _ _ h => h) ⟨by kernel_rfl, ?_⟩ (by assumption) ?_
      ·intro w hSw; (try dsimp only at hSw); obtain ⟨_, _, _, _, _, ⟨s0, s1, s2, s3, s4, s5⟩, _⟩ := hSw; go_simp; (try with_reducible rfl)
      try simp only [Act.put, tzA, tzB, tzC, tzD, tzE, tzF]
      refine tkw 10 (i22.val) rfl (by kernel_rfl) (by kernel_rfl) (by kernel_rfl) (fun _ _ _ h => h) ⟨by kernel_rfl, ?_⟩ (by assumption) ?_
      ·intro w hSw; (try dsimp only at hSw); obtain ⟨_, _, _, _, ⟨s0, s1, s2, s3, s4, s5⟩, _⟩ := hSw; go_simp; (try with_reducible rfl)
      try simp only [Act.put, tzA, tzB, tzC, tzD, tzE, tzF]
      refine wpAnyH_ready (rs := [11]) (by kernel_rfl) (by simp) ?_
      refine AllReadyH.cons rfl (fun K hK => ?_) ?_
      ·go_simp
       go_at_call 32
       refine (riinside_rp wd i24 i22 _ _ _ _ (H24.out.below bz).ok (H22.out.below bz).ok P3.out.r1 P3.out.r2 P3.out.o1 P3.out.o2).mono ?_
       rintro e wd ⟨rfl, bb⟩
       try replace okp := okp.below bb
       replace bz := below_on bz bb bz.size
       clear bb
       refine hK.out _ _ ⟨(H14.out.below bz).cel, (H16.out.below bz).cel, (H18.out.below bz).cel, (H20.out.below bz).cel, (H22.out.below bz).cel, (H24.out.below bz).cel, (H26.out.below bz).cel⟩ (fun hHeld => ?_)
       clear hK K
       try simp only [Act.put]
       try simp only [tzD, tzE, tzF]
       refine tkw 12 (.bool true) rfl (by kernel_rfl) (by kernel_rfl) (by kernel_rfl) (fun _ _ _ h => h) ⟨by rfl, ?_⟩ (by assumption) ?_
       ·intro w hSw; go_simp; (try with_reducible rfl)
       try simp only [Act.put, tzA, tzB, tzC, tzD, tzE, tzF]
       refine tkw 13 (.bool true) rfl (by kernel_rfl) (by kernel_rfl) (by kernel_rfl) (fun _ _ _ h => h) ⟨by rfl, ?_⟩ (by assumption) ?_
       ·intro w hSw; go_simp; (try with_reducible rfl)
       try simp only [Act.put, tzA, tzB, tzC, tzD, tzE, tzF]
       refine tkw 14 (.int .u16 (num : Int)) rfl (by kernel_rfl) (by kernel_rfl) (by kernel_rfl) (fun _ _ _ h => h) ⟨by kernel_rfl, ?_⟩ (by assumption) ?_
       ·intro w hSw; go_simp; (try with_reducible rfl)
       try simp only [Act.put, tzA, tzB, tzC, tzD, tzE, tzF]
       refine tkw 15 (.bool true) rfl (by kernel_rfl) (by kernel_rfl) (by kernel_rfl) (fun _ _ _ h => h) ⟨by kernel_rfl, ?_⟩ (by assumption) ?_
       ·intro w hSw; have e0 := HE0.out; go_simp; (try with_reducible rfl)
       try simp only [Act.put, tzA, tzB, tzC, tzD, tzE, tzF]
       refine tkw 16 (.bool true) rfl (by kernel_rfl) (by kernel_rfl) (by kernel_rfl) (fun _ _ _ h => h) ⟨by kernel_rfl, ?_⟩ (by assumption) ?_
       ·intro w hSw; go_simp; (try with_reducible rfl)
       try simp only [Act.put, tzA, tzB, tzC, tzD, tzE, tzF]
       refine tku 17 rfl (by kernel_rfl) (by kernel_rfl) (by kernel_rfl) (fun _ _ _ h => h) (by kernel_rfl) (by assumption) ?_
       try simp only [Act.put, tzA, tzB, tzC, tzD, tzE, tzF]
       refine tku 18 rfl (by kernel_rfl) (by kernel_rfl) (by kernel_rfl) (fun _ _ _ h => h) (by kernel_rfl) (by assumption) ?_
       try simp only [Act.put, tzA, tzB, tzC, tzD, tzE, tzF]
       refine tku 19 rfl (by kernel_rfl) (by kernel_rfl) (by kernel_rfl) (fun _ _ _ h => h) (by kernel_rfl) (by assumption) ?_
       try simp only [Act.put, tzA, tzB, tzC, tzD, tzE, tzF]
       refine tku 20 rfl (by kernel_rfl) (by kernel_rfl) (by kernel_rfl) (fun _ _ _ h => h) (by kernel_rfl) (by assumption) ?_
       try simp only [Act.put, tzA, tzB, tzC, tzD, tzE, tzF]
       refine tkw 21 (.bool true) rfl (by kernel_rfl) (by kernel_rfl) (by kernel_rfl) (fun _ _ _ h => h) ⟨by kernel_rfl, ?_⟩ (by assumption) ?_
       ·intro w hSw; go_simp; (try with_reducible rfl)
       try simp only [Act.put, tzA, tzB, tzC, tzD, tzE, tzF]
       refine tkw 22 (.bool true) rfl (by kernel_rfl) (by kernel_rfl) (by kernel_rfl) (fun _ _ _ h => h) ⟨by rfl, ?_⟩ (by assumption) ?_
       ·intro w hSw; go_simp; (try with_reducible rfl)
       try simp only [Act.put, tzA, tzB, tzC, tzD, tzE, tzF]
       refine tkw 23 (.bool true) rfl (by kernel_rfl) (by kernel_rfl) (by kernel_rfl) (fun _ _ _ h => h) ⟨by rfl, ?_⟩ (by assumption) ?_
       ·intro w hSw; go_simp; (try with_reducible rfl)
       try simp only [Act.put, tzA, tzB, tzC, tzD, tzE, tzF]
       refine wpAnyH_ready (rs := [24]) (by kernel_rfl) (by simp) ?_
       refine AllReadyH.cons rfl (fun K hK => ?_) ?_
       ·go_simp
        go_at_call 17
        refine (xawake_any wd).mono ?_
        rintro e wd ⟨rfl, bb⟩
        try replace okp := okp.below bb
        replace bz := below_on bz bb bz.size
        clear bb
        refine hK.out _ _ ⟨(H14.out.below bz).cel, (H16.out.below bz).cel, (H18.out.below bz).cel, (H20.out.below bz).cel, (H22.out.below bz).cel, (H24.out.below bz).cel, (H26.out.below bz).cel⟩ (fun hHeld => ?_)
        clear hK K
        try simp only [Act.put]
        try simp only [tzD, tzE, tzF]
        refine tkw 25 (.bool true) rfl (by kernel_rfl) (by kernel_rfl) (by kernel_rfl) (fun _ _ _ h => h) ⟨by rfl, ?_⟩ (by assumption) ?_
        ·intro w hSw; go_simp; (try with_reducible rfl)
        try simp only [Act.put, tzA, tzB, tzC, tzD, tzE, tzF]
        refine wpAnyH_ready (rs := [26]) (by kernel_rfl) (by simp) ?_
        refine AllReadyH.cons rfl (fun K hK => ?_) ?_
        ·go_simp
         refine hK.out _ _ ⟨(H14.out.below bz).cel, (H16.out.below bz).cel, (H18.out.below bz).cel, (H20.out.below bz).cel, (H22.out.below bz).cel, (H24.out.below bz).cel, (H26.out.below bz).cel⟩ (fun hHeld => ?_)
         clear hK K
         try simp only [Act.put]
         try simp only [tzD, tzE, tzF]
         refine wpAnyH_done (by kernel_rfl) ?_ _
         go_wp2_with fail
         go_ret
         exact ⟨rfl, below_on HBW.out bz HBW.out.size⟩
        exact AllReadyH.nil
       exact AllReadyH.nil
      exact AllReadyH.nil
     exact AllReadyH.nil
    exact AllReadyH.nil
  · have HE0 : Hid (((num : Int) == 0) = false) := Lib.hid (beq_eq_false_iff_ne.2 (by omega))
    have HWD : Hid (u2 - u1 = prt 1 b) := Lib.hid (U5.out (HQN.out h0))
    clear h0
    refine wp_region_held_drew (S := fun w' => Celi w' g14 i14 ∧ Celi w' g16 i16 ∧ Celi w' g18 i18 ∧ Celi w' g20 i20 ∧ Celi w' g22 i22 ∧ Celi w' g24 i24 ∧ Celf w' g26 z26) (by kernel_rfl) ⟨(H14.out.below ((Below.refl wr.heap.size wr).drew)).cel, (H16.out.below ((Below.refl wr.heap.size wr).drew)).cel, (H18.out.below ((Below.refl wr.heap.size wr).drew)).cel, (H20.out.below ((Below.refl wr.heap.size wr).drew)).cel, (H22.out.below ((Below.refl wr.heap.size wr).drew)).cel, (H24.out.below ((Below.refl wr.heap.size wr).drew)).cel, (H26.out.below ((Below.refl wr.heap.size wr).drew)).cel⟩ (fun hHeld => ?_)
    have bz := (Below.refl wr.heap.size wr).drew
    generalize wr.drew = wd at *
    refine tkw 0 (i16.val) rfl (by kernel_rfl) (by kernel_rfl) (by kernel_rfl) (fun _ _ _ h => h) ⟨by rfl, ?_⟩ (by assumption) ?_
    ·intro w hSw; (try dsimp only at hSw); obtain ⟨_, ⟨s0, s1, s2, s3, s4, s5⟩, _⟩ := hSw; go_simp; (try with_reducible rfl)
    try simp only [Act.put, tzA, tzB, tzD, tzE, tzF]
    refine tkw 1 (i14.val) rfl (by kernel_rfl) (by kernel_rfl) (by kernel_rfl) (fun _ _ _ h => h) ⟨by rfl, ?_⟩ (by assumption) ?_
    ·intro w hSw; (try dsimp only at hSw); obtain ⟨⟨s0, s1, s2, s3, s4, s5⟩, _⟩ := hSw; go_simp; (try with_reducible rfl)
    try simp only [Act.put, tzA, tzB, tzC, tzD, tzE, tzF]
    refine wpAnyH_ready (rs := [2]) (by kernel_rfl) (by simp) ?_
    refine AllReadyH.cons rfl (fun K hK => ?_) ?_
    ·go_simp
     go_at_call 32
     refine (riinside_rp wd i16 i14 _ _ _ _ (H16.out.below bz).ok (H14.out.below bz).ok P1.out.r1 P1.out.r2 P1.out.o1 P1.out.o2).mono ?_
     rintro e wd ⟨rfl, bb⟩
     try replace okp := okp.below bb
     replace bz := below_on bz bb bz.size
     clear bb
     refine hK.out _ _ ⟨(H14.out.below bz).cel, (H16.out.below bz).cel, (H18.out.below bz).cel, (H20.out.below bz).cel, (H22.out.below bz).cel, (H24.out.below bz).cel, (H26.out.below bz).cel⟩ (fun hHeld => ?_)
     clear hK K
     try simp only [Act.put]
     try simp only [tzD, tzE, tzF]
     refine tkw 3 (.bool true) rfl (by kernel_rfl) (by kernel_rfl) (by kernel_rfl) (fun _ _ _ h => h) ⟨by rfl, ?_⟩ (by assumption) ?_
     ·intro w hSw; go_simp; (try with_reducible rfl)
     try simp only [Act.put, tzA, tzB, tzC, tzD, tzE, tzF]
     refine tkw 4 (i20.val) rfl (by kernel_rfl) (by kernel_rfl) (by kernel_rfl) (fun _ _ _ h => h) ⟨by kernel_rfl, ?_⟩ (by assumption) ?_
     ·intro w hSw; (try dsimp only at hSw); obtain ⟨_, _, _, ⟨s0, s1, s2, s3, s4, s5⟩, _⟩ := hSw; go_simp; (try with_reducible rfl)
     try simp only [Act.put, tzA, tzB, tzC, tzD, tzE, tzF]
     refine tkw 5 (i18.val) rfl (by kernel_rfl) (by kernel_rfl) (by kernel_rfl) (fun _ _ _ h => h) ⟨by kernel_rfl, ?_⟩ (by assumption) ?_
     ·intro w hSw; (try dsimp only at hSw); obtain ⟨_, _, ⟨s0, s1, s2, s3, s4, s5⟩, _⟩ := hSw; go_simp; (try with_reducible rfl)
     try simp only [Act.put, tzA, tzB, tzC, tzD, tzE, tzF]
     refine wpAnyH_ready (rs := [6]) (by kernel_rfl) (by simp) ?_
     refine AllReadyH.cons rfl (fun K hK => ?_) ?_
     ·go_simp
      go_at_call 32
      refine (riinside_rp wd i20 i18 _ _ _ _ (H20.out.below bz).ok (H18.out.below bz).ok P2.out.r1 P2.out.r2 P2.out.o1 P2.out.o2).mono ?_
      rintro e wd ⟨rfl, bb⟩
      try replace okp := okp.below bb
      replace bz := below_on bz bb bz.size
      clear bb
      refine hK.out _ _ ⟨(H14.out.below bz).cel, (H16.out.below bz).cel, (H18.out.below bz).cel, (H20.out.below bz).cel, (H22.out.below bz).cel, (H24.out.below bz).cel, (H26.out.below bz).cel⟩ (fun hHeld => ?_)
      clear hK K
      try simp only [Act.put]
      try simp only [tzD, tzE, tzF]
      refine tkw 7 (.bool true) rfl (by kernel_rfl) (by kernel_rfl) (by kernel_rfl) (fun _ _ _ h => h) ⟨by rfl, ?_⟩ (by assumption) ?_
      ·intro w hSw; go_simp; (try with_reducible rfl)
      try simp only [Act.put, tzA, tzB, tzC, tzD, tzE, tzF]
      refine tkw 8 (.bool true) rfl (by kernel_rfl) (by kernel_rfl) (by kernel_rfl) (fun _ _ _ h => h) ⟨by rfl, ?_⟩ (by assumption) ?_
      ·intro w hSw; go_simp; (try with_reducible rfl)
      try simp only [Act.put, tzA, tzB, tzC, tzD, tzE, tzF]
      refine tkw 9 (i24.val) rfl (by kernel_rfl) (by kernel_rfl) (by kernel_rfl) (fun _ _ _ h => h) ⟨by kernel_rfl, ?_⟩ (by assumption) ?_
      ·intro w hSw; (try dsimp only at hSw); obtain ⟨_, _, _, _, _, ⟨s0, s1, s2, s3, s4, s5⟩, _⟩ := hSw; go_simp; (try with_reducible rfl)
      try simp only [Act.put, tzA, tzB, tzC, tzD, tzE, tzF]
      refine tkw 10 (i22.val) rfl (by kernel_rfl) (by kernel_rfl) (by kernel_rfl) (fun _ _ _ h => h) ⟨by kernel_rfl, ?_⟩ (by assumption) ?_
      ·intro w hSw; (try dsimp only at hSw); obtain ⟨_, _, _, _, ⟨s0, s1, s2, s3, s4, s5⟩, _⟩ := hSw; go_simp; (try with_reducible rfl)
      try simp only [Act.put, tzA, tzB, tzC, tzD, tzE, tzF]
      refine wpAnyH_ready (rs := [11]) (by kernel_rfl) (by simp) ?_
      refine AllReadyH.cons rfl (fun K hK => ?_) ?_
      ·go_simp
       go_at_call 32
       refine (riinside_rp wd i24 i22 _ _ _ _ (H24.out.below bz).ok (H22.out.below bz).ok P3.out.r1 P3.out.r2 P3.out.o1 P3.out.o2).mono ?_
       rintro e wd ⟨rfl, bb⟩
       try replace okp := okp.below bb
       replace bz := below_on bz bb bz.size
       clear bb
       refine hK.out _ _ ⟨(H14.out.below bz).cel, (H16.out.below bz).cel, (H18.out.below bz).cel, (H20.out.below bz).cel, (H22.out.below bz).cel, (H24.out.below bz).cel, (H26.out.below bz).cel⟩ (fun hHeld => ?_)
       clear hK K
       try simp only [Act.put]
       try simp only [tzD, tzE, tzF]
       refine tkw 12 (.bool true) rfl (by kernel_rfl) (by kernel_rfl) (by kernel_rfl) (fun _ _ _ h => h) ⟨by rfl, ?_⟩ (by assumption) ?_
       ·intro w hSw; go_simp; (try with_reducible rfl)
       try simp only [Act.put, tzA, tzB, tzC, tzD, tzE, tzF]
       refine tkw 13 (.bool true) rfl (by kernel_rfl) (by kernel_rfl) (by kernel_rfl) (fun _ _ _ h => h) ⟨by rfl, ?_⟩ (by assumption) ?_
       ·intro w hSw; go_simp; (try with_reducible rfl)
       try simp only [Act.put, tzA, tzB, tzC, tzD, tzE, tzF]
       refine tkw 14 (.int .u16 (num : Int)) rfl (by kernel_rfl) (by kernel_rfl) (by kernel_rfl) (fun _ _ _ h => h) ⟨by kernel_rfl, ?_⟩ (by assumption) ?_
       ·intro w hSw; go_simp; (try with_reducible rfl)
       try simp only [Act.put, tzA, tzB, tzC, tzD, tzE, tzF]
       refine tkw 15 (.bool false) rfl (by kernel_rfl) (by kernel_rfl) (by kernel_rfl) (fun _ _ _ h => h) ⟨by kernel_rfl, ?_⟩ (by assumption) ?_
       ·intro w hSw; have e0 := HE0.out; go_simp; (try with_reducible rfl)
       try simp only [Act.put, tzA, tzB, tzC, tzD, tzE, tzF]
       refine tkw 16 (.bool false) rfl (by kernel_rfl) (by kernel_rfl) (by kernel_rfl) (fun _ _ _ h => h) ⟨by kernel_rfl, ?_⟩ (by assumption) ?_
       ·intro w hSw; go_simp; (try with_reducible rfl)
       try simp only [Act.put, tzA, tzB, tzC, tzD, tzE, tzF]
       refine tkw 17 (z26.val) rfl (by kernel_rfl) (by kernel_rfl) (by kernel_rfl) (fun _ _ _ h => h) ⟨by kernel_rfl, ?_⟩ (by assumption) ?_
       ·intro w hSw; (try dsimp only at hSw); obtain ⟨_, _, _, _, _, _, s0, s1, s2⟩ := hSw; go_simp; (try with_reducible rfl)
       try simp only [Act.put, tzA, tzB, tzC, tzD, tzE, tzF]
       refine tkw 18 (.int .i64 (b : Int)) rfl (by kernel_rfl) (by kernel_rfl) (by kernel_rfl) (fun _ _ _ h => h) ⟨by kernel_rfl, ?_⟩ (by assumption) ?_
       ·intro w hSw; go_simp; (try with_reducible rfl)
       try simp only [Act.put, tzA, tzB, tzC, tzD, tzE, tzF]
       refine wpAnyH_ready (rs := [19]) (by kernel_rfl) (by simp) ?_
       refine AllReadyH.cons rfl (fun K hK => ?_) ?_
       ·go_simp
        go_at_call 34
        refine (rpower_rp wd b (by have := HB.out; omega)).mono ?_
        rintro e wd ⟨pw, rfl, qp, vp, fp, okp, bb⟩
        try replace okp := okp.below bb
        replace bz := below_on bz bb bz.size
        clear bb
        refine hK.out _ _ ⟨(H14.out.below bz).cel, (H16.out.below bz).cel, (H18.out.below bz).cel, (H20.out.below bz).cel, (H22.out.below bz).cel, (H24.out.below bz).cel, (H26.out.below bz).cel⟩ (fun hHeld => ?_)
        clear hK K
        try simp only [Act.put]
        try simp only [tzD, tzE, tzF]
        refine wpAnyH_ready (rs := [20]) (by kernel_rfl) (by simp) ?_
        refine AllReadyH.cons rfl (fun K hK => ?_) ?_
        ·go_simp
         go_at_call 33
         refine (rsame_any wd z26 pw true (H26.out.below bz).ok okp (N26.out.v Z26.out) vp (N26.out.few Z26.out) fp (decide_eq_true (by rw [N26.out.q, qp]; exact HWD.out))).mono ?_
         rintro e wd ⟨rfl, bb⟩
         try replace okp := okp.below bb
         replace bz := below_on bz bb bz.size
         clear bb
         refine hK.out _ _ ⟨(H14.out.below bz).cel, (H16.out.below bz).cel, (H18.out.below bz).cel, (H20.out.below bz).cel, (H22.out.below bz).cel, (H24.out.below bz).cel, (H26.out.below bz).cel⟩ (fun hHeld => ?_)
         clear hK K
         try simp only [Act.put]
         try simp only [tzD, tzE, tzF]
         refine tkw 21 (.bool true) rfl (by kernel_rfl) (by kernel_rfl) (by kernel_rfl) (fun _ _ _ h => h) ⟨by kernel_rfl, ?_⟩ (by assumption) ?_
         ·intro w hSw; go_simp; (try with_reducible rfl)
         try simp only [Act.put, tzA, tzB, tzC, tzD, tzE, tzF]
         refine tkw 22 (.bool true) rfl (by kernel_rfl) (by kernel_rfl) (by kernel_rfl) (fun _ _ _ h => h) ⟨by rfl, ?_⟩ (by assumption) ?_
         ·intro w hSw; go_simp; (try with_reducible rfl)
         try simp only [Act.put, tzA, tzB, tzC, tzD, tzE, tzF]
         refine tkw 23 (.bool true) rfl (by kernel_rfl) (by kernel_rfl) (by kernel_rfl) (fun _ _ _ h => h) ⟨by rfl, ?_⟩ (by assumption) ?_
         ·intro w hSw; go_simp; (try with_reducible rfl)
         try simp only [Act.put, tzA, tzB, tzC, tzD, tzE, tzF]
         refine wpAnyH_ready (rs := [24]) (by kernel_rfl) (by simp) ?_
         refine AllReadyH.cons rfl (fun K hK => ?_) ?_
         ·go_simp
          go_at_call 17
          refine (xawake_any wd).mono ?_
          rintro e wd ⟨rfl, bb⟩
          try replace okp := okp.below bb
          replace bz := below_on bz bb bz.size
          clear bb
          refine hK.out _ _ ⟨(H14.out.below bz).cel, (H16.out.below bz).cel, (H18.out.below bz).cel, (H20.out.below bz).cel, (H22.out.below bz).cel, (H24.out.below bz).cel, (H26.out.below bz).cel⟩ (fun hHeld => ?_)
          clear hK K
          try simp only [Act.put]
          try simp only [tzD, tzE, tzF]
          refine tkw 25 (.bool true) rfl (by kernel_rfl) (by kernel_rfl) (by kernel_rfl) (fun _ _ _ h => h) ⟨by rfl, ?_⟩ (by assumption) ?_
          ·intro w hSw; go_simp; (try with_reducible rfl)
          try simp only [Act.put, tzA, tzB, tzC, tzD, tzE, tzF]
          refine wpAnyH_ready (rs := [26]) (by kernel_rfl) (by simp) ?_
          refine AllReadyH.cons rfl (fun K hK => ?_) ?_
          ·go_simp
           refine hK.out _ _ ⟨(H14.out.below bz).cel, (H16.out.below bz).cel, (H18.out.below bz).cel, (H20.out.below bz).cel, (H22.out.below bz).cel, (H24.out.below bz).cel, (H26.out.below bz).cel⟩ (fun hHeld => ?_)
           clear hK K
           try simp only [Act.put]
           try simp only [tzD, tzE, tzF]
           refine wpAnyH_done (by kernel_rfl) ?_ _
           go_wp2_with fail
           go_ret
           exact ⟨rfl, below_on HBW.out bz HBW.out.size⟩
          exact AllReadyH.nil
         exact AllReadyH.nil
        exact AllReadyH.nil
       exact AllReadyH.nil
      exact AllReadyH.nil
     exact AllReadyH.nil
    exact AllReadyH.nil
theorem nes_law (w : World) (a c d e f : Int) (h1 : (Lit.int .u16 a).wf = true) (h3 : (Lit.int .u8 c).wf = true) (h4 : (Lit.int .u8 d).wf = true) (h5 : (Lit.int .u8 e).wf = true) (h6 : (Lit.int .u8 f).wf = true) :
    Calls Try.prog 9 #[.int .u16 a, .int .u8 c, .int .u8 d, .int .u8 e, .int .u8 f] w fun e w' => e = .returned (.bool true) ∧ Below w.heap.size w w' := by
  obtain ⟨na, rfl, hna⟩ := wf_u16 h1
  obtain ⟨den, rfl, hd⟩ := wf_u8 h3
  obtain ⟨ns, rfl, hn⟩ := wf_u8 h4
  obtain ⟨bs, rfl, hb⟩ := wf_u8 h5
  obtain ⟨ms, rfl, hm⟩ := wf_u8 h6
  exact nes_walk w na den ns bs ms hna hd hn hb hm
end Go.Proofs.Ytnmomigaedfdoaa
