/- The walk of drydocklaw04.number. The walk of ExpoTerms. -/
import Derived.Test.YtnmomigaedfdoaaExM
import Derived.Test.YtnmomigaedfdoaaLwD
namespace Go.Proofs.Ytnmomigaedfdoaa
set_option maxRecDepth 100000
open Go.RowKit

/-- a fraction from 0 to 64 -/
def numP (num den : Nat) : Rat := Rat.divInt (num : Int) ((den : Int) + 1)
def numQ (num den : Nat) : Rat := if ((64 : Int) : Rat) < numP num den then ((64 : Int) : Rat) else numP num den
theorem sz_64 : Sz ((64 : Int) : Rat) 128 128 := sz_sm (by decide) (by decide)
theorem numP_sz {num den : Nat} (hn : num < 65536) (hd : den < 256) : Sz (numP num den) 128 128 ∧ (lim (numP num den).num.natAbs).length ≤ 2 ∧ (lim (numP num den).den).length ≤ 2 := by
  have h : Sz (numP num den) 2 2 := by
    rw [numP, ← qv_divInt (by omega)]
    exact Sz.of_qv (by omega) (lim_len2 (by omega)) (lim_len2 (by omega))
  exact ⟨h.mono (by omega) (by omega), h.1, h.2⟩
theorem numP_nonneg (num den : Nat) : 0 ≤ numP num den := by
  rw [numP, Rat.divInt_eq_div]
  have h1 : (0 : Rat) ≤ ((num : Int) : Rat) := Rat.intCast_nonneg.2 (by omega)
  have h2 : (0 : Rat) < (((den : Int) + 1 : Int) : Rat) := Rat.intCast_pos.2 (by omega)
  have h3 : ((num : Int) : Rat) / (((den : Int) + 1 : Int) : Rat) * (((den : Int) + 1 : Int) : Rat) = ((num : Int) : Rat) := Rat.div_mul_cancel (by grind)
  generalize ((num : Int) : Rat) / (((den : Int) + 1 : Int) : Rat) = c at h3 ⊢
  generalize (((den : Int) + 1 : Int) : Rat) = b at h2 h3
  rcases Rat.le_total (a := 0) (b := c) with h | h
  · exact h
  · by_cases h0 : c = 0
    · grind
    · have := Rat.mul_pos (a := -c) (b := b) (by grind) h2
      grind
theorem numQ_ok {num den : Nat} (hn : num < 65536) (hd : den < 256) : Sz (numQ num den) 128 128 ∧ 0 ≤ numQ num den ∧ ¬ (64 : Rat) < numQ num den ∧ ¬ longP (numQ num den) := by
  obtain ⟨h1, h2, h3⟩ := numP_sz hn hd
  have e : ((64 : Int) : Rat) = 64 := rfl
  by_cases h : ((64 : Int) : Rat) < numP num den
  · rw [numQ, if_pos h]
    refine ⟨sz_64, by decide, by decide, ?_⟩
    intro k
    have l1 : (lim ((64 : Int) : Rat).num.natAbs).length ≤ 2 := lim_len2 (by decide)
    have l2 : (lim ((64 : Int) : Rat).den).length ≤ 2 := lim_len2 (by decide)
    rcases k with k | k <;> omega
  · rw [numQ, if_neg h]
    refine ⟨h1, numP_nonneg _ _, by rw [← e]; exact h, ?_⟩
    intro k
    rcases k with k | k <;> omega
set_option maxHeartbeats 1600000 in
theorem number_any (w : World) (num den : Nat) (hn : num < 65536) (hd : den < 256) :
    Calls Try.prog 13 #[.int .u16 (num : Int), .int .u8 (den : Int)] w fun e w' => ∃ y : Fx, e = .returned y.val ∧ Rp y (numQ num den) ∧ y.ok w' ∧ Below w.heap.size w w' := by
  have HSZ := Lib.hid (numP_sz hn hd).1
  go_enter Try.func13, Try.ntmps13
  go_upto_region 1 with fail
  have bw := (Below.refl w.heap.size w).alloc (Nat.le_refl _) (.cells #[.bool false, .slice none 0 0, .slice none 0 0] 26)
  have bk := bk3_new w
  generalize (w.alloc (.cells #[.bool false, .slice none 0 0, .slice none 0 0] 26)) = w1 at bw bk ⊢
  go_wp2_with fail
  refine (rfmake_any w1 (num : Int) ((den : Int) + 1) (okS (numP num den)) (by omega) (by omega) (by omega) (by omega) (by rw [makeF, if_neg (by omega)]; exact frS_ok HSZ.out)).mono ?_
  rintro _ w2 ⟨y, rfl, hs, oky, bb⟩
  have HY := Lib.hid (Rp.of hs)
  replace bk := bk.below bb
  replace bw := below_on bw bb bw.size
  clear bb hs
  go_upto_region 2 with fail
  have a5 := (fa_alloc oky).1
  have bb := (fa_alloc oky).2
  clear oky
  generalize (w2.alloc (.cells #[.bool y.b, .slice y.A y.xs.length y.c, .slice y.D y.ys.length y.d] 26)) = w3 at a5 bb ⊢
  replace bk := bk.below bb
  replace bw := below_on bw bb bw.size
  clear bb
  generalize w2.heap.size = g5 at a5 ⊢
  have A5 := Lib.hid a5
  have B1 := Lib.hid bk
  have HBW := Lib.hid bw
  clear a5 bk bw
  by_cases hb : ((64 : Int) : Rat) < numP num den
  · have HB := Lib.hid hb
    clear hb
    refine wp_region_held_drew (S := fun w' => w'.cell? ⟨g5, 0, none⟩ = some (.bool y.b) ∧ w'.cell? ⟨g5, 1, none⟩ = some (.slice y.A y.xs.length y.c) ∧ w'.cell? ⟨g5, 2, none⟩ = some (.slice y.D y.ys.length y.d)) (by kernel_rfl) ⟨(A5.out.below ((Below.refl w3.heap.size w3).drew)).c0, (A5.out.below ((Below.refl w3.heap.size w3).drew)).c1, (A5.out.below ((Below.refl w3.heap.size w3).drew)).c2⟩ (fun hHeld => ?_)
    have bz := (Below.refl w3.heap.size w3).drew
    generalize w3.drew = wd at *
    refine tkw 1 (y.val) rfl (by kernel_rfl) (by kernel_rfl) (by kernel_rfl) (fun _ _ _ h => h) ⟨by rfl, ?_⟩ (by assumption) ?_
    ·intro w hSw; (try dsimp only at hSw); obtain ⟨s0, s1, s2⟩ := hSw; go_simp; (try with_reducible rfl)
    try simp only [Act.put, tzA, tzB, tzC, tzD, tzE, tzF]
    refine wpAnyH_ready (rs := [0]) (by kernel_rfl) (by simp) ?_
    refine AllReadyH.cons rfl (fun K hK => ?_) ?_
    ·go_simp
     go_at_call 16
     refine (xint_any wd 64 (by omega) (by omega)).mono ?_
     rintro _ wd ⟨z1, rfl, rz, oz, bb⟩
     try replace oz := oz.below bb
     replace bz := below_on bz bb bz.size
     clear bb
     refine hK.out _ _ ⟨(A5.out.below bz).c0, (A5.out.below bz).c1, (A5.out.below bz).c2⟩ (fun hHeld => ?_)
     clear hK K
     try simp only [Act.put]
     try simp only [tzD, tzE, tzF]
     refine wpAnyH_ready (rs := [2]) (by kernel_rfl) (by simp) ?_
     refine AllReadyH.cons rfl (fun K hK => ?_) ?_
     ·go_simp
      go_at_call 15
      refine (xless_any wd z1 y true oz (A5.out.below bz).ok (rz.v sz_64) (HY.out.v HSZ.out) (rz.l1 sz_64) (rz.l2 sz_64) (HY.out.l1 HSZ.out) (HY.out.l2 HSZ.out) (by rw [rz.q, HY.out.q]; exact decide_eq_true HB.out)).mono ?_
      rintro _ wd ⟨rfl, bb⟩
      try replace oz := oz.below bb
      replace bz := below_on bz bb bz.size
      clear bb
      refine hK.out _ _ ⟨(A5.out.below bz).c0, (A5.out.below bz).c1, (A5.out.below bz).c2⟩ (fun hHeld => ?_)
      clear hK K
      try simp only [Act.put]
      try simp only [tzD, tzE, tzF]
      refine wpAnyH_done (by kernel_rfl) ?_ _
      have bq := B1.out.below bz
      have bt := below_on HBW.out bz HBW.out.size
      clear bz oz rz
      go_wp2_with fail
      refine (xint_any wd 64 (by omega) (by omega)).mono ?_
      rintro _ we ⟨z2, rfl, rz, oz, bb⟩
      replace bq := bq.below bb
      replace bt := below_on bt bb bt.size
      clear bb
      have tk := bq
      obtain ⟨k0, k1, k2, kf0, kf1, kf2, klt, kb⟩ := tk
      clear kb
      go_wp2_with fail
      refine bodyPost_ret (v := z2.val) (by simp [results, Try.results13, go_sem, k0, k1, k2]) rfl ?_
      exact ⟨z2, rfl, by rw [numQ, if_pos HB.out]; exact rz, set3_ok oz bq rfl rfl rfl, set3g bt (Nat.le_refl _)⟩
     exact AllReadyH.nil
    exact AllReadyH.nil
  · have HB : Hid (¬ ((64 : Int) : Rat) < numP num den) := Lib.hid hb
    clear hb
    refine wp_region_held_drew (S := fun w' => w'.cell? ⟨g5, 0, none⟩ = some (.bool y.b) ∧ w'.cell? ⟨g5, 1, none⟩ = some (.slice y.A y.xs.length y.c) ∧ w'.cell? ⟨g5, 2, none⟩ = some (.slice y.D y.ys.length y.d)) (by kernel_rfl) ⟨(A5.out.below ((Below.refl w3.heap.size w3).drew)).c0, (A5.out.below ((Below.refl w3.heap.size w3).drew)).c1, (A5.out.below ((Below.refl w3.heap.size w3).drew)).c2⟩ (fun hHeld => ?_)
    have bz := (Below.refl w3.heap.size w3).drew
    generalize w3.drew = wd at *
    refine tkw 1 (y.val) rfl (by kernel_rfl) (by kernel_rfl) (by kernel_rfl) (fun _ _ _ h => h) ⟨by rfl, ?_⟩ (by assumption) ?_
    ·intro w hSw; (try dsimp only at hSw); obtain ⟨s0, s1, s2⟩ := hSw; go_simp; (try with_reducible rfl)
    try simp only [Act.put, tzA, tzB, tzC, tzD, tzE, tzF]
    refine wpAnyH_ready (rs := [0]) (by kernel_rfl) (by simp) ?_
    refine AllReadyH.cons rfl (fun K hK => ?_) ?_
    ·go_simp
     go_at_call 16
     refine (xint_any wd 64 (by omega) (by omega)).mono ?_
     rintro _ wd ⟨z1, rfl, rz, oz, bb⟩
     try replace oz := oz.below bb
     replace bz := below_on bz bb bz.size
     clear bb
     refine hK.out _ _ ⟨(A5.out.below bz).c0, (A5.out.below bz).c1, (A5.out.below bz).c2⟩ (fun hHeld => ?_)
     clear hK K
     try simp only [Act.put]
     try simp only [tzD, tzE, tzF]
     refine wpAnyH_ready (rs := [2]) (by kernel_rfl) (by simp) ?_
     refine AllReadyH.cons rfl (fun K hK => ?_) ?_
     ·go_simp
      go_at_call 15
      refine (xless_any wd z1 y false oz (A5.out.below bz).ok (rz.v sz_64) (HY.out.v HSZ.out) (rz.l1 sz_64) (rz.l2 sz_64) (HY.out.l1 HSZ.out) (HY.out.l2 HSZ.out) (by rw [rz.q, HY.out.q]; exact decide_eq_false HB.out)).mono ?_
      rintro _ wd ⟨rfl, bb⟩
      try replace oz := oz.below bb
      replace bz := below_on bz bb bz.size
      clear bb
      refine hK.out _ _ ⟨(A5.out.below bz).c0, (A5.out.below bz).c1, (A5.out.below bz).c2⟩ (fun hHeld => ?_)
      clear hK K
      try simp only [Act.put]
      try simp only [tzD, tzE, tzF]
      refine wpAnyH_done (by kernel_rfl) ?_ _
      have bq := B1.out.below bz
      have bt := below_on HBW.out bz HBW.out.size
      have aq := A5.out.below bz
      clear bz oz rz
      have tk := bq
      obtain ⟨k0, k1, k2, kf0, kf1, kf2, klt, kb⟩ := tk
      clear kb
      have tq := aq.bk
      obtain ⟨q0, q1, q2, qf0, qf1, qf2, qlt, qb⟩ := tq
      clear qb
      go_wp2_with fail
      refine bodyPost_ret (v := y.val) (by simp [results, Try.results13, go_sem, k0, k1, k2]) rfl ?_
      exact ⟨y, rfl, by rw [numQ, if_neg HB.out]; exact HY.out, set3_ok aq.ok bq rfl rfl rfl, set3g bt (Nat.le_refl _)⟩
     exact AllReadyH.nil
    exact AllReadyH.nil
end Go.Proofs.Ytnmomigaedfdoaa
namespace Go.Proofs.Ytnmomigaedfdoaa
set_option maxRecDepth 100000
open Go.RowKit

theorem num_chk {x : Fx} {num den b : Nat} {n : Int} (h : Rp x (numQ num den)) (hn : num < 65536) (hd : den < 256) (b0 : 1 ≤ b) (b1 : b ≤ 64) (n0 : 0 ≤ n) (n1 : n ≤ 256) : chkE x (b : Int) n = 0 := by
  obtain ⟨h1, h2, h3, h4⟩ := numQ_ok hn hd
  have hr : ¬ rangeP (numQ num den) (b : Int) n := by
    rintro (k | k | k | k | k | k)
    · exact absurd k (by grind)
    · exact h3 k
    · omega
    · omega
    · omega
    · omega
  rw [chkE_rp h h1, if_neg hr, if_neg h4]
theorem wf_u16 {z : Int} (h : (Lit.int .u16 z).wf = true) : ∃ n : Nat, z = (n : Int) ∧ n < 65536 := by
  simp [Lit.wf, IntKind.min, IntKind.max, IntKind.signed, IntKind.bits] at h
  exact ⟨z.toNat, by omega, by omega⟩
theorem wf_u8 {z : Int} (h : (Lit.int .u8 z).wf = true) : ∃ n : Nat, z = (n : Int) ∧ n < 256 := by
  simp [Lit.wf, IntKind.min, IntKind.max, IntKind.signed, IntKind.bits] at h
  exact ⟨z.toNat, by omega, by omega⟩
end Go.Proofs.Ytnmomigaedfdoaa
