/- The walk of ExpoTerms. -/
import Derived.Test.YtnmomigaedfdoaaExN
namespace Go.Proofs.Ytnmomigaedfdoaa
set_option maxRecDepth 100000
open Go.RowKit

theorem num_chk {x : Fx} {num den b : Nat} {n : Int} (h : Rp x (numQ num den)) (hn : num < 65536) (hd : den < 256) (b0 : 1 ≤ b) (b1 : b ≤ 64) (n0 : 0 ≤ n) (n1 : n ≤ 256) : chkE x (b : Int) n = 0 := by
  obtain ⟨h1, h2, h3, h4⟩ := numQ_ok hn hd
  have hr : ¬ rangeP (numQ num den) (b : Int) n := by
    rintro (k | k | k | k | k | k)
    · exact absurd k (by grind)
    · exact h3 k
    · omega
    · omega
    · omega
    · omega
  rw [chkE_rp h h1, if_neg hr, if_neg h4]
/-- the tail's lower end is zero just where the sum is below one unit -/
theorem tail_zero {q : Rat} {n b : Nat} {i : Ix} (h : encP q n b 2 0 i) : (q = 0 → Rp i.lo 0) ∧ (q ≠ 0 → zP q b n → Rp i.lo 0) := by
  refine ⟨fun k => (h.1 k).1, fun k hz => ?_⟩
  have h1 := (h.2 k).1
  have e : floorM q.num.natAbs q.den n b 2 = 0 := hz
  rw [e] at h1
  have e2 : prt 0 b = 0 := by
    show mkRat (sg false 0) (2 ^ b) = 0
    rw [show sg false 0 = 0 from rfl, Rat.zero_mkRat]
  rw [e2] at h1
  exact h1
theorem tail_pos {q : Rat} {n b : Nat} {i : Ix} (h : encP q n b 2 0 i) (hq : q ≠ 0) (hz : ¬ zP q b n) (ho : XOk q.num.natAbs q.den) (hn : n ≤ 256) (b0 : 1 ≤ b) (b1 : b ≤ 64) : ∃ r : Rat, Rp i.lo r ∧ 0 < r ∧ Sz r 128 128 := by
  have h1 := (h.2 hq).1
  have hle := floorM_le (kind := 2) ho hn b0 b1
  have h0 : floorM q.num.natAbs q.den n b 2 ≠ 0 := hz
  generalize floorM q.num.natAbs q.den n b 2 = m at h1 hle h0
  have hp := pow64 b1
  refine ⟨_, h1, ?_, Sz.of_qv (by omega) (len128 (by omega)) (len128 (by omega))⟩
  show 0 < qv false m (2 ^ b)
  have hne : (2 ^ b : Nat) ≠ 0 := by omega
  have h5 : ¬ (qv false m (2 ^ b)).num < 0 := by
    have := qv_neg' (b := false) (n := m) hne
    intro k
    rw [decide_eq_true k] at this
    simp at this
  have h6 : 0 ≤ qv false m (2 ^ b) := Rat.num_nonneg.1 (by omega)
  have h7 : qv false m (2 ^ b) ≠ 0 := fun k => h0 ((qv_zero hne).1 k)
  grind
set_option maxHeartbeats 1600000 in
theorem terms_walk (w : World) (num den bs : Nat) (hn : num < 65536) (hd : den < 256) (hb : bs < 256) :
    Calls Try.prog 12 #[.int .u16 (num : Int), .int .u8 (den : Int), .int .u8 (bs : Int)] w fun e w' => e = .returned (.bool true) ∧ Below w.heap.size w w' := by
  obtain ⟨hsz, hq0, hq64, hlg⟩ := numQ_ok hn hd
  have HSZ := Lib.hid hsz
  clear hsz hq0 hq64 hlg
  go_enter Try.func12, Try.ntmps12
  go_wp2_with fail
  refine (number_any w num den hn hd).mono ?_
  rintro _ w1 ⟨x, rfl, rx, okx, bw⟩
  have RX := Lib.hid rx
  have L1 := Lib.hid (rx.l1 HSZ.out)
  have L2 := Lib.hid (rx.l2 HSZ.out)
  clear rx
  go_upto_region 2 with fail
  have a7 := (fa_alloc okx).1
  have bb := (fa_alloc okx).2
  clear okx
  generalize (w1.alloc (.cells #[.bool x.b, .slice x.A x.xs.length x.c, .slice x.D x.ys.length x.d] 26)) = w2 at a7 bb ⊢
  replace bw := below_on bw bb bw.size
  clear bb
  generalize w1.heap.size = g7 at a7 ⊢
  obtain ⟨r, hr⟩ : ∃ r, bs % 64 = r := ⟨_, rfl⟩
  have hr64 : r < 64 := by omega
  have em : (bs : Int).tmod 64 = (r : Int) := by rw [Int.tmod_eq_emod_of_nonneg (by omega)]; omega
  have em2 : (bs : Int) % 64 = (r : Int) := by omega
  obtain ⟨b, hbb⟩ : ∃ b, 1 + r = b := ⟨_, rfl⟩
  have HB : Hid (1 ≤ b ∧ b ≤ 64) := Lib.hid (by omega)
  have HBE : Hid ((1 : Int) + (r : Int) = (b : Int)) := Lib.hid (by omega)
  clear hr hbb
  go_upto_region 3 with fail
  rw [HBE.out]
  have ci0 := a7.c0
  have ci1 := a7.c1
  have ci2 := a7.c2
  go_wp2_with fail
  clear ci0 ci1 ci2
  have CK : Hid (∀ n : Int, 0 ≤ n → n ≤ 256 → chkE x (b : Int) n = 0) := Lib.hid (fun n h1 h2 => num_chk RX.out hn hd HB.out.1 HB.out.2 h1 h2)
  have HOK : Hid (XOk (numQ num den).num.natAbs (numQ num den).den) := Lib.hid (by
    have := chkE_ok (CK.out 0 (by omega) (by omega))
    rw [RX.out.q] at this
    exact xok_of this.2.1 this.2.2)
  refine (xterms_any w2 x (b : Int) 0 a7.ok L1.out L2.out (CK.out 0 (by omega) (by omega))).mono ?_
  rintro _ w3 ⟨m, rfl, hm, ht, bb⟩
  have HT : Hid (termsP (numQ num den) b m) := Lib.hid (by have := ht rfl; rwa [RX.out.q, Int.toNat_natCast] at this)
  replace a7 := a7.below bb
  replace bw := below_on bw bb bw.size
  clear bb ht em em2
  have e1 : decide ((m : Int) < 0) = false := decide_eq_false (by omega)
  have e2 : decide ((256 : Int) < (m : Int)) = false := decide_eq_false (by omega)
  have e3 : decide (256 < m) = false := decide_eq_false (by omega)
  have ci0 := a7.c0
  have ci1 := a7.c1
  have ci2 := a7.c2
  go_wp2_with fail
  clear ci0 ci1 ci2
  clear e1 e2 e3
  refine (xtail_any w3 x (m : Int) (b : Int) 0 a7.ok L1.out L2.out (CK.out m (by omega) (by omega))).mono ?_
  rintro _ w4 ⟨i, rfl, oki, hi, bb⟩
  have HI : Hid (Rp i.lo 0) := Lib.hid (by
    have h1 := hi rfl
    rw [RX.out.q, Int.toNat_natCast, Int.toNat_natCast] at h1
    rcases HT.out with h2 | h2
    · exact (tail_zero h1).1 h2.1
    · exact (tail_zero h1).2 h2.1 h2.2.1)
  replace a7 := a7.below bb
  replace bw := below_on bw bb bw.size
  clear bb hi
  go_upto_region 7 with fail
  have a11 := (ia_alloc oki).1
  have bb := (ia_alloc oki).2
  clear oki
  generalize (w4.alloc (.cells i.cells 35)) = w5 at a11 bb ⊢
  replace a7 := a7.below bb
  replace bw := below_on bw bb bw.size
  clear bb
  generalize w4.heap.size = g11 at a11 ⊢
  have ci0 := a11.c0
  have ci1 := a11.c1
  have ci2 := a11.c2
  have ci3 := a11.c3
  have ci4 := a11.c4
  have ci5 := a11.c5
  go_wp2_with fail
  clear ci0 ci1 ci2 ci3 ci4 ci5
  refine (rfsign_any w5 i.lo 0 a11.ok.lo (HI.out.v sz_zero) (HI.out.l1 sz_zero) (HI.out.l2 sz_zero) (by rw [HI.out.q]; exact cmpQ_eq rfl)).mono ?_
  rintro _ w6 ⟨rfl, bb⟩
  replace a7 := a7.below bb
  replace bw := below_on bw bb bw.size
  clear bb a11
  by_cases hm0 : m = 0
  · have e0 : ((m : Int) == 0) = true := by simp [hm0]
    clear hm0
    go_wp2_with fail
    refine (xawake_any w6).mono ?_
    rintro _ w7 ⟨rfl, bb⟩
    replace bw := below_on bw bb bw.size
    go_wp2_with fail
    go_ret
    exact ⟨rfl, bw⟩
  · have e0 : ((m : Int) == 0) = false := beq_eq_false_iff_ne.2 (by omega)
    obtain ⟨k, hk⟩ : ∃ k : Nat, m = k + 1 := ⟨m - 1, by omega⟩
    have HK : Hid ((m : Int) - 1 = (k : Int)) := Lib.hid (by omega)
    have HKM : Hid (k ≤ 256) := Lib.hid (by omega)
    have HTK : Hid (numQ num den ≠ 0 ∧ ¬ zP (numQ num den) b k) := Lib.hid (by
      rcases HT.out with h2 | h2
      · exact absurd h2.2 hm0
      · refine ⟨h2.1, ?_⟩
        have := h2.2.2.resolve_left hm0
        rwa [hk, Nat.add_sub_cancel] at this)
    clear hm0 hk
    go_upto_region 11 with fail
    have ci0 := a7.c0
    have ci1 := a7.c1
    have ci2 := a7.c2
    go_wp2_with fail
    clear ci0 ci1 ci2
    rw [HK.out]
    refine (xtail_any w6 x (k : Int) (b : Int) 0 a7.ok L1.out L2.out (CK.out k (by omega) (by have := HKM.out; omega))).mono ?_
    rintro _ w7 ⟨i2, rfl, oki, hi, bb⟩
    obtain ⟨r2, hr2, hrp, hrs⟩ := tail_pos (by have h1 := hi rfl; rwa [RX.out.q, Int.toNat_natCast, Int.toNat_natCast] at h1) HTK.out.1 HTK.out.2 HOK.out HKM.out HB.out.1 HB.out.2
    have R2 := Lib.hid hr2
    have RP := Lib.hid hrp
    have RS := Lib.hid hrs
    replace bw := below_on bw bb bw.size
    clear bb hi hr2 hrp hrs
    go_upto_region 12 with fail
    have a13 := (ia_alloc oki).1
    have bb := (ia_alloc oki).2
    clear oki
    generalize (w7.alloc (.cells i2.cells 35)) = w8 at a13 bb ⊢
    replace bw := below_on bw bb bw.size
    clear bb
    generalize w7.heap.size = g13 at a13 ⊢
    have ci0 := a13.c0
    have ci1 := a13.c1
    have ci2 := a13.c2
    have ci3 := a13.c3
    have ci4 := a13.c4
    have ci5 := a13.c5
    go_wp2_with fail
    clear ci0 ci1 ci2 ci3 ci4 ci5
    refine (rfsign_any w8 i2.lo 1 a13.ok.lo (R2.out.v RS.out) (R2.out.l1 RS.out) (R2.out.l2 RS.out) (by rw [R2.out.q]; exact cmpQ_gt RP.out)).mono ?_
    rintro _ w9 ⟨rfl, bb⟩
    replace bw := below_on bw bb bw.size
    clear bb a13
    go_wp2_with fail
    refine (xawake_any w9).mono ?_
    rintro _ w10 ⟨rfl, bb⟩
    replace bw := below_on bw bb bw.size
    go_wp2_with fail
    go_ret
    exact ⟨rfl, bw⟩
theorem wf_u16 {z : Int} (h : (Lit.int .u16 z).wf = true) : ∃ n : Nat, z = (n : Int) ∧ n < 65536 := by
  simp [Lit.wf, IntKind.min, IntKind.max, IntKind.signed, IntKind.bits] at h
  exact ⟨z.toNat, by omega, by omega⟩
theorem wf_u8 {z : Int} (h : (Lit.int .u8 z).wf = true) : ∃ n : Nat, z = (n : Int) ∧ n < 256 := by
  simp [Lit.wf, IntKind.min, IntKind.max, IntKind.signed, IntKind.bits] at h
  exact ⟨z.toNat, by omega, by omega⟩
theorem terms_law (w : World) (a b c : Int) (h1 : (Lit.int .u16 a).wf = true) (h2 : (Lit.int .u8 b).wf = true) (h3 : (Lit.int .u8 c).wf = true) :
    Calls Try.prog 12 #[.int .u16 a, .int .u8 b, .int .u8 c] w fun e w' => e = .returned (.bool true) ∧ Below w.heap.size w w' := by
  obtain ⟨num, rfl, hn⟩ := wf_u16 h1
  obtain ⟨den, rfl, hd⟩ := wf_u8 h2
  obtain ⟨bs, rfl, hb⟩ := wf_u8 h3
  exact terms_walk w num den bs hn hd hb
end Go.Proofs.Ytnmomigaedfdoaa
