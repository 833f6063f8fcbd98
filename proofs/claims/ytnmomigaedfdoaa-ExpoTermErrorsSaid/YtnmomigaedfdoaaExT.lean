/- The reference's unit and point. -/
import Derived.Test.YtnmomigaedfdoaaExS
namespace Go.Proofs.Ytnmomigaedfdoaa
set_option maxRecDepth 100000
open Go.RowKit

theorem run_field_den (w : World) (b : Bool) (A D : Option Addr) (n c m d : Nat) : (Instr.field 26 (.agg #[.bool b, .slice A n c, .slice D m d]) 2).run Try.prog w = .ok (.slice D m d) w := by
  simp [Instr.field, part, isAgg, asAgg, run_underlying Try.underlying26, run_underlying Try.underlying24]
set_option maxHeartbeats 1600000 in
theorem epoint_any (w : World) (n : Int) (n0 : -1000 ≤ n) (n1 : n ≤ 1000) :
    Calls Try.prog 55 #[.int .i64 n] w fun e w' => ∃ i : Ix, e = .returned i.val ∧ i.ok w' ∧ Below w.heap.size w w' := by
  go_enter Try.func55, Try.ntmps55
  go_upto_region 1 with fail
  have br := (zr_alloc w).1
  have bw := (zr_alloc w).2
  generalize (w.alloc (.cells zcells 35)) = w1 at br bw ⊢
  go_wp2_with fail
  refine (xint_any w1 n (by omega) (by omega)).mono ?_
  rintro _ w2 ⟨x1, rfl, _, ok1, bb⟩
  replace br := br.below bb
  replace bw := below_on bw bb bw.size
  clear bb
  go_wp2_with fail
  refine (xint_any w2 n (by omega) (by omega)).mono ?_
  rintro _ w3 ⟨x2, rfl, _, ok2, bb⟩
  replace ok1 := ok1.below bb
  replace br := br.below bb
  replace bw := below_on bw bb bw.size
  clear bb
  have r0 := br.cell 0
  have r1 := br.cell 1
  have r2 := br.cell 2
  have r3 := br.cell 3
  have r4 := br.cell 4
  have r5 := br.cell 5
  have rf0 := br.unf 0
  have rf1 := br.unf 1
  have rf2 := br.unf 2
  have rf3 := br.unf 3
  have rf4 := br.unf 4
  have rf5 := br.unf 5
  simp only [List.getElem?_toArray, List.getElem?_cons_succ, List.getElem?_cons_zero] at r0 r1 r2 r3 r4 r5
  go_wp2_with fail
  refine bodyPost_ret (v := (⟨x1, x2⟩ : Ix).val) (by simp [results, Try.results55, go_sem, r0, r1, r2, r3, r4, r5]) rfl ?_
  exact ⟨⟨x1, x2⟩, rfl, ⟨set6_ok ok1 br noInt_z, set6_ok ok2 br noInt_z⟩, set6_below bw (by omega)⟩
theorem len_one : 1 = (lim 1).length := by rw [lim_one]; rfl
set_option maxHeartbeats 400000 in
theorem eunit_any (w : World) (A : Option Addr) (c m b : Nat) (h : Nt w A c (lim m)) (hm : (lim m).length ≤ 512) (hb : b ≤ 64) :
    Calls Try.prog 58 #[.slice A (lim m).length c, .int .i64 (b : Int)] w fun e w' => ∃ i : Ix, e = .returned i.val ∧ i.ok w' ∧ Below w.heap.size w w' := by
  have HL0 : Hid ((lim m).length ≤ 10000) := Lib.hid (Nat.le_trans hm (by omega))
  have HLO : Hid ((lim 1).length ≤ 10000) := Lib.hid (by rw [lim_one]; decide)
  have HL1 : Hid ((lim (addO m 1)).length ≤ 10000) := Lib.hid (Nat.le_trans (addO_len m 1) (by omega))
  have HL2 : Hid ((lim (2 ^ b)).length ≤ 10000) := Lib.hid (Nat.le_trans (len128 (by have := (pow64 hb).2; omega)) (by omega))
  go_enter Try.func58, Try.ntmps58
  go_upto_region 1 with fail
  have br := (zr_alloc w).1
  have bw := (zr_alloc w).2
  replace h := h.below bw
  generalize (w.alloc (.cells zcells 35)) = w1 at br bw h ⊢
  go_wp2_with fail
  refine (rfpower_any w1 (b : Int) (lim (2 ^ b)) (by omega) (by omega) (by rw [Int.toNat_natCast])).mono ?_
  rintro _ w2 ⟨⟨pb, pA, pc, pxs, pD, pd, pys⟩, rfl, hp, okp, bb⟩
  obtain rfl : pys = lim (2 ^ b) := hp.2.2
  have n2 : Nt w2 pD pd (lim (2 ^ b)) := okp.den
  replace h := h.below bb
  replace br := br.below bb
  replace bw := below_on bw bb bw.size
  clear bb okp hp
  have hfd := fun w' => run_field_den w' pb pA pD pxs.length pc (lim (2 ^ b)).length pd
  go_wp2_with fail
  clear hfd
  obtain ⟨S3, HS3⟩ : ∃ S, Hid (redS ⟨false, A, c, lim m, pD, pd, lim (2 ^ b)⟩ = S) := ⟨_, Lib.hid rfl⟩
  refine (rfreduce_any w2 ⟨false, A, c, lim m, pD, pd, lim (2 ^ b)⟩ S3 ⟨h, n2⟩ HL0.out HL2.out HS3.out).mono ?_
  rintro _ w6 ⟨x3, rfl, hs3, ok3, bb⟩
  clear hs3 HS3
  replace h := h.below bb
  replace n2 := n2.below bb
  replace br := br.below bb
  replace bw := below_on bw bb bw.size
  clear bb
  go_upto_region 3 with fail
  have a6 := (fa_alloc ok3).1
  have bb := (fa_alloc ok3).2
  clear ok3
  generalize (w6.alloc (.cells #[.bool x3.b, .slice x3.A x3.xs.length x3.c, .slice x3.D x3.ys.length x3.d] 26)) = w7 at a6 bb ⊢
  replace h := h.below bb
  replace n2 := n2.below bb
  replace br := br.below bb
  replace bw := below_on bw bb bw.size
  clear bb
  generalize w6.heap.size = g6 at a6 ⊢
  go_wp2_with fail
  obtain ⟨no, bb⟩ := lit_1 w7
  generalize (w7.alloc (.cells #[.int .u32 1] 82)) = w8 at no bb ⊢
  generalize w7.heap.size = g1 at no ⊢
  replace a6 := a6.below bb
  replace h := h.below bb
  replace n2 := n2.below bb
  replace br := br.below bb
  replace bw := below_on bw bb bw.size
  clear bb
  refine (eadd_any w8 A _ c 1 m 1 _ 1 h (lim_one ▸ no) rfl len_one HL0.out HLO.out).mono ?_
  rintro _ w9 ⟨A4, c4, rfl, n4, bb⟩
  replace a6 := a6.below bb
  replace n2 := n2.below bb
  replace br := br.below bb
  replace bw := below_on bw bb bw.size
  clear bb no
  go_wp2_with fail
  obtain ⟨S4, HS4⟩ : ∃ S, Hid (redS ⟨false, A4, c4, lim (addO m 1), pD, pd, lim (2 ^ b)⟩ = S) := ⟨_, Lib.hid rfl⟩
  refine (rfreduce_any w9 ⟨false, A4, c4, lim (addO m 1), pD, pd, lim (2 ^ b)⟩ S4 ⟨n4, n2⟩ HL1.out HL2.out HS4.out).mono ?_
  rintro _ w10 ⟨x4, rfl, hs4, ok4, bb⟩
  clear hs4 HS4
  replace a6 := a6.below bb
  replace br := br.below bb
  replace bw := below_on bw bb bw.size
  clear bb
  go_upto_region 4 with fail
  have a8 := (fa_alloc ok4).1
  have bb := (fa_alloc ok4).2
  clear ok4
  generalize (w10.alloc (.cells #[.bool x4.b, .slice x4.A x4.xs.length x4.c, .slice x4.D x4.ys.length x4.d] 26)) = w11 at a8 bb ⊢
  replace a6 := a6.below bb
  replace br := br.below bb
  replace bw := below_on bw bb bw.size
  clear bb
  generalize w10.heap.size = g8 at a8 ⊢
  have ci0 := a6.c0
  have ci1 := a6.c1
  have ci2 := a6.c2
  have cj0 := a8.c0
  have cj1 := a8.c1
  have cj2 := a8.c2
  have r0 := br.cell 0
  have r1 := br.cell 1
  have r2 := br.cell 2
  have r3 := br.cell 3
  have r4 := br.cell 4
  have r5 := br.cell 5
  have rf0 := br.unf 0
  have rf1 := br.unf 1
  have rf2 := br.unf 2
  have rf3 := br.unf 3
  have rf4 := br.unf 4
  have rf5 := br.unf 5
  simp only [List.getElem?_toArray, List.getElem?_cons_succ, List.getElem?_cons_zero] at r0 r1 r2 r3 r4 r5
  go_wp2_with fail
  refine bodyPost_ret (v := (⟨x3, x4⟩ : Ix).val) (by simp [results, Try.results58, go_sem, r0, r1, r2, r3, r4, r5]) rfl ?_
  exact ⟨⟨x3, x4⟩, rfl, ⟨set6_ok a6.ok br noInt_z, set6_ok a8.ok br noInt_z⟩, set6_below bw (by omega)⟩
end Go.Proofs.Ytnmomigaedfdoaa
