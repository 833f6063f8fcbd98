/- The walks of the reference's Poisson and Exp: which error they hand back. -/
import Derived.Test.YtnmomigaedfdoaaExV
import Derived.Test.YtnmomigaedfdoaaExT
namespace Go.Proofs.Ytnmomigaedfdoaa
set_option maxRecDepth 100000
open Go.RowKit

set_option maxHeartbeats 3200000 in
theorem epoisson_any (w : World) (x : Fx) (n bits E : Int) (hx : x.ok w) (l1 : x.xs.length ≤ 10000) (l2 : x.ys.length ≤ 10000) (he : chkE x bits n = E) :
    Calls Try.prog 29 #[x.val, .int .i64 n, .int .i64 bits] w fun e w' => ∃ i : Ix, e = .returned (.tuple #[i.val, .int .i64 E]) ∧ i.ok w' ∧ Below w.heap.size w w' := by
  have HE := Lib.hid he
  clear he
  go_enter Try.func29, Try.ntmps29
  go_upto_region 1 with fail
  have fx := (fa_alloc hx).1
  have bw := (fa_alloc hx).2
  have sz := size_al w (.cells #[.bool x.b, .slice x.A x.xs.length x.c, .slice x.D x.ys.length x.d] 26)
  clear hx
  generalize (w.alloc (.cells #[.bool x.b, .slice x.A x.xs.length x.c, .slice x.D x.ys.length x.d] 26)) = w1 at fx bw sz ⊢
  have br := (zr_alloc w1).1
  have bb := (zr_alloc w1).2
  rw [sz] at br
  generalize (w1.alloc (.cells zcells 35)) = w2 at br bb ⊢
  replace fx := fx.below bb
  replace bw := below_on bw bb bw.size
  clear bb sz
  have tx := fx.bk
  obtain ⟨x0, x1, x2, xf0, xf1, xf2, xlt, xb⟩ := tx
  clear xb
  go_wp2_with fail
  clear x0 x1 x2 xf0 xf1 xf2 xlt
  refine (echeck_any w2 x n bits E fx.ok l1 l2 HE.out).mono ?_
  rintro _ w3 ⟨y, rfl, oky, hy, bb⟩
  replace br := br.below bb
  replace bw := below_on bw bb bw.size
  clear bb fx
  go_upto_region 2 with fail
  have a8 := (fa_alloc oky).1
  have bb := (fa_alloc oky).2
  clear oky
  generalize (w3.alloc (.cells #[.bool y.b, .slice y.A y.xs.length y.c, .slice y.D y.ys.length y.d] 26)) = w4 at a8 bb ⊢
  replace br := br.below bb
  replace bw := below_on bw bb bw.size
  clear bb
  generalize w3.heap.size = g8 at a8 ⊢
  by_cases h0 : E = 0
  · subst h0
    have HY := Lib.hid (hy rfl)
    have HOK := Lib.hid (xok_of (chkE_ok HE.out).2.1 (chkE_ok HE.out).2.2)
    have HBT := Lib.hid (bits_of (chkE_ok HE.out).2.1)
    obtain ⟨b, hb⟩ : ∃ b : Nat, bits = (b : Int) := ⟨bits.toNat, by have := HBT.out; omega⟩
    subst hb
    obtain ⟨m, hm⟩ : ∃ m : Nat, n = (m : Int) := ⟨n.toNat, by have := HBT.out; omega⟩
    subst hm
    clear hy
    have ci0 := a8.c0
    have ci1 := a8.c1
    have ci2 := a8.c2
    by_cases hz0 : y.xs.length = 0
    · have e1 : ((y.xs.length : Int) == 0) = true := by simp [hz0]
      clear hz0
      by_cases hm0 : m = 0
      · have e2 : ((m : Int) == 0) = true := by simp [hm0]
        clear hm0
        go_wp2_with fail
        refine (epoint_any w4 1 (by omega) (by omega)).mono ?_
        rintro _ w5 ⟨i, rfl, oki, bb⟩
        replace br := br.below bb
        replace bw := below_on bw bb bw.size
        clear bb
        have r0 := br.cell 0
        have r1 := br.cell 1
        have r2 := br.cell 2
        have r3 := br.cell 3
        have r4 := br.cell 4
        have r5 := br.cell 5
        have rf0 := br.unf 0
        have rf1 := br.unf 1
        have rf2 := br.unf 2
        have rf3 := br.unf 3
        have rf4 := br.unf 4
        have rf5 := br.unf 5
        simp only [List.getElem?_toArray, List.getElem?_cons_succ, List.getElem?_cons_zero] at r0 r1 r2 r3 r4 r5
        go_wp2_with fail
        refine bodyPost_ret (v := .tuple #[i.val, .int .i64 0]) (by simp [results, Try.results29, go_sem, r0, r1, r2, r3, r4, r5]) rfl ?_
        exact ⟨i, rfl, ⟨set6_ok oki.lo br noInt_z, set6_ok oki.hi br noInt_z⟩, set6_below bw (by omega)⟩
      · have e2 : ((m : Int) == 0) = false := beq_eq_false_iff_ne.2 (by omega)
        clear hm0
        go_wp2_with fail
        refine (epoint_any w4 0 (by omega) (by omega)).mono ?_
        rintro _ w5 ⟨i, rfl, oki, bb⟩
        replace br := br.below bb
        replace bw := below_on bw bb bw.size
        clear bb
        have r0 := br.cell 0
        have r1 := br.cell 1
        have r2 := br.cell 2
        have r3 := br.cell 3
        have r4 := br.cell 4
        have r5 := br.cell 5
        have rf0 := br.unf 0
        have rf1 := br.unf 1
        have rf2 := br.unf 2
        have rf3 := br.unf 3
        have rf4 := br.unf 4
        have rf5 := br.unf 5
        simp only [List.getElem?_toArray, List.getElem?_cons_succ, List.getElem?_cons_zero] at r0 r1 r2 r3 r4 r5
        go_wp2_with fail
        refine bodyPost_ret (v := .tuple #[i.val, .int .i64 0]) (by simp [results, Try.results29, go_sem, r0, r1, r2, r3, r4, r5]) rfl ?_
        exact ⟨i, rfl, ⟨set6_ok oki.lo br noInt_z, set6_ok oki.hi br noInt_z⟩, set6_below bw (by omega)⟩
    · have e1 : ((y.xs.length : Int) == 0) = false := beq_eq_false_iff_ne.2 (by omega)
      clear hz0
      have hbt := HBT.out
      go_wp2_with fail
      clear ci0 ci1 ci2
      go_loopw [10] (fun i wr => ∃ p : Nat, p ≤ 16500 ∧ i = .int .i64 (p : Int) ∧ Fa wr g8 y ∧ Blk wr (w.heap.size + 1) zcells ∧ Below w.heap.size w wr) (fun i _ => 20000 - (intOf i).toNat)
      case atStart => exact ⟨b + 100, by omega, by go_num, a8, br, bw⟩
      case round =>
        clear a8 br bw e1 hbt
        obtain ⟨p, hp, rfl, a8, br, bw⟩ := hrel
        have ci0 := a8.c0
        have ci1 := a8.c1
        have ci2 := a8.c2
        go_wp2_with fail
        clear ci0 ci1 ci2
        refine (eseries_any wr y x.q.num.natAbs x.q.den m p a8.ok HY.out.n HY.out.d HOK.out (by have := HBT.out; omega) (by omega)).mono ?_
        rintro _ w5 ⟨ta, tb, tc, rfl, sa, sb, _, oa, ob, oc, bb⟩
        replace a8 := a8.below bb
        replace br := br.below bb
        replace bw := below_on bw bb bw.size
        clear bb
        go_upto_region 11 with fail
        have v11 := (pv_alloc oa 75).1
        have bb := (pv_alloc oa 75).2
        have sz1 := size_al w5 (.cells ta.cells 75)
        replace ob := ob.below bb
        replace oc := oc.below bb
        replace a8 := a8.below bb
        replace br := br.below bb
        replace bw := below_on bw bb bw.size
        clear bb oa
        generalize (w5.alloc (.cells ta.cells 75)) = w6 at v11 ob oc a8 br bw sz1 ⊢
        have v12 := (pv_alloc ob 75).1
        have bb := (pv_alloc ob 75).2
        have sz2 := size_al w6 (.cells tb.cells 75)
        rw [sz1] at v12 sz2
        replace oc := oc.below bb
        replace v11 := v11.below bb
        replace a8 := a8.below bb
        replace br := br.below bb
        replace bw := below_on bw bb bw.size
        clear bb ob sz1
        generalize (w6.alloc (.cells tb.cells 75)) = w7 at v11 v12 oc a8 br bw sz2 ⊢
        have bb := (pv_alloc oc 75).2
        replace v11 := v11.below bb
        replace v12 := v12.below bb
        replace a8 := a8.below bb
        replace br := br.below bb
        replace bw := below_on bw bb bw.size
        clear bb oc sz2
        generalize (w7.alloc (.cells tc.cells 75)) = w8 at v11 v12 a8 br bw ⊢
        generalize w5.heap.size = g11 at v11 v12 ⊢
        have c0 := v11.c0
        have c1 := v11.c1
        have c2 := v12.c0
        have c3 := v12.c1
        go_wp2_with fail
        refine (efloor_any w8 ta tb b v11.ok v12.ok ⟨sa.1, sa.2.1⟩ ⟨sb.1, sb.2.1⟩).mono ?_
        rintro _ w9 ⟨A5, c5, v, tt, rfl, n5, l5, ht, bb⟩
        replace a8 := a8.below bb
        replace br := br.below bb
        replace bw := below_on bw bb bw.size
        clear bb v11 v12 c0 c1 c2 c3
        cases tt with
        | true =>
          clear ht sa sb
          go_wp2_with fail
          refine (eunit_any w9 A5 c5 v b n5 l5 (by have := HBT.out; omega)).mono ?_
          rintro _ w10 ⟨i, rfl, oki, bb⟩
          replace br := br.below bb
          replace bw := below_on bw bb bw.size
          clear bb n5
          have r0 := br.cell 0
          have r1 := br.cell 1
          have r2 := br.cell 2
          have r3 := br.cell 3
          have r4 := br.cell 4
          have r5 := br.cell 5
          have rf0 := br.unf 0
          have rf1 := br.unf 1
          have rf2 := br.unf 2
          have rf3 := br.unf 3
          have rf4 := br.unf 4
          have rf5 := br.unf 5
          simp only [List.getElem?_toArray, List.getElem?_cons_succ, List.getElem?_cons_zero] at r0 r1 r2 r3 r4 r5
          go_wp2_with fail
          refine bodyPost_ret (v := .tuple #[i.val, .int .i64 0]) (by simp [results, Try.results29, go_sem, r0, r1, r2, r3, r4, r5]) rfl ?_
          exact ⟨i, rfl, ⟨set6_ok oki.lo br noInt_z, set6_ok oki.hi br noInt_z⟩, set6_below bw (by omega)⟩
        | false =>
          have hps : p < 16384 := by
            rcases Nat.lt_or_ge p 16384 with h | h
            · exact h
            · have e := shO_big h
              have ea : ta.pr = ⟨0, 0⟩ := by
                have h1 := sa.2.2 e
                show (⟨ta.lo, ta.hi⟩ : Pr) = _
                rw [show ta.lo = 0 from h1.1, show ta.hi = 0 from h1.2]
              have eb : tb.pr = ⟨0, 0⟩ := by
                have h1 := sb.2.2 e
                show (⟨tb.lo, tb.hi⟩ : Pr) = _
                rw [show tb.lo = 0 from h1.1, show tb.hi = 0 from h1.2]
              exact absurd (ht ea eb) (by decide)
          clear ht sa sb n5
          go_wp2_with fail
          go_roundw
          case rel => exact ⟨p + 64, by omega, by go_num, a8, br, bw⟩
          case measure => simp [intOf]; omega
  · have e0 : (E != 0) = true := bne_iff_ne.2 h0
    clear hy
    have r0 := br.cell 0
    have r1 := br.cell 1
    have r2 := br.cell 2
    have r3 := br.cell 3
    have r4 := br.cell 4
    have r5 := br.cell 5
    have rf0 := br.unf 0
    have rf1 := br.unf 1
    have rf2 := br.unf 2
    have rf3 := br.unf 3
    have rf4 := br.unf 4
    have rf5 := br.unf 5
    simp only [List.getElem?_toArray, List.getElem?_cons_succ, List.getElem?_cons_zero] at r0 r1 r2 r3 r4 r5
    go_wp2_with fail
    refine bodyPost_ret (v := .tuple #[Ix.nil.val, .int .i64 E]) (by simp [results, Try.results29, go_sem, r0, r1, r2, r3, r4, r5]) rfl ?_
    exact ⟨Ix.nil, rfl, Ix.nil_ok _, set6_below bw (by omega)⟩
set_option maxHeartbeats 1600000 in
theorem eexp_any (w : World) (x : Fx) (bits E : Int) (hx : x.ok w) (l1 : x.xs.length ≤ 10000) (l2 : x.ys.length ≤ 10000) (he : chkE x bits 0 = E) :
    Calls Try.prog 27 #[x.val, .int .i64 bits] w fun e w' => ∃ i : Ix, e = .returned (.tuple #[i.val, .int .i64 E]) ∧ i.ok w' ∧ Below w.heap.size w w' := by
  have HE := Lib.hid he
  clear he
  go_enter Try.func27, Try.ntmps27
  go_upto_region 1 with fail
  have fx := (fa_alloc hx).1
  have bw := (fa_alloc hx).2
  have sz := size_al w (.cells #[.bool x.b, .slice x.A x.xs.length x.c, .slice x.D x.ys.length x.d] 26)
  clear hx
  generalize (w.alloc (.cells #[.bool x.b, .slice x.A x.xs.length x.c, .slice x.D x.ys.length x.d] 26)) = w1 at fx bw sz ⊢
  have br := (zr_alloc w1).1
  have bb := (zr_alloc w1).2
  rw [sz] at br
  generalize (w1.alloc (.cells zcells 35)) = w2 at br bb ⊢
  replace fx := fx.below bb
  replace bw := below_on bw bb bw.size
  clear bb sz
  have tx := fx.bk
  obtain ⟨x0, x1, x2, xf0, xf1, xf2, xlt, xb⟩ := tx
  clear xb
  go_wp2_with fail
  clear x0 x1 x2 xf0 xf1 xf2 xlt
  refine (epoisson_any w2 x 0 bits E fx.ok l1 l2 HE.out).mono ?_
  rintro _ w5 ⟨i, rfl, oki, bb⟩
  replace br := br.below bb
  replace bw := below_on bw bb bw.size
  clear bb
  have r0 := br.cell 0
  have r1 := br.cell 1
  have r2 := br.cell 2
  have r3 := br.cell 3
  have r4 := br.cell 4
  have r5 := br.cell 5
  have rf0 := br.unf 0
  have rf1 := br.unf 1
  have rf2 := br.unf 2
  have rf3 := br.unf 3
  have rf4 := br.unf 4
  have rf5 := br.unf 5
  simp only [List.getElem?_toArray, List.getElem?_cons_succ, List.getElem?_cons_zero] at r0 r1 r2 r3 r4 r5
  go_wp2_with fail
  refine bodyPost_ret (v := .tuple #[i.val, .int .i64 E]) (by simp [results, Try.results27, go_sem, r0, r1, r2, r3, r4, r5]) rfl ?_
  exact ⟨i, rfl, ⟨set6_ok oki.lo br noInt_z, set6_ok oki.hi br noInt_z⟩, set6_below bw (by omega)⟩
end Go.Proofs.Ytnmomigaedfdoaa
