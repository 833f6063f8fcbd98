/- The walks of expo.Exp, Poisson and Tail. What awake asks of expo, and same.Interval. -/
import Derived.Test.YtnmomigaedfdoaaExJ
import Derived.Test.YtnmomigaedfdoaaSame
import Derived.Test.YtnmomigaedfdoaaFrG
namespace Go.Proofs.Ytnmomigaedfdoaa
set_option maxRecDepth 100000
open Go.RowKit

set_option maxHeartbeats 1600000 in
theorem xexp_any (w : World) (x : Fx) (bits E : Int) (hx : x.ok w) (l1 : x.xs.length ≤ 10000) (l2 : x.ys.length ≤ 10000) (he : chkE x bits 0 = E) :
    Calls Try.prog 18 #[x.val, .int .i64 bits] w fun e w' => ∃ i : Ix, e = .returned (.tuple #[i.val, .int .i64 E]) ∧ i.ok w' ∧ (E = 0 → encP x.q 0 bits.toNat 0 1 i) ∧ Below w.heap.size w w' := by
  have HE := Lib.hid he
  clear he
  go_enter Try.func18, Try.ntmps18
  go_upto_region 1 with fail
  have fx := (fa_alloc hx).1
  have bw := (fa_alloc hx).2
  have sz := size_al w (.cells #[.bool x.b, .slice x.A x.xs.length x.c, .slice x.D x.ys.length x.d] 26)
  clear hx
  generalize (w.alloc (.cells #[.bool x.b, .slice x.A x.xs.length x.c, .slice x.D x.ys.length x.d] 26)) = w1 at fx bw sz ⊢
  have br := (zr_alloc w1).1
  have bb := (zr_alloc w1).2
  rw [sz] at br
  generalize (w1.alloc (.cells zcells 35)) = w2 at br bb ⊢
  replace fx := fx.below bb
  replace bw := below_on bw bb bw.size
  clear bb sz
  have tx := fx.bk
  obtain ⟨x0, x1, x2, xf0, xf1, xf2, xlt, xb⟩ := tx
  clear xb
  go_wp2_with fail
  clear x0 x1 x2 xf0 xf1 xf2 xlt
  refine (xenclose_any w2 x 0 bits E 0 1 fx.ok l1 l2 (by omega) (by omega) HE.out).mono ?_
  rintro _ w5 ⟨i, rfl, oki, hi, bb⟩
  have HI := Lib.hid hi
  replace br := br.below bb
  replace bw := below_on bw bb bw.size
  clear bb hi
  have r0 := br.cell 0
  have r1 := br.cell 1
  have r2 := br.cell 2
  have r3 := br.cell 3
  have r4 := br.cell 4
  have r5 := br.cell 5
  have rf0 := br.unf 0
  have rf1 := br.unf 1
  have rf2 := br.unf 2
  have rf3 := br.unf 3
  have rf4 := br.unf 4
  have rf5 := br.unf 5
  simp only [List.getElem?_toArray, List.getElem?_cons_succ, List.getElem?_cons_zero] at r0 r1 r2 r3 r4 r5
  go_wp2_with fail
  refine bodyPost_ret (v := .tuple #[i.val, .int .i64 E]) (by simp [results, Try.results18, go_sem, r0, r1, r2, r3, r4, r5]) rfl ?_
  exact ⟨i, rfl, ⟨set6_ok oki.lo br noInt_z, set6_ok oki.hi br noInt_z⟩, HI.out, set6_below bw (by omega)⟩
set_option maxHeartbeats 1600000 in
theorem xtail_any (w : World) (x : Fx) (n bits E : Int) (hx : x.ok w) (l1 : x.xs.length ≤ 10000) (l2 : x.ys.length ≤ 10000) (he : chkE x bits n = E) :
    Calls Try.prog 24 #[x.val, .int .i64 n, .int .i64 bits] w fun e w' => ∃ i : Ix, e = .returned (.tuple #[i.val, .int .i64 E]) ∧ i.ok w' ∧ (E = 0 → encP x.q n.toNat bits.toNat 2 0 i) ∧ Below w.heap.size w w' := by
  have HE := Lib.hid he
  clear he
  go_enter Try.func24, Try.ntmps24
  go_upto_region 1 with fail
  have fx := (fa_alloc hx).1
  have bw := (fa_alloc hx).2
  have sz := size_al w (.cells #[.bool x.b, .slice x.A x.xs.length x.c, .slice x.D x.ys.length x.d] 26)
  clear hx
  generalize (w.alloc (.cells #[.bool x.b, .slice x.A x.xs.length x.c, .slice x.D x.ys.length x.d] 26)) = w1 at fx bw sz ⊢
  have br := (zr_alloc w1).1
  have bb := (zr_alloc w1).2
  rw [sz] at br
  generalize (w1.alloc (.cells zcells 35)) = w2 at br bb ⊢
  replace fx := fx.below bb
  replace bw := below_on bw bb bw.size
  clear bb sz
  have tx := fx.bk
  obtain ⟨x0, x1, x2, xf0, xf1, xf2, xlt, xb⟩ := tx
  clear xb
  go_wp2_with fail
  clear x0 x1 x2 xf0 xf1 xf2 xlt
  refine (xenclose_any w2 x n bits E 2 0 fx.ok l1 l2 (by omega) (by omega) HE.out).mono ?_
  rintro _ w5 ⟨i, rfl, oki, hi, bb⟩
  have HI := Lib.hid hi
  replace br := br.below bb
  replace bw := below_on bw bb bw.size
  clear bb hi
  have r0 := br.cell 0
  have r1 := br.cell 1
  have r2 := br.cell 2
  have r3 := br.cell 3
  have r4 := br.cell 4
  have r5 := br.cell 5
  have rf0 := br.unf 0
  have rf1 := br.unf 1
  have rf2 := br.unf 2
  have rf3 := br.unf 3
  have rf4 := br.unf 4
  have rf5 := br.unf 5
  simp only [List.getElem?_toArray, List.getElem?_cons_succ, List.getElem?_cons_zero] at r0 r1 r2 r3 r4 r5
  go_wp2_with fail
  refine bodyPost_ret (v := .tuple #[i.val, .int .i64 E]) (by simp [results, Try.results24, go_sem, r0, r1, r2, r3, r4, r5]) rfl ?_
  exact ⟨i, rfl, ⟨set6_ok oki.lo br noInt_z, set6_ok oki.hi br noInt_z⟩, HI.out, set6_below bw (by omega)⟩
end Go.Proofs.Ytnmomigaedfdoaa
namespace Go.Proofs.Ytnmomigaedfdoaa
set_option maxRecDepth 100000
open Go.RowKit

theorem xok11 : XOk 1 1 := ⟨by decide, by decide, by decide, by decide⟩
theorem fl_one : floorM 1 1 0 2 0 = 1 := by
  have e : fAt 1 1 0 2 0 50 = (1, 1) := by
    rw [fAt_eq xok11 (by omega) (by omega) (by omega) (by omega)]
    decide +kernel
  rw [floorM_at (j := 0) (by omega) (fun i hi => absurd hi (by omega)) (by rw [show (2 + 48) * 2 ^ 0 = 50 from rfl, e]), show (2 + 48) * 2 ^ 0 = 50 from rfl, e]
theorem prt14 : prt 1 2 = Rat.divInt 1 4 := by decide +kernel
theorem prt24 : prt 2 2 = Rat.divInt 1 2 := by decide +kernel
end Go.Proofs.Ytnmomigaedfdoaa
