/- The walks of expo.Exp, Poisson and Tail. What awake asks of expo, and same.Interval. The walk of drydocklaw04.awake. The walk of drydocklaw04.number. The walk of ExpoTerms. Many numbers in the lanes of one: how they are multiplied at once, and how one looks for long runs of equal digits in all of them. No program in sight. -/
import Derived.Test.YtnmomigaedfdoaaExJ
import Derived.Test.YtnmomigaedfdoaaFrG
import Derived.Test.YtnmomigaedfdoaaLwD
import Derived.Test.YtnmomigaedfdoaaBase
namespace Go.Proofs.Ytnmomigaedfdoaa
set_option maxRecDepth 100000
open Go.RowKit

set_option maxHeartbeats 1600000 in
theorem xexp_any (w : World) (x : Fx) (bits E : Int) (hx : x.ok w) (l1 : x.xs.length ≤ 10000) (l2 : x.ys.length ≤ 10000) (he : chkE x bits 0 = E) :
    Calls Try.prog 18 #[x.val, .int .i64 bits] w fun e w' => ∃ i : Ix, e = .returned (.tuple #[i.val, .int .i64 E]) ∧ i.ok w' ∧ (E = 0 → encP x.q 0 bits.toNat 0 1 i) ∧ Below w.heap.size w w' := by
  have HE := Lib.hid he
  clear he
  go_enter Try.func18, Try.ntmps18
  go_upto_region 1 with fail
  have fx := (fa_alloc hx).1
  have bw := (fa_alloc hx).2
  have sz := size_al w (.cells #[.bool x.b, .slice x.A x.xs.length x.c, .slice x.D x.ys.length x.d] 26)
  clear hx
  generalize (w.alloc (.cells #[.bool x.b, .slice x.A x.xs.length x.c, .slice x.D x.ys.length x.d] 26)) = w1 at fx bw sz ⊢
  have br := (zr_alloc w1).1
  have bb := (zr_alloc w1).2
  rw [sz] at br
  generalize (w1.alloc (.cells zcells 35)) = w2 at br bb ⊢
  replace fx := fx.below bb
  replace bw := below_on bw bb bw.size
  clear bb sz
  have tx := fx.bk
  obtain ⟨x0, x1, x2, xf0, xf1, xf2, xlt, xb⟩ := tx
  clear xb
  go_wp2_with fail
  clear x0 x1 x2 xf0 xf1 xf2 xlt
  refine (xenclose_any w2 x 0 bits E 0 1 fx.ok l1 l2 (by omega) (by omega) HE.out).mono ?_
  rintro _ w5 ⟨i, rfl, oki, hi, bb⟩
  have HI := Lib.hid hi
  replace br := br.below bb
  replace bw := below_on bw bb bw.size
  clear bb hi
  have r0 := br.cell 0
  have r1 := br.cell 1
  have r2 := br.cell 2
  have r3 := br.cell 3
  have r4 := br.cell 4
  have r5 := br.cell 5
  have rf0 := br.unf 0
  have rf1 := br.unf 1
  have rf2 := br.unf 2
  have rf3 := br.unf 3
  have rf4 := br.unf 4
  have rf5 := br.unf 5
  simp only [List.getElem?_toArray, List.getElem?_cons_succ, List.getElem?_cons_zero] at r0 r1 r2 r3 r4 r5
  go_wp2_with fail
  refine bodyPost_ret (v := .tuple #[i.val, .int .i64 E]) (by simp [results, Try.results18, go_sem, r0, r1, r2, r3, r4, r5]) rfl ?_
  exact ⟨i, rfl, ⟨set6_ok oki.lo br noInt_z, set6_ok oki.hi br noInt_z⟩, HI.out, set6_below bw (by omega)⟩
set_option maxHeartbeats 1600000 in
theorem xtail_any (w : World) (x : Fx) (n bits E : Int) (hx : x.ok w) (l1 : x.xs.length ≤ 10000) (l2 : x.ys.length ≤ 10000) (he : chkE x bits n = E) :
    Calls Try.prog 24 #[x.val, .int .i64 n, .int .i64 bits] w fun e w' => ∃ i : Ix, e = .returned (.tuple #[i.val, .int .i64 E]) ∧ i.ok w' ∧ (E = 0 → encP x.q n.toNat bits.toNat 2 0 i) ∧ Below w.heap.size w w' := by
  have HE := Lib.hid he
  clear he
  go_enter Try.func24, Try.ntmps24
  go_upto_region 1 with fail
  have fx := (fa_alloc hx).1
  have bw := (fa_alloc hx).2
  have sz := size_al w (.cells #[.bool x.b, .slice x.A x.xs.length x.c, .slice x.D x.ys.length x.d] 26)
  clear hx
  generalize (w.alloc (.cells #[.bool x.b, .slice x.A x.xs.length x.c, .slice x.D x.ys.length x.d] 26)) = w1 at fx bw sz ⊢
  have br := (zr_alloc w1).1
  have bb := (zr_alloc w1).2
  rw [sz] at br
  generalize (w1.alloc (.cells zcells 35)) = w2 at br bb ⊢
  replace fx := fx.below bb
  replace bw := below_on bw bb bw.size
  clear bb sz
  have tx := fx.bk
  obtain ⟨x0, x1, x2, xf0, xf1, xf2, xlt, xb⟩ := tx
  clear xb
  go_wp2_with fail
  clear x0 x1 x2 xf0 xf1 xf2 xlt
  refine (xenclose_any w2 x n bits E 2 0 fx.ok l1 l2 (by omega) (by omega) HE.out).mono ?_
  rintro _ w5 ⟨i, rfl, oki, hi, bb⟩
  have HI := Lib.hid hi
  replace br := br.below bb
  replace bw := below_on bw bb bw.size
  clear bb hi
  have r0 := br.cell 0
  have r1 := br.cell 1
  have r2 := br.cell 2
  have r3 := br.cell 3
  have r4 := br.cell 4
  have r5 := br.cell 5
  have rf0 := br.unf 0
  have rf1 := br.unf 1
  have rf2 := br.unf 2
  have rf3 := br.unf 3
  have rf4 := br.unf 4
  have rf5 := br.unf 5
  simp only [List.getElem?_toArray, List.getElem?_cons_succ, List.getElem?_cons_zero] at r0 r1 r2 r3 r4 r5
  go_wp2_with fail
  refine bodyPost_ret (v := .tuple #[i.val, .int .i64 E]) (by simp [results, Try.results24, go_sem, r0, r1, r2, r3, r4, r5]) rfl ?_
  exact ⟨i, rfl, ⟨set6_ok oki.lo br noInt_z, set6_ok oki.hi br noInt_z⟩, HI.out, set6_below bw (by omega)⟩
set_option maxHeartbeats 1600000 in
theorem xpoisson_any (w : World) (x : Fx) (n bits E : Int) (hx : x.ok w) (l1 : x.xs.length ≤ 10000) (l2 : x.ys.length ≤ 10000) (he : chkE x bits n = E) :
    Calls Try.prog 28 #[x.val, .int .i64 n, .int .i64 bits] w fun e w' => ∃ i : Ix, e = .returned (.tuple #[i.val, .int .i64 E]) ∧ i.ok w' ∧ (E = 0 → encP x.q n.toNat bits.toNat 1 (if n = 0 then 1 else 0) i) ∧ Below w.heap.size w w' := by
  have HE := Lib.hid he
  clear he
  by_cases hn : n = 0
  · rw [if_pos hn]
    have e0 : (n == 0) = true := beq_iff_eq.2 hn
    clear hn
    go_enter Try.func28, Try.ntmps28
    go_upto_region 4 with fail
    have fx := (fa_alloc hx).1
    have bw := (fa_alloc hx).2
    have sz := size_al w (.cells #[.bool x.b, .slice x.A x.xs.length x.c, .slice x.D x.ys.length x.d] 26)
    clear hx
    generalize (w.alloc (.cells #[.bool x.b, .slice x.A x.xs.length x.c, .slice x.D x.ys.length x.d] 26)) = w1 at fx bw sz ⊢
    have br := (zr_alloc w1).1
    have bb := (zr_alloc w1).2
    rw [sz] at br
    generalize (w1.alloc (.cells zcells 35)) = w2 at br bb ⊢
    replace fx := fx.below bb
    replace bw := below_on bw bb bw.size
    clear bb sz
    have tx := fx.bk
    obtain ⟨x0, x1, x2, xf0, xf1, xf2, xlt, xb⟩ := tx
    clear xb
    go_wp2_with fail
    clear x0 x1 x2 xf0 xf1 xf2 xlt
    refine (xenclose_any w2 x n bits E 1 1 fx.ok l1 l2 (by omega) (by omega) HE.out).mono ?_
    rintro _ w5 ⟨i, rfl, oki, hi, bb⟩
    have HI := Lib.hid hi
    replace br := br.below bb
    replace bw := below_on bw bb bw.size
    clear bb hi
    have r0 := br.cell 0
    have r1 := br.cell 1
    have r2 := br.cell 2
    have r3 := br.cell 3
    have r4 := br.cell 4
    have r5 := br.cell 5
    have rf0 := br.unf 0
    have rf1 := br.unf 1
    have rf2 := br.unf 2
    have rf3 := br.unf 3
    have rf4 := br.unf 4
    have rf5 := br.unf 5
    simp only [List.getElem?_toArray, List.getElem?_cons_succ, List.getElem?_cons_zero] at r0 r1 r2 r3 r4 r5
    go_wp2_with fail
    refine bodyPost_ret (v := .tuple #[i.val, .int .i64 E]) (by simp [results, Try.results28, go_sem, r0, r1, r2, r3, r4, r5]) rfl ?_
    exact ⟨i, rfl, ⟨set6_ok oki.lo br noInt_z, set6_ok oki.hi br noInt_z⟩, HI.out, set6_below bw (by omega)⟩
  · rw [if_neg hn]
    have e0 : (n == 0) = false := beq_eq_false_iff_ne.2 hn
    clear hn
    go_enter Try.func28, Try.ntmps28
    go_upto_region 4 with fail
    have fx := (fa_alloc hx).1
    have bw := (fa_alloc hx).2
    have sz := size_al w (.cells #[.bool x.b, .slice x.A x.xs.length x.c, .slice x.D x.ys.length x.d] 26)
    clear hx
    generalize (w.alloc (.cells #[.bool x.b, .slice x.A x.xs.length x.c, .slice x.D x.ys.length x.d] 26)) = w1 at fx bw sz ⊢
    have br := (zr_alloc w1).1
    have bb := (zr_alloc w1).2
    rw [sz] at br
    generalize (w1.alloc (.cells zcells 35)) = w2 at br bb ⊢
    replace fx := fx.below bb
    replace bw := below_on bw bb bw.size
    clear bb sz
    have tx := fx.bk
    obtain ⟨x0, x1, x2, xf0, xf1, xf2, xlt, xb⟩ := tx
    clear xb
    go_wp2_with fail
    clear x0 x1 x2 xf0 xf1 xf2 xlt
    refine (xenclose_any w2 x n bits E 1 0 fx.ok l1 l2 (by omega) (by omega) HE.out).mono ?_
    rintro _ w5 ⟨i, rfl, oki, hi, bb⟩
    have HI := Lib.hid hi
    replace br := br.below bb
    replace bw := below_on bw bb bw.size
    clear bb hi
    have r0 := br.cell 0
    have r1 := br.cell 1
    have r2 := br.cell 2
    have r3 := br.cell 3
    have r4 := br.cell 4
    have r5 := br.cell 5
    have rf0 := br.unf 0
    have rf1 := br.unf 1
    have rf2 := br.unf 2
    have rf3 := br.unf 3
    have rf4 := br.unf 4
    have rf5 := br.unf 5
    simp only [List.getElem?_toArray, List.getElem?_cons_succ, List.getElem?_cons_zero] at r0 r1 r2 r3 r4 r5
    go_wp2_with fail
    refine bodyPost_ret (v := .tuple #[i.val, .int .i64 E]) (by simp [results, Try.results28, go_sem, r0, r1, r2, r3, r4, r5]) rfl ?_
    exact ⟨i, rfl, ⟨set6_ok oki.lo br noInt_z, set6_ok oki.hi br noInt_z⟩, HI.out, set6_below bw (by omega)⟩
end Go.Proofs.Ytnmomigaedfdoaa
namespace Go.Proofs.Ytnmomigaedfdoaa
set_option maxRecDepth 100000
open Go.RowKit

theorem xok11 : XOk 1 1 := ⟨by decide, by decide, by decide, by decide⟩
theorem fl_one : floorM 1 1 0 2 0 = 1 := by
  have e : fAt 1 1 0 2 0 50 = (1, 1) := by
    rw [fAt_eq xok11 (by omega) (by omega) (by omega) (by omega)]
    decide +kernel
  rw [floorM_at (j := 0) (by omega) (fun i hi => absurd hi (by omega)) (by rw [show (2 + 48) * 2 ^ 0 = 50 from rfl, e]), show (2 + 48) * 2 ^ 0 = 50 from rfl, e]
theorem prt14 : prt 1 2 = Rat.divInt 1 4 := by decide +kernel
theorem prt24 : prt 2 2 = Rat.divInt 1 2 := by decide +kernel
end Go.Proofs.Ytnmomigaedfdoaa
namespace Go.Proofs.Ytnmomigaedfdoaa
set_option maxRecDepth 100000
open Go.RowKit

/-- two intervals read alike -/
structure SmI (a b : Ix) : Prop where
  l : a.lo.b = b.lo.b ∧ a.lo.xs = b.lo.xs ∧ a.lo.ys = b.lo.ys
  h : a.hi.b = b.hi.b ∧ a.hi.xs = b.hi.xs ∧ a.hi.ys = b.hi.ys
theorem SmI.of {a b : Ix} {S T : FqS} (h1 : a.lo.is S) (h2 : a.hi.is T) (k1 : b.lo.is S) (k2 : b.hi.is T) : SmI a b :=
  ⟨⟨h1.1.trans k1.1.symm, h1.2.1.trans k1.2.1.symm, h1.2.2.trans k1.2.2.symm⟩, ⟨h2.1.trans k2.1.symm, h2.2.1.trans k2.2.1.symm, h2.2.2.trans k2.2.2.symm⟩⟩
set_option maxHeartbeats 800000 in
theorem samei_any (w : World) (x1 x2 : Ix) (ok1 : x1.ok w) (ok2 : x2.ok w) (hs : SmI x1 x2) :
    Calls Try.prog 26 #[x1.val, x2.val] w fun e w' => e = .returned (.bool true) ∧ Below w.heap.size w w' := by
  have HS := Lib.hid hs
  clear hs
  go_enter Try.func26, Try.ntmps26
  go_upto_region 1 with fail
  have bw := Below.refl w.heap.size w
  have a1 := (ia_alloc ok1).1
  have bb := (ia_alloc ok1).2
  have sz1 := size_box w (.cells x1.cells 35)
  clear ok1
  generalize (w.alloc (.cells x1.cells 35)) = wA at a1 bb sz1 ⊢
  try replace ok1 := ok1.below bb
  try replace ok2 := ok2.below bb
  try replace a1 := a1.below bb
  replace bw := below_on bw bb bw.size
  clear bb
  have a2 := (ia_alloc ok2).1
  have bb := (ia_alloc ok2).2
  have sz2 := size_box wA (.cells x2.cells 35)
  rw [sz1] at a2 sz2
  clear ok2 sz1
  generalize (wA.alloc (.cells x2.cells 35)) = wm at a2 bb sz2 ⊢
  try replace ok1 := ok1.below bb
  try replace ok2 := ok2.below bb
  try replace a1 := a1.below bb
  try replace a2 := a2.below bb
  replace bw := below_on bw bb bw.size
  clear bb
  clear sz2
  have ci0 := a1.c0
  have ci1 := a1.c1
  have ci2 := a1.c2
  have ci3 := a1.c3
  have ci4 := a1.c4
  have ci5 := a1.c5
  have cj0 := a2.c0
  have cj1 := a2.c1
  have cj2 := a2.c2
  have cj3 := a2.c3
  have cj4 := a2.c4
  have cj5 := a2.c5
  go_wp2_with fail
  clear ci0 ci1 ci2 ci3 ci4 ci5
  clear cj0 cj1 cj2 cj3 cj4 cj5
  refine (samef_any _ x1.lo x2.lo true a1.ok.lo a2.ok.lo (decide_eq_true HS.out.l)).mono ?_
  rintro e wn ⟨rfl, bb⟩
  try replace a1 := a1.below bb
  try replace a2 := a2.below bb
  replace bw := below_on bw bb bw.size
  clear bb
  have ci0 := a1.c0
  have ci1 := a1.c1
  have ci2 := a1.c2
  have ci3 := a1.c3
  have ci4 := a1.c4
  have ci5 := a1.c5
  have cj0 := a2.c0
  have cj1 := a2.c1
  have cj2 := a2.c2
  have cj3 := a2.c3
  have cj4 := a2.c4
  have cj5 := a2.c5
  go_wp2_with fail
  clear ci0 ci1 ci2 ci3 ci4 ci5
  clear cj0 cj1 cj2 cj3 cj4 cj5
  refine (samef_any _ x1.hi x2.hi true a1.ok.hi a2.ok.hi (decide_eq_true HS.out.h)).mono ?_
  rintro e wn ⟨rfl, bb⟩
  try replace a1 := a1.below bb
  try replace a2 := a2.below bb
  replace bw := below_on bw bb bw.size
  clear bb
  go_wp2_with fail
  go_ret
  exact ⟨rfl, bw⟩
theorem cmpQ_neg (p q : Rat) : decide (cmpQ p q < 0) = decide (p < q) := by
  rcases cmpQ_cases p q with ⟨h, e⟩ | ⟨h, e⟩ | ⟨h, e⟩ <;> rw [e]
  · rw [decide_eq_true h]; rfl
  · rw [h, decide_eq_false Rat.lt_irrefl]; rfl
  · rw [decide_eq_false (Rat.not_lt.2 (Rat.le_of_lt h))]; rfl
set_option maxHeartbeats 800000 in
theorem xless_any (w : World) (x1 x2 : Fx) (b : Bool) (ok1 : x1.ok w) (ok2 : x2.ok w) (v1 : x1.v) (v2 : x2.v) (l1 : x1.xs.length ≤ 10000) (m1 : x1.ys.length ≤ 10000) (l2 : x2.xs.length ≤ 10000) (m2 : x2.ys.length ≤ 10000) (hb : decide (x1.q < x2.q) = b) :
    Calls Try.prog 15 #[x1.val, x2.val] w fun e w' => e = .returned (.bool b) ∧ Below w.heap.size w w' := by
  obtain ⟨z, hz⟩ : ∃ z, cmpQ x1.q x2.q = z := ⟨_, rfl⟩
  rw [← cmpQ_neg, hz] at hb
  have HB := Lib.hid hb
  have HZ := Lib.hid hz
  have V1 := Lib.hid v1
  have V2 := Lib.hid v2
  clear hb hz v1 v2
  go_enter Try.func15, Try.ntmps15
  go_upto_region 1 with fail
  have bw := Below.refl w.heap.size w
  have a1 := (fa_alloc ok1).1
  have bb := (fa_alloc ok1).2
  have sz1 := size_box w (.cells x1.cells 26)
  clear ok1
  generalize (w.alloc (.cells x1.cells 26)) = wA at a1 bb sz1 ⊢
  try replace ok1 := ok1.below bb
  try replace ok2 := ok2.below bb
  try replace a1 := a1.below bb
  replace bw := below_on bw bb bw.size
  clear bb
  have a2 := (fa_alloc ok2).1
  have bb := (fa_alloc ok2).2
  have sz2 := size_box wA (.cells x2.cells 26)
  rw [sz1] at a2 sz2
  clear ok2 sz1
  generalize (wA.alloc (.cells x2.cells 26)) = wm at a2 bb sz2 ⊢
  try replace ok1 := ok1.below bb
  try replace ok2 := ok2.below bb
  try replace a1 := a1.below bb
  try replace a2 := a2.below bb
  replace bw := below_on bw bb bw.size
  clear bb
  clear sz2
  have ci0 := a1.c0
  have ci1 := a1.c1
  have ci2 := a1.c2
  have cj0 := a2.c0
  have cj1 := a2.c1
  have cj2 := a2.c2
  go_wp2_with fail
  clear ci0 ci1 ci2 cj0 cj1 cj2
  refine (rforder_any _ x1 x2 z a1.ok a2.ok V1.out V2.out l1 m1 l2 m2 HZ.out).mono ?_
  rintro e wn ⟨rfl, bb⟩
  try replace a1 := a1.below bb
  try replace a2 := a2.below bb
  replace bw := below_on bw bb bw.size
  clear bb
  go_wp2_with fail
  go_ret
  exact ⟨ret_bool HB.out, bw⟩
theorem xint_any (w : World) (n : Int) (n0 : -9223372036854775808 ≤ n) (n1 : n ≤ 9223372036854775807) : Calls Try.prog 16 #[.int .i64 n] w fun e w' => ∃ y : Fx, e = .returned y.val ∧ Rp y (n : Rat) ∧ y.ok w' ∧ Below w.heap.size w w' := by
  refine (rfint_any w n n0 n1 (makeF_int n0 n1)).mono ?_
  rintro e w' ⟨y, h1, h2, h3, h4⟩
  have e1 : Rat.divInt n 1 = (n : Rat) := by rw [Rat.divInt_eq_div]; grind
  rw [e1] at h2
  exact ⟨y, h1, Rp.of h2, h3, h4⟩
theorem chkE_rp {x : Fx} {q : Rat} {bits n : Int} (h : Rp x q) (hz : Sz q 128 128) : chkE x bits n = if rangeP q bits n then 5 else if longP q then 2 else 0 := by
  rw [chkE, if_neg (fun k => k (h.v hz)), h.q]
theorem sz_sm {q : Rat} (h : q.num.natAbs < 18446744073709551616) (h2 : q.den < 18446744073709551616) : Sz q 128 128 := ⟨Nat.le_trans (lim_len2 h) (by omega), Nat.le_trans (lim_len2 h2) (by omega)⟩
theorem sz_p1 : Sz ((1 : Int) : Rat) 128 128 := sz_sm (by decide) (by decide)
theorem sz_m1 : Sz ((-1 : Int) : Rat) 128 128 := sz_sm (by decide) (by decide)
theorem sz_14 : Sz (Rat.divInt 1 4) 128 128 := sz_sm (by decide +kernel) (by decide +kernel)
theorem sz_12 : Sz (Rat.divInt 1 2) 128 128 := sz_sm (by decide +kernel) (by decide +kernel)
theorem no_range : ¬ rangeP ((1 : Int) : Rat) 2 0 := by decide +kernel
theorem is_range : rangeP ((-1 : Int) : Rat) 2 0 := by decide +kernel
theorem no_long : ¬ longP ((1 : Int) : Rat) := by
  intro h
  have h1 : (lim ((1 : Int) : Rat).num.natAbs).length ≤ 2 := lim_len2 (by decide)
  have h2 : (lim ((1 : Int) : Rat).den).length ≤ 2 := lim_len2 (by decide)
  rcases h with h | h <;> omega
theorem enc_one {i : Ix} (h : encP ((1 : Int) : Rat) 0 2 0 1 i) : Rp i.lo (Rat.divInt 1 4) ∧ Rp i.hi (Rat.divInt 1 2) := by
  obtain ⟨h1, h2⟩ := h.2 (by decide)
  have e : floorM ((1 : Int) : Rat).num.natAbs ((1 : Int) : Rat).den 0 2 0 = 1 := fl_one
  rw [e] at h1 h2
  rw [← prt14, ← prt24]
  exact ⟨h1, h2⟩
set_option maxHeartbeats 1600000 in
theorem xawake_any (w : World) : Calls Try.prog 17 #[] w fun e w' => e = .returned (.bool true) ∧ Below w.heap.size w w' := by
  go_enter Try.func17, Try.ntmps17
  go_wp2_with fail
  refine (xint_any w 1 (by omega) (by omega)).mono ?_
  rintro _ w1 ⟨x1, rfl, r1, ok1, bw⟩
  have R1 := Lib.hid r1
  clear r1
  go_wp2_with fail
  refine (xexp_any w1 x1 2 0 ok1 (R1.out.l1 sz_p1) (R1.out.l2 sz_p1) (by rw [chkE_rp R1.out sz_p1, if_neg no_range, if_neg no_long])).mono ?_
  rintro _ w2 ⟨i, rfl, oki, hi, bb⟩
  have HI := Lib.hid (by have := hi rfl; rw [R1.out.q] at this; exact enc_one this)
  replace bw := below_on bw bb bw.size
  clear bb hi ok1
  go_upto_region 2 with fail
  have a1 := (ia_alloc oki).1
  have bb := (ia_alloc oki).2
  clear oki
  generalize (w2.alloc (.cells i.cells 35)) = w3 at a1 bb ⊢
  replace bw := below_on bw bb bw.size
  clear bb
  generalize w2.heap.size = g1 at a1 ⊢
  go_wp2_with fail
  refine (xint_any w3 (-1) (by omega) (by omega)).mono ?_
  rintro _ w4 ⟨x2, rfl, r2, ok2, bb⟩
  have R2 := Lib.hid r2
  replace a1 := a1.below bb
  replace bw := below_on bw bb bw.size
  clear bb r2
  go_wp2_with fail
  refine (xexp_any w4 x2 2 5 ok2 (R2.out.l1 sz_m1) (R2.out.l2 sz_m1) (by rw [chkE_rp R2.out sz_m1, if_pos is_range])).mono ?_
  rintro _ w5 ⟨i2, rfl, oki2, _, bb⟩
  replace a1 := a1.below bb
  replace bw := below_on bw bb bw.size
  clear bb ok2
  go_upto_region 3 with fail
  have bb := (ia_alloc oki2).2
  clear oki2
  generalize (w5.alloc (.cells i2.cells 35)) = w6 at bb ⊢
  replace a1 := a1.below bb
  replace bw := below_on bw bb bw.size
  clear bb
  go_wp2_with fail
  refine (rfmake_any w6 1 4 (okS (Rat.divInt 1 4)) (by omega) (by omega) (by omega) (by omega) (by rw [makeF, if_neg (by omega)]; exact frS_ok sz_14)).mono ?_
  rintro _ wn ⟨x3, rfl, hs3, ok3, bb⟩
  have R3 := Lib.hid (Rp.of hs3)
  replace a1 := a1.below bb
  replace bw := below_on bw bb bw.size
  clear bb hs3
  go_upto_region 4 with fail
  have a3 := (fa_alloc ok3).1
  have bb := (fa_alloc ok3).2
  clear ok3
  generalize (wn.alloc (.cells #[.bool x3.b, .slice x3.A x3.xs.length x3.c, .slice x3.D x3.ys.length x3.d] 26)) = w7 at a3 bb ⊢
  replace a1 := a1.below bb
  replace bw := below_on bw bb bw.size
  clear bb
  generalize wn.heap.size = g3 at a3 ⊢
  go_wp2_with fail
  refine (rfmake_any w7 1 2 (okS (Rat.divInt 1 2)) (by omega) (by omega) (by omega) (by omega) (by rw [makeF, if_neg (by omega)]; exact frS_ok sz_12)).mono ?_
  rintro _ wn ⟨x4, rfl, hs4, ok4, bb⟩
  have R4 := Lib.hid (Rp.of hs4)
  replace a1 := a1.below bb
  replace a3 := a3.below bb
  replace bw := below_on bw bb bw.size
  clear bb hs4
  go_upto_region 5 with fail
  have a4 := (fa_alloc ok4).1
  have bb := (fa_alloc ok4).2
  clear ok4
  generalize (wn.alloc (.cells #[.bool x4.b, .slice x4.A x4.xs.length x4.c, .slice x4.D x4.ys.length x4.d] 26)) = w8 at a4 bb ⊢
  replace a1 := a1.below bb
  replace a3 := a3.below bb
  replace bw := below_on bw bb bw.size
  clear bb
  generalize wn.heap.size = g4 at a4 ⊢
  have b0 := a1.c0
  have b1 := a1.c1
  have b2 := a1.c2
  have b3 := a1.c3
  have b4 := a1.c4
  have b5 := a1.c5
  have ci0 := a3.c0
  have ci1 := a3.c1
  have ci2 := a3.c2
  have cj0 := a4.c0
  have cj1 := a4.c1
  have cj2 := a4.c2
  go_wp2_with fail
  refine (samei_any w8 i ⟨x3, x4⟩ a1.ok ⟨a3.ok, a4.ok⟩ ⟨HI.out.1.same R3.out, HI.out.2.same R4.out⟩).mono ?_
  rintro _ w9 ⟨rfl, bb⟩
  replace bw := below_on bw bb bw.size
  clear bb
  go_wp2_with fail
  go_ret
  exact ⟨rfl, bw⟩
end Go.Proofs.Ytnmomigaedfdoaa
namespace Go.Proofs.Ytnmomigaedfdoaa
set_option maxRecDepth 100000
open Go.RowKit

/-- a fraction from 0 to 64 -/
def numP (num den : Nat) : Rat := Rat.divInt (num : Int) ((den : Int) + 1)
def numQ (num den : Nat) : Rat := if ((64 : Int) : Rat) < numP num den then ((64 : Int) : Rat) else numP num den
theorem sz_64 : Sz ((64 : Int) : Rat) 128 128 := sz_sm (by decide) (by decide)
theorem numP_sz {num den : Nat} (hn : num < 65536) (hd : den < 256) : Sz (numP num den) 128 128 ∧ (lim (numP num den).num.natAbs).length ≤ 2 ∧ (lim (numP num den).den).length ≤ 2 := by
  have h : Sz (numP num den) 2 2 := by
    rw [numP, ← qv_divInt (by omega)]
    exact Sz.of_qv (by omega) (lim_len2 (by omega)) (lim_len2 (by omega))
  exact ⟨h.mono (by omega) (by omega), h.1, h.2⟩
theorem numP_nonneg (num den : Nat) : 0 ≤ numP num den := by
  rw [numP, Rat.divInt_eq_div]
  have h1 : (0 : Rat) ≤ ((num : Int) : Rat) := Rat.intCast_nonneg.2 (by omega)
  have h2 : (0 : Rat) < (((den : Int) + 1 : Int) : Rat) := Rat.intCast_pos.2 (by omega)
  have h3 : ((num : Int) : Rat) / (((den : Int) + 1 : Int) : Rat) * (((den : Int) + 1 : Int) : Rat) = ((num : Int) : Rat) := Rat.div_mul_cancel (by grind)
  generalize ((num : Int) : Rat) / (((den : Int) + 1 : Int) : Rat) = c at h3 ⊢
  generalize (((den : Int) + 1 : Int) : Rat) = b at h2 h3
  rcases Rat.le_total (a := 0) (b := c) with h | h
  · exact h
  · by_cases h0 : c = 0
    · grind
    · have := Rat.mul_pos (a := -c) (b := b) (by grind) h2
      grind
theorem numQ_ok {num den : Nat} (hn : num < 65536) (hd : den < 256) : Sz (numQ num den) 128 128 ∧ 0 ≤ numQ num den ∧ ¬ (64 : Rat) < numQ num den ∧ ¬ longP (numQ num den) := by
  obtain ⟨h1, h2, h3⟩ := numP_sz hn hd
  have e : ((64 : Int) : Rat) = 64 := rfl
  by_cases h : ((64 : Int) : Rat) < numP num den
  · rw [numQ, if_pos h]
    refine ⟨sz_64, by decide, by decide, ?_⟩
    intro k
    have l1 : (lim ((64 : Int) : Rat).num.natAbs).length ≤ 2 := lim_len2 (by decide)
    have l2 : (lim ((64 : Int) : Rat).den).length ≤ 2 := lim_len2 (by decide)
    rcases k with k | k <;> omega
  · rw [numQ, if_neg h]
    refine ⟨h1, numP_nonneg _ _, by rw [← e]; exact h, ?_⟩
    intro k
    rcases k with k | k <;> omega
set_option maxHeartbeats 1600000 in
theorem number_any (w : World) (num den : Nat) (hn : num < 65536) (hd : den < 256) :
    Calls Try.prog 13 #[.int .u16 (num : Int), .int .u8 (den : Int)] w fun e w' => ∃ y : Fx, e = .returned y.val ∧ Rp y (numQ num den) ∧ y.ok w' ∧ Below w.heap.size w w' := by
  have HSZ := Lib.hid (numP_sz hn hd).1
  go_enter Try.func13, Try.ntmps13
  go_upto_region 1 with fail
  have bw := (Below.refl w.heap.size w).alloc (Nat.le_refl _) (.cells #[.bool false, .slice none 0 0, .slice none 0 0] 26)
  have bk := bk3_new w
  generalize (w.alloc (.cells #[.bool false, .slice none 0 0, .slice none 0 0] 26)) = w1 at bw bk ⊢
  go_wp2_with fail
  refine (rfmake_any w1 (num : Int) ((den : Int) + 1) (okS (numP num den)) (by omega) (by omega) (by omega) (by omega) (by rw [makeF, if_neg (by omega)]; exact frS_ok HSZ.out)).mono ?_
  rintro _ w2 ⟨y, rfl, hs, oky, bb⟩
  have HY := Lib.hid (Rp.of hs)
  replace bk := bk.below bb
  replace bw := below_on bw bb bw.size
  clear bb hs
  go_upto_region 2 with fail
  have a5 := (fa_alloc oky).1
  have bb := (fa_alloc oky).2
  clear oky
  generalize (w2.alloc (.cells #[.bool y.b, .slice y.A y.xs.length y.c, .slice y.D y.ys.length y.d] 26)) = w3 at a5 bb ⊢
  replace bk := bk.below bb
  replace bw := below_on bw bb bw.size
  clear bb
  generalize w2.heap.size = g5 at a5 ⊢
  have A5 := Lib.hid a5
  have B1 := Lib.hid bk
  have HBW := Lib.hid bw
  clear a5 bk bw
  by_cases hb : ((64 : Int) : Rat) < numP num den
  · have HB := Lib.hid hb
    clear hb
    refine wp_region_held_drew (S := fun w' => w'.cell? ⟨g5, 0, none⟩ = some (.bool y.b) ∧ w'.cell? ⟨g5, 1, none⟩ = some (.slice y.A y.xs.length y.c) ∧ w'.cell? ⟨g5, 2, none⟩ = some (.slice y.D y.ys.length y.d)) (by kernel_rfl) ⟨(A5.out.below ((Below.refl w3.heap.size w3).drew)).c0, (A5.out.below ((Below.refl w3.heap.size w3).drew)).c1, (A5.out.below ((Below.refl w3.heap.size w3).drew)).c2⟩ (fun hHeld => ?_)
    have bz := (Below.refl w3.heap.size w3).drew
    generalize w3.drew = wd at *
    refine tkw 1 (y.val) rfl (by kernel_rfl) (by kernel_rfl) (by kernel_rfl) (fun _ _ _ h => h) ⟨by rfl, ?_⟩ (by assumption) ?_
    ·intro w hSw; (try dsimp only at hSw); obtain ⟨s0, s1, s2⟩ := hSw; go_simp; (try with_reducible rfl)
    try simp only [Act.put, tzA, tzB, tzC, tzD, tzE, tzF]
    refine wpAnyH_ready (rs := [0]) (by kernel_rfl) (by simp) ?_
    refine AllReadyH.cons rfl (fun K hK => ?_) ?_
    ·go_simp
     go_at_call 16
     refine (xint_any wd 64 (by omega) (by omega)).mono ?_
     rintro _ wd ⟨z1, rfl, rz, oz, bb⟩
     try replace oz := oz.below bb
     replace bz := below_on bz bb bz.size
     clear bb
     refine hK.out _ _ ⟨(A5.out.below bz).c0, (A5.out.below bz).c1, (A5.out.below bz).c2⟩ (fun hHeld => ?_)
     clear hK K
     try simp only [Act.put]
     try simp only [tzD, tzE, tzF]
     refine wpAnyH_ready (rs := [2]) (by kernel_rfl) (by simp) ?_
     refine AllReadyH.cons rfl (fun K hK => ?_) ?_
     ·go_simp
      go_at_call 15
      refine (xless_any wd z1 y true oz (A5.out.below bz).ok (rz.v sz_64) (HY.out.v HSZ.out) (rz.l1 sz_64) (rz.l2 sz_64) (HY.out.l1 HSZ.out) (HY.out.l2 HSZ.out) (by rw [rz.q, HY.out.q]; exact decide_eq_true HB.out)).mono ?_
      rintro _ wd ⟨rfl, bb⟩
      try replace oz := oz.below bb
      replace bz := below_on bz bb bz.size
      clear bb
      refine hK.out _ _ ⟨(A5.out.below bz).c0, (A5.out.below bz).c1, (A5.out.below bz).c2⟩ (fun hHeld => ?_)
      clear hK K
      try simp only [Act.put]
      try simp only [tzD, tzE, tzF]
      refine wpAnyH_done (by kernel_rfl) ?_ _
      have bq := B1.out.below bz
      have bt := below_on HBW.out bz HBW.out.size
      clear bz oz rz
      go_wp2_with fail
      refine (xint_any wd 64 (by omega) (by omega)).mono ?_
      rintro _ we ⟨z2, rfl, rz, oz, bb⟩
      replace bq := bq.below bb
      replace bt := below_on bt bb bt.size
      clear bb
      have tk := bq
      obtain ⟨k0, k1, k2, kf0, kf1, kf2, klt, kb⟩ := tk
      clear kb
      go_wp2_with fail
      refine bodyPost_ret (v := z2.val) (by simp [results, Try.results13, go_sem, k0, k1, k2]) rfl ?_
      exact ⟨z2, rfl, by rw [numQ, if_pos HB.out]; exact rz, set3_ok oz bq rfl rfl rfl, set3g bt (Nat.le_refl _)⟩
     exact AllReadyH.nil
    exact AllReadyH.nil
  · have HB : Hid (¬ ((64 : Int) : Rat) < numP num den) := Lib.hid hb
    clear hb
    refine wp_region_held_drew (S := fun w' => w'.cell? ⟨g5, 0, none⟩ = some (.bool y.b) ∧ w'.cell? ⟨g5, 1, none⟩ = some (.slice y.A y.xs.length y.c) ∧ w'.cell? ⟨g5, 2, none⟩ = some (.slice y.D y.ys.length y.d)) (by kernel_rfl) ⟨(A5.out.below ((Below.refl w3.heap.size w3).drew)).c0, (A5.out.below ((Below.refl w3.heap.size w3).drew)).c1, (A5.out.below ((Below.refl w3.heap.size w3).drew)).c2⟩ (fun hHeld => ?_)
    have bz := (Below.refl w3.heap.size w3).drew
    generalize w3.drew = wd at *
    refine tkw 1 (y.val) rfl (by kernel_rfl) (by kernel_rfl) (by kernel_rfl) (fun _ _ _ h => h) ⟨by rfl, ?_⟩ (by assumption) ?_
    ·intro w hSw; (try dsimp only at hSw); obtain ⟨s0, s1, s2⟩ := hSw; go_simp; (try with_reducible rfl)
    try simp only [Act.put, tzA, tzB, tzC, tzD, tzE, tzF]
    refine wpAnyH_ready (rs := [0]) (by kernel_rfl) (by simp) ?_
    refine AllReadyH.cons rfl (fun K hK => ?_) ?_
    ·go_simp
     go_at_call 16
     refine (xint_any wd 64 (by omega) (by omega)).mono ?_
     rintro _ wd ⟨z1, rfl, rz, oz, bb⟩
     try replace oz := oz.below bb
     replace bz := below_on bz bb bz.size
     clear bb
     refine hK.out _ _ ⟨(A5.out.below bz).c0, (A5.out.below bz).c1, (A5.out.below bz).c2⟩ (fun hHeld => ?_)
     clear hK K
     try simp only [Act.put]
     try simp only [tzD, tzE, tzF]
     refine wpAnyH_ready (rs := [2]) (by kernel_rfl) (by simp) ?_
     refine AllReadyH.cons rfl (fun K hK => ?_) ?_
     ·go_simp
      go_at_call 15
      refine (xless_any wd z1 y false oz (A5.out.below bz).ok (rz.v sz_64) (HY.out.v HSZ.out) (rz.l1 sz_64) (rz.l2 sz_64) (HY.out.l1 HSZ.out) (HY.out.l2 HSZ.out) (by rw [rz.q, HY.out.q]; exact decide_eq_false HB.out)).mono ?_
      rintro _ wd ⟨rfl, bb⟩
      try replace oz := oz.below bb
      replace bz := below_on bz bb bz.size
      clear bb
      refine hK.out _ _ ⟨(A5.out.below bz).c0, (A5.out.below bz).c1, (A5.out.below bz).c2⟩ (fun hHeld => ?_)
      clear hK K
      try simp only [Act.put]
      try simp only [tzD, tzE, tzF]
      refine wpAnyH_done (by kernel_rfl) ?_ _
      have bq := B1.out.below bz
      have bt := below_on HBW.out bz HBW.out.size
      have aq := A5.out.below bz
      clear bz oz rz
      have tk := bq
      obtain ⟨k0, k1, k2, kf0, kf1, kf2, klt, kb⟩ := tk
      clear kb
      have tq := aq.bk
      obtain ⟨q0, q1, q2, qf0, qf1, qf2, qlt, qb⟩ := tq
      clear qb
      go_wp2_with fail
      refine bodyPost_ret (v := y.val) (by simp [results, Try.results13, go_sem, k0, k1, k2]) rfl ?_
      exact ⟨y, rfl, by rw [numQ, if_neg HB.out]; exact HY.out, set3_ok aq.ok bq rfl rfl rfl, set3g bt (Nat.le_refl _)⟩
     exact AllReadyH.nil
    exact AllReadyH.nil
end Go.Proofs.Ytnmomigaedfdoaa
namespace Go.Proofs.Ytnmomigaedfdoaa
set_option maxRecDepth 100000
open Go.RowKit

theorem num_chk {x : Fx} {num den b : Nat} {n : Int} (h : Rp x (numQ num den)) (hn : num < 65536) (hd : den < 256) (b0 : 1 ≤ b) (b1 : b ≤ 64) (n0 : 0 ≤ n) (n1 : n ≤ 256) : chkE x (b : Int) n = 0 := by
  obtain ⟨h1, h2, h3, h4⟩ := numQ_ok hn hd
  have hr : ¬ rangeP (numQ num den) (b : Int) n := by
    rintro (k | k | k | k | k | k)
    · exact absurd k (by grind)
    · exact h3 k
    · omega
    · omega
    · omega
    · omega
  rw [chkE_rp h h1, if_neg hr, if_neg h4]
theorem wf_u16 {z : Int} (h : (Lit.int .u16 z).wf = true) : ∃ n : Nat, z = (n : Int) ∧ n < 65536 := by
  simp [Lit.wf, IntKind.min, IntKind.max, IntKind.signed, IntKind.bits] at h
  exact ⟨z.toNat, by omega, by omega⟩
theorem wf_u8 {z : Int} (h : (Lit.int .u8 z).wf = true) : ∃ n : Nat, z = (n : Int) ∧ n < 256 := by
  simp [Lit.wf, IntKind.min, IntKind.max, IntKind.signed, IntKind.bits] at h
  exact ⟨z.toNat, by omega, by omega⟩
end Go.Proofs.Ytnmomigaedfdoaa
namespace Go.Proofs.Ytnmomigaedfdoaa
set_option maxRecDepth 100000

/-- the lane q, L digits wide -/
def lnq (L v q : Nat) : Nat := v / 2 ^ (L * q) % 2 ^ L
theorem bit_lnq (L v q s : Nat) : (lnq L v q).testBit s = (decide (s < L) && v.testBit (L * q + s)) := by
  rw [lnq, Nat.testBit_mod_two_pow, Nat.testBit_div_two_pow, Nat.add_comm s]
/-- the lanes of two numbers side by side -/
theorem cat_lt {L V U N M : Nat} (hV : V < 2 ^ (L * N)) (hU : U < 2 ^ (L * M)) : V + U <<< (L * N) < 2 ^ (L * (N + M)) := by
  rw [Nat.shiftLeft_eq, Nat.mul_add, Nat.pow_add]
  have h1 : (U + 1) * 2 ^ (L * N) ≤ 2 ^ (L * M) * 2 ^ (L * N) := Nat.mul_le_mul_right _ hU
  rw [Nat.add_mul, Nat.one_mul, Nat.mul_comm (2 ^ (L * M))] at h1
  omega
theorem cat_bit {L V U N : Nat} (hV : V < 2 ^ (L * N)) (i : Nat) : (V + U <<< (L * N)).testBit i = if i < L * N then V.testBit i else U.testBit (i - L * N) := by
  rw [Nat.add_comm, Nat.shiftLeft_eq, Nat.mul_comm, Nat.testBit_two_pow_mul_add _ hV]
theorem cat_low {L V U N q : Nat} (hV : V < 2 ^ (L * N)) (hq : q < N) : lnq L (V + U <<< (L * N)) q = lnq L V q := by
  refine Nat.eq_of_testBit_eq fun s => ?_
  rw [bit_lnq, bit_lnq]
  by_cases hs : s < L
  · have h1 := Nat.mul_le_mul_left L (show q + 1 ≤ N from hq)
    rw [Nat.mul_add, Nat.mul_one] at h1
    rw [cat_bit hV, if_pos (by omega)]
  · rw [decide_eq_false hs, Bool.false_and, Bool.false_and]
theorem cat_high {L V U N q : Nat} (hV : V < 2 ^ (L * N)) : lnq L (V + U <<< (L * N)) (N + q) = lnq L U q := by
  refine Nat.eq_of_testBit_eq fun s => ?_
  rw [bit_lnq, bit_lnq]
  rw [cat_bit hV, Nat.mul_add, if_neg (by omega)]
  congr 2
  omega
/-- 2^j lanes that hold m -/
def rep (L m : Nat) : Nat → Nat
  | 0 => m
  | j + 1 => rep L m j + (rep L m j) <<< (L * 2 ^ j)
theorem rep_lt {L m : Nat} (hm : m < 2 ^ L) : ∀ j, rep L m j < 2 ^ (L * 2 ^ j) := by
  intro j
  induction j with
  | zero => show m < 2 ^ (L * 2 ^ 0); rw [Nat.pow_zero, Nat.mul_one]; exact hm
  | succ j ih =>
    have h := cat_lt ih ih
    rw [← Nat.two_mul] at h
    rwa [Nat.pow_succ, Nat.mul_comm (2 ^ j) 2]
theorem rep_ln {L m : Nat} (hm : m < 2 ^ L) : ∀ j q, q < 2 ^ j → lnq L (rep L m j) q = m := by
  intro j
  induction j with
  | zero =>
    intro q hq
    obtain rfl : q = 0 := by rw [Nat.pow_zero] at hq; omega
    show m / 2 ^ (L * 0) % 2 ^ L = m
    rw [Nat.mul_zero, Nat.pow_zero, Nat.div_one, Nat.mod_eq_of_lt hm]
  | succ j ih =>
    intro q hq
    rw [Nat.pow_succ] at hq
    rw [rep]
    rcases Nat.lt_or_ge q (2 ^ j) with h | h
    · rw [cat_low (rep_lt hm j) h]; exact ih q h
    · obtain ⟨d, rfl⟩ := Nat.exists_eq_add_of_le h
      rw [cat_high (rep_lt hm j)]; exact ih d (by omega)
theorem rep_bit {L m j q s : Nat} (hm : m < 2 ^ L) (hq : q < 2 ^ j) (hs : s < L) : (rep L m j).testBit (L * q + s) = m.testBit s := by
  have h := bit_lnq L (rep L m j) q s
  rw [rep_ln hm j q hq, decide_eq_true hs, Bool.true_and] at h
  exact h.symm
/-- all lanes times c -/
theorem mod_lane (L V q : Nat) : V % 2 ^ (L * (q + 1)) = V % 2 ^ (L * q) + 2 ^ (L * q) * lnq L V q := by
  rw [Nat.mul_add, Nat.pow_add, Nat.mod_mul, lnq, Nat.mul_one]
theorem low_mul {L V c : Nat} : ∀ q, (∀ i, i < q → lnq L V i * c < 2 ^ L) → V % 2 ^ (L * q) * c < 2 ^ (L * q) := by
  intro q
  induction q with
  | zero => intro _; rw [Nat.mul_zero, Nat.pow_zero, Nat.mod_one, Nat.zero_mul]; omega
  | succ q ih =>
    intro h
    have h1 := ih fun i hi => h i (by omega)
    have h2 := h q (by omega)
    rw [mod_lane, Nat.add_mul, Nat.mul_assoc, Nat.mul_add L q 1, Nat.pow_add, Nat.mul_one]
    generalize lnq L V q * c = y at h2 ⊢
    have h3 : 2 ^ (L * q) * (y + 1) ≤ 2 ^ (L * q) * 2 ^ L := Nat.mul_le_mul_left _ h2
    rw [Nat.mul_add, Nat.mul_one] at h3
    omega
theorem mul_lane {L V c q : Nat} (h : ∀ i, i ≤ q → lnq L V i * c < 2 ^ L) : lnq L (V * c) q = lnq L V q * c := by
  have h1 := low_mul (V := V) (c := c) q fun i hi => h i (by omega)
  have h2 := h q (Nat.le_refl _)
  have e1 : V * c = V % 2 ^ (L * q) * c + 2 ^ (L * q) * (V / 2 ^ (L * q) * c) := by
    have := Nat.mod_add_div V (2 ^ (L * q))
    rw [← Nat.mul_assoc, ← Nat.add_mul, this]
  have e2 : V * c / 2 ^ (L * q) = V / 2 ^ (L * q) * c := by
    rw [e1, Nat.add_mul_div_left _ _ (Nat.pow_pos (by omega)), Nat.div_eq_of_lt h1, Nat.zero_add]
  have e3 : lnq L (V * c) q = V / 2 ^ (L * q) * c % 2 ^ L := by
    show V * c / 2 ^ (L * q) % 2 ^ L = _
    rw [e2]
  rw [e3]
  show V / 2 ^ (L * q) * c % 2 ^ L = V / 2 ^ (L * q) % 2 ^ L * c
  have e4 := Nat.mod_add_div (V / 2 ^ (L * q)) (2 ^ L)
  have e5 : V / 2 ^ (L * q) * c = V / 2 ^ (L * q) % 2 ^ L * c + 2 ^ L * (V / 2 ^ (L * q) / 2 ^ L * c) := by rw [← Nat.mul_assoc, ← Nat.add_mul, e4]
  rw [e5, Nat.add_mul_mod_self_left]
  exact Nat.mod_eq_of_lt h2
/-- every digit or'ed with the 2^j - 1 that stand left of it -/
def foldr2 (x : Nat) : Nat → Nat
  | 0 => x
  | j + 1 => foldr2 x j ||| (foldr2 x j) >>> (2 ^ j)
theorem fold_bit (x : Nat) : ∀ j i, (foldr2 x j).testBit i = true ↔ ∃ s, s < 2 ^ j ∧ x.testBit (i + s) = true := by
  intro j
  induction j with
  | zero =>
    intro i
    rw [Nat.pow_zero]
    exact ⟨fun h => ⟨0, by omega, h⟩, fun ⟨s, hs, h⟩ => by have e : s = 0 := (by omega); rw [e] at h; exact h⟩
  | succ j ih =>
    intro i
    rw [foldr2, Nat.testBit_or, Nat.testBit_shiftRight, Bool.or_eq_true, ih i, ih (2 ^ j + i), Nat.pow_succ]
    constructor
    · rintro (⟨s, hs, h⟩ | ⟨s, hs, h⟩)
      · exact ⟨s, by omega, h⟩
      · exact ⟨2 ^ j + s, by omega, by rw [show i + (2 ^ j + s) = 2 ^ j + i + s by omega]; exact h⟩
    · rintro ⟨s, hs, h⟩
      rcases Nat.lt_or_ge s (2 ^ j) with h1 | h1
      · exact Or.inl ⟨s, h1, h⟩
      · obtain ⟨d, rfl⟩ := Nat.exists_eq_add_of_le h1
        exact Or.inr ⟨d, by omega, by rw [show 2 ^ j + i + d = i + (2 ^ j + d) by omega]; exact h⟩
/-- the 192 digits from here on to the left -/
def smear (x : Nat) : Nat := foldr2 x 7 ||| (foldr2 x 7) >>> 64
theorem smear_bit {x i : Nat} (h : (smear x).testBit i = false) : ∀ s, s < 192 → x.testBit (i + s) = false := by
  intro s hs
  cases hb : x.testBit (i + s) with
  | false => rfl
  | true =>
    have : (smear x).testBit i = true := by
      rw [smear, Nat.testBit_or, Nat.testBit_shiftRight, Bool.or_eq_true, fold_bit, fold_bit]
      rcases Nat.lt_or_ge s 128 with h1 | h1
      · exact Or.inl ⟨s, by omega, hb⟩
      · exact Or.inr ⟨s - 64, by omega, by rw [show 64 + i + (s - 64) = i + s by omega]; exact hb⟩
    rw [h] at this
    exact absurd this (by decide)
def maskN (L m n : Nat) : Nat := (rep L m n >>> L) <<< L
theorem mask_bit {L m n q s : Nat} (hm : m < 2 ^ L) (h1 : 1 ≤ q) (hq : q < 2 ^ n) (hs : s < L) : (maskN L m n).testBit (L * q + s) = m.testBit s := by
  obtain ⟨d, rfl⟩ := Nat.exists_eq_add_of_le h1
  rw [maskN, Nat.testBit_shiftLeft, Nat.testBit_shiftRight, Nat.mul_add, Nat.mul_one, decide_eq_true (by omega), Bool.true_and]
  have e : L + (L + L * d + s - L) = L * (1 + d) + s := by rw [Nat.mul_add, Nat.mul_one]; omega
  rw [e, rep_bit hm hq hs]
/-- where m has a digit, the 65 digits from it on to the left are not all alike in any lane but the first; or the lane has none there -/
def goodL (L m V n : Nat) : Bool := ((smear V &&& maskN L m n) &&& foldr2 (V ^^^ (V >>> 1)) 6) == (smear V &&& maskN L m n)
theorem lane_good {L m V n q r : Nat} (hm : m < 2 ^ L) (hg : goodL L m V n = true) (h1 : 1 ≤ q) (hq : q < 2 ^ n) (hmr : m.testBit r = true) (hr : r + 192 ≤ L) (hv : lnq L V q < 2 ^ (r + 192)) :
    lnq L V q < 2 ^ r ∨ (2 ^ r ≤ lnq L V q % 2 ^ (r + 65) ∧ lnq L V q % 2 ^ (r + 65) + 2 ^ r ≤ 2 ^ (r + 65)) := by
  have hM := mask_bit (n := n) hm h1 hq (show r < L by omega)
  rw [hmr] at hM
  have hE : ((smear V &&& maskN L m n) &&& foldr2 (V ^^^ (V >>> 1)) 6).testBit (L * q + r) = (smear V &&& maskN L m n).testBit (L * q + r) := by
    rw [eq_of_beq hg]
  rw [Nat.testBit_and, Nat.testBit_and, hM, Bool.and_true] at hE
  generalize hw : lnq L V q = v at hv ⊢
  have hbit : ∀ t, r + t < L → v.testBit (r + t) = V.testBit (L * q + r + t) := fun t ht => by
    rw [← hw, bit_lnq, decide_eq_true ht, Bool.true_and, Nat.add_assoc]
  cases hS : (smear V).testBit (L * q + r) with
  | false =>
    left
    have h2 := smear_bit hS
    refine Nat.lt_pow_two_of_testBit _ fun j hj => ?_
    obtain ⟨t, rfl⟩ := Nat.exists_eq_add_of_le hj
    rcases Nat.lt_or_ge t 192 with h3 | h3
    · rw [hbit t (by omega)]; exact h2 t h3
    · exact Nat.testBit_lt_two_pow (Nat.lt_of_lt_of_le hv (Nat.pow_le_pow_right (by omega) (by omega)))
  | true =>
    right
    rw [hS, Bool.true_and] at hE
    obtain ⟨s, hs, hx⟩ := (fold_bit _ 6 _).1 hE
    rw [Nat.testBit_xor, Nat.testBit_shiftRight] at hx
    have hs64 : s < 64 := hs
    rw [← hbit s (by omega), show 1 + (L * q + r + s) = L * q + r + (s + 1) by omega, ← hbit (s + 1) (by omega)] at hx
    obtain ⟨u, hu⟩ : ∃ u, v / 2 ^ r % 2 ^ 65 = u := ⟨_, rfl⟩
    have hub : ∀ t, t < 65 → u.testBit t = v.testBit (r + t) := fun t ht => by
      rw [← hu, Nat.testBit_mod_two_pow, Nat.testBit_div_two_pow, decide_eq_true ht, Bool.true_and, Nat.add_comm]
    rw [← hub s (by omega), ← hub (s + 1) (by omega)] at hx
    have hu0 : u ≠ 0 := by
      rintro rfl
      rw [Nat.zero_testBit, Nat.zero_testBit] at hx
      exact absurd hx (by decide)
    have hu1 : u ≠ 2 ^ 65 - 1 := by
      rintro rfl
      rw [Nat.testBit_two_pow_sub_one, Nat.testBit_two_pow_sub_one, decide_eq_true (by omega), decide_eq_true (by omega)] at hx
      exact absurd hx (by decide)
    have hul : u < 2 ^ 65 := by rw [← hu]; exact Nat.mod_lt _ (Nat.pow_pos (by omega))
    have e : v % 2 ^ (r + 65) = v % 2 ^ r + 2 ^ r * u := by rw [Nat.pow_add, Nat.mod_mul, hu]
    have hlo : v % 2 ^ r < 2 ^ r := Nat.mod_lt _ (Nat.pow_pos (by omega))
    have g1 : 2 ^ r * 1 ≤ 2 ^ r * u := Nat.mul_le_mul_left _ (by omega)
    have g2 : 2 ^ r * (u + 2) ≤ 2 ^ r * 2 ^ 65 := Nat.mul_le_mul_left _ (by omega)
    rw [e, Nat.pow_add 2 r 65]
    rw [Nat.mul_add] at g2
    omega
end Go.Proofs.Ytnmomigaedfdoaa
