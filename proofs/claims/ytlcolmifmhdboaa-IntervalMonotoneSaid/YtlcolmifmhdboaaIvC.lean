/- The walks of package interval: Point, Add, Sub. -/
import Derived.Test.YtlcolmifmhdboaaIvA
import Derived.Test.YtlcolmifmhdboaaFrE
namespace Go.Proofs.Ytlcolmifmhdboaa
open Go.RowKit

def pointS (x : Fx) : IvS := if x.v then (redS x, redS x, 0) else errI 1
set_option maxHeartbeats 800000 in
set_option maxRecDepth 100000 in
theorem ipoint_any (w : World) (x1 : Fx) (S : IvS) (ok1 : x1.ok w) (l1 : x1.xs.length ≤ 10000) (m1 : x1.ys.length ≤ 10000) (hs : pointS x1 = S) :
    Calls Try.prog 44 #[x1.val] w (IvlRes w S) := by
  have HS := Lib.hid hs
  clear hs
  by_cases hv : x1.v
  · have HV := Lib.hid hv
    clear hv
    go_enter Try.func44, Try.ntmps44
    go_upto_region 1 with fail
    have bw := Below.refl w.heap.size w
    have a1 := (fa_alloc ok1).1
    have bb := (fa_alloc ok1).2
    have sz1 := size_box w (.cells x1.cells 25)
    clear ok1
    generalize (w.alloc (.cells x1.cells 25)) = wA at a1 bb sz1 ⊢
    try replace ok1 := ok1.below bb
    try replace a1 := a1.below bb
    replace bw := below_on bw bb bw.size
    clear bb
    have br := (zr_alloc wA).1
    have bb := (zr_alloc wA).2
    rw [sz1] at br
    clear sz1
    generalize (wA.alloc (.cells zcells 41)) = wm at br bb ⊢
    try replace a1 := a1.below bb
    replace bw := below_on bw bb bw.size
    clear bb
    have ci0 := a1.c0
    have ci1 := a1.c1
    have ci2 := a1.c2
    go_wp2_with fail
    clear ci0 ci1 ci2
    refine (fvalid_any _ x1 true a1.ok l1 m1 (decide_eq_true HV.out)).mono ?_
    rintro e wn ⟨rfl, bb⟩
    try replace br := br.below bb
    try replace a1 := a1.below bb
    replace bw := below_on bw bb bw.size
    clear bb
    have ci0 := a1.c0
    have ci1 := a1.c1
    have ci2 := a1.c2
    go_wp2_with fail
    clear ci0 ci1 ci2
    refine (ibetween_any _ x1 x1 (redS x1) (redS x1) a1.ok a1.ok l1 m1 l1 m1 rfl rfl).mono ?_
    rintro e wn ⟨a, rfl, h1, h2, oka, bb⟩
    try replace br := br.below bb
    try replace a1 := a1.below bb
    replace bw := below_on bw bb bw.size
    clear bb
    have r0 := br.cell 0
    have r1 := br.cell 1
    have r2 := br.cell 2
    have r3 := br.cell 3
    have r4 := br.cell 4
    have r5 := br.cell 5
    have rf0 := br.unf 0
    have rf1 := br.unf 1
    have rf2 := br.unf 2
    have rf3 := br.unf 3
    have rf4 := br.unf 4
    have rf5 := br.unf 5
    simp only [List.getElem?_toArray, List.getElem?_cons_succ, List.getElem?_cons_zero] at r0 r1 r2 r3 r4 r5
    go_wp2_with fail
    refine bodyPost_ret (v := .tuple #[(a : Ix).val, .int .i64 0]) (by simp [results, Try.results44, go_sem, r0, r1, r2, r3, r4, r5]) rfl ?_
    rw [← HS.out, pointS, if_pos HV.out]
    exact ⟨a, rfl, h1, h2, ⟨set6_ok oka.lo br noInt_z, set6_ok oka.hi br noInt_z⟩, set6_below bw (by omega)⟩
  · have HV : Hid (¬ x1.v) := hv
    clear hv
    go_enter Try.func44, Try.ntmps44
    go_upto_region 1 with fail
    have bw := Below.refl w.heap.size w
    have a1 := (fa_alloc ok1).1
    have bb := (fa_alloc ok1).2
    have sz1 := size_box w (.cells x1.cells 25)
    clear ok1
    generalize (w.alloc (.cells x1.cells 25)) = wA at a1 bb sz1 ⊢
    try replace ok1 := ok1.below bb
    try replace br := br.below bb
    try replace a1 := a1.below bb
    replace bw := below_on bw bb bw.size
    clear bb
    have br := (zr_alloc wA).1
    have bb := (zr_alloc wA).2
    rw [sz1] at br
    clear sz1
    generalize (wA.alloc (.cells zcells 41)) = wm at br bb ⊢
    try replace a1 := a1.below bb
    replace bw := below_on bw bb bw.size
    clear bb
    have ci0 := a1.c0
    have ci1 := a1.c1
    have ci2 := a1.c2
    go_wp2_with fail
    clear ci0 ci1 ci2
    refine (fvalid_any _ x1 false a1.ok l1 m1 (decide_eq_false HV.out)).mono ?_
    rintro e wn ⟨rfl, bb⟩
    try replace br := br.below bb
    try replace a1 := a1.below bb
    replace bw := below_on bw bb bw.size
    clear bb
    have r0 := br.cell 0
    have r1 := br.cell 1
    have r2 := br.cell 2
    have r3 := br.cell 3
    have r4 := br.cell 4
    have r5 := br.cell 5
    have rf0 := br.unf 0
    have rf1 := br.unf 1
    have rf2 := br.unf 2
    have rf3 := br.unf 3
    have rf4 := br.unf 4
    have rf5 := br.unf 5
    simp only [List.getElem?_toArray, List.getElem?_cons_succ, List.getElem?_cons_zero] at r0 r1 r2 r3 r4 r5
    go_wp2_with fail
    refine bodyPost_ret (v := .tuple #[(Ix.nil : Ix).val, .int .i64 1]) (by simp [results, Try.results44, go_sem, r0, r1, r2, r3, r4, r5]) rfl ?_
    rw [← HS.out, (show pointS x1 = errI 1 from if_neg HV.out)]
    exact ⟨Ix.nil, rfl, ⟨rfl, rfl, rfl⟩, ⟨rfl, rfl, rfl⟩, Ix.nil_ok _, set6_below bw (by omega)⟩
def opS (op : Fx → Fx → FqS) (a b : Ix) (x y : Fx) : IvS := if a.v ∧ b.v then bothS (op a.lo x) (op a.hi y) else errI 1
structure Fx.few (x : Fx) : Prop where
  l : x.xs.length ≤ 10000
  m : x.ys.length ≤ 10000
set_option maxHeartbeats 1600000 in
set_option maxRecDepth 100000 in
theorem ibothadd_any (w : World) (x1 x2 : Ix) (x3 x4 : Fx) (S : IvS) (ok1 : x1.ok w) (ok2 : x2.ok w) (ok3 : x3.ok w) (ok4 : x4.ok w) (f1 : x1.few) (f2 : x2.few) (f3 : x3.few) (f4 : x4.few) (hs : opS addF x1 x2 x3 x4 = S) :
    Calls Try.prog 69 #[x1.val, x2.val, x3.val, x4.val, .func (.func 14) #[] #[]] w (IvlRes w S) := by
  have HS := Lib.hid hs
  clear hs
  by_cases hv1 : x1.v
  · have HV1 := Lib.hid hv1
    by_cases hv2 : x2.v
    · have HV2 := Lib.hid hv2
      obtain ⟨S5, h5⟩ : ∃ S, addF x1.lo x3 = S := ⟨_, rfl⟩
      obtain ⟨S6, h6⟩ : ∃ S, addF x1.hi x4 = S := ⟨_, rfl⟩
      obtain ⟨E5, he5⟩ : ∃ E, S5.2.2.2 = E := ⟨_, rfl⟩
      obtain ⟨E6, he6⟩ : ∃ E, S6.2.2.2 = E := ⟨_, rfl⟩
      have hsp : S = bothS S5 S6 := by rw [← HS.out, opS, if_pos ⟨hv1, hv2⟩, h5, h6]
      rw [bothS, he5, he6] at hsp
      have HSP := Lib.hid hsp
      have H5 := Lib.hid h5
      have H6 := Lib.hid h6
      have HE5 := Lib.hid he5
      have HE6 := Lib.hid he6
      clear hv1 hv2 h5 h6 he5 he6 hsp
      by_cases z5 : E5 = 0
      · subst z5
        by_cases z6 : E6 = 0
        · subst z6
          skip
          go_enter Try.func69, Try.ntmps69
          go_upto_region 1 with fail
          have bw := Below.refl w.heap.size w
          have a1 := (ia_alloc ok1).1
          have bb := (ia_alloc ok1).2
          have sz1 := size_box w (.cells x1.cells 41)
          clear ok1
          generalize (w.alloc (.cells x1.cells 41)) = wA at a1 bb sz1 ⊢
          try replace ok1 := ok1.below bb
          try replace ok2 := ok2.below bb
          try replace ok3 := ok3.below bb
          try replace ok4 := ok4.below bb
          try replace a1 := a1.below bb
          replace bw := below_on bw bb bw.size
          clear bb
          have a2 := (ia_alloc ok2).1
          have bb := (ia_alloc ok2).2
          have sz2 := size_box wA (.cells x2.cells 41)
          rw [sz1] at a2 sz2
          clear ok2 sz1
          generalize (wA.alloc (.cells x2.cells 41)) = wB at a2 bb sz2 ⊢
          try replace ok1 := ok1.below bb
          try replace ok2 := ok2.below bb
          try replace ok3 := ok3.below bb
          try replace ok4 := ok4.below bb
          try replace a1 := a1.below bb
          try replace a2 := a2.below bb
          replace bw := below_on bw bb bw.size
          clear bb
          have a3 := (fa_alloc ok3).1
          have bb := (fa_alloc ok3).2
          have sz3 := size_box wB (.cells x3.cells 25)
          rw [sz2] at a3 sz3
          clear ok3 sz2
          generalize (wB.alloc (.cells x3.cells 25)) = wC at a3 bb sz3 ⊢
          try replace ok1 := ok1.below bb
          try replace ok2 := ok2.below bb
          try replace ok3 := ok3.below bb
          try replace ok4 := ok4.below bb
          try replace a1 := a1.below bb
          try replace a2 := a2.below bb
          try replace a3 := a3.below bb
          replace bw := below_on bw bb bw.size
          clear bb
          have a4 := (fa_alloc ok4).1
          have bb := (fa_alloc ok4).2
          have sz4 := size_box wC (.cells x4.cells 25)
          rw [sz3] at a4 sz4
          clear ok4 sz3
          generalize (wC.alloc (.cells x4.cells 25)) = wD at a4 bb sz4 ⊢
          try replace ok1 := ok1.below bb
          try replace ok2 := ok2.below bb
          try replace ok3 := ok3.below bb
          try replace ok4 := ok4.below bb
          try replace a1 := a1.below bb
          try replace a2 := a2.below bb
          try replace a3 := a3.below bb
          try replace a4 := a4.below bb
          replace bw := below_on bw bb bw.size
          clear bb
          have br := (zr_alloc wD).1
          have bb := (zr_alloc wD).2
          rw [sz4] at br
          clear sz4
          generalize (wD.alloc (.cells zcells 41)) = wm at br bb ⊢
          try replace a1 := a1.below bb
          try replace a2 := a2.below bb
          try replace a3 := a3.below bb
          try replace a4 := a4.below bb
          replace bw := below_on bw bb bw.size
          clear bb
          have ci0 := a1.c0
          have ci1 := a1.c1
          have ci2 := a1.c2
          have ci3 := a1.c3
          have ci4 := a1.c4
          have ci5 := a1.c5
          go_wp2_with fail
          clear ci0 ci1 ci2 ci3 ci4 ci5
          refine (ivalid_any _ x1 true a1.ok f1 (decide_eq_true HV1.out)).mono ?_
          rintro e wn ⟨rfl, bb⟩
          try replace br := br.below bb
          try replace a1 := a1.below bb
          try replace a2 := a2.below bb
          try replace a3 := a3.below bb
          try replace a4 := a4.below bb
          replace bw := below_on bw bb bw.size
          clear bb
          have ci0 := a2.c0
          have ci1 := a2.c1
          have ci2 := a2.c2
          have ci3 := a2.c3
          have ci4 := a2.c4
          have ci5 := a2.c5
          go_wp2_with fail
          clear ci0 ci1 ci2 ci3 ci4 ci5
          refine (ivalid_any _ x2 true a2.ok f2 (decide_eq_true HV2.out)).mono ?_
          rintro e wn ⟨rfl, bb⟩
          try replace br := br.below bb
          try replace a1 := a1.below bb
          try replace a2 := a2.below bb
          try replace a3 := a3.below bb
          try replace a4 := a4.below bb
          replace bw := below_on bw bb bw.size
          clear bb
          have ci0 := a1.c0
          have ci1 := a1.c1
          have ci2 := a1.c2
          have ci3 := a1.c3
          have ci4 := a1.c4
          have ci5 := a1.c5
          have cj0 := a3.c0
          have cj1 := a3.c1
          have cj2 := a3.c2
          go_wp2_with fail
          clear ci0 ci1 ci2 ci3 ci4 ci5
          clear cj0 cj1 cj2
          refine (fadd_any _ x1.lo x3 S5 a1.ok.lo a3.ok (by first | exact f1.l1 | exact f1.l2) (by first | exact f1.m1 | exact f1.m2) f3.l f3.m H5.out).mono ?_
          rintro e wn ⟨x5, rfl, hs5, ok5, bb⟩
          rw [HE5.out]
          have HS5 := Lib.hid hs5
          clear hs5
          try replace br := br.below bb
          try replace a1 := a1.below bb
          try replace a2 := a2.below bb
          try replace a3 := a3.below bb
          try replace a4 := a4.below bb
          replace bw := below_on bw bb bw.size
          clear bb
          go_upto_region 4 with fail
          have a5 := (fa_alloc ok5).1
          have bb := (fa_alloc ok5).2
          clear ok5
          generalize (wn.alloc (.cells #[.bool x5.b, .slice x5.A x5.xs.length x5.c, .slice x5.D x5.ys.length x5.d] 25)) = wm at a5 bb ⊢
          try replace br := br.below bb
          try replace a1 := a1.below bb
          try replace a2 := a2.below bb
          try replace a3 := a3.below bb
          try replace a4 := a4.below bb
          try replace a5 := a5.below bb
          replace bw := below_on bw bb bw.size
          clear bb
          generalize wn.heap.size = g5 at a5 ⊢
          have ci0 := a1.c0
          have ci1 := a1.c1
          have ci2 := a1.c2
          have ci3 := a1.c3
          have ci4 := a1.c4
          have ci5 := a1.c5
          have cj0 := a4.c0
          have cj1 := a4.c1
          have cj2 := a4.c2
          go_wp2_with fail
          clear ci0 ci1 ci2 ci3 ci4 ci5
          clear cj0 cj1 cj2
          refine (fadd_any _ x1.hi x4 S6 a1.ok.hi a4.ok (by first | exact f1.l1 | exact f1.l2) (by first | exact f1.m1 | exact f1.m2) f4.l f4.m H6.out).mono ?_
          rintro e wn ⟨x6, rfl, hs6, ok6, bb⟩
          rw [HE6.out]
          have HS6 := Lib.hid hs6
          clear hs6
          try replace br := br.below bb
          try replace a1 := a1.below bb
          try replace a2 := a2.below bb
          try replace a3 := a3.below bb
          try replace a4 := a4.below bb
          try replace a5 := a5.below bb
          replace bw := below_on bw bb bw.size
          clear bb
          go_upto_region 7 with fail
          have a6 := (fa_alloc ok6).1
          have bb := (fa_alloc ok6).2
          clear ok6
          generalize (wn.alloc (.cells #[.bool x6.b, .slice x6.A x6.xs.length x6.c, .slice x6.D x6.ys.length x6.d] 25)) = wm at a6 bb ⊢
          try replace br := br.below bb
          try replace a1 := a1.below bb
          try replace a2 := a2.below bb
          try replace a3 := a3.below bb
          try replace a4 := a4.below bb
          try replace a5 := a5.below bb
          try replace a6 := a6.below bb
          replace bw := below_on bw bb bw.size
          clear bb
          generalize wn.heap.size = g6 at a6 ⊢
          have ci0 := a5.c0
          have ci1 := a5.c1
          have ci2 := a5.c2
          have cj0 := a6.c0
          have cj1 := a6.c1
          have cj2 := a6.c2
          have r0 := br.cell 0
          have r1 := br.cell 1
          have r2 := br.cell 2
          have r3 := br.cell 3
          have r4 := br.cell 4
          have r5 := br.cell 5
          have rf0 := br.unf 0
          have rf1 := br.unf 1
          have rf2 := br.unf 2
          have rf3 := br.unf 3
          have rf4 := br.unf 4
          have rf5 := br.unf 5
          simp only [List.getElem?_toArray, List.getElem?_cons_succ, List.getElem?_cons_zero] at r0 r1 r2 r3 r4 r5
          go_wp2_with fail
          refine bodyPost_ret (v := .tuple #[(⟨x5, x6⟩ : Ix).val, .int .i64 0]) (by simp [results, Try.results69, go_sem, r0, r1, r2, r3, r4, r5]) rfl ?_
          rw [HSP.out]
          exact ⟨⟨x5, x6⟩, rfl, HS5.out, HS6.out, ⟨set6_ok a5.ok br noInt_z, set6_ok a6.ok br noInt_z⟩, set6_below bw (by omega)⟩
        · skip
          go_enter Try.func69, Try.ntmps69
          go_upto_region 1 with fail
          have bw := Below.refl w.heap.size w
          have a1 := (ia_alloc ok1).1
          have bb := (ia_alloc ok1).2
          have sz1 := size_box w (.cells x1.cells 41)
          clear ok1
          generalize (w.alloc (.cells x1.cells 41)) = wA at a1 bb sz1 ⊢
          try replace ok1 := ok1.below bb
          try replace ok2 := ok2.below bb
          try replace ok3 := ok3.below bb
          try replace ok4 := ok4.below bb
          try replace br := br.below bb
          try replace a1 := a1.below bb
          try replace a2 := a2.below bb
          try replace a3 := a3.below bb
          try replace a4 := a4.below bb
          try replace a5 := a5.below bb
          try replace a6 := a6.below bb
          replace bw := below_on bw bb bw.size
          clear bb
          have a2 := (ia_alloc ok2).1
          have bb := (ia_alloc ok2).2
          have sz2 := size_box wA (.cells x2.cells 41)
          rw [sz1] at a2 sz2
          clear ok2 sz1
          generalize (wA.alloc (.cells x2.cells 41)) = wB at a2 bb sz2 ⊢
          try replace ok1 := ok1.below bb
          try replace ok2 := ok2.below bb
          try replace ok3 := ok3.below bb
          try replace ok4 := ok4.below bb
          try replace br := br.below bb
          try replace a1 := a1.below bb
          try replace a2 := a2.below bb
          try replace a3 := a3.below bb
          try replace a4 := a4.below bb
          try replace a5 := a5.below bb
          try replace a6 := a6.below bb
          replace bw := below_on bw bb bw.size
          clear bb
          have a3 := (fa_alloc ok3).1
          have bb := (fa_alloc ok3).2
          have sz3 := size_box wB (.cells x3.cells 25)
          rw [sz2] at a3 sz3
          clear ok3 sz2
          generalize (wB.alloc (.cells x3.cells 25)) = wC at a3 bb sz3 ⊢
          try replace ok1 := ok1.below bb
          try replace ok2 := ok2.below bb
          try replace ok3 := ok3.below bb
          try replace ok4 := ok4.below bb
          try replace br := br.below bb
          try replace a1 := a1.below bb
          try replace a2 := a2.below bb
          try replace a3 := a3.below bb
          try replace a4 := a4.below bb
          try replace a5 := a5.below bb
          try replace a6 := a6.below bb
          replace bw := below_on bw bb bw.size
          clear bb
          have a4 := (fa_alloc ok4).1
          have bb := (fa_alloc ok4).2
          have sz4 := size_box wC (.cells x4.cells 25)
          rw [sz3] at a4 sz4
          clear ok4 sz3
          generalize (wC.alloc (.cells x4.cells 25)) = wD at a4 bb sz4 ⊢
          try replace ok1 := ok1.below bb
          try replace ok2 := ok2.below bb
          try replace ok3 := ok3.below bb
          try replace ok4 := ok4.below bb
          try replace br := br.below bb
          try replace a1 := a1.below bb
          try replace a2 := a2.below bb
          try replace a3 := a3.below bb
          try replace a4 := a4.below bb
          try replace a5 := a5.below bb
          try replace a6 := a6.below bb
          replace bw := below_on bw bb bw.size
          clear bb
          have br := (zr_alloc wD).1
          have bb := (zr_alloc wD).2
          rw [sz4] at br
          clear sz4
          generalize (wD.alloc (.cells zcells 41)) = wm at br bb ⊢
          try replace a1 := a1.below bb
          try replace a2 := a2.below bb
          try replace a3 := a3.below bb
          try replace a4 := a4.below bb
          try replace a5 := a5.below bb
          try replace a6 := a6.below bb
          replace bw := below_on bw bb bw.size
          clear bb
          have ci0 := a1.c0
          have ci1 := a1.c1
          have ci2 := a1.c2
          have ci3 := a1.c3
          have ci4 := a1.c4
          have ci5 := a1.c5
          go_wp2_with fail
          clear ci0 ci1 ci2 ci3 ci4 ci5
          refine (ivalid_any _ x1 true a1.ok f1 (decide_eq_true HV1.out)).mono ?_
          rintro e wn ⟨rfl, bb⟩
          try replace br := br.below bb
          try replace a1 := a1.below bb
          try replace a2 := a2.below bb
          try replace a3 := a3.below bb
          try replace a4 := a4.below bb
          try replace a5 := a5.below bb
          try replace a6 := a6.below bb
          replace bw := below_on bw bb bw.size
          clear bb
          have ci0 := a2.c0
          have ci1 := a2.c1
          have ci2 := a2.c2
          have ci3 := a2.c3
          have ci4 := a2.c4
          have ci5 := a2.c5
          go_wp2_with fail
          clear ci0 ci1 ci2 ci3 ci4 ci5
          refine (ivalid_any _ x2 true a2.ok f2 (decide_eq_true HV2.out)).mono ?_
          rintro e wn ⟨rfl, bb⟩
          try replace br := br.below bb
          try replace a1 := a1.below bb
          try replace a2 := a2.below bb
          try replace a3 := a3.below bb
          try replace a4 := a4.below bb
          try replace a5 := a5.below bb
          try replace a6 := a6.below bb
          replace bw := below_on bw bb bw.size
          clear bb
          have ci0 := a1.c0
          have ci1 := a1.c1
          have ci2 := a1.c2
          have ci3 := a1.c3
          have ci4 := a1.c4
          have ci5 := a1.c5
          have cj0 := a3.c0
          have cj1 := a3.c1
          have cj2 := a3.c2
          go_wp2_with fail
          clear ci0 ci1 ci2 ci3 ci4 ci5
          clear cj0 cj1 cj2
          refine (fadd_any _ x1.lo x3 S5 a1.ok.lo a3.ok (by first | exact f1.l1 | exact f1.l2) (by first | exact f1.m1 | exact f1.m2) f3.l f3.m H5.out).mono ?_
          rintro e wn ⟨x5, rfl, hs5, ok5, bb⟩
          rw [HE5.out]
          have HS5 := Lib.hid hs5
          clear hs5
          try replace br := br.below bb
          try replace a1 := a1.below bb
          try replace a2 := a2.below bb
          try replace a3 := a3.below bb
          try replace a4 := a4.below bb
          try replace a5 := a5.below bb
          try replace a6 := a6.below bb
          replace bw := below_on bw bb bw.size
          clear bb
          go_upto_region 4 with fail
          have a5 := (fa_alloc ok5).1
          have bb := (fa_alloc ok5).2
          clear ok5
          generalize (wn.alloc (.cells #[.bool x5.b, .slice x5.A x5.xs.length x5.c, .slice x5.D x5.ys.length x5.d] 25)) = wm at a5 bb ⊢
          try replace br := br.below bb
          try replace a1 := a1.below bb
          try replace a2 := a2.below bb
          try replace a3 := a3.below bb
          try replace a4 := a4.below bb
          try replace a5 := a5.below bb
          try replace a6 := a6.below bb
          replace bw := below_on bw bb bw.size
          clear bb
          generalize wn.heap.size = g5 at a5 ⊢
          have ci0 := a1.c0
          have ci1 := a1.c1
          have ci2 := a1.c2
          have ci3 := a1.c3
          have ci4 := a1.c4
          have ci5 := a1.c5
          have cj0 := a4.c0
          have cj1 := a4.c1
          have cj2 := a4.c2
          go_wp2_with fail
          clear ci0 ci1 ci2 ci3 ci4 ci5
          clear cj0 cj1 cj2
          refine (fadd_any _ x1.hi x4 S6 a1.ok.hi a4.ok (by first | exact f1.l1 | exact f1.l2) (by first | exact f1.m1 | exact f1.m2) f4.l f4.m H6.out).mono ?_
          rintro e wn ⟨x6, rfl, hs6, ok6, bb⟩
          rw [HE6.out]
          have HS6 := Lib.hid hs6
          clear hs6
          try replace br := br.below bb
          try replace a1 := a1.below bb
          try replace a2 := a2.below bb
          try replace a3 := a3.below bb
          try replace a4 := a4.below bb
          try replace a5 := a5.below bb
          try replace a6 := a6.below bb
          replace bw := below_on bw bb bw.size
          clear bb
          go_upto_region 7 with fail
          have a6 := (fa_alloc ok6).1
          have bb := (fa_alloc ok6).2
          clear ok6
          generalize (wn.alloc (.cells #[.bool x6.b, .slice x6.A x6.xs.length x6.c, .slice x6.D x6.ys.length x6.d] 25)) = wm at a6 bb ⊢
          try replace br := br.below bb
          try replace a1 := a1.below bb
          try replace a2 := a2.below bb
          try replace a3 := a3.below bb
          try replace a4 := a4.below bb
          try replace a5 := a5.below bb
          try replace a6 := a6.below bb
          replace bw := below_on bw bb bw.size
          clear bb
          generalize wn.heap.size = g6 at a6 ⊢
          have r0 := br.cell 0
          have r1 := br.cell 1
          have r2 := br.cell 2
          have r3 := br.cell 3
          have r4 := br.cell 4
          have r5 := br.cell 5
          have rf0 := br.unf 0
          have rf1 := br.unf 1
          have rf2 := br.unf 2
          have rf3 := br.unf 3
          have rf4 := br.unf 4
          have rf5 := br.unf 5
          simp only [List.getElem?_toArray, List.getElem?_cons_succ, List.getElem?_cons_zero] at r0 r1 r2 r3 r4 r5
          go_wp2_with fail
          refine bodyPost_ret (v := .tuple #[(Ix.nil : Ix).val, .int .i64 E6]) (by simp [results, Try.results69, go_sem, r0, r1, r2, r3, r4, r5]) rfl ?_
          rw [HSP.out]
          simp only [ne_eq, not_true_eq_false, if_false, if_pos z6]
          exact ⟨Ix.nil, rfl, ⟨rfl, rfl, rfl⟩, ⟨rfl, rfl, rfl⟩, Ix.nil_ok _, set6_below bw (by omega)⟩
      · skip
        go_enter Try.func69, Try.ntmps69
        go_upto_region 1 with fail
        have bw := Below.refl w.heap.size w
        have a1 := (ia_alloc ok1).1
        have bb := (ia_alloc ok1).2
        have sz1 := size_box w (.cells x1.cells 41)
        clear ok1
        generalize (w.alloc (.cells x1.cells 41)) = wA at a1 bb sz1 ⊢
        try replace ok1 := ok1.below bb
        try replace ok2 := ok2.below bb
        try replace ok3 := ok3.below bb
        try replace ok4 := ok4.below bb
        try replace br := br.below bb
        try replace a1 := a1.below bb
        try replace a2 := a2.below bb
        try replace a3 := a3.below bb
        try replace a4 := a4.below bb
        try replace a5 := a5.below bb
        try replace a6 := a6.below bb
        replace bw := below_on bw bb bw.size
        clear bb
        have a2 := (ia_alloc ok2).1
        have bb := (ia_alloc ok2).2
        have sz2 := size_box wA (.cells x2.cells 41)
        rw [sz1] at a2 sz2
        clear ok2 sz1
        generalize (wA.alloc (.cells x2.cells 41)) = wB at a2 bb sz2 ⊢
        try replace ok1 := ok1.below bb
        try replace ok2 := ok2.below bb
        try replace ok3 := ok3.below bb
        try replace ok4 := ok4.below bb
        try replace br := br.below bb
        try replace a1 := a1.below bb
        try replace a2 := a2.below bb
        try replace a3 := a3.below bb
        try replace a4 := a4.below bb
        try replace a5 := a5.below bb
        try replace a6 := a6.below bb
        replace bw := below_on bw bb bw.size
        clear bb
        have a3 := (fa_alloc ok3).1
        have bb := (fa_alloc ok3).2
        have sz3 := size_box wB (.cells x3.cells 25)
        rw [sz2] at a3 sz3
        clear ok3 sz2
        generalize (wB.alloc (.cells x3.cells 25)) = wC at a3 bb sz3 ⊢
        try replace ok1 := ok1.below bb
        try replace ok2 := ok2.below bb
        try replace ok3 := ok3.below bb
        try replace ok4 := ok4.below bb
        try replace br := br.below bb
        try replace a1 := a1.below bb
        try replace a2 := a2.below bb
        try replace a3 := a3.below bb
        try replace a4 := a4.below bb
        try replace a5 := a5.below bb
        try replace a6 := a6.below bb
        replace bw := below_on bw bb bw.size
        clear bb
        have a4 := (fa_alloc ok4).1
        have bb := (fa_alloc ok4).2
        have sz4 := size_box wC (.cells x4.cells 25)
        rw [sz3] at a4 sz4
        clear ok4 sz3
        generalize (wC.alloc (.cells x4.cells 25)) = wD at a4 bb sz4 ⊢
        try replace ok1 := ok1.below bb
        try replace ok2 := ok2.below bb
        try replace ok3 := ok3.below bb
        try replace ok4 := ok4.below bb
        try replace br := br.below bb
        try replace a1 := a1.below bb
        try replace a2 := a2.below bb
        try replace a3 := a3.below bb
        try replace a4 := a4.below bb
        try replace a5 := a5.below bb
        try replace a6 := a6.below bb
        replace bw := below_on bw bb bw.size
        clear bb
        have br := (zr_alloc wD).1
        have bb := (zr_alloc wD).2
        rw [sz4] at br
        clear sz4
        generalize (wD.alloc (.cells zcells 41)) = wm at br bb ⊢
        try replace a1 := a1.below bb
        try replace a2 := a2.below bb
        try replace a3 := a3.below bb
        try replace a4 := a4.below bb
        try replace a5 := a5.below bb
        try replace a6 := a6.below bb
        replace bw := below_on bw bb bw.size
        clear bb
        have ci0 := a1.c0
        have ci1 := a1.c1
        have ci2 := a1.c2
        have ci3 := a1.c3
        have ci4 := a1.c4
        have ci5 := a1.c5
        go_wp2_with fail
        clear ci0 ci1 ci2 ci3 ci4 ci5
        refine (ivalid_any _ x1 true a1.ok f1 (decide_eq_true HV1.out)).mono ?_
        rintro e wn ⟨rfl, bb⟩
        try replace br := br.below bb
        try replace a1 := a1.below bb
        try replace a2 := a2.below bb
        try replace a3 := a3.below bb
        try replace a4 := a4.below bb
        try replace a5 := a5.below bb
        try replace a6 := a6.below bb
        replace bw := below_on bw bb bw.size
        clear bb
        have ci0 := a2.c0
        have ci1 := a2.c1
        have ci2 := a2.c2
        have ci3 := a2.c3
        have ci4 := a2.c4
        have ci5 := a2.c5
        go_wp2_with fail
        clear ci0 ci1 ci2 ci3 ci4 ci5
        refine (ivalid_any _ x2 true a2.ok f2 (decide_eq_true HV2.out)).mono ?_
        rintro e wn ⟨rfl, bb⟩
        try replace br := br.below bb
        try replace a1 := a1.below bb
        try replace a2 := a2.below bb
        try replace a3 := a3.below bb
        try replace a4 := a4.below bb
        try replace a5 := a5.below bb
        try replace a6 := a6.below bb
        replace bw := below_on bw bb bw.size
        clear bb
        have ci0 := a1.c0
        have ci1 := a1.c1
        have ci2 := a1.c2
        have ci3 := a1.c3
        have ci4 := a1.c4
        have ci5 := a1.c5
        have cj0 := a3.c0
        have cj1 := a3.c1
        have cj2 := a3.c2
        go_wp2_with fail
        clear ci0 ci1 ci2 ci3 ci4 ci5
        clear cj0 cj1 cj2
        refine (fadd_any _ x1.lo x3 S5 a1.ok.lo a3.ok (by first | exact f1.l1 | exact f1.l2) (by first | exact f1.m1 | exact f1.m2) f3.l f3.m H5.out).mono ?_
        rintro e wn ⟨x5, rfl, hs5, ok5, bb⟩
        rw [HE5.out]
        have HS5 := Lib.hid hs5
        clear hs5
        try replace br := br.below bb
        try replace a1 := a1.below bb
        try replace a2 := a2.below bb
        try replace a3 := a3.below bb
        try replace a4 := a4.below bb
        try replace a5 := a5.below bb
        try replace a6 := a6.below bb
        replace bw := below_on bw bb bw.size
        clear bb
        go_upto_region 4 with fail
        have a5 := (fa_alloc ok5).1
        have bb := (fa_alloc ok5).2
        clear ok5
        generalize (wn.alloc (.cells #[.bool x5.b, .slice x5.A x5.xs.length x5.c, .slice x5.D x5.ys.length x5.d] 25)) = wm at a5 bb ⊢
        try replace br := br.below bb
        try replace a1 := a1.below bb
        try replace a2 := a2.below bb
        try replace a3 := a3.below bb
        try replace a4 := a4.below bb
        try replace a5 := a5.below bb
        try replace a6 := a6.below bb
        replace bw := below_on bw bb bw.size
        clear bb
        generalize wn.heap.size = g5 at a5 ⊢
        have r0 := br.cell 0
        have r1 := br.cell 1
        have r2 := br.cell 2
        have r3 := br.cell 3
        have r4 := br.cell 4
        have r5 := br.cell 5
        have rf0 := br.unf 0
        have rf1 := br.unf 1
        have rf2 := br.unf 2
        have rf3 := br.unf 3
        have rf4 := br.unf 4
        have rf5 := br.unf 5
        simp only [List.getElem?_toArray, List.getElem?_cons_succ, List.getElem?_cons_zero] at r0 r1 r2 r3 r4 r5
        go_wp2_with fail
        refine bodyPost_ret (v := .tuple #[(Ix.nil : Ix).val, .int .i64 E5]) (by simp [results, Try.results69, go_sem, r0, r1, r2, r3, r4, r5]) rfl ?_
        rw [HSP.out]
        simp only [ne_eq, if_pos z5]
        exact ⟨Ix.nil, rfl, ⟨rfl, rfl, rfl⟩, ⟨rfl, rfl, rfl⟩, Ix.nil_ok _, set6_below bw (by omega)⟩
    · have HV2 : Hid (¬ (x1.v ∧ x2.v)) := fun h => hv2 h.2
      have HV3 : Hid (¬ x2.v) := hv2
      clear hv1 hv2
      go_enter Try.func69, Try.ntmps69
      go_upto_region 1 with fail
      have bw := Below.refl w.heap.size w
      have a1 := (ia_alloc ok1).1
      have bb := (ia_alloc ok1).2
      have sz1 := size_box w (.cells x1.cells 41)
      clear ok1
      generalize (w.alloc (.cells x1.cells 41)) = wA at a1 bb sz1 ⊢
      try replace ok1 := ok1.below bb
      try replace ok2 := ok2.below bb
      try replace ok3 := ok3.below bb
      try replace ok4 := ok4.below bb
      try replace br := br.below bb
      try replace a1 := a1.below bb
      try replace a2 := a2.below bb
      try replace a3 := a3.below bb
      try replace a4 := a4.below bb
      try replace a5 := a5.below bb
      try replace a6 := a6.below bb
      replace bw := below_on bw bb bw.size
      clear bb
      have a2 := (ia_alloc ok2).1
      have bb := (ia_alloc ok2).2
      have sz2 := size_box wA (.cells x2.cells 41)
      rw [sz1] at a2 sz2
      clear ok2 sz1
      generalize (wA.alloc (.cells x2.cells 41)) = wB at a2 bb sz2 ⊢
      try replace ok1 := ok1.below bb
      try replace ok2 := ok2.below bb
      try replace ok3 := ok3.below bb
      try replace ok4 := ok4.below bb
      try replace br := br.below bb
      try replace a1 := a1.below bb
      try replace a2 := a2.below bb
      try replace a3 := a3.below bb
      try replace a4 := a4.below bb
      try replace a5 := a5.below bb
      try replace a6 := a6.below bb
      replace bw := below_on bw bb bw.size
      clear bb
      have a3 := (fa_alloc ok3).1
      have bb := (fa_alloc ok3).2
      have sz3 := size_box wB (.cells x3.cells 25)
      rw [sz2] at a3 sz3
      clear ok3 sz2
      generalize (wB.alloc (.cells x3.cells 25)) = wC at a3 bb sz3 ⊢
      try replace ok1 := ok1.below bb
      try replace ok2 := ok2.below bb
      try replace ok3 := ok3.below bb
      try replace ok4 := ok4.below bb
      try replace br := br.below bb
      try replace a1 := a1.below bb
      try replace a2 := a2.below bb
      try replace a3 := a3.below bb
      try replace a4 := a4.below bb
      try replace a5 := a5.below bb
      try replace a6 := a6.below bb
      replace bw := below_on bw bb bw.size
      clear bb
      have a4 := (fa_alloc ok4).1
      have bb := (fa_alloc ok4).2
      have sz4 := size_box wC (.cells x4.cells 25)
      rw [sz3] at a4 sz4
      clear ok4 sz3
      generalize (wC.alloc (.cells x4.cells 25)) = wD at a4 bb sz4 ⊢
      try replace ok1 := ok1.below bb
      try replace ok2 := ok2.below bb
      try replace ok3 := ok3.below bb
      try replace ok4 := ok4.below bb
      try replace br := br.below bb
      try replace a1 := a1.below bb
      try replace a2 := a2.below bb
      try replace a3 := a3.below bb
      try replace a4 := a4.below bb
      try replace a5 := a5.below bb
      try replace a6 := a6.below bb
      replace bw := below_on bw bb bw.size
      clear bb
      have br := (zr_alloc wD).1
      have bb := (zr_alloc wD).2
      rw [sz4] at br
      clear sz4
      generalize (wD.alloc (.cells zcells 41)) = wm at br bb ⊢
      try replace a1 := a1.below bb
      try replace a2 := a2.below bb
      try replace a3 := a3.below bb
      try replace a4 := a4.below bb
      try replace a5 := a5.below bb
      try replace a6 := a6.below bb
      replace bw := below_on bw bb bw.size
      clear bb
      have ci0 := a1.c0
      have ci1 := a1.c1
      have ci2 := a1.c2
      have ci3 := a1.c3
      have ci4 := a1.c4
      have ci5 := a1.c5
      go_wp2_with fail
      clear ci0 ci1 ci2 ci3 ci4 ci5
      refine (ivalid_any _ x1 true a1.ok f1 (decide_eq_true HV1.out)).mono ?_
      rintro e wn ⟨rfl, bb⟩
      try replace br := br.below bb
      try replace a1 := a1.below bb
      try replace a2 := a2.below bb
      try replace a3 := a3.below bb
      try replace a4 := a4.below bb
      try replace a5 := a5.below bb
      try replace a6 := a6.below bb
      replace bw := below_on bw bb bw.size
      clear bb
      have ci0 := a2.c0
      have ci1 := a2.c1
      have ci2 := a2.c2
      have ci3 := a2.c3
      have ci4 := a2.c4
      have ci5 := a2.c5
      go_wp2_with fail
      clear ci0 ci1 ci2 ci3 ci4 ci5
      refine (ivalid_any _ x2 false a2.ok f2 (decide_eq_false HV3.out)).mono ?_
      rintro e wn ⟨rfl, bb⟩
      try replace br := br.below bb
      try replace a1 := a1.below bb
      try replace a2 := a2.below bb
      try replace a3 := a3.below bb
      try replace a4 := a4.below bb
      try replace a5 := a5.below bb
      try replace a6 := a6.below bb
      replace bw := below_on bw bb bw.size
      clear bb
      have r0 := br.cell 0
      have r1 := br.cell 1
      have r2 := br.cell 2
      have r3 := br.cell 3
      have r4 := br.cell 4
      have r5 := br.cell 5
      have rf0 := br.unf 0
      have rf1 := br.unf 1
      have rf2 := br.unf 2
      have rf3 := br.unf 3
      have rf4 := br.unf 4
      have rf5 := br.unf 5
      simp only [List.getElem?_toArray, List.getElem?_cons_succ, List.getElem?_cons_zero] at r0 r1 r2 r3 r4 r5
      go_wp2_with fail
      refine bodyPost_ret (v := .tuple #[(Ix.nil : Ix).val, .int .i64 1]) (by simp [results, Try.results69, go_sem, r0, r1, r2, r3, r4, r5]) rfl ?_
      rw [← HS.out, (show opS addF x1 x2 x3 x4 = errI 1 from if_neg HV2.out)]
      exact ⟨Ix.nil, rfl, ⟨rfl, rfl, rfl⟩, ⟨rfl, rfl, rfl⟩, Ix.nil_ok _, set6_below bw (by omega)⟩
  · have HV2 : Hid (¬ (x1.v ∧ x2.v)) := fun h => hv1 h.1
    have HV1 : Hid (¬ x1.v) := hv1
    clear hv1
    go_enter Try.func69, Try.ntmps69
    go_upto_region 1 with fail
    have bw := Below.refl w.heap.size w
    have a1 := (ia_alloc ok1).1
    have bb := (ia_alloc ok1).2
    have sz1 := size_box w (.cells x1.cells 41)
    clear ok1
    generalize (w.alloc (.cells x1.cells 41)) = wA at a1 bb sz1 ⊢
    try replace ok1 := ok1.below bb
    try replace ok2 := ok2.below bb
    try replace ok3 := ok3.below bb
    try replace ok4 := ok4.below bb
    try replace br := br.below bb
    try replace a1 := a1.below bb
    try replace a2 := a2.below bb
    try replace a3 := a3.below bb
    try replace a4 := a4.below bb
    try replace a5 := a5.below bb
    try replace a6 := a6.below bb
    replace bw := below_on bw bb bw.size
    clear bb
    have a2 := (ia_alloc ok2).1
    have bb := (ia_alloc ok2).2
    have sz2 := size_box wA (.cells x2.cells 41)
    rw [sz1] at a2 sz2
    clear ok2 sz1
    generalize (wA.alloc (.cells x2.cells 41)) = wB at a2 bb sz2 ⊢
    try replace ok1 := ok1.below bb
    try replace ok2 := ok2.below bb
    try replace ok3 := ok3.below bb
    try replace ok4 := ok4.below bb
    try replace br := br.below bb
    try replace a1 := a1.below bb
    try replace a2 := a2.below bb
    try replace a3 := a3.below bb
    try replace a4 := a4.below bb
    try replace a5 := a5.below bb
    try replace a6 := a6.below bb
    replace bw := below_on bw bb bw.size
    clear bb
    have a3 := (fa_alloc ok3).1
    have bb := (fa_alloc ok3).2
    have sz3 := size_box wB (.cells x3.cells 25)
    rw [sz2] at a3 sz3
    clear ok3 sz2
    generalize (wB.alloc (.cells x3.cells 25)) = wC at a3 bb sz3 ⊢
    try replace ok1 := ok1.below bb
    try replace ok2 := ok2.below bb
    try replace ok3 := ok3.below bb
    try replace ok4 := ok4.below bb
    try replace br := br.below bb
    try replace a1 := a1.below bb
    try replace a2 := a2.below bb
    try replace a3 := a3.below bb
    try replace a4 := a4.below bb
    try replace a5 := a5.below bb
    try replace a6 := a6.below bb
    replace bw := below_on bw bb bw.size
    clear bb
    have a4 := (fa_alloc ok4).1
    have bb := (fa_alloc ok4).2
    have sz4 := size_box wC (.cells x4.cells 25)
    rw [sz3] at a4 sz4
    clear ok4 sz3
    generalize (wC.alloc (.cells x4.cells 25)) = wD at a4 bb sz4 ⊢
    try replace ok1 := ok1.below bb
    try replace ok2 := ok2.below bb
    try replace ok3 := ok3.below bb
    try replace ok4 := ok4.below bb
    try replace br := br.below bb
    try replace a1 := a1.below bb
    try replace a2 := a2.below bb
    try replace a3 := a3.below bb
    try replace a4 := a4.below bb
    try replace a5 := a5.below bb
    try replace a6 := a6.below bb
    replace bw := below_on bw bb bw.size
    clear bb
    have br := (zr_alloc wD).1
    have bb := (zr_alloc wD).2
    rw [sz4] at br
    clear sz4
    generalize (wD.alloc (.cells zcells 41)) = wm at br bb ⊢
    try replace a1 := a1.below bb
    try replace a2 := a2.below bb
    try replace a3 := a3.below bb
    try replace a4 := a4.below bb
    try replace a5 := a5.below bb
    try replace a6 := a6.below bb
    replace bw := below_on bw bb bw.size
    clear bb
    have ci0 := a1.c0
    have ci1 := a1.c1
    have ci2 := a1.c2
    have ci3 := a1.c3
    have ci4 := a1.c4
    have ci5 := a1.c5
    go_wp2_with fail
    clear ci0 ci1 ci2 ci3 ci4 ci5
    refine (ivalid_any _ x1 false a1.ok f1 (decide_eq_false HV1.out)).mono ?_
    rintro e wn ⟨rfl, bb⟩
    try replace br := br.below bb
    try replace a1 := a1.below bb
    try replace a2 := a2.below bb
    try replace a3 := a3.below bb
    try replace a4 := a4.below bb
    try replace a5 := a5.below bb
    try replace a6 := a6.below bb
    replace bw := below_on bw bb bw.size
    clear bb
    have r0 := br.cell 0
    have r1 := br.cell 1
    have r2 := br.cell 2
    have r3 := br.cell 3
    have r4 := br.cell 4
    have r5 := br.cell 5
    have rf0 := br.unf 0
    have rf1 := br.unf 1
    have rf2 := br.unf 2
    have rf3 := br.unf 3
    have rf4 := br.unf 4
    have rf5 := br.unf 5
    simp only [List.getElem?_toArray, List.getElem?_cons_succ, List.getElem?_cons_zero] at r0 r1 r2 r3 r4 r5
    go_wp2_with fail
    refine bodyPost_ret (v := .tuple #[(Ix.nil : Ix).val, .int .i64 1]) (by simp [results, Try.results69, go_sem, r0, r1, r2, r3, r4, r5]) rfl ?_
    rw [← HS.out, (show opS addF x1 x2 x3 x4 = errI 1 from if_neg HV2.out)]
    exact ⟨Ix.nil, rfl, ⟨rfl, rfl, rfl⟩, ⟨rfl, rfl, rfl⟩, Ix.nil_ok _, set6_below bw (by omega)⟩
set_option maxHeartbeats 1600000 in
set_option maxRecDepth 100000 in
theorem ibothsub_any (w : World) (x1 x2 : Ix) (x3 x4 : Fx) (S : IvS) (ok1 : x1.ok w) (ok2 : x2.ok w) (ok3 : x3.ok w) (ok4 : x4.ok w) (f1 : x1.few) (f2 : x2.few) (f3 : x3.few) (f4 : x4.few) (hs : opS subF x1 x2 x3 x4 = S) :
    Calls Try.prog 69 #[x1.val, x2.val, x3.val, x4.val, .func (.func 70) #[] #[]] w (IvlRes w S) := by
  have HS := Lib.hid hs
  clear hs
  by_cases hv1 : x1.v
  · have HV1 := Lib.hid hv1
    by_cases hv2 : x2.v
    · have HV2 := Lib.hid hv2
      obtain ⟨S5, h5⟩ : ∃ S, subF x1.lo x3 = S := ⟨_, rfl⟩
      obtain ⟨S6, h6⟩ : ∃ S, subF x1.hi x4 = S := ⟨_, rfl⟩
      obtain ⟨E5, he5⟩ : ∃ E, S5.2.2.2 = E := ⟨_, rfl⟩
      obtain ⟨E6, he6⟩ : ∃ E, S6.2.2.2 = E := ⟨_, rfl⟩
      have hsp : S = bothS S5 S6 := by rw [← HS.out, opS, if_pos ⟨hv1, hv2⟩, h5, h6]
      rw [bothS, he5, he6] at hsp
      have HSP := Lib.hid hsp
      have H5 := Lib.hid h5
      have H6 := Lib.hid h6
      have HE5 := Lib.hid he5
      have HE6 := Lib.hid he6
      clear hv1 hv2 h5 h6 he5 he6 hsp
      by_cases z5 : E5 = 0
      · subst z5
        by_cases z6 : E6 = 0
        · subst z6
          skip
          go_enter Try.func69, Try.ntmps69
          go_upto_region 1 with fail
          have bw := Below.refl w.heap.size w
          have a1 := (ia_alloc ok1).1
          have bb := (ia_alloc ok1).2
          have sz1 := size_box w (.cells x1.cells 41)
          clear ok1
          generalize (w.alloc (.cells x1.cells 41)) = wA at a1 bb sz1 ⊢
          try replace ok1 := ok1.below bb
          try replace ok2 := ok2.below bb
          try replace ok3 := ok3.below bb
          try replace ok4 := ok4.below bb
          try replace a1 := a1.below bb
          replace bw := below_on bw bb bw.size
          clear bb
          have a2 := (ia_alloc ok2).1
          have bb := (ia_alloc ok2).2
          have sz2 := size_box wA (.cells x2.cells 41)
          rw [sz1] at a2 sz2
          clear ok2 sz1
          generalize (wA.alloc (.cells x2.cells 41)) = wB at a2 bb sz2 ⊢
          try replace ok1 := ok1.below bb
          try replace ok2 := ok2.below bb
          try replace ok3 := ok3.below bb
          try replace ok4 := ok4.below bb
          try replace a1 := a1.below bb
          try replace a2 := a2.below bb
          replace bw := below_on bw bb bw.size
          clear bb
          have a3 := (fa_alloc ok3).1
          have bb := (fa_alloc ok3).2
          have sz3 := size_box wB (.cells x3.cells 25)
          rw [sz2] at a3 sz3
          clear ok3 sz2
          generalize (wB.alloc (.cells x3.cells 25)) = wC at a3 bb sz3 ⊢
          try replace ok1 := ok1.below bb
          try replace ok2 := ok2.below bb
          try replace ok3 := ok3.below bb
          try replace ok4 := ok4.below bb
          try replace a1 := a1.below bb
          try replace a2 := a2.below bb
          try replace a3 := a3.below bb
          replace bw := below_on bw bb bw.size
          clear bb
          have a4 := (fa_alloc ok4).1
          have bb := (fa_alloc ok4).2
          have sz4 := size_box wC (.cells x4.cells 25)
          rw [sz3] at a4 sz4
          clear ok4 sz3
          generalize (wC.alloc (.cells x4.cells 25)) = wD at a4 bb sz4 ⊢
          try replace ok1 := ok1.below bb
          try replace ok2 := ok2.below bb
          try replace ok3 := ok3.below bb
          try replace ok4 := ok4.below bb
          try replace a1 := a1.below bb
          try replace a2 := a2.below bb
          try replace a3 := a3.below bb
          try replace a4 := a4.below bb
          replace bw := below_on bw bb bw.size
          clear bb
          have br := (zr_alloc wD).1
          have bb := (zr_alloc wD).2
          rw [sz4] at br
          clear sz4
          generalize (wD.alloc (.cells zcells 41)) = wm at br bb ⊢
          try replace a1 := a1.below bb
          try replace a2 := a2.below bb
          try replace a3 := a3.below bb
          try replace a4 := a4.below bb
          replace bw := below_on bw bb bw.size
          clear bb
          have ci0 := a1.c0
          have ci1 := a1.c1
          have ci2 := a1.c2
          have ci3 := a1.c3
          have ci4 := a1.c4
          have ci5 := a1.c5
          go_wp2_with fail
          clear ci0 ci1 ci2 ci3 ci4 ci5
          refine (ivalid_any _ x1 true a1.ok f1 (decide_eq_true HV1.out)).mono ?_
          rintro e wn ⟨rfl, bb⟩
          try replace br := br.below bb
          try replace a1 := a1.below bb
          try replace a2 := a2.below bb
          try replace a3 := a3.below bb
          try replace a4 := a4.below bb
          replace bw := below_on bw bb bw.size
          clear bb
          have ci0 := a2.c0
          have ci1 := a2.c1
          have ci2 := a2.c2
          have ci3 := a2.c3
          have ci4 := a2.c4
          have ci5 := a2.c5
          go_wp2_with fail
          clear ci0 ci1 ci2 ci3 ci4 ci5
          refine (ivalid_any _ x2 true a2.ok f2 (decide_eq_true HV2.out)).mono ?_
          rintro e wn ⟨rfl, bb⟩
          try replace br := br.below bb
          try replace a1 := a1.below bb
          try replace a2 := a2.below bb
          try replace a3 := a3.below bb
          try replace a4 := a4.below bb
          replace bw := below_on bw bb bw.size
          clear bb
          have ci0 := a1.c0
          have ci1 := a1.c1
          have ci2 := a1.c2
          have ci3 := a1.c3
          have ci4 := a1.c4
          have ci5 := a1.c5
          have cj0 := a3.c0
          have cj1 := a3.c1
          have cj2 := a3.c2
          go_wp2_with fail
          clear ci0 ci1 ci2 ci3 ci4 ci5
          clear cj0 cj1 cj2
          refine (fsub_any _ x1.lo x3 S5 a1.ok.lo a3.ok (by first | exact f1.l1 | exact f1.l2) (by first | exact f1.m1 | exact f1.m2) f3.l f3.m H5.out).mono ?_
          rintro e wn ⟨x5, rfl, hs5, ok5, bb⟩
          rw [HE5.out]
          have HS5 := Lib.hid hs5
          clear hs5
          try replace br := br.below bb
          try replace a1 := a1.below bb
          try replace a2 := a2.below bb
          try replace a3 := a3.below bb
          try replace a4 := a4.below bb
          replace bw := below_on bw bb bw.size
          clear bb
          go_upto_region 4 with fail
          have a5 := (fa_alloc ok5).1
          have bb := (fa_alloc ok5).2
          clear ok5
          generalize (wn.alloc (.cells #[.bool x5.b, .slice x5.A x5.xs.length x5.c, .slice x5.D x5.ys.length x5.d] 25)) = wm at a5 bb ⊢
          try replace br := br.below bb
          try replace a1 := a1.below bb
          try replace a2 := a2.below bb
          try replace a3 := a3.below bb
          try replace a4 := a4.below bb
          try replace a5 := a5.below bb
          replace bw := below_on bw bb bw.size
          clear bb
          generalize wn.heap.size = g5 at a5 ⊢
          have ci0 := a1.c0
          have ci1 := a1.c1
          have ci2 := a1.c2
          have ci3 := a1.c3
          have ci4 := a1.c4
          have ci5 := a1.c5
          have cj0 := a4.c0
          have cj1 := a4.c1
          have cj2 := a4.c2
          go_wp2_with fail
          clear ci0 ci1 ci2 ci3 ci4 ci5
          clear cj0 cj1 cj2
          refine (fsub_any _ x1.hi x4 S6 a1.ok.hi a4.ok (by first | exact f1.l1 | exact f1.l2) (by first | exact f1.m1 | exact f1.m2) f4.l f4.m H6.out).mono ?_
          rintro e wn ⟨x6, rfl, hs6, ok6, bb⟩
          rw [HE6.out]
          have HS6 := Lib.hid hs6
          clear hs6
          try replace br := br.below bb
          try replace a1 := a1.below bb
          try replace a2 := a2.below bb
          try replace a3 := a3.below bb
          try replace a4 := a4.below bb
          try replace a5 := a5.below bb
          replace bw := below_on bw bb bw.size
          clear bb
          go_upto_region 7 with fail
          have a6 := (fa_alloc ok6).1
          have bb := (fa_alloc ok6).2
          clear ok6
          generalize (wn.alloc (.cells #[.bool x6.b, .slice x6.A x6.xs.length x6.c, .slice x6.D x6.ys.length x6.d] 25)) = wm at a6 bb ⊢
          try replace br := br.below bb
          try replace a1 := a1.below bb
          try replace a2 := a2.below bb
          try replace a3 := a3.below bb
          try replace a4 := a4.below bb
          try replace a5 := a5.below bb
          try replace a6 := a6.below bb
          replace bw := below_on bw bb bw.size
          clear bb
          generalize wn.heap.size = g6 at a6 ⊢
          have ci0 := a5.c0
          have ci1 := a5.c1
          have ci2 := a5.c2
          have cj0 := a6.c0
          have cj1 := a6.c1
          have cj2 := a6.c2
          have r0 := br.cell 0
          have r1 := br.cell 1
          have r2 := br.cell 2
          have r3 := br.cell 3
          have r4 := br.cell 4
          have r5 := br.cell 5
          have rf0 := br.unf 0
          have rf1 := br.unf 1
          have rf2 := br.unf 2
          have rf3 := br.unf 3
          have rf4 := br.unf 4
          have rf5 := br.unf 5
          simp only [List.getElem?_toArray, List.getElem?_cons_succ, List.getElem?_cons_zero] at r0 r1 r2 r3 r4 r5
          go_wp2_with fail
          refine bodyPost_ret (v := .tuple #[(⟨x5, x6⟩ : Ix).val, .int .i64 0]) (by simp [results, Try.results69, go_sem, r0, r1, r2, r3, r4, r5]) rfl ?_
          rw [HSP.out]
          exact ⟨⟨x5, x6⟩, rfl, HS5.out, HS6.out, ⟨set6_ok a5.ok br noInt_z, set6_ok a6.ok br noInt_z⟩, set6_below bw (by omega)⟩
        · skip
          go_enter Try.func69, Try.ntmps69
          go_upto_region 1 with fail
          have bw := Below.refl w.heap.size w
          have a1 := (ia_alloc ok1).1
          have bb := (ia_alloc ok1).2
          have sz1 := size_box w (.cells x1.cells 41)
          clear ok1
          generalize (w.alloc (.cells x1.cells 41)) = wA at a1 bb sz1 ⊢
          try replace ok1 := ok1.below bb
          try replace ok2 := ok2.below bb
          try replace ok3 := ok3.below bb
          try replace ok4 := ok4.below bb
          try replace br := br.below bb
          try replace a1 := a1.below bb
          try replace a2 := a2.below bb
          try replace a3 := a3.below bb
          try replace a4 := a4.below bb
          try replace a5 := a5.below bb
          try replace a6 := a6.below bb
          replace bw := below_on bw bb bw.size
          clear bb
          have a2 := (ia_alloc ok2).1
          have bb := (ia_alloc ok2).2
          have sz2 := size_box wA (.cells x2.cells 41)
          rw [sz1] at a2 sz2
          clear ok2 sz1
          generalize (wA.alloc (.cells x2.cells 41)) = wB at a2 bb sz2 ⊢
          try replace ok1 := ok1.below bb
          try replace ok2 := ok2.below bb
          try replace ok3 := ok3.below bb
          try replace ok4 := ok4.below bb
          try replace br := br.below bb
          try replace a1 := a1.below bb
          try replace a2 := a2.below bb
          try replace a3 := a3.below bb
          try replace a4 := a4.below bb
          try replace a5 := a5.below bb
          try replace a6 := a6.below bb
          replace bw := below_on bw bb bw.size
          clear bb
          have a3 := (fa_alloc ok3).1
          have bb := (fa_alloc ok3).2
          have sz3 := size_box wB (.cells x3.cells 25)
          rw [sz2] at a3 sz3
          clear ok3 sz2
          generalize (wB.alloc (.cells x3.cells 25)) = wC at a3 bb sz3 ⊢
          try replace ok1 := ok1.below bb
          try replace ok2 := ok2.below bb
          try replace ok3 := ok3.below bb
          try replace ok4 := ok4.below bb
          try replace br := br.below bb
          try replace a1 := a1.below bb
          try replace a2 := a2.below bb
          try replace a3 := a3.below bb
          try replace a4 := a4.below bb
          try replace a5 := a5.below bb
          try replace a6 := a6.below bb
          replace bw := below_on bw bb bw.size
          clear bb
          have a4 := (fa_alloc ok4).1
          have bb := (fa_alloc ok4).2
          have sz4 := size_box wC (.cells x4.cells 25)
          rw [sz3] at a4 sz4
          clear ok4 sz3
          generalize (wC.alloc (.cells x4.cells 25)) = wD at a4 bb sz4 ⊢
          try replace ok1 := ok1.below bb
          try replace ok2 := ok2.below bb
          try replace ok3 := ok3.below bb
          try replace ok4 := ok4.below bb
          try replace br := br.below bb
          try replace a1 := a1.below bb
          try replace a2 := a2.below bb
          try replace a3 := a3.below bb
          try replace a4 := a4.below bb
          try replace a5 := a5.below bb
          try replace a6 := a6.below bb
          replace bw := below_on bw bb bw.size
          clear bb
          have br := (zr_alloc wD).1
          have bb := (zr_alloc wD).2
          rw [sz4] at br
          clear sz4
          generalize (wD.alloc (.cells zcells 41)) = wm at br bb ⊢
          try replace a1 := a1.below bb
          try replace a2 := a2.below bb
          try replace a3 := a3.below bb
          try replace a4 := a4.below bb
          try replace a5 := a5.below bb
          try replace a6 := a6.below bb
          replace bw := below_on bw bb bw.size
          clear bb
          have ci0 := a1.c0
          have ci1 := a1.c1
          have ci2 := a1.c2
          have ci3 := a1.c3
          have ci4 := a1.c4
          have ci5 := a1.c5
          go_wp2_with fail
          clear ci0 ci1 ci2 ci3 ci4 ci5
          refine (ivalid_any _ x1 true a1.ok f1 (decide_eq_true HV1.out)).mono ?_
          rintro e wn ⟨rfl, bb⟩
          try replace br := br.below bb
          try replace a1 := a1.below bb
          try replace a2 := a2.below bb
          try replace a3 := a3.below bb
          try replace a4 := a4.below bb
          try replace a5 := a5.below bb
          try replace a6 := a6.below bb
          replace bw := below_on bw bb bw.size
          clear bb
          have ci0 := a2.c0
          have ci1 := a2.c1
          have ci2 := a2.c2
          have ci3 := a2.c3
          have ci4 := a2.c4
          have ci5 := a2.c5
          go_wp2_with fail
          clear ci0 ci1 ci2 ci3 ci4 ci5
          refine (ivalid_any _ x2 true a2.ok f2 (decide_eq_true HV2.out)).mono ?_
          rintro e wn ⟨rfl, bb⟩
          try replace br := br.below bb
          try replace a1 := a1.below bb
          try replace a2 := a2.below bb
          try replace a3 := a3.below bb
          try replace a4 := a4.below bb
          try replace a5 := a5.below bb
          try replace a6 := a6.below bb
          replace bw := below_on bw bb bw.size
          clear bb
          have ci0 := a1.c0
          have ci1 := a1.c1
          have ci2 := a1.c2
          have ci3 := a1.c3
          have ci4 := a1.c4
          have ci5 := a1.c5
          have cj0 := a3.c0
          have cj1 := a3.c1
          have cj2 := a3.c2
          go_wp2_with fail
          clear ci0 ci1 ci2 ci3 ci4 ci5
          clear cj0 cj1 cj2
          refine (fsub_any _ x1.lo x3 S5 a1.ok.lo a3.ok (by first | exact f1.l1 | exact f1.l2) (by first | exact f1.m1 | exact f1.m2) f3.l f3.m H5.out).mono ?_
          rintro e wn ⟨x5, rfl, hs5, ok5, bb⟩
          rw [HE5.out]
          have HS5 := Lib.hid hs5
          clear hs5
          try replace br := br.below bb
          try replace a1 := a1.below bb
          try replace a2 := a2.below bb
          try replace a3 := a3.below bb
          try replace a4 := a4.below bb
          try replace a5 := a5.below bb
          try replace a6 := a6.below bb
          replace bw := below_on bw bb bw.size
          clear bb
          go_upto_region 4 with fail
          have a5 := (fa_alloc ok5).1
          have bb := (fa_alloc ok5).2
          clear ok5
          generalize (wn.alloc (.cells #[.bool x5.b, .slice x5.A x5.xs.length x5.c, .slice x5.D x5.ys.length x5.d] 25)) = wm at a5 bb ⊢
          try replace br := br.below bb
          try replace a1 := a1.below bb
          try replace a2 := a2.below bb
          try replace a3 := a3.below bb
          try replace a4 := a4.below bb
          try replace a5 := a5.below bb
          try replace a6 := a6.below bb
          replace bw := below_on bw bb bw.size
          clear bb
          generalize wn.heap.size = g5 at a5 ⊢
          have ci0 := a1.c0
          have ci1 := a1.c1
          have ci2 := a1.c2
          have ci3 := a1.c3
          have ci4 := a1.c4
          have ci5 := a1.c5
          have cj0 := a4.c0
          have cj1 := a4.c1
          have cj2 := a4.c2
          go_wp2_with fail
          clear ci0 ci1 ci2 ci3 ci4 ci5
          clear cj0 cj1 cj2
          refine (fsub_any _ x1.hi x4 S6 a1.ok.hi a4.ok (by first | exact f1.l1 | exact f1.l2) (by first | exact f1.m1 | exact f1.m2) f4.l f4.m H6.out).mono ?_
          rintro e wn ⟨x6, rfl, hs6, ok6, bb⟩
          rw [HE6.out]
          have HS6 := Lib.hid hs6
          clear hs6
          try replace br := br.below bb
          try replace a1 := a1.below bb
          try replace a2 := a2.below bb
          try replace a3 := a3.below bb
          try replace a4 := a4.below bb
          try replace a5 := a5.below bb
          try replace a6 := a6.below bb
          replace bw := below_on bw bb bw.size
          clear bb
          go_upto_region 7 with fail
          have a6 := (fa_alloc ok6).1
          have bb := (fa_alloc ok6).2
          clear ok6
          generalize (wn.alloc (.cells #[.bool x6.b, .slice x6.A x6.xs.length x6.c, .slice x6.D x6.ys.length x6.d] 25)) = wm at a6 bb ⊢
          try replace br := br.below bb
          try replace a1 := a1.below bb
          try replace a2 := a2.below bb
          try replace a3 := a3.below bb
          try replace a4 := a4.below bb
          try replace a5 := a5.below bb
          try replace a6 := a6.below bb
          replace bw := below_on bw bb bw.size
          clear bb
          generalize wn.heap.size = g6 at a6 ⊢
          have r0 := br.cell 0
          have r1 := br.cell 1
          have r2 := br.cell 2
          have r3 := br.cell 3
          have r4 := br.cell 4
          have r5 := br.cell 5
          have rf0 := br.unf 0
          have rf1 := br.unf 1
          have rf2 := br.unf 2
          have rf3 := br.unf 3
          have rf4 := br.unf 4
          have rf5 := br.unf 5
          simp only [List.getElem?_toArray, List.getElem?_cons_succ, List.getElem?_cons_zero] at r0 r1 r2 r3 r4 r5
          go_wp2_with fail
          refine bodyPost_ret (v := .tuple #[(Ix.nil : Ix).val, .int .i64 E6]) (by simp [results, Try.results69, go_sem, r0, r1, r2, r3, r4, r5]) rfl ?_
          rw [HSP.out]
          simp only [ne_eq, not_true_eq_false, if_false, if_pos z6]
          exact ⟨Ix.nil, rfl, ⟨rfl, rfl, rfl⟩, ⟨rfl, rfl, rfl⟩, Ix.nil_ok _, set6_below bw (by omega)⟩
      · skip
        go_enter Try.func69, Try.ntmps69
        go_upto_region 1 with fail
        have bw := Below.refl w.heap.size w
        have a1 := (ia_alloc ok1).1
        have bb := (ia_alloc ok1).2
        have sz1 := size_box w (.cells x1.cells 41)
        clear ok1
        generalize (w.alloc (.cells x1.cells 41)) = wA at a1 bb sz1 ⊢
        try replace ok1 := ok1.below bb
        try replace ok2 := ok2.below bb
        try replace ok3 := ok3.below bb
        try replace ok4 := ok4.below bb
        try replace br := br.below bb
        try replace a1 := a1.below bb
        try replace a2 := a2.below bb
        try replace a3 := a3.below bb
        try replace a4 := a4.below bb
        try replace a5 := a5.below bb
        try replace a6 := a6.below bb
        replace bw := below_on bw bb bw.size
        clear bb
        have a2 := (ia_alloc ok2).1
        have bb := (ia_alloc ok2).2
        have sz2 := size_box wA (.cells x2.cells 41)
        rw [sz1] at a2 sz2
        clear ok2 sz1
        generalize (wA.alloc (.cells x2.cells 41)) = wB at a2 bb sz2 ⊢
        try replace ok1 := ok1.below bb
        try replace ok2 := ok2.below bb
        try replace ok3 := ok3.below bb
        try replace ok4 := ok4.below bb
        try replace br := br.below bb
        try replace a1 := a1.below bb
        try replace a2 := a2.below bb
        try replace a3 := a3.below bb
        try replace a4 := a4.below bb
        try replace a5 := a5.below bb
        try replace a6 := a6.below bb
        replace bw := below_on bw bb bw.size
        clear bb
        have a3 := (fa_alloc ok3).1
        have bb := (fa_alloc ok3).2
        have sz3 := size_box wB (.cells x3.cells 25)
        rw [sz2] at a3 sz3
        clear ok3 sz2
        generalize (wB.alloc (.cells x3.cells 25)) = wC at a3 bb sz3 ⊢
        try replace ok1 := ok1.below bb
        try replace ok2 := ok2.below bb
        try replace ok3 := ok3.below bb
        try replace ok4 := ok4.below bb
        try replace br := br.below bb
        try replace a1 := a1.below bb
        try replace a2 := a2.below bb
        try replace a3 := a3.below bb
        try replace a4 := a4.below bb
        try replace a5 := a5.below bb
        try replace a6 := a6.below bb
        replace bw := below_on bw bb bw.size
        clear bb
        have a4 := (fa_alloc ok4).1
        have bb := (fa_alloc ok4).2
        have sz4 := size_box wC (.cells x4.cells 25)
        rw [sz3] at a4 sz4
        clear ok4 sz3
        generalize (wC.alloc (.cells x4.cells 25)) = wD at a4 bb sz4 ⊢
        try replace ok1 := ok1.below bb
        try replace ok2 := ok2.below bb
        try replace ok3 := ok3.below bb
        try replace ok4 := ok4.below bb
        try replace br := br.below bb
        try replace a1 := a1.below bb
        try replace a2 := a2.below bb
        try replace a3 := a3.below bb
        try replace a4 := a4.below bb
        try replace a5 := a5.below bb
        try replace a6 := a6.below bb
        replace bw := below_on bw bb bw.size
        clear bb
        have br := (zr_alloc wD).1
        have bb := (zr_alloc wD).2
        rw [sz4] at br
        clear sz4
        generalize (wD.alloc (.cells zcells 41)) = wm at br bb ⊢
        try replace a1 := a1.below bb
        try replace a2 := a2.below bb
        try replace a3 := a3.below bb
        try replace a4 := a4.below bb
        try replace a5 := a5.below bb
        try replace a6 := a6.below bb
        replace bw := below_on bw bb bw.size
        clear bb
        have ci0 := a1.c0
        have ci1 := a1.c1
        have ci2 := a1.c2
        have ci3 := a1.c3
        have ci4 := a1.c4
        have ci5 := a1.c5
        go_wp2_with fail
        clear ci0 ci1 ci2 ci3 ci4 ci5
        refine (ivalid_any _ x1 true a1.ok f1 (decide_eq_true HV1.out)).mono ?_
        rintro e wn ⟨rfl, bb⟩
        try replace br := br.below bb
        try replace a1 := a1.below bb
        try replace a2 := a2.below bb
        try replace a3 := a3.below bb
        try replace a4 := a4.below bb
        try replace a5 := a5.below bb
        try replace a6 := a6.below bb
        replace bw := below_on bw bb bw.size
        clear bb
        have ci0 := a2.c0
        have ci1 := a2.c1
        have ci2 := a2.c2
        have ci3 := a2.c3
        have ci4 := a2.c4
        have ci5 := a2.c5
        go_wp2_with fail
        clear ci0 ci1 ci2 ci3 ci4 ci5
        refine (ivalid_any _ x2 true a2.ok f2 (decide_eq_true HV2.out)).mono ?_
        rintro e wn ⟨rfl, bb⟩
        try replace br := br.below bb
        try replace a1 := a1.below bb
        try replace a2 := a2.below bb
        try replace a3 := a3.below bb
        try replace a4 := a4.below bb
        try replace a5 := a5.below bb
        try replace a6 := a6.below bb
        replace bw := below_on bw bb bw.size
        clear bb
        have ci0 := a1.c0
        have ci1 := a1.c1
        have ci2 := a1.c2
        have ci3 := a1.c3
        have ci4 := a1.c4
        have ci5 := a1.c5
        have cj0 := a3.c0
        have cj1 := a3.c1
        have cj2 := a3.c2
        go_wp2_with fail
        clear ci0 ci1 ci2 ci3 ci4 ci5
        clear cj0 cj1 cj2
        refine (fsub_any _ x1.lo x3 S5 a1.ok.lo a3.ok (by first | exact f1.l1 | exact f1.l2) (by first | exact f1.m1 | exact f1.m2) f3.l f3.m H5.out).mono ?_
        rintro e wn ⟨x5, rfl, hs5, ok5, bb⟩
        rw [HE5.out]
        have HS5 := Lib.hid hs5
        clear hs5
        try replace br := br.below bb
        try replace a1 := a1.below bb
        try replace a2 := a2.below bb
        try replace a3 := a3.below bb
        try replace a4 := a4.below bb
        try replace a5 := a5.below bb
        try replace a6 := a6.below bb
        replace bw := below_on bw bb bw.size
        clear bb
        go_upto_region 4 with fail
        have a5 := (fa_alloc ok5).1
        have bb := (fa_alloc ok5).2
        clear ok5
        generalize (wn.alloc (.cells #[.bool x5.b, .slice x5.A x5.xs.length x5.c, .slice x5.D x5.ys.length x5.d] 25)) = wm at a5 bb ⊢
        try replace br := br.below bb
        try replace a1 := a1.below bb
        try replace a2 := a2.below bb
        try replace a3 := a3.below bb
        try replace a4 := a4.below bb
        try replace a5 := a5.below bb
        try replace a6 := a6.below bb
        replace bw := below_on bw bb bw.size
        clear bb
        generalize wn.heap.size = g5 at a5 ⊢
        have r0 := br.cell 0
        have r1 := br.cell 1
        have r2 := br.cell 2
        have r3 := br.cell 3
        have r4 := br.cell 4
        have r5 := br.cell 5
        have rf0 := br.unf 0
        have rf1 := br.unf 1
        have rf2 := br.unf 2
        have rf3 := br.unf 3
        have rf4 := br.unf 4
        have rf5 := br.unf 5
        simp only [List.getElem?_toArray, List.getElem?_cons_succ, List.getElem?_cons_zero] at r0 r1 r2 r3 r4 r5
        go_wp2_with fail
        refine bodyPost_ret (v := .tuple #[(Ix.nil : Ix).val, .int .i64 E5]) (by simp [results, Try.results69, go_sem, r0, r1, r2, r3, r4, r5]) rfl ?_
        rw [HSP.out]
        simp only [ne_eq, if_pos z5]
        exact ⟨Ix.nil, rfl, ⟨rfl, rfl, rfl⟩, ⟨rfl, rfl, rfl⟩, Ix.nil_ok _, set6_below bw (by omega)⟩
    · have HV2 : Hid (¬ (x1.v ∧ x2.v)) := fun h => hv2 h.2
      have HV3 : Hid (¬ x2.v) := hv2
      clear hv1 hv2
      go_enter Try.func69, Try.ntmps69
      go_upto_region 1 with fail
      have bw := Below.refl w.heap.size w
      have a1 := (ia_alloc ok1).1
      have bb := (ia_alloc ok1).2
      have sz1 := size_box w (.cells x1.cells 41)
      clear ok1
      generalize (w.alloc (.cells x1.cells 41)) = wA at a1 bb sz1 ⊢
      try replace ok1 := ok1.below bb
      try replace ok2 := ok2.below bb
      try replace ok3 := ok3.below bb
      try replace ok4 := ok4.below bb
      try replace br := br.below bb
      try replace a1 := a1.below bb
      try replace a2 := a2.below bb
      try replace a3 := a3.below bb
      try replace a4 := a4.below bb
      try replace a5 := a5.below bb
      try replace a6 := a6.below bb
      replace bw := below_on bw bb bw.size
      clear bb
      have a2 := (ia_alloc ok2).1
      have bb := (ia_alloc ok2).2
      have sz2 := size_box wA (.cells x2.cells 41)
      rw [sz1] at a2 sz2
      clear ok2 sz1
      generalize (wA.alloc (.cells x2.cells 41)) = wB at a2 bb sz2 ⊢
      try replace ok1 := ok1.below bb
      try replace ok2 := ok2.below bb
      try replace ok3 := ok3.below bb
      try replace ok4 := ok4.below bb
      try replace br := br.below bb
      try replace a1 := a1.below bb
      try replace a2 := a2.below bb
      try replace a3 := a3.below bb
      try replace a4 := a4.below bb
      try replace a5 := a5.below bb
      try replace a6 := a6.below bb
      replace bw := below_on bw bb bw.size
      clear bb
      have a3 := (fa_alloc ok3).1
      have bb := (fa_alloc ok3).2
      have sz3 := size_box wB (.cells x3.cells 25)
      rw [sz2] at a3 sz3
      clear ok3 sz2
      generalize (wB.alloc (.cells x3.cells 25)) = wC at a3 bb sz3 ⊢
      try replace ok1 := ok1.below bb
      try replace ok2 := ok2.below bb
      try replace ok3 := ok3.below bb
      try replace ok4 := ok4.below bb
      try replace br := br.below bb
      try replace a1 := a1.below bb
      try replace a2 := a2.below bb
      try replace a3 := a3.below bb
      try replace a4 := a4.below bb
      try replace a5 := a5.below bb
      try replace a6 := a6.below bb
      replace bw := below_on bw bb bw.size
      clear bb
      have a4 := (fa_alloc ok4).1
      have bb := (fa_alloc ok4).2
      have sz4 := size_box wC (.cells x4.cells 25)
      rw [sz3] at a4 sz4
      clear ok4 sz3
      generalize (wC.alloc (.cells x4.cells 25)) = wD at a4 bb sz4 ⊢
      try replace ok1 := ok1.below bb
      try replace ok2 := ok2.below bb
      try replace ok3 := ok3.below bb
      try replace ok4 := ok4.below bb
      try replace br := br.below bb
      try replace a1 := a1.below bb
      try replace a2 := a2.below bb
      try replace a3 := a3.below bb
      try replace a4 := a4.below bb
      try replace a5 := a5.below bb
      try replace a6 := a6.below bb
      replace bw := below_on bw bb bw.size
      clear bb
      have br := (zr_alloc wD).1
      have bb := (zr_alloc wD).2
      rw [sz4] at br
      clear sz4
      generalize (wD.alloc (.cells zcells 41)) = wm at br bb ⊢
      try replace a1 := a1.below bb
      try replace a2 := a2.below bb
      try replace a3 := a3.below bb
      try replace a4 := a4.below bb
      try replace a5 := a5.below bb
      try replace a6 := a6.below bb
      replace bw := below_on bw bb bw.size
      clear bb
      have ci0 := a1.c0
      have ci1 := a1.c1
      have ci2 := a1.c2
      have ci3 := a1.c3
      have ci4 := a1.c4
      have ci5 := a1.c5
      go_wp2_with fail
      clear ci0 ci1 ci2 ci3 ci4 ci5
      refine (ivalid_any _ x1 true a1.ok f1 (decide_eq_true HV1.out)).mono ?_
      rintro e wn ⟨rfl, bb⟩
      try replace br := br.below bb
      try replace a1 := a1.below bb
      try replace a2 := a2.below bb
      try replace a3 := a3.below bb
      try replace a4 := a4.below bb
      try replace a5 := a5.below bb
      try replace a6 := a6.below bb
      replace bw := below_on bw bb bw.size
      clear bb
      have ci0 := a2.c0
      have ci1 := a2.c1
      have ci2 := a2.c2
      have ci3 := a2.c3
      have ci4 := a2.c4
      have ci5 := a2.c5
      go_wp2_with fail
      clear ci0 ci1 ci2 ci3 ci4 ci5
      refine (ivalid_any _ x2 false a2.ok f2 (decide_eq_false HV3.out)).mono ?_
      rintro e wn ⟨rfl, bb⟩
      try replace br := br.below bb
      try replace a1 := a1.below bb
      try replace a2 := a2.below bb
      try replace a3 := a3.below bb
      try replace a4 := a4.below bb
      try replace a5 := a5.below bb
      try replace a6 := a6.below bb
      replace bw := below_on bw bb bw.size
      clear bb
      have r0 := br.cell 0
      have r1 := br.cell 1
      have r2 := br.cell 2
      have r3 := br.cell 3
      have r4 := br.cell 4
      have r5 := br.cell 5
      have rf0 := br.unf 0
      have rf1 := br.unf 1
      have rf2 := br.unf 2
      have rf3 := br.unf 3
      have rf4 := br.unf 4
      have rf5 := br.unf 5
      simp only [List.getElem?_toArray, List.getElem?_cons_succ, List.getElem?_cons_zero] at r0 r1 r2 r3 r4 r5
      go_wp2_with fail
      refine bodyPost_ret (v := .tuple #[(Ix.nil : Ix).val, .int .i64 1]) (by simp [results, Try.results69, go_sem, r0, r1, r2, r3, r4, r5]) rfl ?_
      rw [← HS.out, (show opS subF x1 x2 x3 x4 = errI 1 from if_neg HV2.out)]
      exact ⟨Ix.nil, rfl, ⟨rfl, rfl, rfl⟩, ⟨rfl, rfl, rfl⟩, Ix.nil_ok _, set6_below bw (by omega)⟩
  · have HV2 : Hid (¬ (x1.v ∧ x2.v)) := fun h => hv1 h.1
    have HV1 : Hid (¬ x1.v) := hv1
    clear hv1
    go_enter Try.func69, Try.ntmps69
    go_upto_region 1 with fail
    have bw := Below.refl w.heap.size w
    have a1 := (ia_alloc ok1).1
    have bb := (ia_alloc ok1).2
    have sz1 := size_box w (.cells x1.cells 41)
    clear ok1
    generalize (w.alloc (.cells x1.cells 41)) = wA at a1 bb sz1 ⊢
    try replace ok1 := ok1.below bb
    try replace ok2 := ok2.below bb
    try replace ok3 := ok3.below bb
    try replace ok4 := ok4.below bb
    try replace br := br.below bb
    try replace a1 := a1.below bb
    try replace a2 := a2.below bb
    try replace a3 := a3.below bb
    try replace a4 := a4.below bb
    try replace a5 := a5.below bb
    try replace a6 := a6.below bb
    replace bw := below_on bw bb bw.size
    clear bb
    have a2 := (ia_alloc ok2).1
    have bb := (ia_alloc ok2).2
    have sz2 := size_box wA (.cells x2.cells 41)
    rw [sz1] at a2 sz2
    clear ok2 sz1
    generalize (wA.alloc (.cells x2.cells 41)) = wB at a2 bb sz2 ⊢
    try replace ok1 := ok1.below bb
    try replace ok2 := ok2.below bb
    try replace ok3 := ok3.below bb
    try replace ok4 := ok4.below bb
    try replace br := br.below bb
    try replace a1 := a1.below bb
    try replace a2 := a2.below bb
    try replace a3 := a3.below bb
    try replace a4 := a4.below bb
    try replace a5 := a5.below bb
    try replace a6 := a6.below bb
    replace bw := below_on bw bb bw.size
    clear bb
    have a3 := (fa_alloc ok3).1
    have bb := (fa_alloc ok3).2
    have sz3 := size_box wB (.cells x3.cells 25)
    rw [sz2] at a3 sz3
    clear ok3 sz2
    generalize (wB.alloc (.cells x3.cells 25)) = wC at a3 bb sz3 ⊢
    try replace ok1 := ok1.below bb
    try replace ok2 := ok2.below bb
    try replace ok3 := ok3.below bb
    try replace ok4 := ok4.below bb
    try replace br := br.below bb
    try replace a1 := a1.below bb
    try replace a2 := a2.below bb
    try replace a3 := a3.below bb
    try replace a4 := a4.below bb
    try replace a5 := a5.below bb
    try replace a6 := a6.below bb
    replace bw := below_on bw bb bw.size
    clear bb
    have a4 := (fa_alloc ok4).1
    have bb := (fa_alloc ok4).2
    have sz4 := size_box wC (.cells x4.cells 25)
    rw [sz3] at a4 sz4
    clear ok4 sz3
    generalize (wC.alloc (.cells x4.cells 25)) = wD at a4 bb sz4 ⊢
    try replace ok1 := ok1.below bb
    try replace ok2 := ok2.below bb
    try replace ok3 := ok3.below bb
    try replace ok4 := ok4.below bb
    try replace br := br.below bb
    try replace a1 := a1.below bb
    try replace a2 := a2.below bb
    try replace a3 := a3.below bb
    try replace a4 := a4.below bb
    try replace a5 := a5.below bb
    try replace a6 := a6.below bb
    replace bw := below_on bw bb bw.size
    clear bb
    have br := (zr_alloc wD).1
    have bb := (zr_alloc wD).2
    rw [sz4] at br
    clear sz4
    generalize (wD.alloc (.cells zcells 41)) = wm at br bb ⊢
    try replace a1 := a1.below bb
    try replace a2 := a2.below bb
    try replace a3 := a3.below bb
    try replace a4 := a4.below bb
    try replace a5 := a5.below bb
    try replace a6 := a6.below bb
    replace bw := below_on bw bb bw.size
    clear bb
    have ci0 := a1.c0
    have ci1 := a1.c1
    have ci2 := a1.c2
    have ci3 := a1.c3
    have ci4 := a1.c4
    have ci5 := a1.c5
    go_wp2_with fail
    clear ci0 ci1 ci2 ci3 ci4 ci5
    refine (ivalid_any _ x1 false a1.ok f1 (decide_eq_false HV1.out)).mono ?_
    rintro e wn ⟨rfl, bb⟩
    try replace br := br.below bb
    try replace a1 := a1.below bb
    try replace a2 := a2.below bb
    try replace a3 := a3.below bb
    try replace a4 := a4.below bb
    try replace a5 := a5.below bb
    try replace a6 := a6.below bb
    replace bw := below_on bw bb bw.size
    clear bb
    have r0 := br.cell 0
    have r1 := br.cell 1
    have r2 := br.cell 2
    have r3 := br.cell 3
    have r4 := br.cell 4
    have r5 := br.cell 5
    have rf0 := br.unf 0
    have rf1 := br.unf 1
    have rf2 := br.unf 2
    have rf3 := br.unf 3
    have rf4 := br.unf 4
    have rf5 := br.unf 5
    simp only [List.getElem?_toArray, List.getElem?_cons_succ, List.getElem?_cons_zero] at r0 r1 r2 r3 r4 r5
    go_wp2_with fail
    refine bodyPost_ret (v := .tuple #[(Ix.nil : Ix).val, .int .i64 1]) (by simp [results, Try.results69, go_sem, r0, r1, r2, r3, r4, r5]) rfl ?_
    rw [← HS.out, (show opS subF x1 x2 x3 x4 = errI 1 from if_neg HV2.out)]
    exact ⟨Ix.nil, rfl, ⟨rfl, rfl, rfl⟩, ⟨rfl, rfl, rfl⟩, Ix.nil_ok _, set6_below bw (by omega)⟩
set_option maxRecDepth 100000 in
theorem Ix.few.lo {a : Ix} (h : a.few) : a.lo.few := ⟨h.l1, h.m1⟩
set_option maxRecDepth 100000 in
theorem Ix.few.hi {a : Ix} (h : a.few) : a.hi.few := ⟨h.l2, h.m2⟩
set_option maxRecDepth 100000 in
theorem iadd_any (w : World) (x1 x2 : Ix) (S : IvS) (ok1 : x1.ok w) (ok2 : x2.ok w) (f1 : x1.few) (f2 : x2.few) (hs : opS addF x1 x2 x2.lo x2.hi = S) :
    Calls Try.prog 23 #[x1.val, x2.val] w (IvlRes w S) := by
  have HS := Lib.hid hs
  clear hs
  go_enter Try.func23, Try.ntmps23
  go_upto_region 1 with fail
  have bw := Below.refl w.heap.size w
  have a1 := (ia_alloc ok1).1
  have bb := (ia_alloc ok1).2
  have sz1 := size_box w (.cells x1.cells 41)
  clear ok1
  generalize (w.alloc (.cells x1.cells 41)) = wA at a1 bb sz1 ⊢
  try replace ok1 := ok1.below bb
  try replace ok2 := ok2.below bb
  try replace a1 := a1.below bb
  replace bw := below_on bw bb bw.size
  clear bb
  have a2 := (ia_alloc ok2).1
  have bb := (ia_alloc ok2).2
  have sz2 := size_box wA (.cells x2.cells 41)
  rw [sz1] at a2 sz2
  clear ok2 sz1
  generalize (wA.alloc (.cells x2.cells 41)) = wB at a2 bb sz2 ⊢
  try replace ok1 := ok1.below bb
  try replace ok2 := ok2.below bb
  try replace a1 := a1.below bb
  try replace a2 := a2.below bb
  replace bw := below_on bw bb bw.size
  clear bb
  have br := (zr_alloc wB).1
  have bb := (zr_alloc wB).2
  rw [sz2] at br
  clear sz2
  generalize (wB.alloc (.cells zcells 41)) = wm at br bb ⊢
  try replace a1 := a1.below bb
  try replace a2 := a2.below bb
  replace bw := below_on bw bb bw.size
  clear bb
  have ci0 := a1.c0
  have ci1 := a1.c1
  have ci2 := a1.c2
  have ci3 := a1.c3
  have ci4 := a1.c4
  have ci5 := a1.c5
  have cj0 := a2.c0
  have cj1 := a2.c1
  have cj2 := a2.c2
  have cj3 := a2.c3
  have cj4 := a2.c4
  have cj5 := a2.c5
  go_wp2_with fail
  clear ci0 ci1 ci2 ci3 ci4 ci5
  clear cj0 cj1 cj2 cj3 cj4 cj5
  refine (ibothadd_any _ x1 x2 x2.lo x2.hi S a1.ok a2.ok a2.ok.lo a2.ok.hi f1 f2 f2.lo f2.hi HS.out).mono ?_
  rintro e wn ⟨a, rfl, h1, h2, oka, bb⟩
  try replace br := br.below bb
  try replace a1 := a1.below bb
  try replace a2 := a2.below bb
  replace bw := below_on bw bb bw.size
  clear bb
  have r0 := br.cell 0
  have r1 := br.cell 1
  have r2 := br.cell 2
  have r3 := br.cell 3
  have r4 := br.cell 4
  have r5 := br.cell 5
  have rf0 := br.unf 0
  have rf1 := br.unf 1
  have rf2 := br.unf 2
  have rf3 := br.unf 3
  have rf4 := br.unf 4
  have rf5 := br.unf 5
  simp only [List.getElem?_toArray, List.getElem?_cons_succ, List.getElem?_cons_zero] at r0 r1 r2 r3 r4 r5
  go_wp2_with fail
  refine bodyPost_ret (v := .tuple #[(a : Ix).val, .int .i64 S.2.2]) (by simp [results, Try.results23, go_sem, r0, r1, r2, r3, r4, r5]) rfl ?_
  exact ⟨a, rfl, h1, h2, ⟨set6_ok oka.lo br noInt_z, set6_ok oka.hi br noInt_z⟩, set6_below bw (by omega)⟩
set_option maxRecDepth 100000 in
theorem isub_any (w : World) (x1 x2 : Ix) (S : IvS) (ok1 : x1.ok w) (ok2 : x2.ok w) (f1 : x1.few) (f2 : x2.few) (hs : opS subF x1 x2 x2.hi x2.lo = S) :
    Calls Try.prog 24 #[x1.val, x2.val] w (IvlRes w S) := by
  have HS := Lib.hid hs
  clear hs
  go_enter Try.func24, Try.ntmps24
  go_upto_region 1 with fail
  have bw := Below.refl w.heap.size w
  have a1 := (ia_alloc ok1).1
  have bb := (ia_alloc ok1).2
  have sz1 := size_box w (.cells x1.cells 41)
  clear ok1
  generalize (w.alloc (.cells x1.cells 41)) = wA at a1 bb sz1 ⊢
  try replace ok1 := ok1.below bb
  try replace ok2 := ok2.below bb
  try replace a1 := a1.below bb
  replace bw := below_on bw bb bw.size
  clear bb
  have a2 := (ia_alloc ok2).1
  have bb := (ia_alloc ok2).2
  have sz2 := size_box wA (.cells x2.cells 41)
  rw [sz1] at a2 sz2
  clear ok2 sz1
  generalize (wA.alloc (.cells x2.cells 41)) = wB at a2 bb sz2 ⊢
  try replace ok1 := ok1.below bb
  try replace ok2 := ok2.below bb
  try replace a1 := a1.below bb
  try replace a2 := a2.below bb
  replace bw := below_on bw bb bw.size
  clear bb
  have br := (zr_alloc wB).1
  have bb := (zr_alloc wB).2
  rw [sz2] at br
  clear sz2
  generalize (wB.alloc (.cells zcells 41)) = wm at br bb ⊢
  try replace a1 := a1.below bb
  try replace a2 := a2.below bb
  replace bw := below_on bw bb bw.size
  clear bb
  have ci0 := a1.c0
  have ci1 := a1.c1
  have ci2 := a1.c2
  have ci3 := a1.c3
  have ci4 := a1.c4
  have ci5 := a1.c5
  have cj0 := a2.c0
  have cj1 := a2.c1
  have cj2 := a2.c2
  have cj3 := a2.c3
  have cj4 := a2.c4
  have cj5 := a2.c5
  go_wp2_with fail
  clear ci0 ci1 ci2 ci3 ci4 ci5
  clear cj0 cj1 cj2 cj3 cj4 cj5
  refine (ibothsub_any _ x1 x2 x2.hi x2.lo S a1.ok a2.ok a2.ok.hi a2.ok.lo f1 f2 f2.hi f2.lo HS.out).mono ?_
  rintro e wn ⟨a, rfl, h1, h2, oka, bb⟩
  try replace br := br.below bb
  try replace a1 := a1.below bb
  try replace a2 := a2.below bb
  replace bw := below_on bw bb bw.size
  clear bb
  have r0 := br.cell 0
  have r1 := br.cell 1
  have r2 := br.cell 2
  have r3 := br.cell 3
  have r4 := br.cell 4
  have r5 := br.cell 5
  have rf0 := br.unf 0
  have rf1 := br.unf 1
  have rf2 := br.unf 2
  have rf3 := br.unf 3
  have rf4 := br.unf 4
  have rf5 := br.unf 5
  simp only [List.getElem?_toArray, List.getElem?_cons_succ, List.getElem?_cons_zero] at r0 r1 r2 r3 r4 r5
  go_wp2_with fail
  refine bodyPost_ret (v := .tuple #[(a : Ix).val, .int .i64 S.2.2]) (by simp [results, Try.results24, go_sem, r0, r1, r2, r3, r4, r5]) rfl ?_
  exact ⟨a, rfl, h1, h2, ⟨set6_ok oka.lo br noInt_z, set6_ok oka.hi br noInt_z⟩, set6_below bw (by omega)⟩
end Go.Proofs.Ytlcolmifmhdboaa
