/- The reference of package interval: Outward, Add, Sub, Width; interval.Width. -/
import Derived.Test.YtlcolmifmhdboaaIvS
namespace Go.Proofs.Ytlcolmifmhdboaa
open Go.RowKit

set_option maxHeartbeats 1600000 in
set_option maxRecDepth 100000 in
theorem riadd_any (w : World) (x1 x2 : Ix) (S : IvS) (ok1 : x1.ok w) (ok2 : x2.ok w) (f1 : x1.few) (f2 : x2.few) (hs : opS addF x1 x2 x2.lo x2.hi = S) :
    Calls Try.prog 36 #[x1.val, x2.val] w (IvlRes w S) := by
  have HS := Lib.hid hs
  clear hs
  by_cases hv1 : x1.v
  · have HV1 := Lib.hid hv1
    by_cases hv2 : x2.v
    · have HV2 := Lib.hid hv2
      obtain ⟨S5, h5⟩ : ∃ S, addF x1.lo x2.lo = S := ⟨_, rfl⟩
      obtain ⟨S6, h6⟩ : ∃ S, addF x1.hi x2.hi = S := ⟨_, rfl⟩
      have HSP : Hid (S = bothS S5 S6) := Lib.hid (by rw [← HS.out, opS, if_pos ⟨hv1, hv2⟩, h5, h6])
      have H5 := Lib.hid h5
      have H6 := Lib.hid h6
      clear hv1 hv2 h5 h6
      go_enter Try.func36, Try.ntmps36
      go_upto_region 1 with fail
      have bw := Below.refl w.heap.size w
      have a1 := (ia_alloc ok1).1
      have bb := (ia_alloc ok1).2
      have sz1 := size_box w (.cells x1.cells 41)
      clear ok1
      generalize (w.alloc (.cells x1.cells 41)) = wA at a1 bb sz1 ⊢
      try replace ok1 := ok1.below bb
      try replace ok2 := ok2.below bb
      try replace a1 := a1.below bb
      replace bw := below_on bw bb bw.size
      clear bb
      have a2 := (ia_alloc ok2).1
      have bb := (ia_alloc ok2).2
      have sz2 := size_box wA (.cells x2.cells 41)
      rw [sz1] at a2 sz2
      clear ok2 sz1
      generalize (wA.alloc (.cells x2.cells 41)) = wB at a2 bb sz2 ⊢
      try replace ok1 := ok1.below bb
      try replace ok2 := ok2.below bb
      try replace a1 := a1.below bb
      try replace a2 := a2.below bb
      replace bw := below_on bw bb bw.size
      clear bb
      have br := (zr_alloc wB).1
      have bb := (zr_alloc wB).2
      rw [sz2] at br
      clear sz2
      generalize (wB.alloc (.cells zcells 41)) = wm at br bb ⊢
      try replace a1 := a1.below bb
      try replace a2 := a2.below bb
      replace bw := below_on bw bb bw.size
      clear bb
      have ci0 := a1.c0
      have ci1 := a1.c1
      have ci2 := a1.c2
      have ci3 := a1.c3
      have ci4 := a1.c4
      have ci5 := a1.c5
      go_wp2_with fail
      clear ci0 ci1 ci2 ci3 ci4 ci5
      refine (rivalid_any _ x1 true a1.ok f1 (decide_eq_true HV1.out)).mono ?_
      rintro e wn ⟨rfl, bb⟩
      try replace br := br.below bb
      try replace a1 := a1.below bb
      try replace a2 := a2.below bb
      replace bw := below_on bw bb bw.size
      clear bb
      have ci0 := a2.c0
      have ci1 := a2.c1
      have ci2 := a2.c2
      have ci3 := a2.c3
      have ci4 := a2.c4
      have ci5 := a2.c5
      go_wp2_with fail
      clear ci0 ci1 ci2 ci3 ci4 ci5
      refine (rivalid_any _ x2 true a2.ok f2 (decide_eq_true HV2.out)).mono ?_
      rintro e wn ⟨rfl, bb⟩
      try replace br := br.below bb
      try replace a1 := a1.below bb
      try replace a2 := a2.below bb
      replace bw := below_on bw bb bw.size
      clear bb
      have ci0 := a1.c0
      have ci1 := a1.c1
      have ci2 := a1.c2
      have ci3 := a1.c3
      have ci4 := a1.c4
      have ci5 := a1.c5
      have cj0 := a2.c0
      have cj1 := a2.c1
      have cj2 := a2.c2
      have cj3 := a2.c3
      have cj4 := a2.c4
      have cj5 := a2.c5
      go_wp2_with fail
      clear ci0 ci1 ci2 ci3 ci4 ci5
      clear cj0 cj1 cj2 cj3 cj4 cj5
      refine (rfadd_any _ x1.lo x2.lo S5 a1.ok.lo a2.ok.lo f1.lo.l f1.lo.m f2.lo.l f2.lo.m H5.out).mono ?_
      rintro e wn ⟨x5, rfl, hs5, ok5, bb⟩
      have HS5 := Lib.hid hs5
      clear hs5
      try replace br := br.below bb
      try replace a1 := a1.below bb
      try replace a2 := a2.below bb
      replace bw := below_on bw bb bw.size
      clear bb
      go_upto_region 4 with fail
      have a5 := (fa_alloc ok5).1
      have bb := (fa_alloc ok5).2
      clear ok5
      generalize (wn.alloc (.cells #[.bool x5.b, .slice x5.A x5.xs.length x5.c, .slice x5.D x5.ys.length x5.d] 25)) = wm at a5 bb ⊢
      try replace br := br.below bb
      try replace a1 := a1.below bb
      try replace a2 := a2.below bb
      try replace a5 := a5.below bb
      replace bw := below_on bw bb bw.size
      clear bb
      generalize wn.heap.size = g5 at a5 ⊢
      have ci0 := a1.c0
      have ci1 := a1.c1
      have ci2 := a1.c2
      have ci3 := a1.c3
      have ci4 := a1.c4
      have ci5 := a1.c5
      have cj0 := a2.c0
      have cj1 := a2.c1
      have cj2 := a2.c2
      have cj3 := a2.c3
      have cj4 := a2.c4
      have cj5 := a2.c5
      go_wp2_with fail
      clear ci0 ci1 ci2 ci3 ci4 ci5
      clear cj0 cj1 cj2 cj3 cj4 cj5
      refine (rfadd_any _ x1.hi x2.hi S6 a1.ok.hi a2.ok.hi f1.hi.l f1.hi.m f2.hi.l f2.hi.m H6.out).mono ?_
      rintro e wn ⟨x6, rfl, hs6, ok6, bb⟩
      have HS6 := Lib.hid hs6
      clear hs6
      try replace br := br.below bb
      try replace a1 := a1.below bb
      try replace a2 := a2.below bb
      try replace a5 := a5.below bb
      replace bw := below_on bw bb bw.size
      clear bb
      go_upto_region 5 with fail
      have a6 := (fa_alloc ok6).1
      have bb := (fa_alloc ok6).2
      clear ok6
      generalize (wn.alloc (.cells #[.bool x6.b, .slice x6.A x6.xs.length x6.c, .slice x6.D x6.ys.length x6.d] 25)) = wm at a6 bb ⊢
      try replace br := br.below bb
      try replace a1 := a1.below bb
      try replace a2 := a2.below bb
      try replace a5 := a5.below bb
      try replace a6 := a6.below bb
      replace bw := below_on bw bb bw.size
      clear bb
      generalize wn.heap.size = g6 at a6 ⊢
      have ci0 := a5.c0
      have ci1 := a5.c1
      have ci2 := a5.c2
      have cj0 := a6.c0
      have cj1 := a6.c1
      have cj2 := a6.c2
      go_wp2_with fail
      clear ci0 ci1 ci2 cj0 cj1 cj2
      refine (ripair_any _ x5 x6 S5 S6 S5.2.2.2 S6.2.2.2 a5.ok a6.ok HS5.out HS6.out rfl rfl).mono ?_
      rintro e wn ⟨a, rfl, h1, h2, oka, bb⟩
      try replace br := br.below bb
      try replace a1 := a1.below bb
      try replace a2 := a2.below bb
      try replace a5 := a5.below bb
      try replace a6 := a6.below bb
      replace bw := below_on bw bb bw.size
      clear bb
      rw [← HSP.out]
      rw [← HSP.out] at h1 h2
      have r0 := br.cell 0
      have r1 := br.cell 1
      have r2 := br.cell 2
      have r3 := br.cell 3
      have r4 := br.cell 4
      have r5 := br.cell 5
      have rf0 := br.unf 0
      have rf1 := br.unf 1
      have rf2 := br.unf 2
      have rf3 := br.unf 3
      have rf4 := br.unf 4
      have rf5 := br.unf 5
      simp only [List.getElem?_toArray, List.getElem?_cons_succ, List.getElem?_cons_zero] at r0 r1 r2 r3 r4 r5
      go_wp2_with fail
      refine bodyPost_ret (v := .tuple #[(a : Ix).val, .int .i64 S.2.2]) (by simp [results, Try.results36, go_sem, r0, r1, r2, r3, r4, r5]) rfl ?_
      exact ⟨a, rfl, h1, h2, ⟨set6_ok oka.lo br noInt_z, set6_ok oka.hi br noInt_z⟩, set6_below bw (by omega)⟩
    · have HV2 : Hid (¬ (x1.v ∧ x2.v)) := fun h => hv2 h.2
      have HV3 : Hid (¬ x2.v) := hv2
      clear hv1 hv2
      go_enter Try.func36, Try.ntmps36
      go_upto_region 1 with fail
      have bw := Below.refl w.heap.size w
      have a1 := (ia_alloc ok1).1
      have bb := (ia_alloc ok1).2
      have sz1 := size_box w (.cells x1.cells 41)
      clear ok1
      generalize (w.alloc (.cells x1.cells 41)) = wA at a1 bb sz1 ⊢
      try replace ok1 := ok1.below bb
      try replace ok2 := ok2.below bb
      try replace br := br.below bb
      try replace a1 := a1.below bb
      try replace a2 := a2.below bb
      try replace a5 := a5.below bb
      try replace a6 := a6.below bb
      replace bw := below_on bw bb bw.size
      clear bb
      have a2 := (ia_alloc ok2).1
      have bb := (ia_alloc ok2).2
      have sz2 := size_box wA (.cells x2.cells 41)
      rw [sz1] at a2 sz2
      clear ok2 sz1
      generalize (wA.alloc (.cells x2.cells 41)) = wB at a2 bb sz2 ⊢
      try replace ok1 := ok1.below bb
      try replace ok2 := ok2.below bb
      try replace br := br.below bb
      try replace a1 := a1.below bb
      try replace a2 := a2.below bb
      try replace a5 := a5.below bb
      try replace a6 := a6.below bb
      replace bw := below_on bw bb bw.size
      clear bb
      have br := (zr_alloc wB).1
      have bb := (zr_alloc wB).2
      rw [sz2] at br
      clear sz2
      generalize (wB.alloc (.cells zcells 41)) = wm at br bb ⊢
      try replace a1 := a1.below bb
      try replace a2 := a2.below bb
      try replace a5 := a5.below bb
      try replace a6 := a6.below bb
      replace bw := below_on bw bb bw.size
      clear bb
      have ci0 := a1.c0
      have ci1 := a1.c1
      have ci2 := a1.c2
      have ci3 := a1.c3
      have ci4 := a1.c4
      have ci5 := a1.c5
      go_wp2_with fail
      clear ci0 ci1 ci2 ci3 ci4 ci5
      refine (rivalid_any _ x1 true a1.ok f1 (decide_eq_true HV1.out)).mono ?_
      rintro e wn ⟨rfl, bb⟩
      try replace br := br.below bb
      try replace a1 := a1.below bb
      try replace a2 := a2.below bb
      try replace a5 := a5.below bb
      try replace a6 := a6.below bb
      replace bw := below_on bw bb bw.size
      clear bb
      have ci0 := a2.c0
      have ci1 := a2.c1
      have ci2 := a2.c2
      have ci3 := a2.c3
      have ci4 := a2.c4
      have ci5 := a2.c5
      go_wp2_with fail
      clear ci0 ci1 ci2 ci3 ci4 ci5
      refine (rivalid_any _ x2 false a2.ok f2 (decide_eq_false HV3.out)).mono ?_
      rintro e wn ⟨rfl, bb⟩
      try replace br := br.below bb
      try replace a1 := a1.below bb
      try replace a2 := a2.below bb
      try replace a5 := a5.below bb
      try replace a6 := a6.below bb
      replace bw := below_on bw bb bw.size
      clear bb
      have r0 := br.cell 0
      have r1 := br.cell 1
      have r2 := br.cell 2
      have r3 := br.cell 3
      have r4 := br.cell 4
      have r5 := br.cell 5
      have rf0 := br.unf 0
      have rf1 := br.unf 1
      have rf2 := br.unf 2
      have rf3 := br.unf 3
      have rf4 := br.unf 4
      have rf5 := br.unf 5
      simp only [List.getElem?_toArray, List.getElem?_cons_succ, List.getElem?_cons_zero] at r0 r1 r2 r3 r4 r5
      go_wp2_with fail
      refine bodyPost_ret (v := .tuple #[(Ix.nil : Ix).val, .int .i64 1]) (by simp [results, Try.results36, go_sem, r0, r1, r2, r3, r4, r5]) rfl ?_
      rw [← HS.out, (show opS addF x1 x2 x2.lo x2.hi = errI 1 from if_neg HV2.out)]
      exact ⟨Ix.nil, rfl, ⟨rfl, rfl, rfl⟩, ⟨rfl, rfl, rfl⟩, Ix.nil_ok _, set6_below bw (by omega)⟩
  · have HV2 : Hid (¬ (x1.v ∧ x2.v)) := fun h => hv1 h.1
    have HV1 : Hid (¬ x1.v) := hv1
    clear hv1
    go_enter Try.func36, Try.ntmps36
    go_upto_region 1 with fail
    have bw := Below.refl w.heap.size w
    have a1 := (ia_alloc ok1).1
    have bb := (ia_alloc ok1).2
    have sz1 := size_box w (.cells x1.cells 41)
    clear ok1
    generalize (w.alloc (.cells x1.cells 41)) = wA at a1 bb sz1 ⊢
    try replace ok1 := ok1.below bb
    try replace ok2 := ok2.below bb
    try replace br := br.below bb
    try replace a1 := a1.below bb
    try replace a2 := a2.below bb
    try replace a5 := a5.below bb
    try replace a6 := a6.below bb
    replace bw := below_on bw bb bw.size
    clear bb
    have a2 := (ia_alloc ok2).1
    have bb := (ia_alloc ok2).2
    have sz2 := size_box wA (.cells x2.cells 41)
    rw [sz1] at a2 sz2
    clear ok2 sz1
    generalize (wA.alloc (.cells x2.cells 41)) = wB at a2 bb sz2 ⊢
    try replace ok1 := ok1.below bb
    try replace ok2 := ok2.below bb
    try replace br := br.below bb
    try replace a1 := a1.below bb
    try replace a2 := a2.below bb
    try replace a5 := a5.below bb
    try replace a6 := a6.below bb
    replace bw := below_on bw bb bw.size
    clear bb
    have br := (zr_alloc wB).1
    have bb := (zr_alloc wB).2
    rw [sz2] at br
    clear sz2
    generalize (wB.alloc (.cells zcells 41)) = wm at br bb ⊢
    try replace a1 := a1.below bb
    try replace a2 := a2.below bb
    try replace a5 := a5.below bb
    try replace a6 := a6.below bb
    replace bw := below_on bw bb bw.size
    clear bb
    have ci0 := a1.c0
    have ci1 := a1.c1
    have ci2 := a1.c2
    have ci3 := a1.c3
    have ci4 := a1.c4
    have ci5 := a1.c5
    go_wp2_with fail
    clear ci0 ci1 ci2 ci3 ci4 ci5
    refine (rivalid_any _ x1 false a1.ok f1 (decide_eq_false HV1.out)).mono ?_
    rintro e wn ⟨rfl, bb⟩
    try replace br := br.below bb
    try replace a1 := a1.below bb
    try replace a2 := a2.below bb
    try replace a5 := a5.below bb
    try replace a6 := a6.below bb
    replace bw := below_on bw bb bw.size
    clear bb
    have r0 := br.cell 0
    have r1 := br.cell 1
    have r2 := br.cell 2
    have r3 := br.cell 3
    have r4 := br.cell 4
    have r5 := br.cell 5
    have rf0 := br.unf 0
    have rf1 := br.unf 1
    have rf2 := br.unf 2
    have rf3 := br.unf 3
    have rf4 := br.unf 4
    have rf5 := br.unf 5
    simp only [List.getElem?_toArray, List.getElem?_cons_succ, List.getElem?_cons_zero] at r0 r1 r2 r3 r4 r5
    go_wp2_with fail
    refine bodyPost_ret (v := .tuple #[(Ix.nil : Ix).val, .int .i64 1]) (by simp [results, Try.results36, go_sem, r0, r1, r2, r3, r4, r5]) rfl ?_
    rw [← HS.out, (show opS addF x1 x2 x2.lo x2.hi = errI 1 from if_neg HV2.out)]
    exact ⟨Ix.nil, rfl, ⟨rfl, rfl, rfl⟩, ⟨rfl, rfl, rfl⟩, Ix.nil_ok _, set6_below bw (by omega)⟩
set_option maxHeartbeats 1600000 in
set_option maxRecDepth 100000 in
theorem risub_any (w : World) (x1 x2 : Ix) (S : IvS) (ok1 : x1.ok w) (ok2 : x2.ok w) (f1 : x1.few) (f2 : x2.few) (hs : opS subF x1 x2 x2.hi x2.lo = S) :
    Calls Try.prog 37 #[x1.val, x2.val] w (IvlRes w S) := by
  have HS := Lib.hid hs
  clear hs
  by_cases hv1 : x1.v
  · have HV1 := Lib.hid hv1
    by_cases hv2 : x2.v
    · have HV2 := Lib.hid hv2
      obtain ⟨S5, h5⟩ : ∃ S, subF x1.lo x2.hi = S := ⟨_, rfl⟩
      obtain ⟨S6, h6⟩ : ∃ S, subF x1.hi x2.lo = S := ⟨_, rfl⟩
      have HSP : Hid (S = bothS S5 S6) := Lib.hid (by rw [← HS.out, opS, if_pos ⟨hv1, hv2⟩, h5, h6])
      have H5 := Lib.hid h5
      have H6 := Lib.hid h6
      clear hv1 hv2 h5 h6
      go_enter Try.func37, Try.ntmps37
      go_upto_region 1 with fail
      have bw := Below.refl w.heap.size w
      have a1 := (ia_alloc ok1).1
      have bb := (ia_alloc ok1).2
      have sz1 := size_box w (.cells x1.cells 41)
      clear ok1
      generalize (w.alloc (.cells x1.cells 41)) = wA at a1 bb sz1 ⊢
      try replace ok1 := ok1.below bb
      try replace ok2 := ok2.below bb
      try replace a1 := a1.below bb
      replace bw := below_on bw bb bw.size
      clear bb
      have a2 := (ia_alloc ok2).1
      have bb := (ia_alloc ok2).2
      have sz2 := size_box wA (.cells x2.cells 41)
      rw [sz1] at a2 sz2
      clear ok2 sz1
      generalize (wA.alloc (.cells x2.cells 41)) = wB at a2 bb sz2 ⊢
      try replace ok1 := ok1.below bb
      try replace ok2 := ok2.below bb
      try replace a1 := a1.below bb
      try replace a2 := a2.below bb
      replace bw := below_on bw bb bw.size
      clear bb
      have br := (zr_alloc wB).1
      have bb := (zr_alloc wB).2
      rw [sz2] at br
      clear sz2
      generalize (wB.alloc (.cells zcells 41)) = wm at br bb ⊢
      try replace a1 := a1.below bb
      try replace a2 := a2.below bb
      replace bw := below_on bw bb bw.size
      clear bb
      have ci0 := a1.c0
      have ci1 := a1.c1
      have ci2 := a1.c2
      have ci3 := a1.c3
      have ci4 := a1.c4
      have ci5 := a1.c5
      go_wp2_with fail
      clear ci0 ci1 ci2 ci3 ci4 ci5
      refine (rivalid_any _ x1 true a1.ok f1 (decide_eq_true HV1.out)).mono ?_
      rintro e wn ⟨rfl, bb⟩
      try replace br := br.below bb
      try replace a1 := a1.below bb
      try replace a2 := a2.below bb
      replace bw := below_on bw bb bw.size
      clear bb
      have ci0 := a2.c0
      have ci1 := a2.c1
      have ci2 := a2.c2
      have ci3 := a2.c3
      have ci4 := a2.c4
      have ci5 := a2.c5
      go_wp2_with fail
      clear ci0 ci1 ci2 ci3 ci4 ci5
      refine (rivalid_any _ x2 true a2.ok f2 (decide_eq_true HV2.out)).mono ?_
      rintro e wn ⟨rfl, bb⟩
      try replace br := br.below bb
      try replace a1 := a1.below bb
      try replace a2 := a2.below bb
      replace bw := below_on bw bb bw.size
      clear bb
      have ci0 := a1.c0
      have ci1 := a1.c1
      have ci2 := a1.c2
      have ci3 := a1.c3
      have ci4 := a1.c4
      have ci5 := a1.c5
      have cj0 := a2.c0
      have cj1 := a2.c1
      have cj2 := a2.c2
      have cj3 := a2.c3
      have cj4 := a2.c4
      have cj5 := a2.c5
      go_wp2_with fail
      clear ci0 ci1 ci2 ci3 ci4 ci5
      clear cj0 cj1 cj2 cj3 cj4 cj5
      refine (rfsub_any _ x1.lo x2.hi S5 a1.ok.lo a2.ok.hi f1.lo.l f1.lo.m f2.hi.l f2.hi.m H5.out).mono ?_
      rintro e wn ⟨x5, rfl, hs5, ok5, bb⟩
      have HS5 := Lib.hid hs5
      clear hs5
      try replace br := br.below bb
      try replace a1 := a1.below bb
      try replace a2 := a2.below bb
      replace bw := below_on bw bb bw.size
      clear bb
      go_upto_region 4 with fail
      have a5 := (fa_alloc ok5).1
      have bb := (fa_alloc ok5).2
      clear ok5
      generalize (wn.alloc (.cells #[.bool x5.b, .slice x5.A x5.xs.length x5.c, .slice x5.D x5.ys.length x5.d] 25)) = wm at a5 bb ⊢
      try replace br := br.below bb
      try replace a1 := a1.below bb
      try replace a2 := a2.below bb
      try replace a5 := a5.below bb
      replace bw := below_on bw bb bw.size
      clear bb
      generalize wn.heap.size = g5 at a5 ⊢
      have ci0 := a1.c0
      have ci1 := a1.c1
      have ci2 := a1.c2
      have ci3 := a1.c3
      have ci4 := a1.c4
      have ci5 := a1.c5
      have cj0 := a2.c0
      have cj1 := a2.c1
      have cj2 := a2.c2
      have cj3 := a2.c3
      have cj4 := a2.c4
      have cj5 := a2.c5
      go_wp2_with fail
      clear ci0 ci1 ci2 ci3 ci4 ci5
      clear cj0 cj1 cj2 cj3 cj4 cj5
      refine (rfsub_any _ x1.hi x2.lo S6 a1.ok.hi a2.ok.lo f1.hi.l f1.hi.m f2.lo.l f2.lo.m H6.out).mono ?_
      rintro e wn ⟨x6, rfl, hs6, ok6, bb⟩
      have HS6 := Lib.hid hs6
      clear hs6
      try replace br := br.below bb
      try replace a1 := a1.below bb
      try replace a2 := a2.below bb
      try replace a5 := a5.below bb
      replace bw := below_on bw bb bw.size
      clear bb
      go_upto_region 5 with fail
      have a6 := (fa_alloc ok6).1
      have bb := (fa_alloc ok6).2
      clear ok6
      generalize (wn.alloc (.cells #[.bool x6.b, .slice x6.A x6.xs.length x6.c, .slice x6.D x6.ys.length x6.d] 25)) = wm at a6 bb ⊢
      try replace br := br.below bb
      try replace a1 := a1.below bb
      try replace a2 := a2.below bb
      try replace a5 := a5.below bb
      try replace a6 := a6.below bb
      replace bw := below_on bw bb bw.size
      clear bb
      generalize wn.heap.size = g6 at a6 ⊢
      have ci0 := a5.c0
      have ci1 := a5.c1
      have ci2 := a5.c2
      have cj0 := a6.c0
      have cj1 := a6.c1
      have cj2 := a6.c2
      go_wp2_with fail
      clear ci0 ci1 ci2 cj0 cj1 cj2
      refine (ripair_any _ x5 x6 S5 S6 S5.2.2.2 S6.2.2.2 a5.ok a6.ok HS5.out HS6.out rfl rfl).mono ?_
      rintro e wn ⟨a, rfl, h1, h2, oka, bb⟩
      try replace br := br.below bb
      try replace a1 := a1.below bb
      try replace a2 := a2.below bb
      try replace a5 := a5.below bb
      try replace a6 := a6.below bb
      replace bw := below_on bw bb bw.size
      clear bb
      rw [← HSP.out]
      rw [← HSP.out] at h1 h2
      have r0 := br.cell 0
      have r1 := br.cell 1
      have r2 := br.cell 2
      have r3 := br.cell 3
      have r4 := br.cell 4
      have r5 := br.cell 5
      have rf0 := br.unf 0
      have rf1 := br.unf 1
      have rf2 := br.unf 2
      have rf3 := br.unf 3
      have rf4 := br.unf 4
      have rf5 := br.unf 5
      simp only [List.getElem?_toArray, List.getElem?_cons_succ, List.getElem?_cons_zero] at r0 r1 r2 r3 r4 r5
      go_wp2_with fail
      refine bodyPost_ret (v := .tuple #[(a : Ix).val, .int .i64 S.2.2]) (by simp [results, Try.results37, go_sem, r0, r1, r2, r3, r4, r5]) rfl ?_
      exact ⟨a, rfl, h1, h2, ⟨set6_ok oka.lo br noInt_z, set6_ok oka.hi br noInt_z⟩, set6_below bw (by omega)⟩
    · have HV2 : Hid (¬ (x1.v ∧ x2.v)) := fun h => hv2 h.2
      have HV3 : Hid (¬ x2.v) := hv2
      clear hv1 hv2
      go_enter Try.func37, Try.ntmps37
      go_upto_region 1 with fail
      have bw := Below.refl w.heap.size w
      have a1 := (ia_alloc ok1).1
      have bb := (ia_alloc ok1).2
      have sz1 := size_box w (.cells x1.cells 41)
      clear ok1
      generalize (w.alloc (.cells x1.cells 41)) = wA at a1 bb sz1 ⊢
      try replace ok1 := ok1.below bb
      try replace ok2 := ok2.below bb
      try replace br := br.below bb
      try replace a1 := a1.below bb
      try replace a2 := a2.below bb
      try replace a5 := a5.below bb
      try replace a6 := a6.below bb
      replace bw := below_on bw bb bw.size
      clear bb
      have a2 := (ia_alloc ok2).1
      have bb := (ia_alloc ok2).2
      have sz2 := size_box wA (.cells x2.cells 41)
      rw [sz1] at a2 sz2
      clear ok2 sz1
      generalize (wA.alloc (.cells x2.cells 41)) = wB at a2 bb sz2 ⊢
      try replace ok1 := ok1.below bb
      try replace ok2 := ok2.below bb
      try replace br := br.below bb
      try replace a1 := a1.below bb
      try replace a2 := a2.below bb
      try replace a5 := a5.below bb
      try replace a6 := a6.below bb
      replace bw := below_on bw bb bw.size
      clear bb
      have br := (zr_alloc wB).1
      have bb := (zr_alloc wB).2
      rw [sz2] at br
      clear sz2
      generalize (wB.alloc (.cells zcells 41)) = wm at br bb ⊢
      try replace a1 := a1.below bb
      try replace a2 := a2.below bb
      try replace a5 := a5.below bb
      try replace a6 := a6.below bb
      replace bw := below_on bw bb bw.size
      clear bb
      have ci0 := a1.c0
      have ci1 := a1.c1
      have ci2 := a1.c2
      have ci3 := a1.c3
      have ci4 := a1.c4
      have ci5 := a1.c5
      go_wp2_with fail
      clear ci0 ci1 ci2 ci3 ci4 ci5
      refine (rivalid_any _ x1 true a1.ok f1 (decide_eq_true HV1.out)).mono ?_
      rintro e wn ⟨rfl, bb⟩
      try replace br := br.below bb
      try replace a1 := a1.below bb
      try replace a2 := a2.below bb
      try replace a5 := a5.below bb
      try replace a6 := a6.below bb
      replace bw := below_on bw bb bw.size
      clear bb
      have ci0 := a2.c0
      have ci1 := a2.c1
      have ci2 := a2.c2
      have ci3 := a2.c3
      have ci4 := a2.c4
      have ci5 := a2.c5
      go_wp2_with fail
      clear ci0 ci1 ci2 ci3 ci4 ci5
      refine (rivalid_any _ x2 false a2.ok f2 (decide_eq_false HV3.out)).mono ?_
      rintro e wn ⟨rfl, bb⟩
      try replace br := br.below bb
      try replace a1 := a1.below bb
      try replace a2 := a2.below bb
      try replace a5 := a5.below bb
      try replace a6 := a6.below bb
      replace bw := below_on bw bb bw.size
      clear bb
      have r0 := br.cell 0
      have r1 := br.cell 1
      have r2 := br.cell 2
      have r3 := br.cell 3
      have r4 := br.cell 4
      have r5 := br.cell 5
      have rf0 := br.unf 0
      have rf1 := br.unf 1
      have rf2 := br.unf 2
      have rf3 := br.unf 3
      have rf4 := br.unf 4
      have rf5 := br.unf 5
      simp only [List.getElem?_toArray, List.getElem?_cons_succ, List.getElem?_cons_zero] at r0 r1 r2 r3 r4 r5
      go_wp2_with fail
      refine bodyPost_ret (v := .tuple #[(Ix.nil : Ix).val, .int .i64 1]) (by simp [results, Try.results37, go_sem, r0, r1, r2, r3, r4, r5]) rfl ?_
      rw [← HS.out, (show opS subF x1 x2 x2.hi x2.lo = errI 1 from if_neg HV2.out)]
      exact ⟨Ix.nil, rfl, ⟨rfl, rfl, rfl⟩, ⟨rfl, rfl, rfl⟩, Ix.nil_ok _, set6_below bw (by omega)⟩
  · have HV2 : Hid (¬ (x1.v ∧ x2.v)) := fun h => hv1 h.1
    have HV1 : Hid (¬ x1.v) := hv1
    clear hv1
    go_enter Try.func37, Try.ntmps37
    go_upto_region 1 with fail
    have bw := Below.refl w.heap.size w
    have a1 := (ia_alloc ok1).1
    have bb := (ia_alloc ok1).2
    have sz1 := size_box w (.cells x1.cells 41)
    clear ok1
    generalize (w.alloc (.cells x1.cells 41)) = wA at a1 bb sz1 ⊢
    try replace ok1 := ok1.below bb
    try replace ok2 := ok2.below bb
    try replace br := br.below bb
    try replace a1 := a1.below bb
    try replace a2 := a2.below bb
    try replace a5 := a5.below bb
    try replace a6 := a6.below bb
    replace bw := below_on bw bb bw.size
    clear bb
    have a2 := (ia_alloc ok2).1
    have bb := (ia_alloc ok2).2
    have sz2 := size_box wA (.cells x2.cells 41)
    rw [sz1] at a2 sz2
    clear ok2 sz1
    generalize (wA.alloc (.cells x2.cells 41)) = wB at a2 bb sz2 ⊢
    try replace ok1 := ok1.below bb
    try replace ok2 := ok2.below bb
    try replace br := br.below bb
    try replace a1 := a1.below bb
    try replace a2 := a2.below bb
    try replace a5 := a5.below bb
    try replace a6 := a6.below bb
    replace bw := below_on bw bb bw.size
    clear bb
    have br := (zr_alloc wB).1
    have bb := (zr_alloc wB).2
    rw [sz2] at br
    clear sz2
    generalize (wB.alloc (.cells zcells 41)) = wm at br bb ⊢
    try replace a1 := a1.below bb
    try replace a2 := a2.below bb
    try replace a5 := a5.below bb
    try replace a6 := a6.below bb
    replace bw := below_on bw bb bw.size
    clear bb
    have ci0 := a1.c0
    have ci1 := a1.c1
    have ci2 := a1.c2
    have ci3 := a1.c3
    have ci4 := a1.c4
    have ci5 := a1.c5
    go_wp2_with fail
    clear ci0 ci1 ci2 ci3 ci4 ci5
    refine (rivalid_any _ x1 false a1.ok f1 (decide_eq_false HV1.out)).mono ?_
    rintro e wn ⟨rfl, bb⟩
    try replace br := br.below bb
    try replace a1 := a1.below bb
    try replace a2 := a2.below bb
    try replace a5 := a5.below bb
    try replace a6 := a6.below bb
    replace bw := below_on bw bb bw.size
    clear bb
    have r0 := br.cell 0
    have r1 := br.cell 1
    have r2 := br.cell 2
    have r3 := br.cell 3
    have r4 := br.cell 4
    have r5 := br.cell 5
    have rf0 := br.unf 0
    have rf1 := br.unf 1
    have rf2 := br.unf 2
    have rf3 := br.unf 3
    have rf4 := br.unf 4
    have rf5 := br.unf 5
    simp only [List.getElem?_toArray, List.getElem?_cons_succ, List.getElem?_cons_zero] at r0 r1 r2 r3 r4 r5
    go_wp2_with fail
    refine bodyPost_ret (v := .tuple #[(Ix.nil : Ix).val, .int .i64 1]) (by simp [results, Try.results37, go_sem, r0, r1, r2, r3, r4, r5]) rfl ?_
    rw [← HS.out, (show opS subF x1 x2 x2.hi x2.lo = errI 1 from if_neg HV2.out)]
    exact ⟨Ix.nil, rfl, ⟨rfl, rfl, rfl⟩, ⟨rfl, rfl, rfl⟩, Ix.nil_ok _, set6_below bw (by omega)⟩
set_option maxHeartbeats 1600000 in
set_option maxRecDepth 100000 in
theorem rioutward_any (w : World) (x1 : Ix) (k : Int) (S : IvS) (ok1 : x1.ok w) (f1 : x1.few) (hs : outS x1 k = S) :
    Calls Try.prog 50 #[x1.val, .int .i64 k] w (IvlRes w S) := by
  have HS := Lib.hid hs
  clear hs
  by_cases hv1 : x1.v
  · have HV1 := Lib.hid hv1
    obtain ⟨S5, h5⟩ : ∃ S, roundF x1.lo k false = S := ⟨_, rfl⟩
    obtain ⟨S6, h6⟩ : ∃ S, roundF x1.hi k true = S := ⟨_, rfl⟩
    have HSP : Hid (S = bothS S5 S6) := Lib.hid (by rw [← HS.out, outS, if_pos hv1, h5, h6])
    have H5 := Lib.hid h5
    have H6 := Lib.hid h6
    clear hv1 h5 h6
    go_enter Try.func50, Try.ntmps50
    go_upto_region 1 with fail
    have bw := Below.refl w.heap.size w
    have a1 := (ia_alloc ok1).1
    have bb := (ia_alloc ok1).2
    have sz1 := size_box w (.cells x1.cells 41)
    clear ok1
    generalize (w.alloc (.cells x1.cells 41)) = wA at a1 bb sz1 ⊢
    try replace ok1 := ok1.below bb
    try replace a1 := a1.below bb
    replace bw := below_on bw bb bw.size
    clear bb
    have br := (zr_alloc wA).1
    have bb := (zr_alloc wA).2
    rw [sz1] at br
    clear sz1
    generalize (wA.alloc (.cells zcells 41)) = wm at br bb ⊢
    try replace a1 := a1.below bb
    replace bw := below_on bw bb bw.size
    clear bb
    have ci0 := a1.c0
    have ci1 := a1.c1
    have ci2 := a1.c2
    have ci3 := a1.c3
    have ci4 := a1.c4
    have ci5 := a1.c5
    go_wp2_with fail
    clear ci0 ci1 ci2 ci3 ci4 ci5
    refine (rivalid_any _ x1 true a1.ok f1 (decide_eq_true HV1.out)).mono ?_
    rintro e wn ⟨rfl, bb⟩
    try replace br := br.below bb
    try replace a1 := a1.below bb
    replace bw := below_on bw bb bw.size
    clear bb
    have ci0 := a1.c0
    have ci1 := a1.c1
    have ci2 := a1.c2
    have ci3 := a1.c3
    have ci4 := a1.c4
    have ci5 := a1.c5
    go_wp2_with fail
    clear ci0 ci1 ci2 ci3 ci4 ci5
    refine (rffloor_any _ x1.lo k S5 a1.ok.lo f1.lo.l f1.lo.m H5.out).mono ?_
    rintro e wn ⟨x5, rfl, hs5, ok5, bb⟩
    have HS5 := Lib.hid hs5
    clear hs5
    try replace br := br.below bb
    try replace a1 := a1.below bb
    replace bw := below_on bw bb bw.size
    clear bb
    go_upto_region 4 with fail
    have a5 := (fa_alloc ok5).1
    have bb := (fa_alloc ok5).2
    clear ok5
    generalize (wn.alloc (.cells #[.bool x5.b, .slice x5.A x5.xs.length x5.c, .slice x5.D x5.ys.length x5.d] 25)) = wm at a5 bb ⊢
    try replace br := br.below bb
    try replace a1 := a1.below bb
    try replace a5 := a5.below bb
    replace bw := below_on bw bb bw.size
    clear bb
    generalize wn.heap.size = g5 at a5 ⊢
    have ci0 := a1.c0
    have ci1 := a1.c1
    have ci2 := a1.c2
    have ci3 := a1.c3
    have ci4 := a1.c4
    have ci5 := a1.c5
    go_wp2_with fail
    clear ci0 ci1 ci2 ci3 ci4 ci5
    refine (rfceil_any _ x1.hi k S6 a1.ok.hi f1.hi.l f1.hi.m H6.out).mono ?_
    rintro e wn ⟨x6, rfl, hs6, ok6, bb⟩
    have HS6 := Lib.hid hs6
    clear hs6
    try replace br := br.below bb
    try replace a1 := a1.below bb
    try replace a5 := a5.below bb
    replace bw := below_on bw bb bw.size
    clear bb
    go_upto_region 5 with fail
    have a6 := (fa_alloc ok6).1
    have bb := (fa_alloc ok6).2
    clear ok6
    generalize (wn.alloc (.cells #[.bool x6.b, .slice x6.A x6.xs.length x6.c, .slice x6.D x6.ys.length x6.d] 25)) = wm at a6 bb ⊢
    try replace br := br.below bb
    try replace a1 := a1.below bb
    try replace a5 := a5.below bb
    try replace a6 := a6.below bb
    replace bw := below_on bw bb bw.size
    clear bb
    generalize wn.heap.size = g6 at a6 ⊢
    have ci0 := a5.c0
    have ci1 := a5.c1
    have ci2 := a5.c2
    have cj0 := a6.c0
    have cj1 := a6.c1
    have cj2 := a6.c2
    go_wp2_with fail
    clear ci0 ci1 ci2 cj0 cj1 cj2
    refine (ripair_any _ x5 x6 S5 S6 S5.2.2.2 S6.2.2.2 a5.ok a6.ok HS5.out HS6.out rfl rfl).mono ?_
    rintro e wn ⟨a, rfl, h1, h2, oka, bb⟩
    try replace br := br.below bb
    try replace a1 := a1.below bb
    try replace a5 := a5.below bb
    try replace a6 := a6.below bb
    replace bw := below_on bw bb bw.size
    clear bb
    rw [← HSP.out]
    rw [← HSP.out] at h1 h2
    have r0 := br.cell 0
    have r1 := br.cell 1
    have r2 := br.cell 2
    have r3 := br.cell 3
    have r4 := br.cell 4
    have r5 := br.cell 5
    have rf0 := br.unf 0
    have rf1 := br.unf 1
    have rf2 := br.unf 2
    have rf3 := br.unf 3
    have rf4 := br.unf 4
    have rf5 := br.unf 5
    simp only [List.getElem?_toArray, List.getElem?_cons_succ, List.getElem?_cons_zero] at r0 r1 r2 r3 r4 r5
    go_wp2_with fail
    refine bodyPost_ret (v := .tuple #[(a : Ix).val, .int .i64 S.2.2]) (by simp [results, Try.results50, go_sem, r0, r1, r2, r3, r4, r5]) rfl ?_
    exact ⟨a, rfl, h1, h2, ⟨set6_ok oka.lo br noInt_z, set6_ok oka.hi br noInt_z⟩, set6_below bw (by omega)⟩
  · have HV1 : Hid (¬ x1.v) := hv1
    clear hv1
    go_enter Try.func50, Try.ntmps50
    go_upto_region 1 with fail
    have bw := Below.refl w.heap.size w
    have a1 := (ia_alloc ok1).1
    have bb := (ia_alloc ok1).2
    have sz1 := size_box w (.cells x1.cells 41)
    clear ok1
    generalize (w.alloc (.cells x1.cells 41)) = wA at a1 bb sz1 ⊢
    try replace ok1 := ok1.below bb
    try replace br := br.below bb
    try replace a1 := a1.below bb
    try replace a5 := a5.below bb
    try replace a6 := a6.below bb
    replace bw := below_on bw bb bw.size
    clear bb
    have br := (zr_alloc wA).1
    have bb := (zr_alloc wA).2
    rw [sz1] at br
    clear sz1
    generalize (wA.alloc (.cells zcells 41)) = wm at br bb ⊢
    try replace a1 := a1.below bb
    try replace a5 := a5.below bb
    try replace a6 := a6.below bb
    replace bw := below_on bw bb bw.size
    clear bb
    have ci0 := a1.c0
    have ci1 := a1.c1
    have ci2 := a1.c2
    have ci3 := a1.c3
    have ci4 := a1.c4
    have ci5 := a1.c5
    go_wp2_with fail
    clear ci0 ci1 ci2 ci3 ci4 ci5
    refine (rivalid_any _ x1 false a1.ok f1 (decide_eq_false HV1.out)).mono ?_
    rintro e wn ⟨rfl, bb⟩
    try replace br := br.below bb
    try replace a1 := a1.below bb
    try replace a5 := a5.below bb
    try replace a6 := a6.below bb
    replace bw := below_on bw bb bw.size
    clear bb
    have r0 := br.cell 0
    have r1 := br.cell 1
    have r2 := br.cell 2
    have r3 := br.cell 3
    have r4 := br.cell 4
    have r5 := br.cell 5
    have rf0 := br.unf 0
    have rf1 := br.unf 1
    have rf2 := br.unf 2
    have rf3 := br.unf 3
    have rf4 := br.unf 4
    have rf5 := br.unf 5
    simp only [List.getElem?_toArray, List.getElem?_cons_succ, List.getElem?_cons_zero] at r0 r1 r2 r3 r4 r5
    go_wp2_with fail
    refine bodyPost_ret (v := .tuple #[(Ix.nil : Ix).val, .int .i64 1]) (by simp [results, Try.results50, go_sem, r0, r1, r2, r3, r4, r5]) rfl ?_
    rw [← HS.out, (show outS x1 k = errI 1 from if_neg HV1.out)]
    exact ⟨Ix.nil, rfl, ⟨rfl, rfl, rfl⟩, ⟨rfl, rfl, rfl⟩, Ix.nil_ok _, set6_below bw (by omega)⟩
/-- the length of an interval -/
def widS (a : Ix) : FqS := if a.v then subF a.hi a.lo else errF 1
set_option maxHeartbeats 1600000 in
set_option maxRecDepth 100000 in
theorem iwidth_any (w : World) (x1 : Ix) (S : FqS) (ok1 : x1.ok w) (f1 : x1.few) (hs : widS x1 = S) :
    Calls Try.prog 42 #[x1.val] w (FracRes w S) := by
  by_cases hv1 : x1.v
  · have HV1 := Lib.hid hv1
    have HS : Hid (subF x1.hi x1.lo = S) := Lib.hid (by rw [← hs, widS, if_pos hv1])
    clear hv1 hs
    go_enter Try.func42, Try.ntmps42
    go_upto_region 1 with fail
    have bw := Below.refl w.heap.size w
    have a1 := (ia_alloc ok1).1
    have bb := (ia_alloc ok1).2
    have sz1 := size_box w (.cells x1.cells 41)
    clear ok1
    generalize (w.alloc (.cells x1.cells 41)) = wA at a1 bb sz1 ⊢
    try replace ok1 := ok1.below bb
    try replace ok3 := ok3.below bb
    try replace a1 := a1.below bb
    replace bw := below_on bw bb bw.size
    clear bb
    have bk := bk3_new wA
    have bb := (Below.refl wA.heap.size wA).alloc (Nat.le_refl _) (.cells #[.bool false, .slice none 0 0, .slice none 0 0] 25)
    rw [sz1] at bk
    clear sz1
    generalize (wA.alloc (.cells #[.bool false, .slice none 0 0, .slice none 0 0] 25)) = wm at bk bb ⊢
    try replace bk := bk.below bb
    try replace a1 := a1.below bb
    replace bw := below_on bw bb bw.size
    clear bb
    have ci0 := a1.c0
    have ci1 := a1.c1
    have ci2 := a1.c2
    have ci3 := a1.c3
    have ci4 := a1.c4
    have ci5 := a1.c5
    go_wp2_with fail
    clear ci0 ci1 ci2 ci3 ci4 ci5
    refine (ivalid_any _ x1 true a1.ok f1 (decide_eq_true HV1.out)).mono ?_
    rintro e wn ⟨rfl, bb⟩
    try replace bk := bk.below bb
    try replace a1 := a1.below bb
    replace bw := below_on bw bb bw.size
    clear bb
    have ci0 := a1.c0
    have ci1 := a1.c1
    have ci2 := a1.c2
    have ci3 := a1.c3
    have ci4 := a1.c4
    have ci5 := a1.c5
    go_wp2_with fail
    clear ci0 ci1 ci2 ci3 ci4 ci5
    refine (fsub_any _ x1.hi x1.lo S a1.ok.hi a1.ok.lo f1.hi.l f1.hi.m f1.lo.l f1.lo.m HS.out).mono ?_
    rintro e wn ⟨x3, rfl, hs3, ok3, bb⟩
    have HS3 := Lib.hid hs3
    clear hs3
    try replace bk := bk.below bb
    try replace a1 := a1.below bb
    replace bw := below_on bw bb bw.size
    clear bb
    have tk := bk
    obtain ⟨k0, k1, k2, kf0, kf1, kf2, klt, kb⟩ := tk
    clear kb
    go_wp2_with fail
    refine bodyPost_ret (v := .tuple #[(x3 : Fx).val, .int .i64 S.2.2.2]) (by simp [results, Try.results42, go_sem, k0, k1, k2]) rfl ?_
    exact ⟨x3, rfl, HS3.out, set3_ok ok3 bk rfl rfl rfl, set3g bw (by omega)⟩
  · have HV1 : Hid (¬ x1.v) := hv1
    have HS : Hid (errF 1 = S) := Lib.hid (by rw [← hs, widS, if_neg hv1])
    clear hv1 hs
    go_enter Try.func42, Try.ntmps42
    go_upto_region 1 with fail
    have bw := Below.refl w.heap.size w
    have a1 := (ia_alloc ok1).1
    have bb := (ia_alloc ok1).2
    have sz1 := size_box w (.cells x1.cells 41)
    clear ok1
    generalize (w.alloc (.cells x1.cells 41)) = wA at a1 bb sz1 ⊢
    try replace ok1 := ok1.below bb
    try replace ok3 := ok3.below bb
    try replace bk := bk.below bb
    try replace a1 := a1.below bb
    replace bw := below_on bw bb bw.size
    clear bb
    have bk := bk3_new wA
    have bb := (Below.refl wA.heap.size wA).alloc (Nat.le_refl _) (.cells #[.bool false, .slice none 0 0, .slice none 0 0] 25)
    rw [sz1] at bk
    clear sz1
    generalize (wA.alloc (.cells #[.bool false, .slice none 0 0, .slice none 0 0] 25)) = wm at bk bb ⊢
    try replace bk := bk.below bb
    try replace a1 := a1.below bb
    replace bw := below_on bw bb bw.size
    clear bb
    have ci0 := a1.c0
    have ci1 := a1.c1
    have ci2 := a1.c2
    have ci3 := a1.c3
    have ci4 := a1.c4
    have ci5 := a1.c5
    go_wp2_with fail
    clear ci0 ci1 ci2 ci3 ci4 ci5
    refine (ivalid_any _ x1 false a1.ok f1 (decide_eq_false HV1.out)).mono ?_
    rintro e wn ⟨rfl, bb⟩
    try replace bk := bk.below bb
    try replace a1 := a1.below bb
    replace bw := below_on bw bb bw.size
    clear bb
    have tk := bk
    obtain ⟨k0, k1, k2, kf0, kf1, kf2, klt, kb⟩ := tk
    clear kb
    go_wp2_with fail
    refine bodyPost_ret (v := .tuple #[(Fx.nil : Fx).val, .int .i64 1]) (by simp [results, Try.results42, go_sem, k0, k1, k2]) rfl ?_
    rw [← HS.out]
    exact ⟨Fx.nil, rfl, ⟨rfl, rfl, rfl⟩, Fx.nil_ok _, set3g bw (by omega)⟩
set_option maxHeartbeats 1600000 in
set_option maxRecDepth 100000 in
theorem riwidth_any (w : World) (x1 : Ix) (S : FqS) (ok1 : x1.ok w) (f1 : x1.few) (hs : widS x1 = S) :
    Calls Try.prog 43 #[x1.val] w (FracRes w S) := by
  by_cases hv1 : x1.v
  · have HV1 := Lib.hid hv1
    have HS : Hid (subF x1.hi x1.lo = S) := Lib.hid (by rw [← hs, widS, if_pos hv1])
    clear hv1 hs
    go_enter Try.func43, Try.ntmps43
    go_upto_region 1 with fail
    have bw := Below.refl w.heap.size w
    have a1 := (ia_alloc ok1).1
    have bb := (ia_alloc ok1).2
    have sz1 := size_box w (.cells x1.cells 41)
    clear ok1
    generalize (w.alloc (.cells x1.cells 41)) = wA at a1 bb sz1 ⊢
    try replace ok1 := ok1.below bb
    try replace ok3 := ok3.below bb
    try replace a1 := a1.below bb
    replace bw := below_on bw bb bw.size
    clear bb
    have bk := bk3_new wA
    have bb := (Below.refl wA.heap.size wA).alloc (Nat.le_refl _) (.cells #[.bool false, .slice none 0 0, .slice none 0 0] 25)
    rw [sz1] at bk
    clear sz1
    generalize (wA.alloc (.cells #[.bool false, .slice none 0 0, .slice none 0 0] 25)) = wm at bk bb ⊢
    try replace bk := bk.below bb
    try replace a1 := a1.below bb
    replace bw := below_on bw bb bw.size
    clear bb
    have ci0 := a1.c0
    have ci1 := a1.c1
    have ci2 := a1.c2
    have ci3 := a1.c3
    have ci4 := a1.c4
    have ci5 := a1.c5
    go_wp2_with fail
    clear ci0 ci1 ci2 ci3 ci4 ci5
    refine (rivalid_any _ x1 true a1.ok f1 (decide_eq_true HV1.out)).mono ?_
    rintro e wn ⟨rfl, bb⟩
    try replace bk := bk.below bb
    try replace a1 := a1.below bb
    replace bw := below_on bw bb bw.size
    clear bb
    have ci0 := a1.c0
    have ci1 := a1.c1
    have ci2 := a1.c2
    have ci3 := a1.c3
    have ci4 := a1.c4
    have ci5 := a1.c5
    go_wp2_with fail
    clear ci0 ci1 ci2 ci3 ci4 ci5
    refine (rfsub_any _ x1.hi x1.lo S a1.ok.hi a1.ok.lo f1.hi.l f1.hi.m f1.lo.l f1.lo.m HS.out).mono ?_
    rintro e wn ⟨x3, rfl, hs3, ok3, bb⟩
    have HS3 := Lib.hid hs3
    clear hs3
    try replace bk := bk.below bb
    try replace a1 := a1.below bb
    replace bw := below_on bw bb bw.size
    clear bb
    have tk := bk
    obtain ⟨k0, k1, k2, kf0, kf1, kf2, klt, kb⟩ := tk
    clear kb
    go_wp2_with fail
    refine bodyPost_ret (v := .tuple #[(x3 : Fx).val, .int .i64 S.2.2.2]) (by simp [results, Try.results43, go_sem, k0, k1, k2]) rfl ?_
    exact ⟨x3, rfl, HS3.out, set3_ok ok3 bk rfl rfl rfl, set3g bw (by omega)⟩
  · have HV1 : Hid (¬ x1.v) := hv1
    have HS : Hid (errF 1 = S) := Lib.hid (by rw [← hs, widS, if_neg hv1])
    clear hv1 hs
    go_enter Try.func43, Try.ntmps43
    go_upto_region 1 with fail
    have bw := Below.refl w.heap.size w
    have a1 := (ia_alloc ok1).1
    have bb := (ia_alloc ok1).2
    have sz1 := size_box w (.cells x1.cells 41)
    clear ok1
    generalize (w.alloc (.cells x1.cells 41)) = wA at a1 bb sz1 ⊢
    try replace ok1 := ok1.below bb
    try replace ok3 := ok3.below bb
    try replace bk := bk.below bb
    try replace a1 := a1.below bb
    replace bw := below_on bw bb bw.size
    clear bb
    have bk := bk3_new wA
    have bb := (Below.refl wA.heap.size wA).alloc (Nat.le_refl _) (.cells #[.bool false, .slice none 0 0, .slice none 0 0] 25)
    rw [sz1] at bk
    clear sz1
    generalize (wA.alloc (.cells #[.bool false, .slice none 0 0, .slice none 0 0] 25)) = wm at bk bb ⊢
    try replace bk := bk.below bb
    try replace a1 := a1.below bb
    replace bw := below_on bw bb bw.size
    clear bb
    have ci0 := a1.c0
    have ci1 := a1.c1
    have ci2 := a1.c2
    have ci3 := a1.c3
    have ci4 := a1.c4
    have ci5 := a1.c5
    go_wp2_with fail
    clear ci0 ci1 ci2 ci3 ci4 ci5
    refine (rivalid_any _ x1 false a1.ok f1 (decide_eq_false HV1.out)).mono ?_
    rintro e wn ⟨rfl, bb⟩
    try replace bk := bk.below bb
    try replace a1 := a1.below bb
    replace bw := below_on bw bb bw.size
    clear bb
    have tk := bk
    obtain ⟨k0, k1, k2, kf0, kf1, kf2, klt, kb⟩ := tk
    clear kb
    go_wp2_with fail
    refine bodyPost_ret (v := .tuple #[(Fx.nil : Fx).val, .int .i64 1]) (by simp [results, Try.results43, go_sem, k0, k1, k2]) rfl ?_
    rw [← HS.out]
    exact ⟨Fx.nil, rfl, ⟨rfl, rfl, rfl⟩, Fx.nil_ok _, set3g bw (by omega)⟩
end Go.Proofs.Ytlcolmifmhdboaa
