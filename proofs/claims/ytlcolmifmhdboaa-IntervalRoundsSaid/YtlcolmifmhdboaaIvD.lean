/- The walks of package interval: Outward, Width, Contains, Inside. -/
import Derived.Test.YtlcolmifmhdboaaIvC
import Derived.Test.YtlcolmifmhdboaaFrG
namespace Go.Proofs.Ytlcolmifmhdboaa
open Go.RowKit

def outS (a : Ix) (k : Int) : IvS := if a.v then bothS (roundF a.lo k false) (roundF a.hi k true) else errI 1
set_option maxHeartbeats 1600000 in
set_option maxRecDepth 100000 in
theorem ioutward_any (w : World) (x1 : Ix) (k : Int) (S : IvS) (ok1 : x1.ok w) (f1 : x1.few) (hs : outS x1 k = S) :
    Calls Try.prog 49 #[x1.val, .int .i64 k] w (IvlRes w S) := by
  have HS := Lib.hid hs
  clear hs
  by_cases hv1 : x1.v
  · have HV1 := Lib.hid hv1
    obtain ⟨S5, h5⟩ : ∃ S, roundF x1.lo k false = S := ⟨_, rfl⟩
    obtain ⟨S6, h6⟩ : ∃ S, roundF x1.hi k true = S := ⟨_, rfl⟩
    obtain ⟨E5, he5⟩ : ∃ E, S5.2.2.2 = E := ⟨_, rfl⟩
    obtain ⟨E6, he6⟩ : ∃ E, S6.2.2.2 = E := ⟨_, rfl⟩
    have hsp : S = bothS S5 S6 := by rw [← HS.out, outS, if_pos hv1, h5, h6]
    rw [bothS, he5, he6] at hsp
    have HSP := Lib.hid hsp
    have H5 := Lib.hid h5
    have H6 := Lib.hid h6
    have HE5 := Lib.hid he5
    have HE6 := Lib.hid he6
    clear hv1 h5 h6 he5 he6 hsp
    by_cases z5 : E5 = 0
    · subst z5
      by_cases z6 : E6 = 0
      · subst z6
        skip
        go_enter Try.func49, Try.ntmps49
        go_upto_region 1 with fail
        have bw := Below.refl w.heap.size w
        have a1 := (ia_alloc ok1).1
        have bb := (ia_alloc ok1).2
        have sz1 := size_box w (.cells x1.cells 41)
        clear ok1
        generalize (w.alloc (.cells x1.cells 41)) = wA at a1 bb sz1 ⊢
        try replace ok1 := ok1.below bb
        try replace a1 := a1.below bb
        replace bw := below_on bw bb bw.size
        clear bb
        have br := (zr_alloc wA).1
        have bb := (zr_alloc wA).2
        rw [sz1] at br
        clear sz1
        generalize (wA.alloc (.cells zcells 41)) = wm at br bb ⊢
        try replace a1 := a1.below bb
        replace bw := below_on bw bb bw.size
        clear bb
        have ci0 := a1.c0
        have ci1 := a1.c1
        have ci2 := a1.c2
        have ci3 := a1.c3
        have ci4 := a1.c4
        have ci5 := a1.c5
        go_wp2_with fail
        clear ci0 ci1 ci2 ci3 ci4 ci5
        refine (ivalid_any _ x1 true a1.ok f1 (decide_eq_true HV1.out)).mono ?_
        rintro e wn ⟨rfl, bb⟩
        try replace br := br.below bb
        try replace a1 := a1.below bb
        replace bw := below_on bw bb bw.size
        clear bb
        have ci0 := a1.c0
        have ci1 := a1.c1
        have ci2 := a1.c2
        have ci3 := a1.c3
        have ci4 := a1.c4
        have ci5 := a1.c5
        go_wp2_with fail
        clear ci0 ci1 ci2 ci3 ci4 ci5
        refine (ffloor_any _ x1.lo k S5 a1.ok.lo f1.lo.l f1.lo.m H5.out).mono ?_
        rintro e wn ⟨x5, rfl, hs5, ok5, bb⟩
        rw [HE5.out]
        have HS5 := Lib.hid hs5
        clear hs5
        try replace br := br.below bb
        try replace a1 := a1.below bb
        replace bw := below_on bw bb bw.size
        clear bb
        go_upto_region 4 with fail
        have a5 := (fa_alloc ok5).1
        have bb := (fa_alloc ok5).2
        clear ok5
        generalize (wn.alloc (.cells #[.bool x5.b, .slice x5.A x5.xs.length x5.c, .slice x5.D x5.ys.length x5.d] 25)) = wm at a5 bb ⊢
        try replace br := br.below bb
        try replace a1 := a1.below bb
        try replace a5 := a5.below bb
        replace bw := below_on bw bb bw.size
        clear bb
        generalize wn.heap.size = g5 at a5 ⊢
        have ci0 := a1.c0
        have ci1 := a1.c1
        have ci2 := a1.c2
        have ci3 := a1.c3
        have ci4 := a1.c4
        have ci5 := a1.c5
        go_wp2_with fail
        clear ci0 ci1 ci2 ci3 ci4 ci5
        refine (fceil_any _ x1.hi k S6 a1.ok.hi f1.hi.l f1.hi.m H6.out).mono ?_
        rintro e wn ⟨x6, rfl, hs6, ok6, bb⟩
        rw [HE6.out]
        have HS6 := Lib.hid hs6
        clear hs6
        try replace br := br.below bb
        try replace a1 := a1.below bb
        try replace a5 := a5.below bb
        replace bw := below_on bw bb bw.size
        clear bb
        go_upto_region 7 with fail
        have a6 := (fa_alloc ok6).1
        have bb := (fa_alloc ok6).2
        clear ok6
        generalize (wn.alloc (.cells #[.bool x6.b, .slice x6.A x6.xs.length x6.c, .slice x6.D x6.ys.length x6.d] 25)) = wm at a6 bb ⊢
        try replace br := br.below bb
        try replace a1 := a1.below bb
        try replace a5 := a5.below bb
        try replace a6 := a6.below bb
        replace bw := below_on bw bb bw.size
        clear bb
        generalize wn.heap.size = g6 at a6 ⊢
        have ci0 := a5.c0
        have ci1 := a5.c1
        have ci2 := a5.c2
        have cj0 := a6.c0
        have cj1 := a6.c1
        have cj2 := a6.c2
        have r0 := br.cell 0
        have r1 := br.cell 1
        have r2 := br.cell 2
        have r3 := br.cell 3
        have r4 := br.cell 4
        have r5 := br.cell 5
        have rf0 := br.unf 0
        have rf1 := br.unf 1
        have rf2 := br.unf 2
        have rf3 := br.unf 3
        have rf4 := br.unf 4
        have rf5 := br.unf 5
        simp only [List.getElem?_toArray, List.getElem?_cons_succ, List.getElem?_cons_zero] at r0 r1 r2 r3 r4 r5
        go_wp2_with fail
        refine bodyPost_ret (v := .tuple #[(⟨x5, x6⟩ : Ix).val, .int .i64 0]) (by simp [results, Try.results49, go_sem, r0, r1, r2, r3, r4, r5]) rfl ?_
        rw [HSP.out]
        exact ⟨⟨x5, x6⟩, rfl, HS5.out, HS6.out, ⟨set6_ok a5.ok br noInt_z, set6_ok a6.ok br noInt_z⟩, set6_below bw (by omega)⟩
      · skip
        go_enter Try.func49, Try.ntmps49
        go_upto_region 1 with fail
        have bw := Below.refl w.heap.size w
        have a1 := (ia_alloc ok1).1
        have bb := (ia_alloc ok1).2
        have sz1 := size_box w (.cells x1.cells 41)
        clear ok1
        generalize (w.alloc (.cells x1.cells 41)) = wA at a1 bb sz1 ⊢
        try replace ok1 := ok1.below bb
        try replace br := br.below bb
        try replace a1 := a1.below bb
        try replace a5 := a5.below bb
        try replace a6 := a6.below bb
        replace bw := below_on bw bb bw.size
        clear bb
        have br := (zr_alloc wA).1
        have bb := (zr_alloc wA).2
        rw [sz1] at br
        clear sz1
        generalize (wA.alloc (.cells zcells 41)) = wm at br bb ⊢
        try replace a1 := a1.below bb
        try replace a5 := a5.below bb
        try replace a6 := a6.below bb
        replace bw := below_on bw bb bw.size
        clear bb
        have ci0 := a1.c0
        have ci1 := a1.c1
        have ci2 := a1.c2
        have ci3 := a1.c3
        have ci4 := a1.c4
        have ci5 := a1.c5
        go_wp2_with fail
        clear ci0 ci1 ci2 ci3 ci4 ci5
        refine (ivalid_any _ x1 true a1.ok f1 (decide_eq_true HV1.out)).mono ?_
        rintro e wn ⟨rfl, bb⟩
        try replace br := br.below bb
        try replace a1 := a1.below bb
        try replace a5 := a5.below bb
        try replace a6 := a6.below bb
        replace bw := below_on bw bb bw.size
        clear bb
        have ci0 := a1.c0
        have ci1 := a1.c1
        have ci2 := a1.c2
        have ci3 := a1.c3
        have ci4 := a1.c4
        have ci5 := a1.c5
        go_wp2_with fail
        clear ci0 ci1 ci2 ci3 ci4 ci5
        refine (ffloor_any _ x1.lo k S5 a1.ok.lo f1.lo.l f1.lo.m H5.out).mono ?_
        rintro e wn ⟨x5, rfl, hs5, ok5, bb⟩
        rw [HE5.out]
        have HS5 := Lib.hid hs5
        clear hs5
        try replace br := br.below bb
        try replace a1 := a1.below bb
        try replace a5 := a5.below bb
        try replace a6 := a6.below bb
        replace bw := below_on bw bb bw.size
        clear bb
        go_upto_region 4 with fail
        have a5 := (fa_alloc ok5).1
        have bb := (fa_alloc ok5).2
        clear ok5
        generalize (wn.alloc (.cells #[.bool x5.b, .slice x5.A x5.xs.length x5.c, .slice x5.D x5.ys.length x5.d] 25)) = wm at a5 bb ⊢
        try replace br := br.below bb
        try replace a1 := a1.below bb
        try replace a5 := a5.below bb
        try replace a6 := a6.below bb
        replace bw := below_on bw bb bw.size
        clear bb
        generalize wn.heap.size = g5 at a5 ⊢
        have ci0 := a1.c0
        have ci1 := a1.c1
        have ci2 := a1.c2
        have ci3 := a1.c3
        have ci4 := a1.c4
        have ci5 := a1.c5
        go_wp2_with fail
        clear ci0 ci1 ci2 ci3 ci4 ci5
        refine (fceil_any _ x1.hi k S6 a1.ok.hi f1.hi.l f1.hi.m H6.out).mono ?_
        rintro e wn ⟨x6, rfl, hs6, ok6, bb⟩
        rw [HE6.out]
        have HS6 := Lib.hid hs6
        clear hs6
        try replace br := br.below bb
        try replace a1 := a1.below bb
        try replace a5 := a5.below bb
        try replace a6 := a6.below bb
        replace bw := below_on bw bb bw.size
        clear bb
        go_upto_region 7 with fail
        have a6 := (fa_alloc ok6).1
        have bb := (fa_alloc ok6).2
        clear ok6
        generalize (wn.alloc (.cells #[.bool x6.b, .slice x6.A x6.xs.length x6.c, .slice x6.D x6.ys.length x6.d] 25)) = wm at a6 bb ⊢
        try replace br := br.below bb
        try replace a1 := a1.below bb
        try replace a5 := a5.below bb
        try replace a6 := a6.below bb
        replace bw := below_on bw bb bw.size
        clear bb
        generalize wn.heap.size = g6 at a6 ⊢
        have r0 := br.cell 0
        have r1 := br.cell 1
        have r2 := br.cell 2
        have r3 := br.cell 3
        have r4 := br.cell 4
        have r5 := br.cell 5
        have rf0 := br.unf 0
        have rf1 := br.unf 1
        have rf2 := br.unf 2
        have rf3 := br.unf 3
        have rf4 := br.unf 4
        have rf5 := br.unf 5
        simp only [List.getElem?_toArray, List.getElem?_cons_succ, List.getElem?_cons_zero] at r0 r1 r2 r3 r4 r5
        go_wp2_with fail
        refine bodyPost_ret (v := .tuple #[(Ix.nil : Ix).val, .int .i64 E6]) (by simp [results, Try.results49, go_sem, r0, r1, r2, r3, r4, r5]) rfl ?_
        rw [HSP.out]
        simp only [ne_eq, not_true_eq_false, if_false, if_pos z6]
        exact ⟨Ix.nil, rfl, ⟨rfl, rfl, rfl⟩, ⟨rfl, rfl, rfl⟩, Ix.nil_ok _, set6_below bw (by omega)⟩
    · skip
      go_enter Try.func49, Try.ntmps49
      go_upto_region 1 with fail
      have bw := Below.refl w.heap.size w
      have a1 := (ia_alloc ok1).1
      have bb := (ia_alloc ok1).2
      have sz1 := size_box w (.cells x1.cells 41)
      clear ok1
      generalize (w.alloc (.cells x1.cells 41)) = wA at a1 bb sz1 ⊢
      try replace ok1 := ok1.below bb
      try replace br := br.below bb
      try replace a1 := a1.below bb
      try replace a5 := a5.below bb
      try replace a6 := a6.below bb
      replace bw := below_on bw bb bw.size
      clear bb
      have br := (zr_alloc wA).1
      have bb := (zr_alloc wA).2
      rw [sz1] at br
      clear sz1
      generalize (wA.alloc (.cells zcells 41)) = wm at br bb ⊢
      try replace a1 := a1.below bb
      try replace a5 := a5.below bb
      try replace a6 := a6.below bb
      replace bw := below_on bw bb bw.size
      clear bb
      have ci0 := a1.c0
      have ci1 := a1.c1
      have ci2 := a1.c2
      have ci3 := a1.c3
      have ci4 := a1.c4
      have ci5 := a1.c5
      go_wp2_with fail
      clear ci0 ci1 ci2 ci3 ci4 ci5
      refine (ivalid_any _ x1 true a1.ok f1 (decide_eq_true HV1.out)).mono ?_
      rintro e wn ⟨rfl, bb⟩
      try replace br := br.below bb
      try replace a1 := a1.below bb
      try replace a5 := a5.below bb
      try replace a6 := a6.below bb
      replace bw := below_on bw bb bw.size
      clear bb
      have ci0 := a1.c0
      have ci1 := a1.c1
      have ci2 := a1.c2
      have ci3 := a1.c3
      have ci4 := a1.c4
      have ci5 := a1.c5
      go_wp2_with fail
      clear ci0 ci1 ci2 ci3 ci4 ci5
      refine (ffloor_any _ x1.lo k S5 a1.ok.lo f1.lo.l f1.lo.m H5.out).mono ?_
      rintro e wn ⟨x5, rfl, hs5, ok5, bb⟩
      rw [HE5.out]
      have HS5 := Lib.hid hs5
      clear hs5
      try replace br := br.below bb
      try replace a1 := a1.below bb
      try replace a5 := a5.below bb
      try replace a6 := a6.below bb
      replace bw := below_on bw bb bw.size
      clear bb
      go_upto_region 4 with fail
      have a5 := (fa_alloc ok5).1
      have bb := (fa_alloc ok5).2
      clear ok5
      generalize (wn.alloc (.cells #[.bool x5.b, .slice x5.A x5.xs.length x5.c, .slice x5.D x5.ys.length x5.d] 25)) = wm at a5 bb ⊢
      try replace br := br.below bb
      try replace a1 := a1.below bb
      try replace a5 := a5.below bb
      try replace a6 := a6.below bb
      replace bw := below_on bw bb bw.size
      clear bb
      generalize wn.heap.size = g5 at a5 ⊢
      have r0 := br.cell 0
      have r1 := br.cell 1
      have r2 := br.cell 2
      have r3 := br.cell 3
      have r4 := br.cell 4
      have r5 := br.cell 5
      have rf0 := br.unf 0
      have rf1 := br.unf 1
      have rf2 := br.unf 2
      have rf3 := br.unf 3
      have rf4 := br.unf 4
      have rf5 := br.unf 5
      simp only [List.getElem?_toArray, List.getElem?_cons_succ, List.getElem?_cons_zero] at r0 r1 r2 r3 r4 r5
      go_wp2_with fail
      refine bodyPost_ret (v := .tuple #[(Ix.nil : Ix).val, .int .i64 E5]) (by simp [results, Try.results49, go_sem, r0, r1, r2, r3, r4, r5]) rfl ?_
      rw [HSP.out]
      simp only [ne_eq, if_pos z5]
      exact ⟨Ix.nil, rfl, ⟨rfl, rfl, rfl⟩, ⟨rfl, rfl, rfl⟩, Ix.nil_ok _, set6_below bw (by omega)⟩
  · have HV1 : Hid (¬ x1.v) := hv1
    clear hv1
    go_enter Try.func49, Try.ntmps49
    go_upto_region 1 with fail
    have bw := Below.refl w.heap.size w
    have a1 := (ia_alloc ok1).1
    have bb := (ia_alloc ok1).2
    have sz1 := size_box w (.cells x1.cells 41)
    clear ok1
    generalize (w.alloc (.cells x1.cells 41)) = wA at a1 bb sz1 ⊢
    try replace ok1 := ok1.below bb
    try replace br := br.below bb
    try replace a1 := a1.below bb
    try replace a5 := a5.below bb
    try replace a6 := a6.below bb
    replace bw := below_on bw bb bw.size
    clear bb
    have br := (zr_alloc wA).1
    have bb := (zr_alloc wA).2
    rw [sz1] at br
    clear sz1
    generalize (wA.alloc (.cells zcells 41)) = wm at br bb ⊢
    try replace a1 := a1.below bb
    try replace a5 := a5.below bb
    try replace a6 := a6.below bb
    replace bw := below_on bw bb bw.size
    clear bb
    have ci0 := a1.c0
    have ci1 := a1.c1
    have ci2 := a1.c2
    have ci3 := a1.c3
    have ci4 := a1.c4
    have ci5 := a1.c5
    go_wp2_with fail
    clear ci0 ci1 ci2 ci3 ci4 ci5
    refine (ivalid_any _ x1 false a1.ok f1 (decide_eq_false HV1.out)).mono ?_
    rintro e wn ⟨rfl, bb⟩
    try replace br := br.below bb
    try replace a1 := a1.below bb
    try replace a5 := a5.below bb
    try replace a6 := a6.below bb
    replace bw := below_on bw bb bw.size
    clear bb
    have r0 := br.cell 0
    have r1 := br.cell 1
    have r2 := br.cell 2
    have r3 := br.cell 3
    have r4 := br.cell 4
    have r5 := br.cell 5
    have rf0 := br.unf 0
    have rf1 := br.unf 1
    have rf2 := br.unf 2
    have rf3 := br.unf 3
    have rf4 := br.unf 4
    have rf5 := br.unf 5
    simp only [List.getElem?_toArray, List.getElem?_cons_succ, List.getElem?_cons_zero] at r0 r1 r2 r3 r4 r5
    go_wp2_with fail
    refine bodyPost_ret (v := .tuple #[(Ix.nil : Ix).val, .int .i64 1]) (by simp [results, Try.results49, go_sem, r0, r1, r2, r3, r4, r5]) rfl ?_
    rw [← HS.out, (show outS x1 k = errI 1 from if_neg HV1.out)]
    exact ⟨Ix.nil, rfl, ⟨rfl, rfl, rfl⟩, ⟨rfl, rfl, rfl⟩, Ix.nil_ok _, set6_below bw (by omega)⟩
def conS (a : Ix) (x : Fx) : Prop := a.v ∧ leF a.lo x ∧ leF x a.hi
instance (a : Ix) (x : Fx) : Decidable (conS a x) := inferInstanceAs (Decidable (_ ∧ _ ∧ _))
set_option maxHeartbeats 1600000 in
set_option maxRecDepth 100000 in
theorem icontains_any (w : World) (x1 : Ix) (x2 : Fx) (b : Bool) (ok1 : x1.ok w) (ok2 : x2.ok w) (f1 : x1.few) (f2 : x2.few) (hb : decide (conS x1 x2) = b) :
    Calls Try.prog 29 #[x1.val, x2.val] w fun e w' => e = .returned (.bool b) ∧ Below w.heap.size w w' := by
  have HB := Lib.hid hb
  clear hb
  by_cases h1 : x1.v
  · have H1 := Lib.hid h1
    by_cases h2 : leF x1.lo x2
    · have H2 := Lib.hid h2
      have HB2 : Hid (decide (leF x2 x1.hi) = b) := Lib.hid (by
        rw [← HB.out, decide_eq_decide, conS]
        exact ⟨fun h => ⟨h1, h2, h⟩, fun h => h.2.2⟩)
      clear h1 h2
      go_enter Try.func29, Try.ntmps29
      go_upto_region 1 with fail
      have bw := Below.refl w.heap.size w
      have a1 := (ia_alloc ok1).1
      have bb := (ia_alloc ok1).2
      have sz1 := size_box w (.cells x1.cells 41)
      clear ok1
      generalize (w.alloc (.cells x1.cells 41)) = wA at a1 bb sz1 ⊢
      try replace ok1 := ok1.below bb
      try replace ok2 := ok2.below bb
      try replace a1 := a1.below bb
      replace bw := below_on bw bb bw.size
      clear bb
      have a2 := (fa_alloc ok2).1
      have bb := (fa_alloc ok2).2
      have sz2 := size_box wA (.cells x2.cells 25)
      rw [sz1] at a2 sz2
      clear ok2 sz1
      generalize (wA.alloc (.cells x2.cells 25)) = wm at a2 bb sz2 ⊢
      try replace ok1 := ok1.below bb
      try replace ok2 := ok2.below bb
      try replace a1 := a1.below bb
      try replace a2 := a2.below bb
      replace bw := below_on bw bb bw.size
      clear bb
      clear sz2
      have ci0 := a1.c0
      have ci1 := a1.c1
      have ci2 := a1.c2
      have ci3 := a1.c3
      have ci4 := a1.c4
      have ci5 := a1.c5
      go_wp2_with fail
      clear ci0 ci1 ci2 ci3 ci4 ci5
      refine (ivalid_any _ x1 true a1.ok f1 (decide_eq_true H1.out)).mono ?_
      rintro e wn ⟨rfl, bb⟩
      try replace a1 := a1.below bb
      try replace a2 := a2.below bb
      replace bw := below_on bw bb bw.size
      clear bb
      have ci0 := a1.c0
      have ci1 := a1.c1
      have ci2 := a1.c2
      have ci3 := a1.c3
      have ci4 := a1.c4
      have ci5 := a1.c5
      have cj0 := a2.c0
      have cj1 := a2.c1
      have cj2 := a2.c2
      go_wp2_with fail
      clear ci0 ci1 ci2 ci3 ci4 ci5
      clear cj0 cj1 cj2
      refine (atmost_any _ x1.lo x2 true a1.ok.lo a2.ok f1.lo.l f1.lo.m f2.l f2.m (decide_eq_true H2.out)).mono ?_
      rintro e wn ⟨rfl, bb⟩
      try replace a1 := a1.below bb
      try replace a2 := a2.below bb
      replace bw := below_on bw bb bw.size
      clear bb
      have ci0 := a1.c0
      have ci1 := a1.c1
      have ci2 := a1.c2
      have ci3 := a1.c3
      have ci4 := a1.c4
      have ci5 := a1.c5
      have cj0 := a2.c0
      have cj1 := a2.c1
      have cj2 := a2.c2
      go_wp2_with fail
      clear ci0 ci1 ci2 ci3 ci4 ci5
      clear cj0 cj1 cj2
      refine (atmost_any _ x2 x1.hi b a2.ok a1.ok.hi f2.l f2.m f1.hi.l f1.hi.m HB2.out).mono ?_
      rintro e wn ⟨rfl, bb⟩
      try replace a1 := a1.below bb
      try replace a2 := a2.below bb
      replace bw := below_on bw bb bw.size
      clear bb
      go_wp2_with fail
      go_ret
      exact ⟨rfl, bw⟩
    · have H2 : Hid (¬ leF x1.lo x2) := h2
      have HB2 : Hid (false = b) := Lib.hid (by rw [← HB.out, decide_eq_false]; exact fun h => h2 h.2.1)
      clear h1 h2
      go_enter Try.func29, Try.ntmps29
      go_upto_region 1 with fail
      have bw := Below.refl w.heap.size w
      have a1 := (ia_alloc ok1).1
      have bb := (ia_alloc ok1).2
      have sz1 := size_box w (.cells x1.cells 41)
      clear ok1
      generalize (w.alloc (.cells x1.cells 41)) = wA at a1 bb sz1 ⊢
      try replace ok1 := ok1.below bb
      try replace ok2 := ok2.below bb
      try replace a1 := a1.below bb
      try replace a2 := a2.below bb
      replace bw := below_on bw bb bw.size
      clear bb
      have a2 := (fa_alloc ok2).1
      have bb := (fa_alloc ok2).2
      have sz2 := size_box wA (.cells x2.cells 25)
      rw [sz1] at a2 sz2
      clear ok2 sz1
      generalize (wA.alloc (.cells x2.cells 25)) = wm at a2 bb sz2 ⊢
      try replace ok1 := ok1.below bb
      try replace ok2 := ok2.below bb
      try replace a1 := a1.below bb
      try replace a2 := a2.below bb
      replace bw := below_on bw bb bw.size
      clear bb
      clear sz2
      have ci0 := a1.c0
      have ci1 := a1.c1
      have ci2 := a1.c2
      have ci3 := a1.c3
      have ci4 := a1.c4
      have ci5 := a1.c5
      go_wp2_with fail
      clear ci0 ci1 ci2 ci3 ci4 ci5
      refine (ivalid_any _ x1 true a1.ok f1 (decide_eq_true H1.out)).mono ?_
      rintro e wn ⟨rfl, bb⟩
      try replace a1 := a1.below bb
      try replace a2 := a2.below bb
      replace bw := below_on bw bb bw.size
      clear bb
      have ci0 := a1.c0
      have ci1 := a1.c1
      have ci2 := a1.c2
      have ci3 := a1.c3
      have ci4 := a1.c4
      have ci5 := a1.c5
      have cj0 := a2.c0
      have cj1 := a2.c1
      have cj2 := a2.c2
      go_wp2_with fail
      clear ci0 ci1 ci2 ci3 ci4 ci5
      clear cj0 cj1 cj2
      refine (atmost_any _ x1.lo x2 false a1.ok.lo a2.ok f1.lo.l f1.lo.m f2.l f2.m (decide_eq_false H2.out)).mono ?_
      rintro e wn ⟨rfl, bb⟩
      try replace a1 := a1.below bb
      try replace a2 := a2.below bb
      replace bw := below_on bw bb bw.size
      clear bb
      go_wp2_with fail
      go_ret
      exact ⟨ret_bool HB2.out, bw⟩
  · have H1 : Hid (¬ x1.v) := h1
    have HB2 : Hid (false = b) := Lib.hid (by rw [← HB.out, decide_eq_false]; exact fun h => h1 h.1)
    clear h1
    go_enter Try.func29, Try.ntmps29
    go_upto_region 1 with fail
    have bw := Below.refl w.heap.size w
    have a1 := (ia_alloc ok1).1
    have bb := (ia_alloc ok1).2
    have sz1 := size_box w (.cells x1.cells 41)
    clear ok1
    generalize (w.alloc (.cells x1.cells 41)) = wA at a1 bb sz1 ⊢
    try replace ok1 := ok1.below bb
    try replace ok2 := ok2.below bb
    try replace a1 := a1.below bb
    try replace a2 := a2.below bb
    replace bw := below_on bw bb bw.size
    clear bb
    have a2 := (fa_alloc ok2).1
    have bb := (fa_alloc ok2).2
    have sz2 := size_box wA (.cells x2.cells 25)
    rw [sz1] at a2 sz2
    clear ok2 sz1
    generalize (wA.alloc (.cells x2.cells 25)) = wm at a2 bb sz2 ⊢
    try replace ok1 := ok1.below bb
    try replace ok2 := ok2.below bb
    try replace a1 := a1.below bb
    try replace a2 := a2.below bb
    replace bw := below_on bw bb bw.size
    clear bb
    clear sz2
    have ci0 := a1.c0
    have ci1 := a1.c1
    have ci2 := a1.c2
    have ci3 := a1.c3
    have ci4 := a1.c4
    have ci5 := a1.c5
    go_wp2_with fail
    clear ci0 ci1 ci2 ci3 ci4 ci5
    refine (ivalid_any _ x1 false a1.ok f1 (decide_eq_false H1.out)).mono ?_
    rintro e wn ⟨rfl, bb⟩
    try replace a1 := a1.below bb
    try replace a2 := a2.below bb
    replace bw := below_on bw bb bw.size
    clear bb
    go_wp2_with fail
    go_ret
    exact ⟨ret_bool HB2.out, bw⟩
def insS (a b : Ix) : Prop := a.v ∧ b.v ∧ leF b.lo a.lo ∧ leF a.hi b.hi
instance (a b : Ix) : Decidable (insS a b) := inferInstanceAs (Decidable (_ ∧ _ ∧ _ ∧ _))
set_option maxHeartbeats 1600000 in
set_option maxRecDepth 100000 in
theorem iinside_any (w : World) (x1 x2 : Ix) (b : Bool) (ok1 : x1.ok w) (ok2 : x2.ok w) (f1 : x1.few) (f2 : x2.few) (hb : decide (insS x1 x2) = b) :
    Calls Try.prog 31 #[x1.val, x2.val] w fun e w' => e = .returned (.bool b) ∧ Below w.heap.size w w' := by
  have HB := Lib.hid hb
  clear hb
  by_cases h1 : x1.v
  · have H1 := Lib.hid h1
    by_cases h2 : x2.v
    · have H2 := Lib.hid h2
      by_cases h3 : leF x2.lo x1.lo
      · have H3 := Lib.hid h3
        have HB2 : Hid (decide (leF x1.hi x2.hi) = b) := Lib.hid (by
          rw [← HB.out, decide_eq_decide, insS]
          exact ⟨fun h => ⟨h1, h2, h3, h⟩, fun h => h.2.2.2⟩)
        clear h1 h2 h3
        go_enter Try.func31, Try.ntmps31
        go_upto_region 1 with fail
        have bw := Below.refl w.heap.size w
        have a1 := (ia_alloc ok1).1
        have bb := (ia_alloc ok1).2
        have sz1 := size_box w (.cells x1.cells 41)
        clear ok1
        generalize (w.alloc (.cells x1.cells 41)) = wA at a1 bb sz1 ⊢
        try replace ok1 := ok1.below bb
        try replace ok2 := ok2.below bb
        try replace a1 := a1.below bb
        replace bw := below_on bw bb bw.size
        clear bb
        have a2 := (ia_alloc ok2).1
        have bb := (ia_alloc ok2).2
        have sz2 := size_box wA (.cells x2.cells 41)
        rw [sz1] at a2 sz2
        clear ok2 sz1
        generalize (wA.alloc (.cells x2.cells 41)) = wm at a2 bb sz2 ⊢
        try replace ok1 := ok1.below bb
        try replace ok2 := ok2.below bb
        try replace a1 := a1.below bb
        try replace a2 := a2.below bb
        replace bw := below_on bw bb bw.size
        clear bb
        clear sz2
        have ci0 := a1.c0
        have ci1 := a1.c1
        have ci2 := a1.c2
        have ci3 := a1.c3
        have ci4 := a1.c4
        have ci5 := a1.c5
        go_wp2_with fail
        clear ci0 ci1 ci2 ci3 ci4 ci5
        refine (ivalid_any _ x1 true a1.ok f1 (decide_eq_true H1.out)).mono ?_
        rintro e wn ⟨rfl, bb⟩
        try replace a1 := a1.below bb
        try replace a2 := a2.below bb
        replace bw := below_on bw bb bw.size
        clear bb
        have ci0 := a2.c0
        have ci1 := a2.c1
        have ci2 := a2.c2
        have ci3 := a2.c3
        have ci4 := a2.c4
        have ci5 := a2.c5
        go_wp2_with fail
        clear ci0 ci1 ci2 ci3 ci4 ci5
        refine (ivalid_any _ x2 true a2.ok f2 (decide_eq_true H2.out)).mono ?_
        rintro e wn ⟨rfl, bb⟩
        try replace a1 := a1.below bb
        try replace a2 := a2.below bb
        replace bw := below_on bw bb bw.size
        clear bb
        have ci0 := a1.c0
        have ci1 := a1.c1
        have ci2 := a1.c2
        have ci3 := a1.c3
        have ci4 := a1.c4
        have ci5 := a1.c5
        have cj0 := a2.c0
        have cj1 := a2.c1
        have cj2 := a2.c2
        have cj3 := a2.c3
        have cj4 := a2.c4
        have cj5 := a2.c5
        go_wp2_with fail
        clear ci0 ci1 ci2 ci3 ci4 ci5
        clear cj0 cj1 cj2 cj3 cj4 cj5
        refine (atmost_any _ x2.lo x1.lo true a2.ok.lo a1.ok.lo f2.lo.l f2.lo.m f1.lo.l f1.lo.m (decide_eq_true H3.out)).mono ?_
        rintro e wn ⟨rfl, bb⟩
        try replace a1 := a1.below bb
        try replace a2 := a2.below bb
        replace bw := below_on bw bb bw.size
        clear bb
        have ci0 := a1.c0
        have ci1 := a1.c1
        have ci2 := a1.c2
        have ci3 := a1.c3
        have ci4 := a1.c4
        have ci5 := a1.c5
        have cj0 := a2.c0
        have cj1 := a2.c1
        have cj2 := a2.c2
        have cj3 := a2.c3
        have cj4 := a2.c4
        have cj5 := a2.c5
        go_wp2_with fail
        clear ci0 ci1 ci2 ci3 ci4 ci5
        clear cj0 cj1 cj2 cj3 cj4 cj5
        refine (atmost_any _ x1.hi x2.hi b a1.ok.hi a2.ok.hi f1.hi.l f1.hi.m f2.hi.l f2.hi.m HB2.out).mono ?_
        rintro e wn ⟨rfl, bb⟩
        try replace a1 := a1.below bb
        try replace a2 := a2.below bb
        replace bw := below_on bw bb bw.size
        clear bb
        go_wp2_with fail
        go_ret
        exact ⟨rfl, bw⟩
      · have H3 : Hid (¬ leF x2.lo x1.lo) := h3
        have HB2 : Hid (false = b) := Lib.hid (by rw [← HB.out, decide_eq_false]; exact fun h => h3 h.2.2.1)
        clear h1 h2 h3
        go_enter Try.func31, Try.ntmps31
        go_upto_region 1 with fail
        have bw := Below.refl w.heap.size w
        have a1 := (ia_alloc ok1).1
        have bb := (ia_alloc ok1).2
        have sz1 := size_box w (.cells x1.cells 41)
        clear ok1
        generalize (w.alloc (.cells x1.cells 41)) = wA at a1 bb sz1 ⊢
        try replace ok1 := ok1.below bb
        try replace ok2 := ok2.below bb
        try replace a1 := a1.below bb
        try replace a2 := a2.below bb
        replace bw := below_on bw bb bw.size
        clear bb
        have a2 := (ia_alloc ok2).1
        have bb := (ia_alloc ok2).2
        have sz2 := size_box wA (.cells x2.cells 41)
        rw [sz1] at a2 sz2
        clear ok2 sz1
        generalize (wA.alloc (.cells x2.cells 41)) = wm at a2 bb sz2 ⊢
        try replace ok1 := ok1.below bb
        try replace ok2 := ok2.below bb
        try replace a1 := a1.below bb
        try replace a2 := a2.below bb
        replace bw := below_on bw bb bw.size
        clear bb
        clear sz2
        have ci0 := a1.c0
        have ci1 := a1.c1
        have ci2 := a1.c2
        have ci3 := a1.c3
        have ci4 := a1.c4
        have ci5 := a1.c5
        go_wp2_with fail
        clear ci0 ci1 ci2 ci3 ci4 ci5
        refine (ivalid_any _ x1 true a1.ok f1 (decide_eq_true H1.out)).mono ?_
        rintro e wn ⟨rfl, bb⟩
        try replace a1 := a1.below bb
        try replace a2 := a2.below bb
        replace bw := below_on bw bb bw.size
        clear bb
        have ci0 := a2.c0
        have ci1 := a2.c1
        have ci2 := a2.c2
        have ci3 := a2.c3
        have ci4 := a2.c4
        have ci5 := a2.c5
        go_wp2_with fail
        clear ci0 ci1 ci2 ci3 ci4 ci5
        refine (ivalid_any _ x2 true a2.ok f2 (decide_eq_true H2.out)).mono ?_
        rintro e wn ⟨rfl, bb⟩
        try replace a1 := a1.below bb
        try replace a2 := a2.below bb
        replace bw := below_on bw bb bw.size
        clear bb
        have ci0 := a1.c0
        have ci1 := a1.c1
        have ci2 := a1.c2
        have ci3 := a1.c3
        have ci4 := a1.c4
        have ci5 := a1.c5
        have cj0 := a2.c0
        have cj1 := a2.c1
        have cj2 := a2.c2
        have cj3 := a2.c3
        have cj4 := a2.c4
        have cj5 := a2.c5
        go_wp2_with fail
        clear ci0 ci1 ci2 ci3 ci4 ci5
        clear cj0 cj1 cj2 cj3 cj4 cj5
        refine (atmost_any _ x2.lo x1.lo false a2.ok.lo a1.ok.lo f2.lo.l f2.lo.m f1.lo.l f1.lo.m (decide_eq_false H3.out)).mono ?_
        rintro e wn ⟨rfl, bb⟩
        try replace a1 := a1.below bb
        try replace a2 := a2.below bb
        replace bw := below_on bw bb bw.size
        clear bb
        go_wp2_with fail
        go_ret
        exact ⟨ret_bool HB2.out, bw⟩
    · have H2 : Hid (¬ x2.v) := h2
      have HB2 : Hid (false = b) := Lib.hid (by rw [← HB.out, decide_eq_false]; exact fun h => h2 h.2.1)
      clear h1 h2
      go_enter Try.func31, Try.ntmps31
      go_upto_region 1 with fail
      have bw := Below.refl w.heap.size w
      have a1 := (ia_alloc ok1).1
      have bb := (ia_alloc ok1).2
      have sz1 := size_box w (.cells x1.cells 41)
      clear ok1
      generalize (w.alloc (.cells x1.cells 41)) = wA at a1 bb sz1 ⊢
      try replace ok1 := ok1.below bb
      try replace ok2 := ok2.below bb
      try replace a1 := a1.below bb
      try replace a2 := a2.below bb
      replace bw := below_on bw bb bw.size
      clear bb
      have a2 := (ia_alloc ok2).1
      have bb := (ia_alloc ok2).2
      have sz2 := size_box wA (.cells x2.cells 41)
      rw [sz1] at a2 sz2
      clear ok2 sz1
      generalize (wA.alloc (.cells x2.cells 41)) = wm at a2 bb sz2 ⊢
      try replace ok1 := ok1.below bb
      try replace ok2 := ok2.below bb
      try replace a1 := a1.below bb
      try replace a2 := a2.below bb
      replace bw := below_on bw bb bw.size
      clear bb
      clear sz2
      have ci0 := a1.c0
      have ci1 := a1.c1
      have ci2 := a1.c2
      have ci3 := a1.c3
      have ci4 := a1.c4
      have ci5 := a1.c5
      go_wp2_with fail
      clear ci0 ci1 ci2 ci3 ci4 ci5
      refine (ivalid_any _ x1 true a1.ok f1 (decide_eq_true H1.out)).mono ?_
      rintro e wn ⟨rfl, bb⟩
      try replace a1 := a1.below bb
      try replace a2 := a2.below bb
      replace bw := below_on bw bb bw.size
      clear bb
      have ci0 := a2.c0
      have ci1 := a2.c1
      have ci2 := a2.c2
      have ci3 := a2.c3
      have ci4 := a2.c4
      have ci5 := a2.c5
      go_wp2_with fail
      clear ci0 ci1 ci2 ci3 ci4 ci5
      refine (ivalid_any _ x2 false a2.ok f2 (decide_eq_false H2.out)).mono ?_
      rintro e wn ⟨rfl, bb⟩
      try replace a1 := a1.below bb
      try replace a2 := a2.below bb
      replace bw := below_on bw bb bw.size
      clear bb
      go_wp2_with fail
      go_ret
      exact ⟨ret_bool HB2.out, bw⟩
  · have H1 : Hid (¬ x1.v) := h1
    have HB2 : Hid (false = b) := Lib.hid (by rw [← HB.out, decide_eq_false]; exact fun h => h1 h.1)
    clear h1
    go_enter Try.func31, Try.ntmps31
    go_upto_region 1 with fail
    have bw := Below.refl w.heap.size w
    have a1 := (ia_alloc ok1).1
    have bb := (ia_alloc ok1).2
    have sz1 := size_box w (.cells x1.cells 41)
    clear ok1
    generalize (w.alloc (.cells x1.cells 41)) = wA at a1 bb sz1 ⊢
    try replace ok1 := ok1.below bb
    try replace ok2 := ok2.below bb
    try replace a1 := a1.below bb
    try replace a2 := a2.below bb
    replace bw := below_on bw bb bw.size
    clear bb
    have a2 := (ia_alloc ok2).1
    have bb := (ia_alloc ok2).2
    have sz2 := size_box wA (.cells x2.cells 41)
    rw [sz1] at a2 sz2
    clear ok2 sz1
    generalize (wA.alloc (.cells x2.cells 41)) = wm at a2 bb sz2 ⊢
    try replace ok1 := ok1.below bb
    try replace ok2 := ok2.below bb
    try replace a1 := a1.below bb
    try replace a2 := a2.below bb
    replace bw := below_on bw bb bw.size
    clear bb
    clear sz2
    have ci0 := a1.c0
    have ci1 := a1.c1
    have ci2 := a1.c2
    have ci3 := a1.c3
    have ci4 := a1.c4
    have ci5 := a1.c5
    go_wp2_with fail
    clear ci0 ci1 ci2 ci3 ci4 ci5
    refine (ivalid_any _ x1 false a1.ok f1 (decide_eq_false H1.out)).mono ?_
    rintro e wn ⟨rfl, bb⟩
    try replace a1 := a1.below bb
    try replace a2 := a2.below bb
    replace bw := below_on bw bb bw.size
    clear bb
    go_wp2_with fail
    go_ret
    exact ⟨ret_bool HB2.out, bw⟩
end Go.Proofs.Ytlcolmifmhdboaa
