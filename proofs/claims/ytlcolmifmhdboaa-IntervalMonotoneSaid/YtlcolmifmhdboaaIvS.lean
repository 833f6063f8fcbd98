/- The reference of package interval: Point, Contains, Inside, pair, Outward, Add, Sub. -/
import Derived.Test.YtlcolmifmhdboaaRfH
import Derived.Test.YtlcolmifmhdboaaRfI
namespace Go.Proofs.Ytlcolmifmhdboaa
open Go.RowKit

set_option maxHeartbeats 1600000 in
set_option maxRecDepth 100000 in
theorem ripoint_any (w : World) (x1 : Fx) (S : IvS) (ok1 : x1.ok w) (f1 : x1.few) (hs : pointS x1 = S) :
    Calls Try.prog 45 #[x1.val] w (IvlRes w S) := by
  have HS := Lib.hid hs
  clear hs
  obtain ⟨S3, h3⟩ : ∃ S, redS x1 = S := ⟨_, rfl⟩
  by_cases hv : x1.v
  · have e0 : S3.2.2.2 = 0 := by rw [← h3, redS_okS hv]; rfl
    have HSP : Hid (S = (S3, S3, 0)) := Lib.hid (by rw [← HS.out, pointS, if_pos hv, h3])
    have H3 := Lib.hid h3
    have E0 := Lib.hid e0
    clear hv h3 e0
    go_enter Try.func45, Try.ntmps45
    go_upto_region 1 with fail
    have bw := Below.refl w.heap.size w
    have a1 := (fa_alloc ok1).1
    have bb := (fa_alloc ok1).2
    have sz1 := size_box w (.cells x1.cells 25)
    clear ok1
    generalize (w.alloc (.cells x1.cells 25)) = wA at a1 bb sz1 ⊢
    try replace ok1 := ok1.below bb
    try replace ok3 := ok3.below bb
    try replace a1 := a1.below bb
    replace bw := below_on bw bb bw.size
    clear bb
    have br := (zr_alloc wA).1
    have bb := (zr_alloc wA).2
    rw [sz1] at br
    clear sz1
    generalize (wA.alloc (.cells zcells 41)) = wm at br bb ⊢
    try replace a1 := a1.below bb
    replace bw := below_on bw bb bw.size
    clear bb
    have ci0 := a1.c0
    have ci1 := a1.c1
    have ci2 := a1.c2
    go_wp2_with fail
    clear ci0 ci1 ci2
    refine (rfreduce_any _ x1 S3 a1.ok f1.l f1.m H3.out).mono ?_
    rintro e wn ⟨x3, rfl, hs3, ok3, bb⟩
    rw [E0.out]
    have HS3 := Lib.hid hs3
    clear hs3
    try replace br := br.below bb
    try replace a1 := a1.below bb
    replace bw := below_on bw bb bw.size
    clear bb
    go_upto_region 2 with fail
    have a3 := (fa_alloc ok3).1
    have bb := (fa_alloc ok3).2
    clear ok3
    generalize (wn.alloc (.cells #[.bool x3.b, .slice x3.A x3.xs.length x3.c, .slice x3.D x3.ys.length x3.d] 25)) = wm at a3 bb ⊢
    try replace br := br.below bb
    try replace a1 := a1.below bb
    try replace a3 := a3.below bb
    replace bw := below_on bw bb bw.size
    clear bb
    generalize wn.heap.size = g3 at a3 ⊢
    have ci0 := a3.c0
    have ci1 := a3.c1
    have ci2 := a3.c2
    have r0 := br.cell 0
    have r1 := br.cell 1
    have r2 := br.cell 2
    have r3 := br.cell 3
    have r4 := br.cell 4
    have r5 := br.cell 5
    have rf0 := br.unf 0
    have rf1 := br.unf 1
    have rf2 := br.unf 2
    have rf3 := br.unf 3
    have rf4 := br.unf 4
    have rf5 := br.unf 5
    simp only [List.getElem?_toArray, List.getElem?_cons_succ, List.getElem?_cons_zero] at r0 r1 r2 r3 r4 r5
    go_wp2_with fail
    refine bodyPost_ret (v := .tuple #[(⟨x3, x3⟩ : Ix).val, .int .i64 0]) (by simp [results, Try.results45, go_sem, r0, r1, r2, r3, r4, r5]) rfl ?_
    rw [HSP.out]
    exact ⟨⟨x3, x3⟩, rfl, HS3.out, HS3.out, ⟨set6_ok a3.ok br noInt_z, set6_ok a3.ok br noInt_z⟩, set6_below bw (by omega)⟩
  · have e0 : S3.2.2.2 = 1 := by rw [← h3, redS, if_neg hv]; rfl
    have HSP : Hid (pointS x1 = errI 1) := Lib.hid (if_neg hv)
    have H3 := Lib.hid h3
    have E0 := Lib.hid e0
    clear hv h3 e0
    go_enter Try.func45, Try.ntmps45
    go_upto_region 1 with fail
    have bw := Below.refl w.heap.size w
    have a1 := (fa_alloc ok1).1
    have bb := (fa_alloc ok1).2
    have sz1 := size_box w (.cells x1.cells 25)
    clear ok1
    generalize (w.alloc (.cells x1.cells 25)) = wA at a1 bb sz1 ⊢
    try replace ok1 := ok1.below bb
    try replace ok3 := ok3.below bb
    try replace br := br.below bb
    try replace a1 := a1.below bb
    try replace a3 := a3.below bb
    replace bw := below_on bw bb bw.size
    clear bb
    have br := (zr_alloc wA).1
    have bb := (zr_alloc wA).2
    rw [sz1] at br
    clear sz1
    generalize (wA.alloc (.cells zcells 41)) = wm at br bb ⊢
    try replace a1 := a1.below bb
    try replace a3 := a3.below bb
    replace bw := below_on bw bb bw.size
    clear bb
    have ci0 := a1.c0
    have ci1 := a1.c1
    have ci2 := a1.c2
    go_wp2_with fail
    clear ci0 ci1 ci2
    refine (rfreduce_any _ x1 S3 a1.ok f1.l f1.m H3.out).mono ?_
    rintro e wn ⟨x3, rfl, hs3, ok3, bb⟩
    rw [E0.out]
    clear hs3
    try replace br := br.below bb
    try replace a1 := a1.below bb
    try replace a3 := a3.below bb
    replace bw := below_on bw bb bw.size
    clear bb
    go_upto_region 2 with fail
    have a3 := (fa_alloc ok3).1
    have bb := (fa_alloc ok3).2
    clear ok3
    generalize (wn.alloc (.cells #[.bool x3.b, .slice x3.A x3.xs.length x3.c, .slice x3.D x3.ys.length x3.d] 25)) = wm at a3 bb ⊢
    try replace br := br.below bb
    try replace a1 := a1.below bb
    try replace a3 := a3.below bb
    replace bw := below_on bw bb bw.size
    clear bb
    generalize wn.heap.size = g3 at a3 ⊢
    have r0 := br.cell 0
    have r1 := br.cell 1
    have r2 := br.cell 2
    have r3 := br.cell 3
    have r4 := br.cell 4
    have r5 := br.cell 5
    have rf0 := br.unf 0
    have rf1 := br.unf 1
    have rf2 := br.unf 2
    have rf3 := br.unf 3
    have rf4 := br.unf 4
    have rf5 := br.unf 5
    simp only [List.getElem?_toArray, List.getElem?_cons_succ, List.getElem?_cons_zero] at r0 r1 r2 r3 r4 r5
    go_wp2_with fail
    refine bodyPost_ret (v := .tuple #[(Ix.nil : Ix).val, .int .i64 1]) (by simp [results, Try.results45, go_sem, r0, r1, r2, r3, r4, r5]) rfl ?_
    rw [← HS.out, HSP.out]
    exact ⟨Ix.nil, rfl, ⟨rfl, rfl, rfl⟩, ⟨rfl, rfl, rfl⟩, Ix.nil_ok _, set6_below bw (by omega)⟩
set_option maxHeartbeats 1600000 in
set_option maxRecDepth 100000 in
theorem ricontains_any (w : World) (x1 : Ix) (x2 : Fx) (b : Bool) (ok1 : x1.ok w) (ok2 : x2.ok w) (f1 : x1.few) (f2 : x2.few) (hb : decide (conS x1 x2) = b) :
    Calls Try.prog 47 #[x1.val, x2.val] w fun e w' => e = .returned (.bool b) ∧ Below w.heap.size w w' := by
  by_cases h1 : x1.v
  · have H1 := Lib.hid h1
    have V1 := Lib.hid h1.1
    have V3 := Lib.hid h1.2.1
    by_cases h2 : x2.v
    · have V2 := Lib.hid h2
      obtain ⟨z, hz⟩ : ∃ z, cmpQ x1.lo.q x2.q = z := ⟨_, rfl⟩
      obtain ⟨y, hy⟩ : ∃ z, cmpQ x2.q x1.hi.q = z := ⟨_, rfl⟩
      have HZ := Lib.hid hz
      have HY := Lib.hid hy
      have hcz := cmpQ_le x1.lo.q x2.q
      have hcy := cmpQ_le x2.q x1.hi.q
      rw [hz] at hcz
      rw [hy] at hcy
      by_cases h3 : x1.lo.q ≤ x2.q
      · have hd : decide (z ≤ 0) = true := hcz.trans (decide_eq_true h3)
        have HB : Hid (decide (y ≤ 0) = b) := Lib.hid (by
          rw [← hb, hcy, decide_eq_decide, conS, leF, leF]
          exact ⟨fun h => ⟨h1, ⟨h1.1, h2, h3⟩, ⟨h2, h1.2.1, h⟩⟩, fun h => h.2.2.2.2⟩)
        clear h1 h2 h3 hb hz hy hcz hcy
        go_enter Try.func47, Try.ntmps47
        go_upto_region 1 with fail
        have bw := Below.refl w.heap.size w
        have a1 := (ia_alloc ok1).1
        have bb := (ia_alloc ok1).2
        have sz1 := size_box w (.cells x1.cells 41)
        clear ok1
        generalize (w.alloc (.cells x1.cells 41)) = wA at a1 bb sz1 ⊢
        try replace ok1 := ok1.below bb
        try replace ok2 := ok2.below bb
        try replace a1 := a1.below bb
        replace bw := below_on bw bb bw.size
        clear bb
        have a2 := (fa_alloc ok2).1
        have bb := (fa_alloc ok2).2
        have sz2 := size_box wA (.cells x2.cells 25)
        rw [sz1] at a2 sz2
        clear ok2 sz1
        generalize (wA.alloc (.cells x2.cells 25)) = wm at a2 bb sz2 ⊢
        try replace ok1 := ok1.below bb
        try replace ok2 := ok2.below bb
        try replace a1 := a1.below bb
        try replace a2 := a2.below bb
        replace bw := below_on bw bb bw.size
        clear bb
        clear sz2
        have ci0 := a1.c0
        have ci1 := a1.c1
        have ci2 := a1.c2
        have ci3 := a1.c3
        have ci4 := a1.c4
        have ci5 := a1.c5
        go_wp2_with fail
        clear ci0 ci1 ci2 ci3 ci4 ci5
        refine (rivalid_any _ x1 true a1.ok f1 (decide_eq_true H1.out)).mono ?_
        rintro e wn ⟨rfl, bb⟩
        try replace a1 := a1.below bb
        try replace a2 := a2.below bb
        replace bw := below_on bw bb bw.size
        clear bb
        have ci0 := a2.c0
        have ci1 := a2.c1
        have ci2 := a2.c2
        go_wp2_with fail
        clear ci0 ci1 ci2
        refine (rfvalid_any _ x2 true a2.ok f2.l f2.m (decide_eq_true V2.out)).mono ?_
        rintro e wn ⟨rfl, bb⟩
        try replace a1 := a1.below bb
        try replace a2 := a2.below bb
        replace bw := below_on bw bb bw.size
        clear bb
        have ci0 := a1.c0
        have ci1 := a1.c1
        have ci2 := a1.c2
        have ci3 := a1.c3
        have ci4 := a1.c4
        have ci5 := a1.c5
        have cj0 := a2.c0
        have cj1 := a2.c1
        have cj2 := a2.c2
        go_wp2_with fail
        clear ci0 ci1 ci2 ci3 ci4 ci5
        clear cj0 cj1 cj2
        refine (rforder_any _ x1.lo x2 z a1.ok.lo a2.ok V1.out V2.out f1.lo.l f1.lo.m f2.l f2.m HZ.out).mono ?_
        rintro e wn ⟨rfl, bb⟩
        try replace a1 := a1.below bb
        try replace a2 := a2.below bb
        replace bw := below_on bw bb bw.size
        clear bb
        have ci0 := a1.c0
        have ci1 := a1.c1
        have ci2 := a1.c2
        have ci3 := a1.c3
        have ci4 := a1.c4
        have ci5 := a1.c5
        have cj0 := a2.c0
        have cj1 := a2.c1
        have cj2 := a2.c2
        go_wp2_with fail
        clear ci0 ci1 ci2 ci3 ci4 ci5
        clear cj0 cj1 cj2
        refine (rforder_any _ x2 x1.hi y a2.ok a1.ok.hi V2.out V3.out f2.l f2.m f1.hi.l f1.hi.m HY.out).mono ?_
        rintro e wn ⟨rfl, bb⟩
        try replace a1 := a1.below bb
        try replace a2 := a2.below bb
        replace bw := below_on bw bb bw.size
        clear bb
        go_wp2_with fail
        go_ret
        exact ⟨ret_bool HB.out, bw⟩
      · have hd : decide (z ≤ 0) = false := hcz.trans (decide_eq_false h3)
        have HB : Hid (false = b) := Lib.hid (by rw [← hb, decide_eq_false]; exact fun h => h3 h.2.1.2.2)
        clear h1 h2 h3 hb hz hy hcz hcy
        go_enter Try.func47, Try.ntmps47
        go_upto_region 1 with fail
        have bw := Below.refl w.heap.size w
        have a1 := (ia_alloc ok1).1
        have bb := (ia_alloc ok1).2
        have sz1 := size_box w (.cells x1.cells 41)
        clear ok1
        generalize (w.alloc (.cells x1.cells 41)) = wA at a1 bb sz1 ⊢
        try replace ok1 := ok1.below bb
        try replace ok2 := ok2.below bb
        try replace a1 := a1.below bb
        try replace a2 := a2.below bb
        replace bw := below_on bw bb bw.size
        clear bb
        have a2 := (fa_alloc ok2).1
        have bb := (fa_alloc ok2).2
        have sz2 := size_box wA (.cells x2.cells 25)
        rw [sz1] at a2 sz2
        clear ok2 sz1
        generalize (wA.alloc (.cells x2.cells 25)) = wm at a2 bb sz2 ⊢
        try replace ok1 := ok1.below bb
        try replace ok2 := ok2.below bb
        try replace a1 := a1.below bb
        try replace a2 := a2.below bb
        replace bw := below_on bw bb bw.size
        clear bb
        clear sz2
        have ci0 := a1.c0
        have ci1 := a1.c1
        have ci2 := a1.c2
        have ci3 := a1.c3
        have ci4 := a1.c4
        have ci5 := a1.c5
        go_wp2_with fail
        clear ci0 ci1 ci2 ci3 ci4 ci5
        refine (rivalid_any _ x1 true a1.ok f1 (decide_eq_true H1.out)).mono ?_
        rintro e wn ⟨rfl, bb⟩
        try replace a1 := a1.below bb
        try replace a2 := a2.below bb
        replace bw := below_on bw bb bw.size
        clear bb
        have ci0 := a2.c0
        have ci1 := a2.c1
        have ci2 := a2.c2
        go_wp2_with fail
        clear ci0 ci1 ci2
        refine (rfvalid_any _ x2 true a2.ok f2.l f2.m (decide_eq_true V2.out)).mono ?_
        rintro e wn ⟨rfl, bb⟩
        try replace a1 := a1.below bb
        try replace a2 := a2.below bb
        replace bw := below_on bw bb bw.size
        clear bb
        have ci0 := a1.c0
        have ci1 := a1.c1
        have ci2 := a1.c2
        have ci3 := a1.c3
        have ci4 := a1.c4
        have ci5 := a1.c5
        have cj0 := a2.c0
        have cj1 := a2.c1
        have cj2 := a2.c2
        go_wp2_with fail
        clear ci0 ci1 ci2 ci3 ci4 ci5
        clear cj0 cj1 cj2
        refine (rforder_any _ x1.lo x2 z a1.ok.lo a2.ok V1.out V2.out f1.lo.l f1.lo.m f2.l f2.m HZ.out).mono ?_
        rintro e wn ⟨rfl, bb⟩
        try replace a1 := a1.below bb
        try replace a2 := a2.below bb
        replace bw := below_on bw bb bw.size
        clear bb
        go_wp2_with fail
        go_ret
        exact ⟨ret_bool HB.out, bw⟩
    · have V2 : Hid (¬ x2.v) := h2
      have HB : Hid (false = b) := Lib.hid (by rw [← hb, decide_eq_false]; exact fun h => h2 h.2.1.2.1)
      clear h1 h2 hb
      go_enter Try.func47, Try.ntmps47
      go_upto_region 1 with fail
      have bw := Below.refl w.heap.size w
      have a1 := (ia_alloc ok1).1
      have bb := (ia_alloc ok1).2
      have sz1 := size_box w (.cells x1.cells 41)
      clear ok1
      generalize (w.alloc (.cells x1.cells 41)) = wA at a1 bb sz1 ⊢
      try replace ok1 := ok1.below bb
      try replace ok2 := ok2.below bb
      try replace a1 := a1.below bb
      try replace a2 := a2.below bb
      replace bw := below_on bw bb bw.size
      clear bb
      have a2 := (fa_alloc ok2).1
      have bb := (fa_alloc ok2).2
      have sz2 := size_box wA (.cells x2.cells 25)
      rw [sz1] at a2 sz2
      clear ok2 sz1
      generalize (wA.alloc (.cells x2.cells 25)) = wm at a2 bb sz2 ⊢
      try replace ok1 := ok1.below bb
      try replace ok2 := ok2.below bb
      try replace a1 := a1.below bb
      try replace a2 := a2.below bb
      replace bw := below_on bw bb bw.size
      clear bb
      clear sz2
      have ci0 := a1.c0
      have ci1 := a1.c1
      have ci2 := a1.c2
      have ci3 := a1.c3
      have ci4 := a1.c4
      have ci5 := a1.c5
      go_wp2_with fail
      clear ci0 ci1 ci2 ci3 ci4 ci5
      refine (rivalid_any _ x1 true a1.ok f1 (decide_eq_true H1.out)).mono ?_
      rintro e wn ⟨rfl, bb⟩
      try replace a1 := a1.below bb
      try replace a2 := a2.below bb
      replace bw := below_on bw bb bw.size
      clear bb
      have ci0 := a2.c0
      have ci1 := a2.c1
      have ci2 := a2.c2
      go_wp2_with fail
      clear ci0 ci1 ci2
      refine (rfvalid_any _ x2 false a2.ok f2.l f2.m (decide_eq_false V2.out)).mono ?_
      rintro e wn ⟨rfl, bb⟩
      try replace a1 := a1.below bb
      try replace a2 := a2.below bb
      replace bw := below_on bw bb bw.size
      clear bb
      go_wp2_with fail
      go_ret
      exact ⟨ret_bool HB.out, bw⟩
  · have H1 : Hid (¬ x1.v) := h1
    have HB : Hid (false = b) := Lib.hid (by rw [← hb, decide_eq_false]; exact fun h => h1 h.1)
    clear h1 hb
    go_enter Try.func47, Try.ntmps47
    go_upto_region 1 with fail
    have bw := Below.refl w.heap.size w
    have a1 := (ia_alloc ok1).1
    have bb := (ia_alloc ok1).2
    have sz1 := size_box w (.cells x1.cells 41)
    clear ok1
    generalize (w.alloc (.cells x1.cells 41)) = wA at a1 bb sz1 ⊢
    try replace ok1 := ok1.below bb
    try replace ok2 := ok2.below bb
    try replace a1 := a1.below bb
    try replace a2 := a2.below bb
    replace bw := below_on bw bb bw.size
    clear bb
    have a2 := (fa_alloc ok2).1
    have bb := (fa_alloc ok2).2
    have sz2 := size_box wA (.cells x2.cells 25)
    rw [sz1] at a2 sz2
    clear ok2 sz1
    generalize (wA.alloc (.cells x2.cells 25)) = wm at a2 bb sz2 ⊢
    try replace ok1 := ok1.below bb
    try replace ok2 := ok2.below bb
    try replace a1 := a1.below bb
    try replace a2 := a2.below bb
    replace bw := below_on bw bb bw.size
    clear bb
    clear sz2
    have ci0 := a1.c0
    have ci1 := a1.c1
    have ci2 := a1.c2
    have ci3 := a1.c3
    have ci4 := a1.c4
    have ci5 := a1.c5
    go_wp2_with fail
    clear ci0 ci1 ci2 ci3 ci4 ci5
    refine (rivalid_any _ x1 false a1.ok f1 (decide_eq_false H1.out)).mono ?_
    rintro e wn ⟨rfl, bb⟩
    try replace a1 := a1.below bb
    try replace a2 := a2.below bb
    replace bw := below_on bw bb bw.size
    clear bb
    go_wp2_with fail
    go_ret
    exact ⟨ret_bool HB.out, bw⟩
set_option maxHeartbeats 1600000 in
set_option maxRecDepth 100000 in
theorem riinside_any (w : World) (x1 x2 : Ix) (b : Bool) (ok1 : x1.ok w) (ok2 : x2.ok w) (f1 : x1.few) (f2 : x2.few) (hb : decide (insS x1 x2) = b) :
    Calls Try.prog 48 #[x1.val, x2.val] w fun e w' => e = .returned (.bool b) ∧ Below w.heap.size w w' := by
  by_cases h1 : x1.v
  · have H1 := Lib.hid h1
    by_cases h2 : conS x2 x1.lo
    · have H2 := Lib.hid h2
      have HB : Hid (decide (conS x2 x1.hi) = b) := Lib.hid (by
        rw [← hb, decide_eq_decide]
        constructor
        · exact fun h => ⟨h1, h.1, h2.2.1, h.2.2⟩
        · exact fun h => ⟨h.2.1, ⟨h.2.2.1.1, h1.2.1, Rat.le_trans h.2.2.1.2.2 h1.2.2⟩, h.2.2.2⟩)
      clear h1 h2 hb
      go_enter Try.func48, Try.ntmps48
      go_upto_region 1 with fail
      have bw := Below.refl w.heap.size w
      have a1 := (ia_alloc ok1).1
      have bb := (ia_alloc ok1).2
      have sz1 := size_box w (.cells x1.cells 41)
      clear ok1
      generalize (w.alloc (.cells x1.cells 41)) = wA at a1 bb sz1 ⊢
      try replace ok1 := ok1.below bb
      try replace ok2 := ok2.below bb
      try replace a1 := a1.below bb
      replace bw := below_on bw bb bw.size
      clear bb
      have a2 := (ia_alloc ok2).1
      have bb := (ia_alloc ok2).2
      have sz2 := size_box wA (.cells x2.cells 41)
      rw [sz1] at a2 sz2
      clear ok2 sz1
      generalize (wA.alloc (.cells x2.cells 41)) = wm at a2 bb sz2 ⊢
      try replace ok1 := ok1.below bb
      try replace ok2 := ok2.below bb
      try replace a1 := a1.below bb
      try replace a2 := a2.below bb
      replace bw := below_on bw bb bw.size
      clear bb
      clear sz2
      have ci0 := a1.c0
      have ci1 := a1.c1
      have ci2 := a1.c2
      have ci3 := a1.c3
      have ci4 := a1.c4
      have ci5 := a1.c5
      go_wp2_with fail
      clear ci0 ci1 ci2 ci3 ci4 ci5
      refine (rivalid_any _ x1 true a1.ok f1 (decide_eq_true H1.out)).mono ?_
      rintro e wn ⟨rfl, bb⟩
      try replace a1 := a1.below bb
      try replace a2 := a2.below bb
      replace bw := below_on bw bb bw.size
      clear bb
      have ci0 := a1.c0
      have ci1 := a1.c1
      have ci2 := a1.c2
      have ci3 := a1.c3
      have ci4 := a1.c4
      have ci5 := a1.c5
      have cj0 := a2.c0
      have cj1 := a2.c1
      have cj2 := a2.c2
      have cj3 := a2.c3
      have cj4 := a2.c4
      have cj5 := a2.c5
      go_wp2_with fail
      clear ci0 ci1 ci2 ci3 ci4 ci5
      clear cj0 cj1 cj2 cj3 cj4 cj5
      refine (ricontains_any _ x2 x1.lo true a2.ok a1.ok.lo f2 f1.lo (decide_eq_true H2.out)).mono ?_
      rintro e wn ⟨rfl, bb⟩
      try replace a1 := a1.below bb
      try replace a2 := a2.below bb
      replace bw := below_on bw bb bw.size
      clear bb
      have ci0 := a1.c0
      have ci1 := a1.c1
      have ci2 := a1.c2
      have ci3 := a1.c3
      have ci4 := a1.c4
      have ci5 := a1.c5
      have cj0 := a2.c0
      have cj1 := a2.c1
      have cj2 := a2.c2
      have cj3 := a2.c3
      have cj4 := a2.c4
      have cj5 := a2.c5
      go_wp2_with fail
      clear ci0 ci1 ci2 ci3 ci4 ci5
      clear cj0 cj1 cj2 cj3 cj4 cj5
      refine (ricontains_any _ x2 x1.hi b a2.ok a1.ok.hi f2 f1.hi HB.out).mono ?_
      rintro e wn ⟨rfl, bb⟩
      try replace a1 := a1.below bb
      try replace a2 := a2.below bb
      replace bw := below_on bw bb bw.size
      clear bb
      go_wp2_with fail
      go_ret
      exact ⟨rfl, bw⟩
    · have H2 : Hid (¬ conS x2 x1.lo) := h2
      have HB : Hid (false = b) := Lib.hid (by
        rw [← hb, decide_eq_false]
        exact fun h => h2 ⟨h.2.1, h.2.2.1, h1.1, h.2.1.2.1, Rat.le_trans h1.2.2 h.2.2.2.2.2⟩)
      clear h1 h2 hb
      go_enter Try.func48, Try.ntmps48
      go_upto_region 1 with fail
      have bw := Below.refl w.heap.size w
      have a1 := (ia_alloc ok1).1
      have bb := (ia_alloc ok1).2
      have sz1 := size_box w (.cells x1.cells 41)
      clear ok1
      generalize (w.alloc (.cells x1.cells 41)) = wA at a1 bb sz1 ⊢
      try replace ok1 := ok1.below bb
      try replace ok2 := ok2.below bb
      try replace a1 := a1.below bb
      try replace a2 := a2.below bb
      replace bw := below_on bw bb bw.size
      clear bb
      have a2 := (ia_alloc ok2).1
      have bb := (ia_alloc ok2).2
      have sz2 := size_box wA (.cells x2.cells 41)
      rw [sz1] at a2 sz2
      clear ok2 sz1
      generalize (wA.alloc (.cells x2.cells 41)) = wm at a2 bb sz2 ⊢
      try replace ok1 := ok1.below bb
      try replace ok2 := ok2.below bb
      try replace a1 := a1.below bb
      try replace a2 := a2.below bb
      replace bw := below_on bw bb bw.size
      clear bb
      clear sz2
      have ci0 := a1.c0
      have ci1 := a1.c1
      have ci2 := a1.c2
      have ci3 := a1.c3
      have ci4 := a1.c4
      have ci5 := a1.c5
      go_wp2_with fail
      clear ci0 ci1 ci2 ci3 ci4 ci5
      refine (rivalid_any _ x1 true a1.ok f1 (decide_eq_true H1.out)).mono ?_
      rintro e wn ⟨rfl, bb⟩
      try replace a1 := a1.below bb
      try replace a2 := a2.below bb
      replace bw := below_on bw bb bw.size
      clear bb
      have ci0 := a1.c0
      have ci1 := a1.c1
      have ci2 := a1.c2
      have ci3 := a1.c3
      have ci4 := a1.c4
      have ci5 := a1.c5
      have cj0 := a2.c0
      have cj1 := a2.c1
      have cj2 := a2.c2
      have cj3 := a2.c3
      have cj4 := a2.c4
      have cj5 := a2.c5
      go_wp2_with fail
      clear ci0 ci1 ci2 ci3 ci4 ci5
      clear cj0 cj1 cj2 cj3 cj4 cj5
      refine (ricontains_any _ x2 x1.lo false a2.ok a1.ok.lo f2 f1.lo (decide_eq_false H2.out)).mono ?_
      rintro e wn ⟨rfl, bb⟩
      try replace a1 := a1.below bb
      try replace a2 := a2.below bb
      replace bw := below_on bw bb bw.size
      clear bb
      go_wp2_with fail
      go_ret
      exact ⟨ret_bool HB.out, bw⟩
  · have H1 : Hid (¬ x1.v) := h1
    have HB : Hid (false = b) := Lib.hid (by rw [← hb, decide_eq_false]; exact fun h => h1 h.1)
    clear h1 hb
    go_enter Try.func48, Try.ntmps48
    go_upto_region 1 with fail
    have bw := Below.refl w.heap.size w
    have a1 := (ia_alloc ok1).1
    have bb := (ia_alloc ok1).2
    have sz1 := size_box w (.cells x1.cells 41)
    clear ok1
    generalize (w.alloc (.cells x1.cells 41)) = wA at a1 bb sz1 ⊢
    try replace ok1 := ok1.below bb
    try replace ok2 := ok2.below bb
    try replace a1 := a1.below bb
    try replace a2 := a2.below bb
    replace bw := below_on bw bb bw.size
    clear bb
    have a2 := (ia_alloc ok2).1
    have bb := (ia_alloc ok2).2
    have sz2 := size_box wA (.cells x2.cells 41)
    rw [sz1] at a2 sz2
    clear ok2 sz1
    generalize (wA.alloc (.cells x2.cells 41)) = wm at a2 bb sz2 ⊢
    try replace ok1 := ok1.below bb
    try replace ok2 := ok2.below bb
    try replace a1 := a1.below bb
    try replace a2 := a2.below bb
    replace bw := below_on bw bb bw.size
    clear bb
    clear sz2
    have ci0 := a1.c0
    have ci1 := a1.c1
    have ci2 := a1.c2
    have ci3 := a1.c3
    have ci4 := a1.c4
    have ci5 := a1.c5
    go_wp2_with fail
    clear ci0 ci1 ci2 ci3 ci4 ci5
    refine (rivalid_any _ x1 false a1.ok f1 (decide_eq_false H1.out)).mono ?_
    rintro e wn ⟨rfl, bb⟩
    try replace a1 := a1.below bb
    try replace a2 := a2.below bb
    replace bw := below_on bw bb bw.size
    clear bb
    go_wp2_with fail
    go_ret
    exact ⟨ret_bool HB.out, bw⟩
set_option maxHeartbeats 1600000 in
set_option maxRecDepth 100000 in
theorem ripair_any (w : World) (x1 x2 : Fx) (S T : FqS) (E F : Int) (ok1 : x1.ok w) (ok2 : x2.ok w) (h1 : x1.is S) (h2 : x2.is T) (hE : S.2.2.2 = E) (hF : T.2.2.2 = F) :
    Calls Try.prog 83 #[x1.val, .int .i64 E, x2.val, .int .i64 F] w (IvlRes w (bothS S T)) := by
  have H1 := Lib.hid h1
  have H2 := Lib.hid h2
  have hsp : bothS S T = if E ≠ 0 then errI E else if F ≠ 0 then errI F else (S, T, 0) := by rw [bothS, hE, hF]
  have HSP := Lib.hid hsp
  clear h1 h2 hE hF hsp
  by_cases z1 : E = 0
  · subst z1
    by_cases z2 : F = 0
    · subst z2
      skip
      go_enter Try.func83, Try.ntmps83
      go_upto_region 1 with fail
      have bw := Below.refl w.heap.size w
      have a1 := (fa_alloc ok1).1
      have bb := (fa_alloc ok1).2
      have sz1 := size_box w (.cells x1.cells 25)
      clear ok1
      generalize (w.alloc (.cells x1.cells 25)) = wA at a1 bb sz1 ⊢
      try replace ok1 := ok1.below bb
      try replace ok2 := ok2.below bb
      try replace a1 := a1.below bb
      replace bw := below_on bw bb bw.size
      clear bb
      have a2 := (fa_alloc ok2).1
      have bb := (fa_alloc ok2).2
      have sz2 := size_box wA (.cells x2.cells 25)
      rw [sz1] at a2 sz2
      clear ok2 sz1
      generalize (wA.alloc (.cells x2.cells 25)) = wB at a2 bb sz2 ⊢
      try replace ok1 := ok1.below bb
      try replace ok2 := ok2.below bb
      try replace a1 := a1.below bb
      try replace a2 := a2.below bb
      replace bw := below_on bw bb bw.size
      clear bb
      have br := (zr_alloc wB).1
      have bb := (zr_alloc wB).2
      rw [sz2] at br
      clear sz2
      generalize (wB.alloc (.cells zcells 41)) = wm at br bb ⊢
      try replace a1 := a1.below bb
      try replace a2 := a2.below bb
      replace bw := below_on bw bb bw.size
      clear bb
      have ci0 := a1.c0
      have ci1 := a1.c1
      have ci2 := a1.c2
      have cj0 := a2.c0
      have cj1 := a2.c1
      have cj2 := a2.c2
      have r0 := br.cell 0
      have r1 := br.cell 1
      have r2 := br.cell 2
      have r3 := br.cell 3
      have r4 := br.cell 4
      have r5 := br.cell 5
      have rf0 := br.unf 0
      have rf1 := br.unf 1
      have rf2 := br.unf 2
      have rf3 := br.unf 3
      have rf4 := br.unf 4
      have rf5 := br.unf 5
      simp only [List.getElem?_toArray, List.getElem?_cons_succ, List.getElem?_cons_zero] at r0 r1 r2 r3 r4 r5
      go_wp2_with fail
      refine bodyPost_ret (v := .tuple #[(⟨x1, x2⟩ : Ix).val, .int .i64 0]) (by simp [results, Try.results83, go_sem, r0, r1, r2, r3, r4, r5]) rfl ?_
      rw [HSP.out]
      exact ⟨⟨x1, x2⟩, rfl, H1.out, H2.out, ⟨set6_ok a1.ok br noInt_z, set6_ok a2.ok br noInt_z⟩, set6_below bw (by omega)⟩
    · skip
      go_enter Try.func83, Try.ntmps83
      go_upto_region 1 with fail
      have bw := Below.refl w.heap.size w
      have a1 := (fa_alloc ok1).1
      have bb := (fa_alloc ok1).2
      have sz1 := size_box w (.cells x1.cells 25)
      clear ok1
      generalize (w.alloc (.cells x1.cells 25)) = wA at a1 bb sz1 ⊢
      try replace ok1 := ok1.below bb
      try replace ok2 := ok2.below bb
      try replace br := br.below bb
      try replace a1 := a1.below bb
      try replace a2 := a2.below bb
      replace bw := below_on bw bb bw.size
      clear bb
      have a2 := (fa_alloc ok2).1
      have bb := (fa_alloc ok2).2
      have sz2 := size_box wA (.cells x2.cells 25)
      rw [sz1] at a2 sz2
      clear ok2 sz1
      generalize (wA.alloc (.cells x2.cells 25)) = wB at a2 bb sz2 ⊢
      try replace ok1 := ok1.below bb
      try replace ok2 := ok2.below bb
      try replace br := br.below bb
      try replace a1 := a1.below bb
      try replace a2 := a2.below bb
      replace bw := below_on bw bb bw.size
      clear bb
      have br := (zr_alloc wB).1
      have bb := (zr_alloc wB).2
      rw [sz2] at br
      clear sz2
      generalize (wB.alloc (.cells zcells 41)) = wm at br bb ⊢
      try replace a1 := a1.below bb
      try replace a2 := a2.below bb
      replace bw := below_on bw bb bw.size
      clear bb
      have r0 := br.cell 0
      have r1 := br.cell 1
      have r2 := br.cell 2
      have r3 := br.cell 3
      have r4 := br.cell 4
      have r5 := br.cell 5
      have rf0 := br.unf 0
      have rf1 := br.unf 1
      have rf2 := br.unf 2
      have rf3 := br.unf 3
      have rf4 := br.unf 4
      have rf5 := br.unf 5
      simp only [List.getElem?_toArray, List.getElem?_cons_succ, List.getElem?_cons_zero] at r0 r1 r2 r3 r4 r5
      go_wp2_with fail
      refine bodyPost_ret (v := .tuple #[(Ix.nil : Ix).val, .int .i64 F]) (by simp [results, Try.results83, go_sem, r0, r1, r2, r3, r4, r5]) rfl ?_
      rw [HSP.out]
      simp only [ne_eq, not_true_eq_false, if_false, if_pos z2]
      exact ⟨Ix.nil, rfl, ⟨rfl, rfl, rfl⟩, ⟨rfl, rfl, rfl⟩, Ix.nil_ok _, set6_below bw (by omega)⟩
  · skip
    go_enter Try.func83, Try.ntmps83
    go_upto_region 1 with fail
    have bw := Below.refl w.heap.size w
    have a1 := (fa_alloc ok1).1
    have bb := (fa_alloc ok1).2
    have sz1 := size_box w (.cells x1.cells 25)
    clear ok1
    generalize (w.alloc (.cells x1.cells 25)) = wA at a1 bb sz1 ⊢
    try replace ok1 := ok1.below bb
    try replace ok2 := ok2.below bb
    try replace br := br.below bb
    try replace a1 := a1.below bb
    try replace a2 := a2.below bb
    replace bw := below_on bw bb bw.size
    clear bb
    have a2 := (fa_alloc ok2).1
    have bb := (fa_alloc ok2).2
    have sz2 := size_box wA (.cells x2.cells 25)
    rw [sz1] at a2 sz2
    clear ok2 sz1
    generalize (wA.alloc (.cells x2.cells 25)) = wB at a2 bb sz2 ⊢
    try replace ok1 := ok1.below bb
    try replace ok2 := ok2.below bb
    try replace br := br.below bb
    try replace a1 := a1.below bb
    try replace a2 := a2.below bb
    replace bw := below_on bw bb bw.size
    clear bb
    have br := (zr_alloc wB).1
    have bb := (zr_alloc wB).2
    rw [sz2] at br
    clear sz2
    generalize (wB.alloc (.cells zcells 41)) = wm at br bb ⊢
    try replace a1 := a1.below bb
    try replace a2 := a2.below bb
    replace bw := below_on bw bb bw.size
    clear bb
    have r0 := br.cell 0
    have r1 := br.cell 1
    have r2 := br.cell 2
    have r3 := br.cell 3
    have r4 := br.cell 4
    have r5 := br.cell 5
    have rf0 := br.unf 0
    have rf1 := br.unf 1
    have rf2 := br.unf 2
    have rf3 := br.unf 3
    have rf4 := br.unf 4
    have rf5 := br.unf 5
    simp only [List.getElem?_toArray, List.getElem?_cons_succ, List.getElem?_cons_zero] at r0 r1 r2 r3 r4 r5
    go_wp2_with fail
    refine bodyPost_ret (v := .tuple #[(Ix.nil : Ix).val, .int .i64 E]) (by simp [results, Try.results83, go_sem, r0, r1, r2, r3, r4, r5]) rfl ?_
    rw [HSP.out]
    simp only [ne_eq, if_pos z1]
    exact ⟨Ix.nil, rfl, ⟨rfl, rfl, rfl⟩, ⟨rfl, rfl, rfl⟩, Ix.nil_ok _, set6_below bw (by omega)⟩
end Go.Proofs.Ytlcolmifmhdboaa
