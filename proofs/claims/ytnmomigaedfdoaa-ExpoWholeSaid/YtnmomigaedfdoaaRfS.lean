/- The reference of package interval: Point, Contains, Inside, pair, Outward, Add, Sub. The reference of package interval: Outward, Add, Sub, Width; interval.Width. The walk of drydockref02.Sum. -/
import Derived.Test.YtnmomigaedfdoaaRfI
import Derived.Test.YtnmomigaedfdoaaIvF
import Derived.Test.YtnmomigaedfdoaaRfD
namespace Go.Proofs.Ytnmomigaedfdoaa
set_option maxRecDepth 100000
open Go.RowKit

set_option maxHeartbeats 1600000 in
theorem ricontains_any (w : World) (x1 : Ix) (x2 : Fx) (b : Bool) (ok1 : x1.ok w) (ok2 : x2.ok w) (f1 : x1.few) (f2 : x2.few) (hb : decide (conS x1 x2) = b) :
    Calls Try.prog 36 #[x1.val, x2.val] w fun e w' => e = .returned (.bool b) ∧ Below w.heap.size w w' := by
  by_cases h1 : x1.v
  · have H1 := Lib.hid h1
    have V1 := Lib.hid h1.1
    have V3 := Lib.hid h1.2.1
    by_cases h2 : x2.v
    · have V2 := Lib.hid h2
      obtain ⟨z, hz⟩ : ∃ z, cmpQ x1.lo.q x2.q = z := ⟨_, rfl⟩
      obtain ⟨y, hy⟩ : ∃ z, cmpQ x2.q x1.hi.q = z := ⟨_, rfl⟩
      have HZ := Lib.hid hz
      have HY := Lib.hid hy
      have hcz := cmpQ_le x1.lo.q x2.q
      have hcy := cmpQ_le x2.q x1.hi.q
      rw [hz] at hcz
      rw [hy] at hcy
      by_cases h3 : x1.lo.q ≤ x2.q
      · have hd : decide (z ≤ 0) = true := hcz.trans (decide_eq_true h3)
        have HB : Hid (decide (y ≤ 0) = b) := Lib.hid (by
          rw [← hb, hcy, decide_eq_decide, conS, leF, leF]
          exact ⟨fun h => ⟨h1, ⟨h1.1, h2, h3⟩, ⟨h2, h1.2.1, h⟩⟩, fun h => h.2.2.2.2⟩)
        clear h1 h2 h3 hb hz hy hcz hcy
        go_enter Try.func36, Try.ntmps36
        go_upto_region 1 with fail
        have bw := Below.refl w.heap.size w
        have a1 := (ia_alloc ok1).1
        have bb := (ia_alloc ok1).2
        have sz1 := size_box w (.cells x1.cells 35)
        clear ok1
        generalize (w.alloc (.cells x1.cells 35)) = wA at a1 bb sz1 ⊢
        try replace ok1 := ok1.below bb
        try replace ok2 := ok2.below bb
        try replace a1 := a1.below bb
        replace bw := below_on bw bb bw.size
        clear bb
        have a2 := (fa_alloc ok2).1
        have bb := (fa_alloc ok2).2
        have sz2 := size_box wA (.cells x2.cells 26)
        rw [sz1] at a2 sz2
        clear ok2 sz1
        generalize (wA.alloc (.cells x2.cells 26)) = wm at a2 bb sz2 ⊢
        try replace ok1 := ok1.below bb
        try replace ok2 := ok2.below bb
        try replace a1 := a1.below bb
        try replace a2 := a2.below bb
        replace bw := below_on bw bb bw.size
        clear bb
        clear sz2
        have ci0 := a1.c0
        have ci1 := a1.c1
        have ci2 := a1.c2
        have ci3 := a1.c3
        have ci4 := a1.c4
        have ci5 := a1.c5
        go_wp2_with fail
        clear ci0 ci1 ci2 ci3 ci4 ci5
        refine (rivalid_any _ x1 true a1.ok f1 (decide_eq_true H1.out)).mono ?_
        rintro e wn ⟨rfl, bb⟩
        try replace a1 := a1.below bb
        try replace a2 := a2.below bb
        replace bw := below_on bw bb bw.size
        clear bb
        have ci0 := a2.c0
        have ci1 := a2.c1
        have ci2 := a2.c2
        go_wp2_with fail
        clear ci0 ci1 ci2
        refine (rfvalid_any _ x2 true a2.ok f2.l f2.m (decide_eq_true V2.out)).mono ?_
        rintro e wn ⟨rfl, bb⟩
        try replace a1 := a1.below bb
        try replace a2 := a2.below bb
        replace bw := below_on bw bb bw.size
        clear bb
        have ci0 := a1.c0
        have ci1 := a1.c1
        have ci2 := a1.c2
        have ci3 := a1.c3
        have ci4 := a1.c4
        have ci5 := a1.c5
        have cj0 := a2.c0
        have cj1 := a2.c1
        have cj2 := a2.c2
        go_wp2_with fail
        clear ci0 ci1 ci2 ci3 ci4 ci5
        clear cj0 cj1 cj2
        refine (rforder_any _ x1.lo x2 z a1.ok.lo a2.ok V1.out V2.out f1.lo.l f1.lo.m f2.l f2.m HZ.out).mono ?_
        rintro e wn ⟨rfl, bb⟩
        try replace a1 := a1.below bb
        try replace a2 := a2.below bb
        replace bw := below_on bw bb bw.size
        clear bb
        have ci0 := a1.c0
        have ci1 := a1.c1
        have ci2 := a1.c2
        have ci3 := a1.c3
        have ci4 := a1.c4
        have ci5 := a1.c5
        have cj0 := a2.c0
        have cj1 := a2.c1
        have cj2 := a2.c2
        go_wp2_with fail
        clear ci0 ci1 ci2 ci3 ci4 ci5
        clear cj0 cj1 cj2
        refine (rforder_any _ x2 x1.hi y a2.ok a1.ok.hi V2.out V3.out f2.l f2.m f1.hi.l f1.hi.m HY.out).mono ?_
        rintro e wn ⟨rfl, bb⟩
        try replace a1 := a1.below bb
        try replace a2 := a2.below bb
        replace bw := below_on bw bb bw.size
        clear bb
        go_wp2_with fail
        go_ret
        exact ⟨ret_bool HB.out, bw⟩
      · have hd : decide (z ≤ 0) = false := hcz.trans (decide_eq_false h3)
        have HB : Hid (false = b) := Lib.hid (by rw [← hb, decide_eq_false]; exact fun h => h3 h.2.1.2.2)
        clear h1 h2 h3 hb hz hy hcz hcy
        go_enter Try.func36, Try.ntmps36
        go_upto_region 1 with fail
        have bw := Below.refl w.heap.size w
        have a1 := (ia_alloc ok1).1
        have bb := (ia_alloc ok1).2
        have sz1 := size_box w (.cells x1.cells 35)
        clear ok1
        generalize (w.alloc (.cells x1.cells 35)) = wA at a1 bb sz1 ⊢
        try replace ok1 := ok1.below bb
        try replace ok2 := ok2.below bb
        try replace a1 := a1.below bb
        try replace a2 := a2.below bb
        replace bw := below_on bw bb bw.size
        clear bb
        have a2 := (fa_alloc ok2).1
        have bb := (fa_alloc ok2).2
        have sz2 := size_box wA (.cells x2.cells 26)
        rw [sz1] at a2 sz2
        clear ok2 sz1
        generalize (wA.alloc (.cells x2.cells 26)) = wm at a2 bb sz2 ⊢
        try replace ok1 := ok1.below bb
        try replace ok2 := ok2.below bb
        try replace a1 := a1.below bb
        try replace a2 := a2.below bb
        replace bw := below_on bw bb bw.size
        clear bb
        clear sz2
        have ci0 := a1.c0
        have ci1 := a1.c1
        have ci2 := a1.c2
        have ci3 := a1.c3
        have ci4 := a1.c4
        have ci5 := a1.c5
        go_wp2_with fail
        clear ci0 ci1 ci2 ci3 ci4 ci5
        refine (rivalid_any _ x1 true a1.ok f1 (decide_eq_true H1.out)).mono ?_
        rintro e wn ⟨rfl, bb⟩
        try replace a1 := a1.below bb
        try replace a2 := a2.below bb
        replace bw := below_on bw bb bw.size
        clear bb
        have ci0 := a2.c0
        have ci1 := a2.c1
        have ci2 := a2.c2
        go_wp2_with fail
        clear ci0 ci1 ci2
        refine (rfvalid_any _ x2 true a2.ok f2.l f2.m (decide_eq_true V2.out)).mono ?_
        rintro e wn ⟨rfl, bb⟩
        try replace a1 := a1.below bb
        try replace a2 := a2.below bb
        replace bw := below_on bw bb bw.size
        clear bb
        have ci0 := a1.c0
        have ci1 := a1.c1
        have ci2 := a1.c2
        have ci3 := a1.c3
        have ci4 := a1.c4
        have ci5 := a1.c5
        have cj0 := a2.c0
        have cj1 := a2.c1
        have cj2 := a2.c2
        go_wp2_with fail
        clear ci0 ci1 ci2 ci3 ci4 ci5
        clear cj0 cj1 cj2
        refine (rforder_any _ x1.lo x2 z a1.ok.lo a2.ok V1.out V2.out f1.lo.l f1.lo.m f2.l f2.m HZ.out).mono ?_
        rintro e wn ⟨rfl, bb⟩
        try replace a1 := a1.below bb
        try replace a2 := a2.below bb
        replace bw := below_on bw bb bw.size
        clear bb
        go_wp2_with fail
        go_ret
        exact ⟨ret_bool HB.out, bw⟩
    · have V2 : Hid (¬ x2.v) := h2
      have HB : Hid (false = b) := Lib.hid (by rw [← hb, decide_eq_false]; exact fun h => h2 h.2.1.2.1)
      clear h1 h2 hb
      go_enter Try.func36, Try.ntmps36
      go_upto_region 1 with fail
      have bw := Below.refl w.heap.size w
      have a1 := (ia_alloc ok1).1
      have bb := (ia_alloc ok1).2
      have sz1 := size_box w (.cells x1.cells 35)
      clear ok1
      generalize (w.alloc (.cells x1.cells 35)) = wA at a1 bb sz1 ⊢
      try replace ok1 := ok1.below bb
      try replace ok2 := ok2.below bb
      try replace a1 := a1.below bb
      try replace a2 := a2.below bb
      replace bw := below_on bw bb bw.size
      clear bb
      have a2 := (fa_alloc ok2).1
      have bb := (fa_alloc ok2).2
      have sz2 := size_box wA (.cells x2.cells 26)
      rw [sz1] at a2 sz2
      clear ok2 sz1
      generalize (wA.alloc (.cells x2.cells 26)) = wm at a2 bb sz2 ⊢
      try replace ok1 := ok1.below bb
      try replace ok2 := ok2.below bb
      try replace a1 := a1.below bb
      try replace a2 := a2.below bb
      replace bw := below_on bw bb bw.size
      clear bb
      clear sz2
      have ci0 := a1.c0
      have ci1 := a1.c1
      have ci2 := a1.c2
      have ci3 := a1.c3
      have ci4 := a1.c4
      have ci5 := a1.c5
      go_wp2_with fail
      clear ci0 ci1 ci2 ci3 ci4 ci5
      refine (rivalid_any _ x1 true a1.ok f1 (decide_eq_true H1.out)).mono ?_
      rintro e wn ⟨rfl, bb⟩
      try replace a1 := a1.below bb
      try replace a2 := a2.below bb
      replace bw := below_on bw bb bw.size
      clear bb
      have ci0 := a2.c0
      have ci1 := a2.c1
      have ci2 := a2.c2
      go_wp2_with fail
      clear ci0 ci1 ci2
      refine (rfvalid_any _ x2 false a2.ok f2.l f2.m (decide_eq_false V2.out)).mono ?_
      rintro e wn ⟨rfl, bb⟩
      try replace a1 := a1.below bb
      try replace a2 := a2.below bb
      replace bw := below_on bw bb bw.size
      clear bb
      go_wp2_with fail
      go_ret
      exact ⟨ret_bool HB.out, bw⟩
  · have H1 : Hid (¬ x1.v) := h1
    have HB : Hid (false = b) := Lib.hid (by rw [← hb, decide_eq_false]; exact fun h => h1 h.1)
    clear h1 hb
    go_enter Try.func36, Try.ntmps36
    go_upto_region 1 with fail
    have bw := Below.refl w.heap.size w
    have a1 := (ia_alloc ok1).1
    have bb := (ia_alloc ok1).2
    have sz1 := size_box w (.cells x1.cells 35)
    clear ok1
    generalize (w.alloc (.cells x1.cells 35)) = wA at a1 bb sz1 ⊢
    try replace ok1 := ok1.below bb
    try replace ok2 := ok2.below bb
    try replace a1 := a1.below bb
    try replace a2 := a2.below bb
    replace bw := below_on bw bb bw.size
    clear bb
    have a2 := (fa_alloc ok2).1
    have bb := (fa_alloc ok2).2
    have sz2 := size_box wA (.cells x2.cells 26)
    rw [sz1] at a2 sz2
    clear ok2 sz1
    generalize (wA.alloc (.cells x2.cells 26)) = wm at a2 bb sz2 ⊢
    try replace ok1 := ok1.below bb
    try replace ok2 := ok2.below bb
    try replace a1 := a1.below bb
    try replace a2 := a2.below bb
    replace bw := below_on bw bb bw.size
    clear bb
    clear sz2
    have ci0 := a1.c0
    have ci1 := a1.c1
    have ci2 := a1.c2
    have ci3 := a1.c3
    have ci4 := a1.c4
    have ci5 := a1.c5
    go_wp2_with fail
    clear ci0 ci1 ci2 ci3 ci4 ci5
    refine (rivalid_any _ x1 false a1.ok f1 (decide_eq_false H1.out)).mono ?_
    rintro e wn ⟨rfl, bb⟩
    try replace a1 := a1.below bb
    try replace a2 := a2.below bb
    replace bw := below_on bw bb bw.size
    clear bb
    go_wp2_with fail
    go_ret
    exact ⟨ret_bool HB.out, bw⟩
set_option maxHeartbeats 1600000 in
theorem riinside_any (w : World) (x1 x2 : Ix) (b : Bool) (ok1 : x1.ok w) (ok2 : x2.ok w) (f1 : x1.few) (f2 : x2.few) (hb : decide (insS x1 x2) = b) :
    Calls Try.prog 32 #[x1.val, x2.val] w fun e w' => e = .returned (.bool b) ∧ Below w.heap.size w w' := by
  by_cases h1 : x1.v
  · have H1 := Lib.hid h1
    by_cases h2 : conS x2 x1.lo
    · have H2 := Lib.hid h2
      have HB : Hid (decide (conS x2 x1.hi) = b) := Lib.hid (by
        rw [← hb, decide_eq_decide]
        constructor
        · exact fun h => ⟨h1, h.1, h2.2.1, h.2.2⟩
        · exact fun h => ⟨h.2.1, ⟨h.2.2.1.1, h1.2.1, Rat.le_trans h.2.2.1.2.2 h1.2.2⟩, h.2.2.2⟩)
      clear h1 h2 hb
      go_enter Try.func32, Try.ntmps32
      go_upto_region 1 with fail
      have bw := Below.refl w.heap.size w
      have a1 := (ia_alloc ok1).1
      have bb := (ia_alloc ok1).2
      have sz1 := size_box w (.cells x1.cells 35)
      clear ok1
      generalize (w.alloc (.cells x1.cells 35)) = wA at a1 bb sz1 ⊢
      try replace ok1 := ok1.below bb
      try replace ok2 := ok2.below bb
      try replace a1 := a1.below bb
      replace bw := below_on bw bb bw.size
      clear bb
      have a2 := (ia_alloc ok2).1
      have bb := (ia_alloc ok2).2
      have sz2 := size_box wA (.cells x2.cells 35)
      rw [sz1] at a2 sz2
      clear ok2 sz1
      generalize (wA.alloc (.cells x2.cells 35)) = wm at a2 bb sz2 ⊢
      try replace ok1 := ok1.below bb
      try replace ok2 := ok2.below bb
      try replace a1 := a1.below bb
      try replace a2 := a2.below bb
      replace bw := below_on bw bb bw.size
      clear bb
      clear sz2
      have ci0 := a1.c0
      have ci1 := a1.c1
      have ci2 := a1.c2
      have ci3 := a1.c3
      have ci4 := a1.c4
      have ci5 := a1.c5
      go_wp2_with fail
      clear ci0 ci1 ci2 ci3 ci4 ci5
      refine (rivalid_any _ x1 true a1.ok f1 (decide_eq_true H1.out)).mono ?_
      rintro e wn ⟨rfl, bb⟩
      try replace a1 := a1.below bb
      try replace a2 := a2.below bb
      replace bw := below_on bw bb bw.size
      clear bb
      have ci0 := a1.c0
      have ci1 := a1.c1
      have ci2 := a1.c2
      have ci3 := a1.c3
      have ci4 := a1.c4
      have ci5 := a1.c5
      have cj0 := a2.c0
      have cj1 := a2.c1
      have cj2 := a2.c2
      have cj3 := a2.c3
      have cj4 := a2.c4
      have cj5 := a2.c5
      go_wp2_with fail
      clear ci0 ci1 ci2 ci3 ci4 ci5
      clear cj0 cj1 cj2 cj3 cj4 cj5
      refine (ricontains_any _ x2 x1.lo true a2.ok a1.ok.lo f2 f1.lo (decide_eq_true H2.out)).mono ?_
      rintro e wn ⟨rfl, bb⟩
      try replace a1 := a1.below bb
      try replace a2 := a2.below bb
      replace bw := below_on bw bb bw.size
      clear bb
      have ci0 := a1.c0
      have ci1 := a1.c1
      have ci2 := a1.c2
      have ci3 := a1.c3
      have ci4 := a1.c4
      have ci5 := a1.c5
      have cj0 := a2.c0
      have cj1 := a2.c1
      have cj2 := a2.c2
      have cj3 := a2.c3
      have cj4 := a2.c4
      have cj5 := a2.c5
      go_wp2_with fail
      clear ci0 ci1 ci2 ci3 ci4 ci5
      clear cj0 cj1 cj2 cj3 cj4 cj5
      refine (ricontains_any _ x2 x1.hi b a2.ok a1.ok.hi f2 f1.hi HB.out).mono ?_
      rintro e wn ⟨rfl, bb⟩
      try replace a1 := a1.below bb
      try replace a2 := a2.below bb
      replace bw := below_on bw bb bw.size
      clear bb
      go_wp2_with fail
      go_ret
      exact ⟨rfl, bw⟩
    · have H2 : Hid (¬ conS x2 x1.lo) := h2
      have HB : Hid (false = b) := Lib.hid (by
        rw [← hb, decide_eq_false]
        exact fun h => h2 ⟨h.2.1, h.2.2.1, h1.1, h.2.1.2.1, Rat.le_trans h1.2.2 h.2.2.2.2.2⟩)
      clear h1 h2 hb
      go_enter Try.func32, Try.ntmps32
      go_upto_region 1 with fail
      have bw := Below.refl w.heap.size w
      have a1 := (ia_alloc ok1).1
      have bb := (ia_alloc ok1).2
      have sz1 := size_box w (.cells x1.cells 35)
      clear ok1
      generalize (w.alloc (.cells x1.cells 35)) = wA at a1 bb sz1 ⊢
      try replace ok1 := ok1.below bb
      try replace ok2 := ok2.below bb
      try replace a1 := a1.below bb
      try replace a2 := a2.below bb
      replace bw := below_on bw bb bw.size
      clear bb
      have a2 := (ia_alloc ok2).1
      have bb := (ia_alloc ok2).2
      have sz2 := size_box wA (.cells x2.cells 35)
      rw [sz1] at a2 sz2
      clear ok2 sz1
      generalize (wA.alloc (.cells x2.cells 35)) = wm at a2 bb sz2 ⊢
      try replace ok1 := ok1.below bb
      try replace ok2 := ok2.below bb
      try replace a1 := a1.below bb
      try replace a2 := a2.below bb
      replace bw := below_on bw bb bw.size
      clear bb
      clear sz2
      have ci0 := a1.c0
      have ci1 := a1.c1
      have ci2 := a1.c2
      have ci3 := a1.c3
      have ci4 := a1.c4
      have ci5 := a1.c5
      go_wp2_with fail
      clear ci0 ci1 ci2 ci3 ci4 ci5
      refine (rivalid_any _ x1 true a1.ok f1 (decide_eq_true H1.out)).mono ?_
      rintro e wn ⟨rfl, bb⟩
      try replace a1 := a1.below bb
      try replace a2 := a2.below bb
      replace bw := below_on bw bb bw.size
      clear bb
      have ci0 := a1.c0
      have ci1 := a1.c1
      have ci2 := a1.c2
      have ci3 := a1.c3
      have ci4 := a1.c4
      have ci5 := a1.c5
      have cj0 := a2.c0
      have cj1 := a2.c1
      have cj2 := a2.c2
      have cj3 := a2.c3
      have cj4 := a2.c4
      have cj5 := a2.c5
      go_wp2_with fail
      clear ci0 ci1 ci2 ci3 ci4 ci5
      clear cj0 cj1 cj2 cj3 cj4 cj5
      refine (ricontains_any _ x2 x1.lo false a2.ok a1.ok.lo f2 f1.lo (decide_eq_false H2.out)).mono ?_
      rintro e wn ⟨rfl, bb⟩
      try replace a1 := a1.below bb
      try replace a2 := a2.below bb
      replace bw := below_on bw bb bw.size
      clear bb
      go_wp2_with fail
      go_ret
      exact ⟨ret_bool HB.out, bw⟩
  · have H1 : Hid (¬ x1.v) := h1
    have HB : Hid (false = b) := Lib.hid (by rw [← hb, decide_eq_false]; exact fun h => h1 h.1)
    clear h1 hb
    go_enter Try.func32, Try.ntmps32
    go_upto_region 1 with fail
    have bw := Below.refl w.heap.size w
    have a1 := (ia_alloc ok1).1
    have bb := (ia_alloc ok1).2
    have sz1 := size_box w (.cells x1.cells 35)
    clear ok1
    generalize (w.alloc (.cells x1.cells 35)) = wA at a1 bb sz1 ⊢
    try replace ok1 := ok1.below bb
    try replace ok2 := ok2.below bb
    try replace a1 := a1.below bb
    try replace a2 := a2.below bb
    replace bw := below_on bw bb bw.size
    clear bb
    have a2 := (ia_alloc ok2).1
    have bb := (ia_alloc ok2).2
    have sz2 := size_box wA (.cells x2.cells 35)
    rw [sz1] at a2 sz2
    clear ok2 sz1
    generalize (wA.alloc (.cells x2.cells 35)) = wm at a2 bb sz2 ⊢
    try replace ok1 := ok1.below bb
    try replace ok2 := ok2.below bb
    try replace a1 := a1.below bb
    try replace a2 := a2.below bb
    replace bw := below_on bw bb bw.size
    clear bb
    clear sz2
    have ci0 := a1.c0
    have ci1 := a1.c1
    have ci2 := a1.c2
    have ci3 := a1.c3
    have ci4 := a1.c4
    have ci5 := a1.c5
    go_wp2_with fail
    clear ci0 ci1 ci2 ci3 ci4 ci5
    refine (rivalid_any _ x1 false a1.ok f1 (decide_eq_false H1.out)).mono ?_
    rintro e wn ⟨rfl, bb⟩
    try replace a1 := a1.below bb
    try replace a2 := a2.below bb
    replace bw := below_on bw bb bw.size
    clear bb
    go_wp2_with fail
    go_ret
    exact ⟨ret_bool HB.out, bw⟩
set_option maxHeartbeats 1600000 in
theorem ripair_any (w : World) (x1 x2 : Fx) (S T : FqS) (E F : Int) (ok1 : x1.ok w) (ok2 : x2.ok w) (h1 : x1.is S) (h2 : x2.is T) (hE : S.2.2.2 = E) (hF : T.2.2.2 = F) :
    Calls Try.prog 61 #[x1.val, .int .i64 E, x2.val, .int .i64 F] w (IvlRes w (bothS S T)) := by
  have H1 := Lib.hid h1
  have H2 := Lib.hid h2
  have hsp : bothS S T = if E ≠ 0 then errI E else if F ≠ 0 then errI F else (S, T, 0) := by rw [bothS, hE, hF]
  have HSP := Lib.hid hsp
  clear h1 h2 hE hF hsp
  by_cases z1 : E = 0
  · subst z1
    by_cases z2 : F = 0
    · subst z2
      skip
      go_enter Try.func61, Try.ntmps61
      go_upto_region 1 with fail
      have bw := Below.refl w.heap.size w
      have a1 := (fa_alloc ok1).1
      have bb := (fa_alloc ok1).2
      have sz1 := size_box w (.cells x1.cells 26)
      clear ok1
      generalize (w.alloc (.cells x1.cells 26)) = wA at a1 bb sz1 ⊢
      try replace ok1 := ok1.below bb
      try replace ok2 := ok2.below bb
      try replace a1 := a1.below bb
      replace bw := below_on bw bb bw.size
      clear bb
      have a2 := (fa_alloc ok2).1
      have bb := (fa_alloc ok2).2
      have sz2 := size_box wA (.cells x2.cells 26)
      rw [sz1] at a2 sz2
      clear ok2 sz1
      generalize (wA.alloc (.cells x2.cells 26)) = wB at a2 bb sz2 ⊢
      try replace ok1 := ok1.below bb
      try replace ok2 := ok2.below bb
      try replace a1 := a1.below bb
      try replace a2 := a2.below bb
      replace bw := below_on bw bb bw.size
      clear bb
      have br := (zr_alloc wB).1
      have bb := (zr_alloc wB).2
      rw [sz2] at br
      clear sz2
      generalize (wB.alloc (.cells zcells 35)) = wm at br bb ⊢
      try replace a1 := a1.below bb
      try replace a2 := a2.below bb
      replace bw := below_on bw bb bw.size
      clear bb
      have ci0 := a1.c0
      have ci1 := a1.c1
      have ci2 := a1.c2
      have cj0 := a2.c0
      have cj1 := a2.c1
      have cj2 := a2.c2
      have r0 := br.cell 0
      have r1 := br.cell 1
      have r2 := br.cell 2
      have r3 := br.cell 3
      have r4 := br.cell 4
      have r5 := br.cell 5
      have rf0 := br.unf 0
      have rf1 := br.unf 1
      have rf2 := br.unf 2
      have rf3 := br.unf 3
      have rf4 := br.unf 4
      have rf5 := br.unf 5
      simp only [List.getElem?_toArray, List.getElem?_cons_succ, List.getElem?_cons_zero] at r0 r1 r2 r3 r4 r5
      go_wp2_with fail
      refine bodyPost_ret (v := .tuple #[(⟨x1, x2⟩ : Ix).val, .int .i64 0]) (by simp [results, Try.results61, go_sem, r0, r1, r2, r3, r4, r5]) rfl ?_
      rw [HSP.out]
      exact ⟨⟨x1, x2⟩, rfl, H1.out, H2.out, ⟨set6_ok a1.ok br noInt_z, set6_ok a2.ok br noInt_z⟩, set6_below bw (by omega)⟩
    · skip
      go_enter Try.func61, Try.ntmps61
      go_upto_region 1 with fail
      have bw := Below.refl w.heap.size w
      have a1 := (fa_alloc ok1).1
      have bb := (fa_alloc ok1).2
      have sz1 := size_box w (.cells x1.cells 26)
      clear ok1
      generalize (w.alloc (.cells x1.cells 26)) = wA at a1 bb sz1 ⊢
      try replace ok1 := ok1.below bb
      try replace ok2 := ok2.below bb
      try replace br := br.below bb
      try replace a1 := a1.below bb
      try replace a2 := a2.below bb
      replace bw := below_on bw bb bw.size
      clear bb
      have a2 := (fa_alloc ok2).1
      have bb := (fa_alloc ok2).2
      have sz2 := size_box wA (.cells x2.cells 26)
      rw [sz1] at a2 sz2
      clear ok2 sz1
      generalize (wA.alloc (.cells x2.cells 26)) = wB at a2 bb sz2 ⊢
      try replace ok1 := ok1.below bb
      try replace ok2 := ok2.below bb
      try replace br := br.below bb
      try replace a1 := a1.below bb
      try replace a2 := a2.below bb
      replace bw := below_on bw bb bw.size
      clear bb
      have br := (zr_alloc wB).1
      have bb := (zr_alloc wB).2
      rw [sz2] at br
      clear sz2
      generalize (wB.alloc (.cells zcells 35)) = wm at br bb ⊢
      try replace a1 := a1.below bb
      try replace a2 := a2.below bb
      replace bw := below_on bw bb bw.size
      clear bb
      have r0 := br.cell 0
      have r1 := br.cell 1
      have r2 := br.cell 2
      have r3 := br.cell 3
      have r4 := br.cell 4
      have r5 := br.cell 5
      have rf0 := br.unf 0
      have rf1 := br.unf 1
      have rf2 := br.unf 2
      have rf3 := br.unf 3
      have rf4 := br.unf 4
      have rf5 := br.unf 5
      simp only [List.getElem?_toArray, List.getElem?_cons_succ, List.getElem?_cons_zero] at r0 r1 r2 r3 r4 r5
      go_wp2_with fail
      refine bodyPost_ret (v := .tuple #[(Ix.nil : Ix).val, .int .i64 F]) (by simp [results, Try.results61, go_sem, r0, r1, r2, r3, r4, r5]) rfl ?_
      rw [HSP.out]
      simp only [ne_eq, not_true_eq_false, if_false, if_pos z2]
      exact ⟨Ix.nil, rfl, ⟨rfl, rfl, rfl⟩, ⟨rfl, rfl, rfl⟩, Ix.nil_ok _, set6_below bw (by omega)⟩
  · skip
    go_enter Try.func61, Try.ntmps61
    go_upto_region 1 with fail
    have bw := Below.refl w.heap.size w
    have a1 := (fa_alloc ok1).1
    have bb := (fa_alloc ok1).2
    have sz1 := size_box w (.cells x1.cells 26)
    clear ok1
    generalize (w.alloc (.cells x1.cells 26)) = wA at a1 bb sz1 ⊢
    try replace ok1 := ok1.below bb
    try replace ok2 := ok2.below bb
    try replace br := br.below bb
    try replace a1 := a1.below bb
    try replace a2 := a2.below bb
    replace bw := below_on bw bb bw.size
    clear bb
    have a2 := (fa_alloc ok2).1
    have bb := (fa_alloc ok2).2
    have sz2 := size_box wA (.cells x2.cells 26)
    rw [sz1] at a2 sz2
    clear ok2 sz1
    generalize (wA.alloc (.cells x2.cells 26)) = wB at a2 bb sz2 ⊢
    try replace ok1 := ok1.below bb
    try replace ok2 := ok2.below bb
    try replace br := br.below bb
    try replace a1 := a1.below bb
    try replace a2 := a2.below bb
    replace bw := below_on bw bb bw.size
    clear bb
    have br := (zr_alloc wB).1
    have bb := (zr_alloc wB).2
    rw [sz2] at br
    clear sz2
    generalize (wB.alloc (.cells zcells 35)) = wm at br bb ⊢
    try replace a1 := a1.below bb
    try replace a2 := a2.below bb
    replace bw := below_on bw bb bw.size
    clear bb
    have r0 := br.cell 0
    have r1 := br.cell 1
    have r2 := br.cell 2
    have r3 := br.cell 3
    have r4 := br.cell 4
    have r5 := br.cell 5
    have rf0 := br.unf 0
    have rf1 := br.unf 1
    have rf2 := br.unf 2
    have rf3 := br.unf 3
    have rf4 := br.unf 4
    have rf5 := br.unf 5
    simp only [List.getElem?_toArray, List.getElem?_cons_succ, List.getElem?_cons_zero] at r0 r1 r2 r3 r4 r5
    go_wp2_with fail
    refine bodyPost_ret (v := .tuple #[(Ix.nil : Ix).val, .int .i64 E]) (by simp [results, Try.results61, go_sem, r0, r1, r2, r3, r4, r5]) rfl ?_
    rw [HSP.out]
    simp only [ne_eq, if_pos z1]
    exact ⟨Ix.nil, rfl, ⟨rfl, rfl, rfl⟩, ⟨rfl, rfl, rfl⟩, Ix.nil_ok _, set6_below bw (by omega)⟩
end Go.Proofs.Ytnmomigaedfdoaa
namespace Go.Proofs.Ytnmomigaedfdoaa
set_option maxRecDepth 100000
open Go.RowKit

set_option maxHeartbeats 1600000 in
theorem riadd_any (w : World) (x1 x2 : Ix) (S : IvS) (ok1 : x1.ok w) (ok2 : x2.ok w) (f1 : x1.few) (f2 : x2.few) (hs : opS addF x1 x2 x2.lo x2.hi = S) :
    Calls Try.prog 35 #[x1.val, x2.val] w (IvlRes w S) := by
  have HS := Lib.hid hs
  clear hs
  by_cases hv1 : x1.v
  · have HV1 := Lib.hid hv1
    by_cases hv2 : x2.v
    · have HV2 := Lib.hid hv2
      obtain ⟨S5, h5⟩ : ∃ S, addF x1.lo x2.lo = S := ⟨_, rfl⟩
      obtain ⟨S6, h6⟩ : ∃ S, addF x1.hi x2.hi = S := ⟨_, rfl⟩
      have HSP : Hid (S = bothS S5 S6) := Lib.hid (by rw [← HS.out, opS, if_pos ⟨hv1, hv2⟩, h5, h6])
      have H5 := Lib.hid h5
      have H6 := Lib.hid h6
      clear hv1 hv2 h5 h6
      go_enter Try.func35, Try.ntmps35
      go_upto_region 1 with fail
      have bw := Below.refl w.heap.size w
      have a1 := (ia_alloc ok1).1
      have bb := (ia_alloc ok1).2
      have sz1 := size_box w (.cells x1.cells 35)
      clear ok1
      generalize (w.alloc (.cells x1.cells 35)) = wA at a1 bb sz1 ⊢
      try replace ok1 := ok1.below bb
      try replace ok2 := ok2.below bb
      try replace a1 := a1.below bb
      replace bw := below_on bw bb bw.size
      clear bb
      have a2 := (ia_alloc ok2).1
      have bb := (ia_alloc ok2).2
      have sz2 := size_box wA (.cells x2.cells 35)
      rw [sz1] at a2 sz2
      clear ok2 sz1
      generalize (wA.alloc (.cells x2.cells 35)) = wB at a2 bb sz2 ⊢
      try replace ok1 := ok1.below bb
      try replace ok2 := ok2.below bb
      try replace a1 := a1.below bb
      try replace a2 := a2.below bb
      replace bw := below_on bw bb bw.size
      clear bb
      have br := (zr_alloc wB).1
      have bb := (zr_alloc wB).2
      rw [sz2] at br
      clear sz2
      generalize (wB.alloc (.cells zcells 35)) = wm at br bb ⊢
      try replace a1 := a1.below bb
      try replace a2 := a2.below bb
      replace bw := below_on bw bb bw.size
      clear bb
      have ci0 := a1.c0
      have ci1 := a1.c1
      have ci2 := a1.c2
      have ci3 := a1.c3
      have ci4 := a1.c4
      have ci5 := a1.c5
      go_wp2_with fail
      clear ci0 ci1 ci2 ci3 ci4 ci5
      refine (rivalid_any _ x1 true a1.ok f1 (decide_eq_true HV1.out)).mono ?_
      rintro e wn ⟨rfl, bb⟩
      try replace br := br.below bb
      try replace a1 := a1.below bb
      try replace a2 := a2.below bb
      replace bw := below_on bw bb bw.size
      clear bb
      have ci0 := a2.c0
      have ci1 := a2.c1
      have ci2 := a2.c2
      have ci3 := a2.c3
      have ci4 := a2.c4
      have ci5 := a2.c5
      go_wp2_with fail
      clear ci0 ci1 ci2 ci3 ci4 ci5
      refine (rivalid_any _ x2 true a2.ok f2 (decide_eq_true HV2.out)).mono ?_
      rintro e wn ⟨rfl, bb⟩
      try replace br := br.below bb
      try replace a1 := a1.below bb
      try replace a2 := a2.below bb
      replace bw := below_on bw bb bw.size
      clear bb
      have ci0 := a1.c0
      have ci1 := a1.c1
      have ci2 := a1.c2
      have ci3 := a1.c3
      have ci4 := a1.c4
      have ci5 := a1.c5
      have cj0 := a2.c0
      have cj1 := a2.c1
      have cj2 := a2.c2
      have cj3 := a2.c3
      have cj4 := a2.c4
      have cj5 := a2.c5
      go_wp2_with fail
      clear ci0 ci1 ci2 ci3 ci4 ci5
      clear cj0 cj1 cj2 cj3 cj4 cj5
      refine (rfadd_any _ x1.lo x2.lo S5 a1.ok.lo a2.ok.lo f1.lo.l f1.lo.m f2.lo.l f2.lo.m H5.out).mono ?_
      rintro e wn ⟨x5, rfl, hs5, ok5, bb⟩
      have HS5 := Lib.hid hs5
      clear hs5
      try replace br := br.below bb
      try replace a1 := a1.below bb
      try replace a2 := a2.below bb
      replace bw := below_on bw bb bw.size
      clear bb
      go_upto_region 4 with fail
      have a5 := (fa_alloc ok5).1
      have bb := (fa_alloc ok5).2
      clear ok5
      generalize (wn.alloc (.cells #[.bool x5.b, .slice x5.A x5.xs.length x5.c, .slice x5.D x5.ys.length x5.d] 26)) = wm at a5 bb ⊢
      try replace br := br.below bb
      try replace a1 := a1.below bb
      try replace a2 := a2.below bb
      try replace a5 := a5.below bb
      replace bw := below_on bw bb bw.size
      clear bb
      generalize wn.heap.size = g5 at a5 ⊢
      have ci0 := a1.c0
      have ci1 := a1.c1
      have ci2 := a1.c2
      have ci3 := a1.c3
      have ci4 := a1.c4
      have ci5 := a1.c5
      have cj0 := a2.c0
      have cj1 := a2.c1
      have cj2 := a2.c2
      have cj3 := a2.c3
      have cj4 := a2.c4
      have cj5 := a2.c5
      go_wp2_with fail
      clear ci0 ci1 ci2 ci3 ci4 ci5
      clear cj0 cj1 cj2 cj3 cj4 cj5
      refine (rfadd_any _ x1.hi x2.hi S6 a1.ok.hi a2.ok.hi f1.hi.l f1.hi.m f2.hi.l f2.hi.m H6.out).mono ?_
      rintro e wn ⟨x6, rfl, hs6, ok6, bb⟩
      have HS6 := Lib.hid hs6
      clear hs6
      try replace br := br.below bb
      try replace a1 := a1.below bb
      try replace a2 := a2.below bb
      try replace a5 := a5.below bb
      replace bw := below_on bw bb bw.size
      clear bb
      go_upto_region 5 with fail
      have a6 := (fa_alloc ok6).1
      have bb := (fa_alloc ok6).2
      clear ok6
      generalize (wn.alloc (.cells #[.bool x6.b, .slice x6.A x6.xs.length x6.c, .slice x6.D x6.ys.length x6.d] 26)) = wm at a6 bb ⊢
      try replace br := br.below bb
      try replace a1 := a1.below bb
      try replace a2 := a2.below bb
      try replace a5 := a5.below bb
      try replace a6 := a6.below bb
      replace bw := below_on bw bb bw.size
      clear bb
      generalize wn.heap.size = g6 at a6 ⊢
      have ci0 := a5.c0
      have ci1 := a5.c1
      have ci2 := a5.c2
      have cj0 := a6.c0
      have cj1 := a6.c1
      have cj2 := a6.c2
      go_wp2_with fail
      clear ci0 ci1 ci2 cj0 cj1 cj2
      refine (ripair_any _ x5 x6 S5 S6 S5.2.2.2 S6.2.2.2 a5.ok a6.ok HS5.out HS6.out rfl rfl).mono ?_
      rintro e wn ⟨a, rfl, h1, h2, oka, bb⟩
      try replace br := br.below bb
      try replace a1 := a1.below bb
      try replace a2 := a2.below bb
      try replace a5 := a5.below bb
      try replace a6 := a6.below bb
      replace bw := below_on bw bb bw.size
      clear bb
      rw [← HSP.out]
      rw [← HSP.out] at h1 h2
      have r0 := br.cell 0
      have r1 := br.cell 1
      have r2 := br.cell 2
      have r3 := br.cell 3
      have r4 := br.cell 4
      have r5 := br.cell 5
      have rf0 := br.unf 0
      have rf1 := br.unf 1
      have rf2 := br.unf 2
      have rf3 := br.unf 3
      have rf4 := br.unf 4
      have rf5 := br.unf 5
      simp only [List.getElem?_toArray, List.getElem?_cons_succ, List.getElem?_cons_zero] at r0 r1 r2 r3 r4 r5
      go_wp2_with fail
      refine bodyPost_ret (v := .tuple #[(a : Ix).val, .int .i64 S.2.2]) (by simp [results, Try.results35, go_sem, r0, r1, r2, r3, r4, r5]) rfl ?_
      exact ⟨a, rfl, h1, h2, ⟨set6_ok oka.lo br noInt_z, set6_ok oka.hi br noInt_z⟩, set6_below bw (by omega)⟩
    · have HV2 : Hid (¬ (x1.v ∧ x2.v)) := fun h => hv2 h.2
      have HV3 : Hid (¬ x2.v) := hv2
      clear hv1 hv2
      go_enter Try.func35, Try.ntmps35
      go_upto_region 1 with fail
      have bw := Below.refl w.heap.size w
      have a1 := (ia_alloc ok1).1
      have bb := (ia_alloc ok1).2
      have sz1 := size_box w (.cells x1.cells 35)
      clear ok1
      generalize (w.alloc (.cells x1.cells 35)) = wA at a1 bb sz1 ⊢
      try replace ok1 := ok1.below bb
      try replace ok2 := ok2.below bb
      try replace br := br.below bb
      try replace a1 := a1.below bb
      try replace a2 := a2.below bb
      try replace a5 := a5.below bb
      try replace a6 := a6.below bb
      replace bw := below_on bw bb bw.size
      clear bb
      have a2 := (ia_alloc ok2).1
      have bb := (ia_alloc ok2).2
      have sz2 := size_box wA (.cells x2.cells 35)
      rw [sz1] at a2 sz2
      clear ok2 sz1
      generalize (wA.alloc (.cells x2.cells 35)) = wB at a2 bb sz2 ⊢
      try replace ok1 := ok1.below bb
      try replace ok2 := ok2.below bb
      try replace br := br.below bb
      try replace a1 := a1.below bb
      try replace a2 := a2.below bb
      try replace a5 := a5.below bb
      try replace a6 := a6.below bb
      replace bw := below_on bw bb bw.size
      clear bb
      have br := (zr_alloc wB).1
      have bb := (zr_alloc wB).2
      rw [sz2] at br
      clear sz2
      generalize (wB.alloc (.cells zcells 35)) = wm at br bb ⊢
      try replace a1 := a1.below bb
      try replace a2 := a2.below bb
      try replace a5 := a5.below bb
      try replace a6 := a6.below bb
      replace bw := below_on bw bb bw.size
      clear bb
      have ci0 := a1.c0
      have ci1 := a1.c1
      have ci2 := a1.c2
      have ci3 := a1.c3
      have ci4 := a1.c4
      have ci5 := a1.c5
      go_wp2_with fail
      clear ci0 ci1 ci2 ci3 ci4 ci5
      refine (rivalid_any _ x1 true a1.ok f1 (decide_eq_true HV1.out)).mono ?_
      rintro e wn ⟨rfl, bb⟩
      try replace br := br.below bb
      try replace a1 := a1.below bb
      try replace a2 := a2.below bb
      try replace a5 := a5.below bb
      try replace a6 := a6.below bb
      replace bw := below_on bw bb bw.size
      clear bb
      have ci0 := a2.c0
      have ci1 := a2.c1
      have ci2 := a2.c2
      have ci3 := a2.c3
      have ci4 := a2.c4
      have ci5 := a2.c5
      go_wp2_with fail
      clear ci0 ci1 ci2 ci3 ci4 ci5
      refine (rivalid_any _ x2 false a2.ok f2 (decide_eq_false HV3.out)).mono ?_
      rintro e wn ⟨rfl, bb⟩
      try replace br := br.below bb
      try replace a1 := a1.below bb
      try replace a2 := a2.below bb
      try replace a5 := a5.below bb
      try replace a6 := a6.below bb
      replace bw := below_on bw bb bw.size
      clear bb
      have r0 := br.cell 0
      have r1 := br.cell 1
      have r2 := br.cell 2
      have r3 := br.cell 3
      have r4 := br.cell 4
      have r5 := br.cell 5
      have rf0 := br.unf 0
      have rf1 := br.unf 1
      have rf2 := br.unf 2
      have rf3 := br.unf 3
      have rf4 := br.unf 4
      have rf5 := br.unf 5
      simp only [List.getElem?_toArray, List.getElem?_cons_succ, List.getElem?_cons_zero] at r0 r1 r2 r3 r4 r5
      go_wp2_with fail
      refine bodyPost_ret (v := .tuple #[(Ix.nil : Ix).val, .int .i64 1]) (by simp [results, Try.results35, go_sem, r0, r1, r2, r3, r4, r5]) rfl ?_
      rw [← HS.out, (show opS addF x1 x2 x2.lo x2.hi = errI 1 from if_neg HV2.out)]
      exact ⟨Ix.nil, rfl, ⟨rfl, rfl, rfl⟩, ⟨rfl, rfl, rfl⟩, Ix.nil_ok _, set6_below bw (by omega)⟩
  · have HV2 : Hid (¬ (x1.v ∧ x2.v)) := fun h => hv1 h.1
    have HV1 : Hid (¬ x1.v) := hv1
    clear hv1
    go_enter Try.func35, Try.ntmps35
    go_upto_region 1 with fail
    have bw := Below.refl w.heap.size w
    have a1 := (ia_alloc ok1).1
    have bb := (ia_alloc ok1).2
    have sz1 := size_box w (.cells x1.cells 35)
    clear ok1
    generalize (w.alloc (.cells x1.cells 35)) = wA at a1 bb sz1 ⊢
    try replace ok1 := ok1.below bb
    try replace ok2 := ok2.below bb
    try replace br := br.below bb
    try replace a1 := a1.below bb
    try replace a2 := a2.below bb
    try replace a5 := a5.below bb
    try replace a6 := a6.below bb
    replace bw := below_on bw bb bw.size
    clear bb
    have a2 := (ia_alloc ok2).1
    have bb := (ia_alloc ok2).2
    have sz2 := size_box wA (.cells x2.cells 35)
    rw [sz1] at a2 sz2
    clear ok2 sz1
    generalize (wA.alloc (.cells x2.cells 35)) = wB at a2 bb sz2 ⊢
    try replace ok1 := ok1.below bb
    try replace ok2 := ok2.below bb
    try replace br := br.below bb
    try replace a1 := a1.below bb
    try replace a2 := a2.below bb
    try replace a5 := a5.below bb
    try replace a6 := a6.below bb
    replace bw := below_on bw bb bw.size
    clear bb
    have br := (zr_alloc wB).1
    have bb := (zr_alloc wB).2
    rw [sz2] at br
    clear sz2
    generalize (wB.alloc (.cells zcells 35)) = wm at br bb ⊢
    try replace a1 := a1.below bb
    try replace a2 := a2.below bb
    try replace a5 := a5.below bb
    try replace a6 := a6.below bb
    replace bw := below_on bw bb bw.size
    clear bb
    have ci0 := a1.c0
    have ci1 := a1.c1
    have ci2 := a1.c2
    have ci3 := a1.c3
    have ci4 := a1.c4
    have ci5 := a1.c5
    go_wp2_with fail
    clear ci0 ci1 ci2 ci3 ci4 ci5
    refine (rivalid_any _ x1 false a1.ok f1 (decide_eq_false HV1.out)).mono ?_
    rintro e wn ⟨rfl, bb⟩
    try replace br := br.below bb
    try replace a1 := a1.below bb
    try replace a2 := a2.below bb
    try replace a5 := a5.below bb
    try replace a6 := a6.below bb
    replace bw := below_on bw bb bw.size
    clear bb
    have r0 := br.cell 0
    have r1 := br.cell 1
    have r2 := br.cell 2
    have r3 := br.cell 3
    have r4 := br.cell 4
    have r5 := br.cell 5
    have rf0 := br.unf 0
    have rf1 := br.unf 1
    have rf2 := br.unf 2
    have rf3 := br.unf 3
    have rf4 := br.unf 4
    have rf5 := br.unf 5
    simp only [List.getElem?_toArray, List.getElem?_cons_succ, List.getElem?_cons_zero] at r0 r1 r2 r3 r4 r5
    go_wp2_with fail
    refine bodyPost_ret (v := .tuple #[(Ix.nil : Ix).val, .int .i64 1]) (by simp [results, Try.results35, go_sem, r0, r1, r2, r3, r4, r5]) rfl ?_
    rw [← HS.out, (show opS addF x1 x2 x2.lo x2.hi = errI 1 from if_neg HV2.out)]
    exact ⟨Ix.nil, rfl, ⟨rfl, rfl, rfl⟩, ⟨rfl, rfl, rfl⟩, Ix.nil_ok _, set6_below bw (by omega)⟩
/-- the length of an interval -/
def widS (a : Ix) : FqS := if a.v then subF a.hi a.lo else errF 1
set_option maxHeartbeats 1600000 in
theorem riwidth_any (w : World) (x1 : Ix) (S : FqS) (ok1 : x1.ok w) (f1 : x1.few) (hs : widS x1 = S) :
    Calls Try.prog 31 #[x1.val] w (FracRes w S) := by
  by_cases hv1 : x1.v
  · have HV1 := Lib.hid hv1
    have HS : Hid (subF x1.hi x1.lo = S) := Lib.hid (by rw [← hs, widS, if_pos hv1])
    clear hv1 hs
    go_enter Try.func31, Try.ntmps31
    go_upto_region 1 with fail
    have bw := Below.refl w.heap.size w
    have a1 := (ia_alloc ok1).1
    have bb := (ia_alloc ok1).2
    have sz1 := size_box w (.cells x1.cells 35)
    clear ok1
    generalize (w.alloc (.cells x1.cells 35)) = wA at a1 bb sz1 ⊢
    try replace ok1 := ok1.below bb
    try replace ok3 := ok3.below bb
    try replace a1 := a1.below bb
    replace bw := below_on bw bb bw.size
    clear bb
    have bk := bk3_new wA
    have bb := (Below.refl wA.heap.size wA).alloc (Nat.le_refl _) (.cells #[.bool false, .slice none 0 0, .slice none 0 0] 26)
    rw [sz1] at bk
    clear sz1
    generalize (wA.alloc (.cells #[.bool false, .slice none 0 0, .slice none 0 0] 26)) = wm at bk bb ⊢
    try replace bk := bk.below bb
    try replace a1 := a1.below bb
    replace bw := below_on bw bb bw.size
    clear bb
    have ci0 := a1.c0
    have ci1 := a1.c1
    have ci2 := a1.c2
    have ci3 := a1.c3
    have ci4 := a1.c4
    have ci5 := a1.c5
    go_wp2_with fail
    clear ci0 ci1 ci2 ci3 ci4 ci5
    refine (rivalid_any _ x1 true a1.ok f1 (decide_eq_true HV1.out)).mono ?_
    rintro e wn ⟨rfl, bb⟩
    try replace bk := bk.below bb
    try replace a1 := a1.below bb
    replace bw := below_on bw bb bw.size
    clear bb
    have ci0 := a1.c0
    have ci1 := a1.c1
    have ci2 := a1.c2
    have ci3 := a1.c3
    have ci4 := a1.c4
    have ci5 := a1.c5
    go_wp2_with fail
    clear ci0 ci1 ci2 ci3 ci4 ci5
    refine (rfsub_any _ x1.hi x1.lo S a1.ok.hi a1.ok.lo f1.hi.l f1.hi.m f1.lo.l f1.lo.m HS.out).mono ?_
    rintro e wn ⟨x3, rfl, hs3, ok3, bb⟩
    have HS3 := Lib.hid hs3
    clear hs3
    try replace bk := bk.below bb
    try replace a1 := a1.below bb
    replace bw := below_on bw bb bw.size
    clear bb
    have tk := bk
    obtain ⟨k0, k1, k2, kf0, kf1, kf2, klt, kb⟩ := tk
    clear kb
    go_wp2_with fail
    refine bodyPost_ret (v := .tuple #[(x3 : Fx).val, .int .i64 S.2.2.2]) (by simp [results, Try.results31, go_sem, k0, k1, k2]) rfl ?_
    exact ⟨x3, rfl, HS3.out, set3_ok ok3 bk rfl rfl rfl, set3g bw (by omega)⟩
  · have HV1 : Hid (¬ x1.v) := hv1
    have HS : Hid (errF 1 = S) := Lib.hid (by rw [← hs, widS, if_neg hv1])
    clear hv1 hs
    go_enter Try.func31, Try.ntmps31
    go_upto_region 1 with fail
    have bw := Below.refl w.heap.size w
    have a1 := (ia_alloc ok1).1
    have bb := (ia_alloc ok1).2
    have sz1 := size_box w (.cells x1.cells 35)
    clear ok1
    generalize (w.alloc (.cells x1.cells 35)) = wA at a1 bb sz1 ⊢
    try replace ok1 := ok1.below bb
    try replace ok3 := ok3.below bb
    try replace bk := bk.below bb
    try replace a1 := a1.below bb
    replace bw := below_on bw bb bw.size
    clear bb
    have bk := bk3_new wA
    have bb := (Below.refl wA.heap.size wA).alloc (Nat.le_refl _) (.cells #[.bool false, .slice none 0 0, .slice none 0 0] 26)
    rw [sz1] at bk
    clear sz1
    generalize (wA.alloc (.cells #[.bool false, .slice none 0 0, .slice none 0 0] 26)) = wm at bk bb ⊢
    try replace bk := bk.below bb
    try replace a1 := a1.below bb
    replace bw := below_on bw bb bw.size
    clear bb
    have ci0 := a1.c0
    have ci1 := a1.c1
    have ci2 := a1.c2
    have ci3 := a1.c3
    have ci4 := a1.c4
    have ci5 := a1.c5
    go_wp2_with fail
    clear ci0 ci1 ci2 ci3 ci4 ci5
    refine (rivalid_any _ x1 false a1.ok f1 (decide_eq_false HV1.out)).mono ?_
    rintro e wn ⟨rfl, bb⟩
    try replace bk := bk.below bb
    try replace a1 := a1.below bb
    replace bw := below_on bw bb bw.size
    clear bb
    have tk := bk
    obtain ⟨k0, k1, k2, kf0, kf1, kf2, klt, kb⟩ := tk
    clear kb
    go_wp2_with fail
    refine bodyPost_ret (v := .tuple #[(Fx.nil : Fx).val, .int .i64 1]) (by simp [results, Try.results31, go_sem, k0, k1, k2]) rfl ?_
    rw [← HS.out]
    exact ⟨Fx.nil, rfl, ⟨rfl, rfl, rfl⟩, Fx.nil_ok _, set3g bw (by omega)⟩
end Go.Proofs.Ytnmomigaedfdoaa
namespace Go.Proofs.Ytnmomigaedfdoaa
set_option maxRecDepth 100000
open Go.RowKit

theorem Fx.ok.alloc {x : Fx} {w : World} (h : x.ok w) (o : Obj) : x.ok (w.alloc o) := h.below ((Below.refl w.heap.size w).alloc (Nat.le_refl _) o)
theorem below_unalloc {w w' : World} {o : Obj} (h : Below (w.alloc o).heap.size (w.alloc o) w') : Below w.heap.size w w' := below_on ((Below.refl w.heap.size w).alloc (Nat.le_refl _) o) h (by simp)
theorem El.below {w w' : World} {ad : Addr} {j : Nat} {v0 v1 v2 : Value} (h : ad.block < w.heap.size ∧ w.cell? (ad.add j) = some v0 ∧ w.cell? ⟨(ad.add j).block, (ad.add j).off + 1, none⟩ = some v1 ∧ w.cell? ⟨(ad.add j).block, (ad.add j).off + 2, none⟩ = some v2) (hb : Below w.heap.size w w') :
    ad.block < w'.heap.size ∧ w'.cell? (ad.add j) = some v0 ∧ w'.cell? ⟨(ad.add j).block, (ad.add j).off + 1, none⟩ = some v1 ∧ w'.cell? ⟨(ad.add j).block, (ad.add j).off + 2, none⟩ = some v2 := by
  obtain ⟨hl, h0, h1, h2⟩ := h
  have e2 : (ad.add j).block = ad.block := block_of_add _ _
  exact ⟨Nat.lt_of_lt_of_le hl hb.size, (hb.cell (p := ad.add j) (by rw [e2]; exact hl)).trans h0, (hb.cell (p := ⟨(ad.add j).block, (ad.add j).off + 1, none⟩) (by show (ad.add j).block < _; rw [e2]; exact hl)).trans h1, (hb.cell (p := ⟨(ad.add j).block, (ad.add j).off + 2, none⟩) (by show (ad.add j).block < _; rw [e2]; exact hl)).trans h2⟩
theorem El.far {w : World} {ad : Addr} {j G : Nat} {v0 v1 v2 a b c : Value} (h : ad.block < w.heap.size ∧ w.cell? (ad.add j) = some v0 ∧ w.cell? ⟨(ad.add j).block, (ad.add j).off + 1, none⟩ = some v1 ∧ w.cell? ⟨(ad.add j).block, (ad.add j).off + 2, none⟩ = some v2) (hne : ad.block ≠ G) :
    (((w.setCell ⟨G, 0, none⟩ a).setCell ⟨G, 1, none⟩ b).setCell ⟨G, 2, none⟩ c).cell? (ad.add j) = some v0 ∧ (((w.setCell ⟨G, 0, none⟩ a).setCell ⟨G, 1, none⟩ b).setCell ⟨G, 2, none⟩ c).cell? ⟨(ad.add j).block, (ad.add j).off + 1, none⟩ = some v1 ∧ (((w.setCell ⟨G, 0, none⟩ a).setCell ⟨G, 1, none⟩ b).setCell ⟨G, 2, none⟩ c).cell? ⟨(ad.add j).block, (ad.add j).off + 2, none⟩ = some v2 := by
  obtain ⟨hl, h0, h1, h2⟩ := h
  have e2 : (ad.add j).block = ad.block := block_of_add _ _
  have ne : ∀ n m, (⟨G, n, none⟩ : Addr).block ≠ (⟨(ad.add j).block, m, none⟩ : Addr).block := fun n m => by show G ≠ (ad.add j).block; rw [e2]; exact fun e => hne e.symm
  have ne0 : ∀ n, (⟨G, n, none⟩ : Addr).block ≠ (ad.add j).block := fun n => by rw [e2]; exact fun e => hne e.symm
  refine ⟨?_, ?_, ?_⟩
  · rw [World.cell?_setCell_far _ _ _ _ (ne0 2), World.cell?_setCell_far _ _ _ _ (ne0 1), World.cell?_setCell_far _ _ _ _ (ne0 0)]; exact h0
  · rw [World.cell?_setCell_far _ _ _ _ (ne 2 _), World.cell?_setCell_far _ _ _ _ (ne 1 _), World.cell?_setCell_far _ _ _ _ (ne 0 _)]; exact h1
  · rw [World.cell?_setCell_far _ _ _ _ (ne 2 _), World.cell?_setCell_far _ _ _ _ (ne 1 _), World.cell?_setCell_far _ _ _ _ (ne 0 _)]; exact h2
end Go.Proofs.Ytnmomigaedfdoaa
