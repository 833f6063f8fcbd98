/- The walk of IntervalExact. -/
import Derived.Test.YtlcolmifmhdboaaOpenI
import Derived.Test.YtlcolmifmhdboaaIvV
import Derived.Test.YtlcolmifmhdboaaIvW
namespace Go.Proofs.Ytlcolmifmhdboaa
open Go.RowKit

set_option maxHeartbeats 4000000 in
set_option maxRecDepth 100000 in
theorem iexact_long (w : World) (x1 x2 : Ix) (x3 : Fx) (ok1 : x1.ok w) (ok2 : x2.ok w) (ok3 : x3.ok w) (h : longI [x1, x2] = true ∨ 12 < x3.xs.length ∨ 12 < x3.ys.length) :
    Calls Try.prog 8 #[x1.val, x2.val, x3.val] w fun e w' => e = .returned (.bool true) ∧ Below w.heap.size w w' := by
  have L1 := ok3.num.len
  have L2 := ok3.den.len
  cases hl : longI [x1, x2]
  · have H := Lib.hid hl
    by_cases h1 : 12 < x3.xs.length
    · clear h hl
      go_enter Try.func8, Try.ntmps8
      go_upto_region 1 with fail
      have bw := Below.refl w.heap.size w
      have a1 := (ia_alloc ok1).1
      have bb := (ia_alloc ok1).2
      have sz1 := size_box w (.cells x1.cells 41)
      clear ok1
      generalize (w.alloc (.cells x1.cells 41)) = wA at a1 bb sz1 ⊢
      try replace ok1 := ok1.below bb
      try replace ok2 := ok2.below bb
      try replace ok3 := ok3.below bb
      try replace a1 := a1.below bb
      replace bw := below_on bw bb bw.size
      clear bb
      have a2 := (ia_alloc ok2).1
      have bb := (ia_alloc ok2).2
      have sz2 := size_box wA (.cells x2.cells 41)
      rw [sz1] at a2 sz2
      clear ok2 sz1
      generalize (wA.alloc (.cells x2.cells 41)) = wB at a2 bb sz2 ⊢
      try replace ok1 := ok1.below bb
      try replace ok2 := ok2.below bb
      try replace ok3 := ok3.below bb
      try replace a1 := a1.below bb
      try replace a2 := a2.below bb
      replace bw := below_on bw bb bw.size
      clear bb
      have a3 := (fa_alloc ok3).1
      have bb := (fa_alloc ok3).2
      have sz3 := size_box wB (.cells x3.cells 25)
      rw [sz2] at a3 sz3
      clear ok3 sz2
      generalize (wB.alloc (.cells x3.cells 25)) = wm at a3 bb sz3 ⊢
      try replace ok1 := ok1.below bb
      try replace ok2 := ok2.below bb
      try replace ok3 := ok3.below bb
      try replace a1 := a1.below bb
      try replace a2 := a2.below bb
      try replace a3 := a3.below bb
      replace bw := below_on bw bb bw.size
      clear bb
      clear sz3
      have ci0 := a1.c0
      have ci1 := a1.c1
      have ci2 := a1.c2
      have ci3 := a1.c3
      have ci4 := a1.c4
      have ci5 := a1.c5
      have cj0 := a2.c0
      have cj1 := a2.c1
      have cj2 := a2.c2
      have cj3 := a2.c3
      have cj4 := a2.c4
      have cj5 := a2.c5
      go_wp2_with fail
      clear ci0 ci1 ci2 ci3 ci4 ci5
      clear cj0 cj1 cj2 cj3 cj4 cj5
      have hr := rdi_lit wm [x1, x2]
      have bb := (Below.refl wm.heap.size wm).alloc (Nat.le_refl _) (.cells (icells [x1, x2]).toArray 41)
      simp only [icells] at hr bb
      generalize (wm.alloc (.cells [Value.bool x1.lo.b, .slice x1.lo.A x1.lo.xs.length x1.lo.c, .slice x1.lo.D x1.lo.ys.length x1.lo.d, .bool x1.hi.b, .slice x1.hi.A x1.hi.xs.length x1.hi.c, .slice x1.hi.D x1.hi.ys.length x1.hi.d, .bool x2.lo.b, .slice x2.lo.A x2.lo.xs.length x2.lo.c, .slice x2.lo.D x2.lo.ys.length x2.lo.d, .bool x2.hi.b, .slice x2.hi.A x2.hi.xs.length x2.hi.c, .slice x2.hi.D x2.hi.ys.length x2.hi.d].toArray 41)) = wn at hr bb ⊢
      try replace a1 := a1.below bb
      try replace a2 := a2.below bb
      try replace a3 := a3.below bb
      replace bw := below_on bw bb bw.size
      clear bb
      refine (ilong_any wn _ 2 2 [x1, x2] false hr rfl (by simp) (lens2 a1.ok a2.ok) H.out).mono ?_
      rintro e wl ⟨rfl, rfl⟩
      clear hr
      have ck1 := a3.c1
      have ck2 := a3.c2
      go_wp2_with fail
      clear ck1 ck2
      go_wp2_with fail
      refine (awakei_any _).mono ?_
      rintro e wn ⟨rfl, bb⟩
      try replace a1 := a1.below bb
      try replace a2 := a2.below bb
      try replace a3 := a3.below bb
      replace bw := below_on bw bb bw.size
      clear bb
      go_wp2_with fail
      go_ret
      exact ⟨rfl, bw⟩
    · have h2 : 12 < x3.ys.length := by
        rcases h with h | h | h
        · rw [hl] at h; cases h
        · exact absurd h h1
        · exact h
      clear h hl
      go_enter Try.func8, Try.ntmps8
      go_upto_region 1 with fail
      have bw := Below.refl w.heap.size w
      have a1 := (ia_alloc ok1).1
      have bb := (ia_alloc ok1).2
      have sz1 := size_box w (.cells x1.cells 41)
      clear ok1
      generalize (w.alloc (.cells x1.cells 41)) = wA at a1 bb sz1 ⊢
      try replace ok1 := ok1.below bb
      try replace ok2 := ok2.below bb
      try replace ok3 := ok3.below bb
      try replace a1 := a1.below bb
      try replace a2 := a2.below bb
      try replace a3 := a3.below bb
      replace bw := below_on bw bb bw.size
      clear bb
      have a2 := (ia_alloc ok2).1
      have bb := (ia_alloc ok2).2
      have sz2 := size_box wA (.cells x2.cells 41)
      rw [sz1] at a2 sz2
      clear ok2 sz1
      generalize (wA.alloc (.cells x2.cells 41)) = wB at a2 bb sz2 ⊢
      try replace ok1 := ok1.below bb
      try replace ok2 := ok2.below bb
      try replace ok3 := ok3.below bb
      try replace a1 := a1.below bb
      try replace a2 := a2.below bb
      try replace a3 := a3.below bb
      replace bw := below_on bw bb bw.size
      clear bb
      have a3 := (fa_alloc ok3).1
      have bb := (fa_alloc ok3).2
      have sz3 := size_box wB (.cells x3.cells 25)
      rw [sz2] at a3 sz3
      clear ok3 sz2
      generalize (wB.alloc (.cells x3.cells 25)) = wm at a3 bb sz3 ⊢
      try replace ok1 := ok1.below bb
      try replace ok2 := ok2.below bb
      try replace ok3 := ok3.below bb
      try replace a1 := a1.below bb
      try replace a2 := a2.below bb
      try replace a3 := a3.below bb
      replace bw := below_on bw bb bw.size
      clear bb
      clear sz3
      have ci0 := a1.c0
      have ci1 := a1.c1
      have ci2 := a1.c2
      have ci3 := a1.c3
      have ci4 := a1.c4
      have ci5 := a1.c5
      have cj0 := a2.c0
      have cj1 := a2.c1
      have cj2 := a2.c2
      have cj3 := a2.c3
      have cj4 := a2.c4
      have cj5 := a2.c5
      go_wp2_with fail
      clear ci0 ci1 ci2 ci3 ci4 ci5
      clear cj0 cj1 cj2 cj3 cj4 cj5
      have hr := rdi_lit wm [x1, x2]
      have bb := (Below.refl wm.heap.size wm).alloc (Nat.le_refl _) (.cells (icells [x1, x2]).toArray 41)
      simp only [icells] at hr bb
      generalize (wm.alloc (.cells [Value.bool x1.lo.b, .slice x1.lo.A x1.lo.xs.length x1.lo.c, .slice x1.lo.D x1.lo.ys.length x1.lo.d, .bool x1.hi.b, .slice x1.hi.A x1.hi.xs.length x1.hi.c, .slice x1.hi.D x1.hi.ys.length x1.hi.d, .bool x2.lo.b, .slice x2.lo.A x2.lo.xs.length x2.lo.c, .slice x2.lo.D x2.lo.ys.length x2.lo.d, .bool x2.hi.b, .slice x2.hi.A x2.hi.xs.length x2.hi.c, .slice x2.hi.D x2.hi.ys.length x2.hi.d].toArray 41)) = wn at hr bb ⊢
      try replace a1 := a1.below bb
      try replace a2 := a2.below bb
      try replace a3 := a3.below bb
      replace bw := below_on bw bb bw.size
      clear bb
      refine (ilong_any wn _ 2 2 [x1, x2] false hr rfl (by simp) (lens2 a1.ok a2.ok) H.out).mono ?_
      rintro e wl ⟨rfl, rfl⟩
      clear hr
      have ck1 := a3.c1
      have ck2 := a3.c2
      go_wp2_with fail
      clear ck1 ck2
      go_wp2_with fail
      refine (awakei_any _).mono ?_
      rintro e wn ⟨rfl, bb⟩
      try replace a1 := a1.below bb
      try replace a2 := a2.below bb
      try replace a3 := a3.below bb
      replace bw := below_on bw bb bw.size
      clear bb
      go_wp2_with fail
      go_ret
      exact ⟨rfl, bw⟩
  · have H := Lib.hid hl
    clear h hl
    go_enter Try.func8, Try.ntmps8
    go_upto_region 1 with fail
    have bw := Below.refl w.heap.size w
    have a1 := (ia_alloc ok1).1
    have bb := (ia_alloc ok1).2
    have sz1 := size_box w (.cells x1.cells 41)
    clear ok1
    generalize (w.alloc (.cells x1.cells 41)) = wA at a1 bb sz1 ⊢
    try replace ok1 := ok1.below bb
    try replace ok2 := ok2.below bb
    try replace ok3 := ok3.below bb
    try replace a1 := a1.below bb
    try replace a2 := a2.below bb
    try replace a3 := a3.below bb
    replace bw := below_on bw bb bw.size
    clear bb
    have a2 := (ia_alloc ok2).1
    have bb := (ia_alloc ok2).2
    have sz2 := size_box wA (.cells x2.cells 41)
    rw [sz1] at a2 sz2
    clear ok2 sz1
    generalize (wA.alloc (.cells x2.cells 41)) = wB at a2 bb sz2 ⊢
    try replace ok1 := ok1.below bb
    try replace ok2 := ok2.below bb
    try replace ok3 := ok3.below bb
    try replace a1 := a1.below bb
    try replace a2 := a2.below bb
    try replace a3 := a3.below bb
    replace bw := below_on bw bb bw.size
    clear bb
    have a3 := (fa_alloc ok3).1
    have bb := (fa_alloc ok3).2
    have sz3 := size_box wB (.cells x3.cells 25)
    rw [sz2] at a3 sz3
    clear ok3 sz2
    generalize (wB.alloc (.cells x3.cells 25)) = wm at a3 bb sz3 ⊢
    try replace ok1 := ok1.below bb
    try replace ok2 := ok2.below bb
    try replace ok3 := ok3.below bb
    try replace a1 := a1.below bb
    try replace a2 := a2.below bb
    try replace a3 := a3.below bb
    replace bw := below_on bw bb bw.size
    clear bb
    clear sz3
    have ci0 := a1.c0
    have ci1 := a1.c1
    have ci2 := a1.c2
    have ci3 := a1.c3
    have ci4 := a1.c4
    have ci5 := a1.c5
    have cj0 := a2.c0
    have cj1 := a2.c1
    have cj2 := a2.c2
    have cj3 := a2.c3
    have cj4 := a2.c4
    have cj5 := a2.c5
    go_wp2_with fail
    clear ci0 ci1 ci2 ci3 ci4 ci5
    clear cj0 cj1 cj2 cj3 cj4 cj5
    have hr := rdi_lit wm [x1, x2]
    have bb := (Below.refl wm.heap.size wm).alloc (Nat.le_refl _) (.cells (icells [x1, x2]).toArray 41)
    simp only [icells] at hr bb
    generalize (wm.alloc (.cells [Value.bool x1.lo.b, .slice x1.lo.A x1.lo.xs.length x1.lo.c, .slice x1.lo.D x1.lo.ys.length x1.lo.d, .bool x1.hi.b, .slice x1.hi.A x1.hi.xs.length x1.hi.c, .slice x1.hi.D x1.hi.ys.length x1.hi.d, .bool x2.lo.b, .slice x2.lo.A x2.lo.xs.length x2.lo.c, .slice x2.lo.D x2.lo.ys.length x2.lo.d, .bool x2.hi.b, .slice x2.hi.A x2.hi.xs.length x2.hi.c, .slice x2.hi.D x2.hi.ys.length x2.hi.d].toArray 41)) = wn at hr bb ⊢
    try replace a1 := a1.below bb
    try replace a2 := a2.below bb
    try replace a3 := a3.below bb
    replace bw := below_on bw bb bw.size
    clear bb
    refine (ilong_any wn _ 2 2 [x1, x2] true hr rfl (by simp) (lens2 a1.ok a2.ok) H.out).mono ?_
    rintro e wl ⟨rfl, rfl⟩
    clear hr
    go_wp2_with fail
    refine (awakei_any _).mono ?_
    rintro e wn ⟨rfl, bb⟩
    try replace a1 := a1.below bb
    try replace a2 := a2.below bb
    try replace a3 := a3.below bb
    replace bw := below_on bw bb bw.size
    clear bb
    go_wp2_with fail
    go_ret
    exact ⟨rfl, bw⟩
set_option maxHeartbeats 16000000 in
set_option maxRecDepth 100000 in
theorem iexact_short (w : World) (x1 x2 : Ix) (x3 : Fx) (ok1 : x1.ok w) (ok2 : x2.ok w) (ok3 : x3.ok w) (f1 : x1.few) (f2 : x2.few) (f3 : x3.few) (hl : longI [x1, x2] = false) (h1 : ¬ 12 < x3.xs.length) (h2 : ¬ 12 < x3.ys.length) :
    Calls Try.prog 8 #[x1.val, x2.val, x3.val] w fun e w' => e = .returned (.bool true) ∧ Below w.heap.size w w' := by
  have H := Lib.hid hl
  obtain ⟨SA, hSA⟩ : ∃ S, opS addF x1 x2 x2.lo x2.hi = S := ⟨_, rfl⟩
  obtain ⟨SB, hSB⟩ : ∃ S, opS subF x1 x2 x2.hi x2.lo = S := ⟨_, rfl⟩
  obtain ⟨SC, hSC⟩ : ∃ S, mulI x1 x2 = S := ⟨_, rfl⟩
  obtain ⟨SD, hSD⟩ : ∃ S, sclI x3 x1 = S := ⟨_, rfl⟩
  obtain ⟨SE, hSE⟩ : ∃ S, meetS x1 x2 = S := ⟨_, rfl⟩
  obtain ⟨SF, hSF⟩ : ∃ S, widS x1 = S := ⟨_, rfl⟩
  obtain ⟨SG, hSG⟩ : ∃ S, pointS x3 = S := ⟨_, rfl⟩
  have HA := Lib.hid hSA
  have HB := Lib.hid hSB
  have HC := Lib.hid hSC
  have HD := Lib.hid hSD
  have HE := Lib.hid hSE
  have HF := Lib.hid hSF
  have HG := Lib.hid hSG
  clear hSA hSB hSC hSD hSE hSF hSG hl
  go_enter Try.func8, Try.ntmps8
  go_upto_region 1 with fail
  have bw := Below.refl w.heap.size w
  have a1 := (ia_alloc ok1).1
  have bb := (ia_alloc ok1).2
  have sz1 := size_box w (.cells x1.cells 41)
  clear ok1
  generalize (w.alloc (.cells x1.cells 41)) = wA at a1 bb sz1 ⊢
  try replace ok1 := ok1.below bb
  try replace ok2 := ok2.below bb
  try replace ok3 := ok3.below bb
  try replace ok4 := ok4.below bb
  try replace a1 := a1.below bb
  replace bw := below_on bw bb bw.size
  clear bb
  have a2 := (ia_alloc ok2).1
  have bb := (ia_alloc ok2).2
  have sz2 := size_box wA (.cells x2.cells 41)
  rw [sz1] at a2 sz2
  clear ok2 sz1
  generalize (wA.alloc (.cells x2.cells 41)) = wB at a2 bb sz2 ⊢
  try replace ok1 := ok1.below bb
  try replace ok2 := ok2.below bb
  try replace ok3 := ok3.below bb
  try replace ok4 := ok4.below bb
  try replace a1 := a1.below bb
  try replace a2 := a2.below bb
  replace bw := below_on bw bb bw.size
  clear bb
  have a3 := (fa_alloc ok3).1
  have bb := (fa_alloc ok3).2
  have sz3 := size_box wB (.cells x3.cells 25)
  rw [sz2] at a3 sz3
  clear ok3 sz2
  generalize (wB.alloc (.cells x3.cells 25)) = wm at a3 bb sz3 ⊢
  try replace ok1 := ok1.below bb
  try replace ok2 := ok2.below bb
  try replace ok3 := ok3.below bb
  try replace ok4 := ok4.below bb
  try replace a1 := a1.below bb
  try replace a2 := a2.below bb
  try replace a3 := a3.below bb
  replace bw := below_on bw bb bw.size
  clear bb
  clear sz3
  have ci0 := a1.c0
  have ci1 := a1.c1
  have ci2 := a1.c2
  have ci3 := a1.c3
  have ci4 := a1.c4
  have ci5 := a1.c5
  have cj0 := a2.c0
  have cj1 := a2.c1
  have cj2 := a2.c2
  have cj3 := a2.c3
  have cj4 := a2.c4
  have cj5 := a2.c5
  go_wp2_with fail
  clear ci0 ci1 ci2 ci3 ci4 ci5
  clear cj0 cj1 cj2 cj3 cj4 cj5
  have hr := rdi_lit wm [x1, x2]
  have bb := (Below.refl wm.heap.size wm).alloc (Nat.le_refl _) (.cells (icells [x1, x2]).toArray 41)
  simp only [icells] at hr bb
  generalize (wm.alloc (.cells [Value.bool x1.lo.b, .slice x1.lo.A x1.lo.xs.length x1.lo.c, .slice x1.lo.D x1.lo.ys.length x1.lo.d, .bool x1.hi.b, .slice x1.hi.A x1.hi.xs.length x1.hi.c, .slice x1.hi.D x1.hi.ys.length x1.hi.d, .bool x2.lo.b, .slice x2.lo.A x2.lo.xs.length x2.lo.c, .slice x2.lo.D x2.lo.ys.length x2.lo.d, .bool x2.hi.b, .slice x2.hi.A x2.hi.xs.length x2.hi.c, .slice x2.hi.D x2.hi.ys.length x2.hi.d].toArray 41)) = wn at hr bb ⊢
  try replace a1 := a1.below bb
  try replace a2 := a2.below bb
  try replace a3 := a3.below bb
  replace bw := below_on bw bb bw.size
  clear bb
  refine (ilong_any wn _ 2 2 [x1, x2] false hr rfl (by simp) (lens2 a1.ok a2.ok) H.out).mono ?_
  rintro e wl ⟨rfl, rfl⟩
  clear hr
  have ck1 := a3.c1
  have ck2 := a3.c2
  go_upto_region 3 with fail
  clear ck1 ck2 h1 h2
  have ci0 := a1.c0
  have ci1 := a1.c1
  have ci2 := a1.c2
  have ci3 := a1.c3
  have ci4 := a1.c4
  have ci5 := a1.c5
  have cj0 := a2.c0
  have cj1 := a2.c1
  have cj2 := a2.c2
  have cj3 := a2.c3
  have cj4 := a2.c4
  have cj5 := a2.c5
  go_wp2_with fail
  clear ci0 ci1 ci2 ci3 ci4 ci5
  clear cj0 cj1 cj2 cj3 cj4 cj5
  refine (iadd_any _ x1 x2 (SA) a1.ok a2.ok f1 f2 HA.out).mono ?_
  rintro e wn ⟨x4, rfl, h1, h2, ok4, bb⟩
  have HS4 := Lib.hid (And.intro h1 h2)
  clear h1 h2
  try replace a1 := a1.below bb
  try replace a2 := a2.below bb
  try replace a3 := a3.below bb
  replace bw := below_on bw bb bw.size
  clear bb
  go_upto_region 4 with fail
  have a4 := (ia_alloc ok4).1
  have bb := (ia_alloc ok4).2
  have o4 := a3.lt
  clear ok4
  generalize (wn.alloc (.cells #[.bool x4.lo.b, .slice x4.lo.A x4.lo.xs.length x4.lo.c, .slice x4.lo.D x4.lo.ys.length x4.lo.d, .bool x4.hi.b, .slice x4.hi.A x4.hi.xs.length x4.hi.c, .slice x4.hi.D x4.hi.ys.length x4.hi.d] 41)) = wm at a4 bb ⊢
  try replace a1 := a1.below bb
  try replace a2 := a2.below bb
  try replace a3 := a3.below bb
  try replace a4 := a4.below bb
  replace bw := below_on bw bb bw.size
  clear bb
  generalize wn.heap.size = g4 at a4 o4 ⊢
  have ci0 := a1.c0
  have ci1 := a1.c1
  have ci2 := a1.c2
  have ci3 := a1.c3
  have ci4 := a1.c4
  have ci5 := a1.c5
  have cj0 := a2.c0
  have cj1 := a2.c1
  have cj2 := a2.c2
  have cj3 := a2.c3
  have cj4 := a2.c4
  have cj5 := a2.c5
  go_wp2_with fail
  clear ci0 ci1 ci2 ci3 ci4 ci5
  clear cj0 cj1 cj2 cj3 cj4 cj5
  refine (riadd_any _ x1 x2 (SA) a1.ok a2.ok f1 f2 HA.out).mono ?_
  rintro e wn ⟨x5, rfl, h1, h2, ok5, bb⟩
  have HS5 := Lib.hid (And.intro h1 h2)
  clear h1 h2
  try replace a1 := a1.below bb
  try replace a2 := a2.below bb
  try replace a3 := a3.below bb
  try replace a4 := a4.below bb
  replace bw := below_on bw bb bw.size
  clear bb
  go_upto_region 5 with fail
  have a5 := (ia_alloc ok5).1
  have bb := (ia_alloc ok5).2
  have o5 := a4.lt
  clear ok5
  generalize (wn.alloc (.cells #[.bool x5.lo.b, .slice x5.lo.A x5.lo.xs.length x5.lo.c, .slice x5.lo.D x5.lo.ys.length x5.lo.d, .bool x5.hi.b, .slice x5.hi.A x5.hi.xs.length x5.hi.c, .slice x5.hi.D x5.hi.ys.length x5.hi.d] 41)) = wm at a5 bb ⊢
  try replace a1 := a1.below bb
  try replace a2 := a2.below bb
  try replace a3 := a3.below bb
  try replace a4 := a4.below bb
  try replace a5 := a5.below bb
  replace bw := below_on bw bb bw.size
  clear bb
  generalize wn.heap.size = g5 at a5 o5 ⊢
  have ci0 := a4.c0
  have ci1 := a4.c1
  have ci2 := a4.c2
  have ci3 := a4.c3
  have ci4 := a4.c4
  have ci5 := a4.c5
  have cj0 := a5.c0
  have cj1 := a5.c1
  have cj2 := a5.c2
  have cj3 := a5.c3
  have cj4 := a5.c4
  have cj5 := a5.c5
  go_wp2_with fail
  clear ci0 ci1 ci2 ci3 ci4 ci5
  clear cj0 cj1 cj2 cj3 cj4 cj5
  refine (samei_any _ x4 x5 a4.ok a5.ok (SmI.of HS4.out.1 HS4.out.2 HS5.out.1 HS5.out.2)).mono ?_
  rintro e wn ⟨rfl, bb⟩
  try replace a1 := a1.below bb
  try replace a2 := a2.below bb
  try replace a3 := a3.below bb
  try replace a4 := a4.below bb
  try replace a5 := a5.below bb
  replace bw := below_on bw bb bw.size
  clear bb
  go_upto_region 7 with fail
  have ci0 := a1.c0
  have ci1 := a1.c1
  have ci2 := a1.c2
  have ci3 := a1.c3
  have ci4 := a1.c4
  have ci5 := a1.c5
  have cj0 := a2.c0
  have cj1 := a2.c1
  have cj2 := a2.c2
  have cj3 := a2.c3
  have cj4 := a2.c4
  have cj5 := a2.c5
  go_wp2_with fail
  clear ci0 ci1 ci2 ci3 ci4 ci5
  clear cj0 cj1 cj2 cj3 cj4 cj5
  refine (isub_any _ x1 x2 (SB) a1.ok a2.ok f1 f2 HB.out).mono ?_
  rintro e wn ⟨x6, rfl, h1, h2, ok6, bb⟩
  have HS6 := Lib.hid (And.intro h1 h2)
  clear h1 h2
  try replace a1 := a1.below bb
  try replace a2 := a2.below bb
  try replace a3 := a3.below bb
  try replace a4 := a4.below bb
  try replace a5 := a5.below bb
  replace bw := below_on bw bb bw.size
  clear bb
  have ci0 := a4.c0
  have ci1 := a4.c1
  have ci2 := a4.c2
  have ci3 := a4.c3
  have ci4 := a4.c4
  have ci5 := a4.c5
  have af0 := a4.unf 0
  have af1 := a4.unf 1
  have af2 := a4.unf 2
  have af3 := a4.unf 3
  have af4 := a4.unf 4
  have af5 := a4.unf 5
  go_upto_region 8 with fail
  clear ci0 ci1 ci2 ci3 ci4 ci5
  clear af0 af1 af2 af3 af4 af5
  try have b1 := a1.far6 a4 (v0 := .bool x6.lo.b) (v1 := .slice x6.lo.A x6.lo.xs.length x6.lo.c) (v2 := .slice x6.lo.D x6.lo.ys.length x6.lo.d) (v3 := .bool x6.hi.b) (v4 := .slice x6.hi.A x6.hi.xs.length x6.hi.c) (v5 := .slice x6.hi.D x6.hi.ys.length x6.hi.d) (by omega)
  try have b2 := a2.far6 a4 (v0 := .bool x6.lo.b) (v1 := .slice x6.lo.A x6.lo.xs.length x6.lo.c) (v2 := .slice x6.lo.D x6.lo.ys.length x6.lo.d) (v3 := .bool x6.hi.b) (v4 := .slice x6.hi.A x6.hi.xs.length x6.hi.c) (v5 := .slice x6.hi.D x6.hi.ys.length x6.hi.d) (by omega)
  try have b3 := a3.far6 a4 (v0 := .bool x6.lo.b) (v1 := .slice x6.lo.A x6.lo.xs.length x6.lo.c) (v2 := .slice x6.lo.D x6.lo.ys.length x6.lo.d) (v3 := .bool x6.hi.b) (v4 := .slice x6.hi.A x6.hi.xs.length x6.hi.c) (v5 := .slice x6.hi.D x6.hi.ys.length x6.hi.d) (by omega)
  try have b4 := a4.far6 a4 (v0 := .bool x6.lo.b) (v1 := .slice x6.lo.A x6.lo.xs.length x6.lo.c) (v2 := .slice x6.lo.D x6.lo.ys.length x6.lo.d) (v3 := .bool x6.hi.b) (v4 := .slice x6.hi.A x6.hi.xs.length x6.hi.c) (v5 := .slice x6.hi.D x6.hi.ys.length x6.hi.d) (by omega)
  try have b5 := a5.far6 a4 (v0 := .bool x6.lo.b) (v1 := .slice x6.lo.A x6.lo.xs.length x6.lo.c) (v2 := .slice x6.lo.D x6.lo.ys.length x6.lo.d) (v3 := .bool x6.hi.b) (v4 := .slice x6.hi.A x6.hi.xs.length x6.hi.c) (v5 := .slice x6.hi.D x6.hi.ys.length x6.hi.d) (by omega)
  have bK := a4.put6 ok6
  have bz := set6_below (v0 := .bool x6.lo.b) (v1 := .slice x6.lo.A x6.lo.xs.length x6.lo.c) (v2 := .slice x6.lo.D x6.lo.ys.length x6.lo.d) (v3 := .bool x6.hi.b) (v4 := .slice x6.hi.A x6.hi.xs.length x6.hi.c) (v5 := .slice x6.hi.D x6.hi.ys.length x6.hi.d) bw (G := g4) (by omega)
  clear a4 bw ok6
  try dsimp only [set6] at b1
  try dsimp only [set6] at b2
  try dsimp only [set6] at b3
  try dsimp only [set6] at b4
  try dsimp only [set6] at b5
  dsimp only [set6] at bK bz
  generalize (World.setCell (World.setCell (World.setCell (World.setCell (World.setCell (World.setCell _ ⟨g4, 0, none⟩ (.bool x6.lo.b)) ⟨g4, 1, none⟩ (.slice x6.lo.A x6.lo.xs.length x6.lo.c)) ⟨g4, 2, none⟩ (.slice x6.lo.D x6.lo.ys.length x6.lo.d)) ⟨g4, 3, none⟩ (.bool x6.hi.b)) ⟨g4, 4, none⟩ (.slice x6.hi.A x6.hi.xs.length x6.hi.c)) ⟨g4, 5, none⟩ (.slice x6.hi.D x6.hi.ys.length x6.hi.d)) = wm at *
  try replace a1 := b1
  try clear b1
  try replace a2 := b2
  try clear b2
  try replace a3 := b3
  try clear b3
  try replace a4 := b4
  try clear b4
  try replace a5 := b5
  try clear b5
  have a6 := bK
  have bw := bz
  clear bK bz
  have ci0 := a1.c0
  have ci1 := a1.c1
  have ci2 := a1.c2
  have ci3 := a1.c3
  have ci4 := a1.c4
  have ci5 := a1.c5
  have cj0 := a2.c0
  have cj1 := a2.c1
  have cj2 := a2.c2
  have cj3 := a2.c3
  have cj4 := a2.c4
  have cj5 := a2.c5
  go_wp2_with fail
  clear ci0 ci1 ci2 ci3 ci4 ci5
  clear cj0 cj1 cj2 cj3 cj4 cj5
  refine (risub_any _ x1 x2 (SB) a1.ok a2.ok f1 f2 HB.out).mono ?_
  rintro e wn ⟨x7, rfl, h1, h2, ok7, bb⟩
  have HS7 := Lib.hid (And.intro h1 h2)
  clear h1 h2
  try replace a1 := a1.below bb
  try replace a2 := a2.below bb
  try replace a3 := a3.below bb
  try replace a4 := a4.below bb
  try replace a5 := a5.below bb
  try replace a6 := a6.below bb
  replace bw := below_on bw bb bw.size
  clear bb
  have ci0 := a5.c0
  have ci1 := a5.c1
  have ci2 := a5.c2
  have ci3 := a5.c3
  have ci4 := a5.c4
  have ci5 := a5.c5
  have af0 := a5.unf 0
  have af1 := a5.unf 1
  have af2 := a5.unf 2
  have af3 := a5.unf 3
  have af4 := a5.unf 4
  have af5 := a5.unf 5
  go_upto_region 9 with fail
  clear ci0 ci1 ci2 ci3 ci4 ci5
  clear af0 af1 af2 af3 af4 af5
  try have b1 := a1.far6 a5 (v0 := .bool x7.lo.b) (v1 := .slice x7.lo.A x7.lo.xs.length x7.lo.c) (v2 := .slice x7.lo.D x7.lo.ys.length x7.lo.d) (v3 := .bool x7.hi.b) (v4 := .slice x7.hi.A x7.hi.xs.length x7.hi.c) (v5 := .slice x7.hi.D x7.hi.ys.length x7.hi.d) (by omega)
  try have b2 := a2.far6 a5 (v0 := .bool x7.lo.b) (v1 := .slice x7.lo.A x7.lo.xs.length x7.lo.c) (v2 := .slice x7.lo.D x7.lo.ys.length x7.lo.d) (v3 := .bool x7.hi.b) (v4 := .slice x7.hi.A x7.hi.xs.length x7.hi.c) (v5 := .slice x7.hi.D x7.hi.ys.length x7.hi.d) (by omega)
  try have b3 := a3.far6 a5 (v0 := .bool x7.lo.b) (v1 := .slice x7.lo.A x7.lo.xs.length x7.lo.c) (v2 := .slice x7.lo.D x7.lo.ys.length x7.lo.d) (v3 := .bool x7.hi.b) (v4 := .slice x7.hi.A x7.hi.xs.length x7.hi.c) (v5 := .slice x7.hi.D x7.hi.ys.length x7.hi.d) (by omega)
  try have b4 := a4.far6 a5 (v0 := .bool x7.lo.b) (v1 := .slice x7.lo.A x7.lo.xs.length x7.lo.c) (v2 := .slice x7.lo.D x7.lo.ys.length x7.lo.d) (v3 := .bool x7.hi.b) (v4 := .slice x7.hi.A x7.hi.xs.length x7.hi.c) (v5 := .slice x7.hi.D x7.hi.ys.length x7.hi.d) (by omega)
  try have b5 := a5.far6 a5 (v0 := .bool x7.lo.b) (v1 := .slice x7.lo.A x7.lo.xs.length x7.lo.c) (v2 := .slice x7.lo.D x7.lo.ys.length x7.lo.d) (v3 := .bool x7.hi.b) (v4 := .slice x7.hi.A x7.hi.xs.length x7.hi.c) (v5 := .slice x7.hi.D x7.hi.ys.length x7.hi.d) (by omega)
  try have b6 := a6.far6 a5 (v0 := .bool x7.lo.b) (v1 := .slice x7.lo.A x7.lo.xs.length x7.lo.c) (v2 := .slice x7.lo.D x7.lo.ys.length x7.lo.d) (v3 := .bool x7.hi.b) (v4 := .slice x7.hi.A x7.hi.xs.length x7.hi.c) (v5 := .slice x7.hi.D x7.hi.ys.length x7.hi.d) (by omega)
  have bK := a5.put6 ok7
  have bz := set6_below (v0 := .bool x7.lo.b) (v1 := .slice x7.lo.A x7.lo.xs.length x7.lo.c) (v2 := .slice x7.lo.D x7.lo.ys.length x7.lo.d) (v3 := .bool x7.hi.b) (v4 := .slice x7.hi.A x7.hi.xs.length x7.hi.c) (v5 := .slice x7.hi.D x7.hi.ys.length x7.hi.d) bw (G := g5) (by omega)
  clear a5 bw ok7
  try dsimp only [set6] at b1
  try dsimp only [set6] at b2
  try dsimp only [set6] at b3
  try dsimp only [set6] at b4
  try dsimp only [set6] at b5
  try dsimp only [set6] at b6
  dsimp only [set6] at bK bz
  generalize (World.setCell (World.setCell (World.setCell (World.setCell (World.setCell (World.setCell _ ⟨g5, 0, none⟩ (.bool x7.lo.b)) ⟨g5, 1, none⟩ (.slice x7.lo.A x7.lo.xs.length x7.lo.c)) ⟨g5, 2, none⟩ (.slice x7.lo.D x7.lo.ys.length x7.lo.d)) ⟨g5, 3, none⟩ (.bool x7.hi.b)) ⟨g5, 4, none⟩ (.slice x7.hi.A x7.hi.xs.length x7.hi.c)) ⟨g5, 5, none⟩ (.slice x7.hi.D x7.hi.ys.length x7.hi.d)) = wm at *
  try replace a1 := b1
  try clear b1
  try replace a2 := b2
  try clear b2
  try replace a3 := b3
  try clear b3
  try replace a4 := b4
  try clear b4
  try replace a5 := b5
  try clear b5
  try replace a6 := b6
  try clear b6
  have a7 := bK
  have bw := bz
  clear bK bz
  have ci0 := a6.c0
  have ci1 := a6.c1
  have ci2 := a6.c2
  have ci3 := a6.c3
  have ci4 := a6.c4
  have ci5 := a6.c5
  have cj0 := a7.c0
  have cj1 := a7.c1
  have cj2 := a7.c2
  have cj3 := a7.c3
  have cj4 := a7.c4
  have cj5 := a7.c5
  go_wp2_with fail
  clear ci0 ci1 ci2 ci3 ci4 ci5
  clear cj0 cj1 cj2 cj3 cj4 cj5
  refine (samei_any _ x6 x7 a6.ok a7.ok (SmI.of HS6.out.1 HS6.out.2 HS7.out.1 HS7.out.2)).mono ?_
  rintro e wn ⟨rfl, bb⟩
  try replace a1 := a1.below bb
  try replace a2 := a2.below bb
  try replace a3 := a3.below bb
  try replace a4 := a4.below bb
  try replace a5 := a5.below bb
  try replace a6 := a6.below bb
  try replace a7 := a7.below bb
  replace bw := below_on bw bb bw.size
  clear bb
  go_upto_region 11 with fail
  have ci0 := a1.c0
  have ci1 := a1.c1
  have ci2 := a1.c2
  have ci3 := a1.c3
  have ci4 := a1.c4
  have ci5 := a1.c5
  have cj0 := a2.c0
  have cj1 := a2.c1
  have cj2 := a2.c2
  have cj3 := a2.c3
  have cj4 := a2.c4
  have cj5 := a2.c5
  go_wp2_with fail
  clear ci0 ci1 ci2 ci3 ci4 ci5
  clear cj0 cj1 cj2 cj3 cj4 cj5
  refine (imul_any _ x1 x2 (SC) a1.ok a2.ok f1 f2 HC.out).mono ?_
  rintro e wn ⟨x8, rfl, h1, h2, ok8, bb⟩
  have HS8 := Lib.hid (And.intro h1 h2)
  clear h1 h2
  try replace a1 := a1.below bb
  try replace a2 := a2.below bb
  try replace a3 := a3.below bb
  try replace a4 := a4.below bb
  try replace a5 := a5.below bb
  try replace a6 := a6.below bb
  try replace a7 := a7.below bb
  replace bw := below_on bw bb bw.size
  clear bb
  have ci0 := a6.c0
  have ci1 := a6.c1
  have ci2 := a6.c2
  have ci3 := a6.c3
  have ci4 := a6.c4
  have ci5 := a6.c5
  have af0 := a6.unf 0
  have af1 := a6.unf 1
  have af2 := a6.unf 2
  have af3 := a6.unf 3
  have af4 := a6.unf 4
  have af5 := a6.unf 5
  go_upto_region 12 with fail
  clear ci0 ci1 ci2 ci3 ci4 ci5
  clear af0 af1 af2 af3 af4 af5
  try have b1 := a1.far6 a6 (v0 := .bool x8.lo.b) (v1 := .slice x8.lo.A x8.lo.xs.length x8.lo.c) (v2 := .slice x8.lo.D x8.lo.ys.length x8.lo.d) (v3 := .bool x8.hi.b) (v4 := .slice x8.hi.A x8.hi.xs.length x8.hi.c) (v5 := .slice x8.hi.D x8.hi.ys.length x8.hi.d) (by omega)
  try have b2 := a2.far6 a6 (v0 := .bool x8.lo.b) (v1 := .slice x8.lo.A x8.lo.xs.length x8.lo.c) (v2 := .slice x8.lo.D x8.lo.ys.length x8.lo.d) (v3 := .bool x8.hi.b) (v4 := .slice x8.hi.A x8.hi.xs.length x8.hi.c) (v5 := .slice x8.hi.D x8.hi.ys.length x8.hi.d) (by omega)
  try have b3 := a3.far6 a6 (v0 := .bool x8.lo.b) (v1 := .slice x8.lo.A x8.lo.xs.length x8.lo.c) (v2 := .slice x8.lo.D x8.lo.ys.length x8.lo.d) (v3 := .bool x8.hi.b) (v4 := .slice x8.hi.A x8.hi.xs.length x8.hi.c) (v5 := .slice x8.hi.D x8.hi.ys.length x8.hi.d) (by omega)
  try have b4 := a4.far6 a6 (v0 := .bool x8.lo.b) (v1 := .slice x8.lo.A x8.lo.xs.length x8.lo.c) (v2 := .slice x8.lo.D x8.lo.ys.length x8.lo.d) (v3 := .bool x8.hi.b) (v4 := .slice x8.hi.A x8.hi.xs.length x8.hi.c) (v5 := .slice x8.hi.D x8.hi.ys.length x8.hi.d) (by omega)
  try have b5 := a5.far6 a6 (v0 := .bool x8.lo.b) (v1 := .slice x8.lo.A x8.lo.xs.length x8.lo.c) (v2 := .slice x8.lo.D x8.lo.ys.length x8.lo.d) (v3 := .bool x8.hi.b) (v4 := .slice x8.hi.A x8.hi.xs.length x8.hi.c) (v5 := .slice x8.hi.D x8.hi.ys.length x8.hi.d) (by omega)
  try have b6 := a6.far6 a6 (v0 := .bool x8.lo.b) (v1 := .slice x8.lo.A x8.lo.xs.length x8.lo.c) (v2 := .slice x8.lo.D x8.lo.ys.length x8.lo.d) (v3 := .bool x8.hi.b) (v4 := .slice x8.hi.A x8.hi.xs.length x8.hi.c) (v5 := .slice x8.hi.D x8.hi.ys.length x8.hi.d) (by omega)
  try have b7 := a7.far6 a6 (v0 := .bool x8.lo.b) (v1 := .slice x8.lo.A x8.lo.xs.length x8.lo.c) (v2 := .slice x8.lo.D x8.lo.ys.length x8.lo.d) (v3 := .bool x8.hi.b) (v4 := .slice x8.hi.A x8.hi.xs.length x8.hi.c) (v5 := .slice x8.hi.D x8.hi.ys.length x8.hi.d) (by omega)
  have bK := a6.put6 ok8
  have bz := set6_below (v0 := .bool x8.lo.b) (v1 := .slice x8.lo.A x8.lo.xs.length x8.lo.c) (v2 := .slice x8.lo.D x8.lo.ys.length x8.lo.d) (v3 := .bool x8.hi.b) (v4 := .slice x8.hi.A x8.hi.xs.length x8.hi.c) (v5 := .slice x8.hi.D x8.hi.ys.length x8.hi.d) bw (G := g4) (by omega)
  clear a6 bw ok8
  try dsimp only [set6] at b1
  try dsimp only [set6] at b2
  try dsimp only [set6] at b3
  try dsimp only [set6] at b4
  try dsimp only [set6] at b5
  try dsimp only [set6] at b6
  try dsimp only [set6] at b7
  dsimp only [set6] at bK bz
  generalize (World.setCell (World.setCell (World.setCell (World.setCell (World.setCell (World.setCell _ ⟨g4, 0, none⟩ (.bool x8.lo.b)) ⟨g4, 1, none⟩ (.slice x8.lo.A x8.lo.xs.length x8.lo.c)) ⟨g4, 2, none⟩ (.slice x8.lo.D x8.lo.ys.length x8.lo.d)) ⟨g4, 3, none⟩ (.bool x8.hi.b)) ⟨g4, 4, none⟩ (.slice x8.hi.A x8.hi.xs.length x8.hi.c)) ⟨g4, 5, none⟩ (.slice x8.hi.D x8.hi.ys.length x8.hi.d)) = wm at *
  try replace a1 := b1
  try clear b1
  try replace a2 := b2
  try clear b2
  try replace a3 := b3
  try clear b3
  try replace a4 := b4
  try clear b4
  try replace a5 := b5
  try clear b5
  try replace a6 := b6
  try clear b6
  try replace a7 := b7
  try clear b7
  have a8 := bK
  have bw := bz
  clear bK bz
  have ci0 := a1.c0
  have ci1 := a1.c1
  have ci2 := a1.c2
  have ci3 := a1.c3
  have ci4 := a1.c4
  have ci5 := a1.c5
  have cj0 := a2.c0
  have cj1 := a2.c1
  have cj2 := a2.c2
  have cj3 := a2.c3
  have cj4 := a2.c4
  have cj5 := a2.c5
  go_wp2_with fail
  clear ci0 ci1 ci2 ci3 ci4 ci5
  clear cj0 cj1 cj2 cj3 cj4 cj5
  refine (rimul_any _ x1 x2 (SC) a1.ok a2.ok f1 f2 HC.out).mono ?_
  rintro e wn ⟨x9, rfl, h1, h2, ok9, bb⟩
  have HS9 := Lib.hid (And.intro h1 h2)
  clear h1 h2
  try replace a1 := a1.below bb
  try replace a2 := a2.below bb
  try replace a3 := a3.below bb
  try replace a4 := a4.below bb
  try replace a5 := a5.below bb
  try replace a6 := a6.below bb
  try replace a7 := a7.below bb
  try replace a8 := a8.below bb
  replace bw := below_on bw bb bw.size
  clear bb
  have ci0 := a7.c0
  have ci1 := a7.c1
  have ci2 := a7.c2
  have ci3 := a7.c3
  have ci4 := a7.c4
  have ci5 := a7.c5
  have af0 := a7.unf 0
  have af1 := a7.unf 1
  have af2 := a7.unf 2
  have af3 := a7.unf 3
  have af4 := a7.unf 4
  have af5 := a7.unf 5
  go_upto_region 13 with fail
  clear ci0 ci1 ci2 ci3 ci4 ci5
  clear af0 af1 af2 af3 af4 af5
  try have b1 := a1.far6 a7 (v0 := .bool x9.lo.b) (v1 := .slice x9.lo.A x9.lo.xs.length x9.lo.c) (v2 := .slice x9.lo.D x9.lo.ys.length x9.lo.d) (v3 := .bool x9.hi.b) (v4 := .slice x9.hi.A x9.hi.xs.length x9.hi.c) (v5 := .slice x9.hi.D x9.hi.ys.length x9.hi.d) (by omega)
  try have b2 := a2.far6 a7 (v0 := .bool x9.lo.b) (v1 := .slice x9.lo.A x9.lo.xs.length x9.lo.c) (v2 := .slice x9.lo.D x9.lo.ys.length x9.lo.d) (v3 := .bool x9.hi.b) (v4 := .slice x9.hi.A x9.hi.xs.length x9.hi.c) (v5 := .slice x9.hi.D x9.hi.ys.length x9.hi.d) (by omega)
  try have b3 := a3.far6 a7 (v0 := .bool x9.lo.b) (v1 := .slice x9.lo.A x9.lo.xs.length x9.lo.c) (v2 := .slice x9.lo.D x9.lo.ys.length x9.lo.d) (v3 := .bool x9.hi.b) (v4 := .slice x9.hi.A x9.hi.xs.length x9.hi.c) (v5 := .slice x9.hi.D x9.hi.ys.length x9.hi.d) (by omega)
  try have b4 := a4.far6 a7 (v0 := .bool x9.lo.b) (v1 := .slice x9.lo.A x9.lo.xs.length x9.lo.c) (v2 := .slice x9.lo.D x9.lo.ys.length x9.lo.d) (v3 := .bool x9.hi.b) (v4 := .slice x9.hi.A x9.hi.xs.length x9.hi.c) (v5 := .slice x9.hi.D x9.hi.ys.length x9.hi.d) (by omega)
  try have b5 := a5.far6 a7 (v0 := .bool x9.lo.b) (v1 := .slice x9.lo.A x9.lo.xs.length x9.lo.c) (v2 := .slice x9.lo.D x9.lo.ys.length x9.lo.d) (v3 := .bool x9.hi.b) (v4 := .slice x9.hi.A x9.hi.xs.length x9.hi.c) (v5 := .slice x9.hi.D x9.hi.ys.length x9.hi.d) (by omega)
  try have b6 := a6.far6 a7 (v0 := .bool x9.lo.b) (v1 := .slice x9.lo.A x9.lo.xs.length x9.lo.c) (v2 := .slice x9.lo.D x9.lo.ys.length x9.lo.d) (v3 := .bool x9.hi.b) (v4 := .slice x9.hi.A x9.hi.xs.length x9.hi.c) (v5 := .slice x9.hi.D x9.hi.ys.length x9.hi.d) (by omega)
  try have b7 := a7.far6 a7 (v0 := .bool x9.lo.b) (v1 := .slice x9.lo.A x9.lo.xs.length x9.lo.c) (v2 := .slice x9.lo.D x9.lo.ys.length x9.lo.d) (v3 := .bool x9.hi.b) (v4 := .slice x9.hi.A x9.hi.xs.length x9.hi.c) (v5 := .slice x9.hi.D x9.hi.ys.length x9.hi.d) (by omega)
  try have b8 := a8.far6 a7 (v0 := .bool x9.lo.b) (v1 := .slice x9.lo.A x9.lo.xs.length x9.lo.c) (v2 := .slice x9.lo.D x9.lo.ys.length x9.lo.d) (v3 := .bool x9.hi.b) (v4 := .slice x9.hi.A x9.hi.xs.length x9.hi.c) (v5 := .slice x9.hi.D x9.hi.ys.length x9.hi.d) (by omega)
  have bK := a7.put6 ok9
  have bz := set6_below (v0 := .bool x9.lo.b) (v1 := .slice x9.lo.A x9.lo.xs.length x9.lo.c) (v2 := .slice x9.lo.D x9.lo.ys.length x9.lo.d) (v3 := .bool x9.hi.b) (v4 := .slice x9.hi.A x9.hi.xs.length x9.hi.c) (v5 := .slice x9.hi.D x9.hi.ys.length x9.hi.d) bw (G := g5) (by omega)
  clear a7 bw ok9
  try dsimp only [set6] at b1
  try dsimp only [set6] at b2
  try dsimp only [set6] at b3
  try dsimp only [set6] at b4
  try dsimp only [set6] at b5
  try dsimp only [set6] at b6
  try dsimp only [set6] at b7
  try dsimp only [set6] at b8
  dsimp only [set6] at bK bz
  generalize (World.setCell (World.setCell (World.setCell (World.setCell (World.setCell (World.setCell _ ⟨g5, 0, none⟩ (.bool x9.lo.b)) ⟨g5, 1, none⟩ (.slice x9.lo.A x9.lo.xs.length x9.lo.c)) ⟨g5, 2, none⟩ (.slice x9.lo.D x9.lo.ys.length x9.lo.d)) ⟨g5, 3, none⟩ (.bool x9.hi.b)) ⟨g5, 4, none⟩ (.slice x9.hi.A x9.hi.xs.length x9.hi.c)) ⟨g5, 5, none⟩ (.slice x9.hi.D x9.hi.ys.length x9.hi.d)) = wm at *
  try replace a1 := b1
  try clear b1
  try replace a2 := b2
  try clear b2
  try replace a3 := b3
  try clear b3
  try replace a4 := b4
  try clear b4
  try replace a5 := b5
  try clear b5
  try replace a6 := b6
  try clear b6
  try replace a7 := b7
  try clear b7
  try replace a8 := b8
  try clear b8
  have a9 := bK
  have bw := bz
  clear bK bz
  have ci0 := a8.c0
  have ci1 := a8.c1
  have ci2 := a8.c2
  have ci3 := a8.c3
  have ci4 := a8.c4
  have ci5 := a8.c5
  have cj0 := a9.c0
  have cj1 := a9.c1
  have cj2 := a9.c2
  have cj3 := a9.c3
  have cj4 := a9.c4
  have cj5 := a9.c5
  go_wp2_with fail
  clear ci0 ci1 ci2 ci3 ci4 ci5
  clear cj0 cj1 cj2 cj3 cj4 cj5
  refine (samei_any _ x8 x9 a8.ok a9.ok (SmI.of HS8.out.1 HS8.out.2 HS9.out.1 HS9.out.2)).mono ?_
  rintro e wn ⟨rfl, bb⟩
  try replace a1 := a1.below bb
  try replace a2 := a2.below bb
  try replace a3 := a3.below bb
  try replace a4 := a4.below bb
  try replace a5 := a5.below bb
  try replace a6 := a6.below bb
  try replace a7 := a7.below bb
  try replace a8 := a8.below bb
  try replace a9 := a9.below bb
  replace bw := below_on bw bb bw.size
  clear bb
  go_upto_region 15 with fail
  have ci0 := a1.c0
  have ci1 := a1.c1
  have ci2 := a1.c2
  have ci3 := a1.c3
  have ci4 := a1.c4
  have ci5 := a1.c5
  have cj0 := a3.c0
  have cj1 := a3.c1
  have cj2 := a3.c2
  go_wp2_with fail
  clear ci0 ci1 ci2 ci3 ci4 ci5
  clear cj0 cj1 cj2
  refine (iscale_any _ x3 x1 SD a3.ok a1.ok f3 f1 HD.out).mono ?_
  rintro e wn ⟨x10, rfl, h1, h2, ok10, bb⟩
  have HS10 := Lib.hid (And.intro h1 h2)
  clear h1 h2
  try replace a1 := a1.below bb
  try replace a2 := a2.below bb
  try replace a3 := a3.below bb
  try replace a4 := a4.below bb
  try replace a5 := a5.below bb
  try replace a6 := a6.below bb
  try replace a7 := a7.below bb
  try replace a8 := a8.below bb
  try replace a9 := a9.below bb
  replace bw := below_on bw bb bw.size
  clear bb
  have ci0 := a8.c0
  have ci1 := a8.c1
  have ci2 := a8.c2
  have ci3 := a8.c3
  have ci4 := a8.c4
  have ci5 := a8.c5
  have af0 := a8.unf 0
  have af1 := a8.unf 1
  have af2 := a8.unf 2
  have af3 := a8.unf 3
  have af4 := a8.unf 4
  have af5 := a8.unf 5
  go_upto_region 16 with fail
  clear ci0 ci1 ci2 ci3 ci4 ci5
  clear af0 af1 af2 af3 af4 af5
  try have b1 := a1.far6 a8 (v0 := .bool x10.lo.b) (v1 := .slice x10.lo.A x10.lo.xs.length x10.lo.c) (v2 := .slice x10.lo.D x10.lo.ys.length x10.lo.d) (v3 := .bool x10.hi.b) (v4 := .slice x10.hi.A x10.hi.xs.length x10.hi.c) (v5 := .slice x10.hi.D x10.hi.ys.length x10.hi.d) (by omega)
  try have b2 := a2.far6 a8 (v0 := .bool x10.lo.b) (v1 := .slice x10.lo.A x10.lo.xs.length x10.lo.c) (v2 := .slice x10.lo.D x10.lo.ys.length x10.lo.d) (v3 := .bool x10.hi.b) (v4 := .slice x10.hi.A x10.hi.xs.length x10.hi.c) (v5 := .slice x10.hi.D x10.hi.ys.length x10.hi.d) (by omega)
  try have b3 := a3.far6 a8 (v0 := .bool x10.lo.b) (v1 := .slice x10.lo.A x10.lo.xs.length x10.lo.c) (v2 := .slice x10.lo.D x10.lo.ys.length x10.lo.d) (v3 := .bool x10.hi.b) (v4 := .slice x10.hi.A x10.hi.xs.length x10.hi.c) (v5 := .slice x10.hi.D x10.hi.ys.length x10.hi.d) (by omega)
  try have b4 := a4.far6 a8 (v0 := .bool x10.lo.b) (v1 := .slice x10.lo.A x10.lo.xs.length x10.lo.c) (v2 := .slice x10.lo.D x10.lo.ys.length x10.lo.d) (v3 := .bool x10.hi.b) (v4 := .slice x10.hi.A x10.hi.xs.length x10.hi.c) (v5 := .slice x10.hi.D x10.hi.ys.length x10.hi.d) (by omega)
  try have b5 := a5.far6 a8 (v0 := .bool x10.lo.b) (v1 := .slice x10.lo.A x10.lo.xs.length x10.lo.c) (v2 := .slice x10.lo.D x10.lo.ys.length x10.lo.d) (v3 := .bool x10.hi.b) (v4 := .slice x10.hi.A x10.hi.xs.length x10.hi.c) (v5 := .slice x10.hi.D x10.hi.ys.length x10.hi.d) (by omega)
  try have b6 := a6.far6 a8 (v0 := .bool x10.lo.b) (v1 := .slice x10.lo.A x10.lo.xs.length x10.lo.c) (v2 := .slice x10.lo.D x10.lo.ys.length x10.lo.d) (v3 := .bool x10.hi.b) (v4 := .slice x10.hi.A x10.hi.xs.length x10.hi.c) (v5 := .slice x10.hi.D x10.hi.ys.length x10.hi.d) (by omega)
  try have b7 := a7.far6 a8 (v0 := .bool x10.lo.b) (v1 := .slice x10.lo.A x10.lo.xs.length x10.lo.c) (v2 := .slice x10.lo.D x10.lo.ys.length x10.lo.d) (v3 := .bool x10.hi.b) (v4 := .slice x10.hi.A x10.hi.xs.length x10.hi.c) (v5 := .slice x10.hi.D x10.hi.ys.length x10.hi.d) (by omega)
  try have b8 := a8.far6 a8 (v0 := .bool x10.lo.b) (v1 := .slice x10.lo.A x10.lo.xs.length x10.lo.c) (v2 := .slice x10.lo.D x10.lo.ys.length x10.lo.d) (v3 := .bool x10.hi.b) (v4 := .slice x10.hi.A x10.hi.xs.length x10.hi.c) (v5 := .slice x10.hi.D x10.hi.ys.length x10.hi.d) (by omega)
  try have b9 := a9.far6 a8 (v0 := .bool x10.lo.b) (v1 := .slice x10.lo.A x10.lo.xs.length x10.lo.c) (v2 := .slice x10.lo.D x10.lo.ys.length x10.lo.d) (v3 := .bool x10.hi.b) (v4 := .slice x10.hi.A x10.hi.xs.length x10.hi.c) (v5 := .slice x10.hi.D x10.hi.ys.length x10.hi.d) (by omega)
  have bK := a8.put6 ok10
  have bz := set6_below (v0 := .bool x10.lo.b) (v1 := .slice x10.lo.A x10.lo.xs.length x10.lo.c) (v2 := .slice x10.lo.D x10.lo.ys.length x10.lo.d) (v3 := .bool x10.hi.b) (v4 := .slice x10.hi.A x10.hi.xs.length x10.hi.c) (v5 := .slice x10.hi.D x10.hi.ys.length x10.hi.d) bw (G := g4) (by omega)
  clear a8 bw ok10
  try dsimp only [set6] at b1
  try dsimp only [set6] at b2
  try dsimp only [set6] at b3
  try dsimp only [set6] at b4
  try dsimp only [set6] at b5
  try dsimp only [set6] at b6
  try dsimp only [set6] at b7
  try dsimp only [set6] at b8
  try dsimp only [set6] at b9
  dsimp only [set6] at bK bz
  generalize (World.setCell (World.setCell (World.setCell (World.setCell (World.setCell (World.setCell _ ⟨g4, 0, none⟩ (.bool x10.lo.b)) ⟨g4, 1, none⟩ (.slice x10.lo.A x10.lo.xs.length x10.lo.c)) ⟨g4, 2, none⟩ (.slice x10.lo.D x10.lo.ys.length x10.lo.d)) ⟨g4, 3, none⟩ (.bool x10.hi.b)) ⟨g4, 4, none⟩ (.slice x10.hi.A x10.hi.xs.length x10.hi.c)) ⟨g4, 5, none⟩ (.slice x10.hi.D x10.hi.ys.length x10.hi.d)) = wm at *
  try replace a1 := b1
  try clear b1
  try replace a2 := b2
  try clear b2
  try replace a3 := b3
  try clear b3
  try replace a4 := b4
  try clear b4
  try replace a5 := b5
  try clear b5
  try replace a6 := b6
  try clear b6
  try replace a7 := b7
  try clear b7
  try replace a8 := b8
  try clear b8
  try replace a9 := b9
  try clear b9
  have a10 := bK
  have bw := bz
  clear bK bz
  have ci0 := a1.c0
  have ci1 := a1.c1
  have ci2 := a1.c2
  have ci3 := a1.c3
  have ci4 := a1.c4
  have ci5 := a1.c5
  have cj0 := a3.c0
  have cj1 := a3.c1
  have cj2 := a3.c2
  go_wp2_with fail
  clear ci0 ci1 ci2 ci3 ci4 ci5
  clear cj0 cj1 cj2
  refine (riscale_any _ x3 x1 SD a3.ok a1.ok f3 f1 HD.out).mono ?_
  rintro e wn ⟨x11, rfl, h1, h2, ok11, bb⟩
  have HS11 := Lib.hid (And.intro h1 h2)
  clear h1 h2
  try replace a1 := a1.below bb
  try replace a2 := a2.below bb
  try replace a3 := a3.below bb
  try replace a4 := a4.below bb
  try replace a5 := a5.below bb
  try replace a6 := a6.below bb
  try replace a7 := a7.below bb
  try replace a8 := a8.below bb
  try replace a9 := a9.below bb
  try replace a10 := a10.below bb
  replace bw := below_on bw bb bw.size
  clear bb
  have ci0 := a9.c0
  have ci1 := a9.c1
  have ci2 := a9.c2
  have ci3 := a9.c3
  have ci4 := a9.c4
  have ci5 := a9.c5
  have af0 := a9.unf 0
  have af1 := a9.unf 1
  have af2 := a9.unf 2
  have af3 := a9.unf 3
  have af4 := a9.unf 4
  have af5 := a9.unf 5
  go_upto_region 17 with fail
  clear ci0 ci1 ci2 ci3 ci4 ci5
  clear af0 af1 af2 af3 af4 af5
  try have b1 := a1.far6 a9 (v0 := .bool x11.lo.b) (v1 := .slice x11.lo.A x11.lo.xs.length x11.lo.c) (v2 := .slice x11.lo.D x11.lo.ys.length x11.lo.d) (v3 := .bool x11.hi.b) (v4 := .slice x11.hi.A x11.hi.xs.length x11.hi.c) (v5 := .slice x11.hi.D x11.hi.ys.length x11.hi.d) (by omega)
  try have b2 := a2.far6 a9 (v0 := .bool x11.lo.b) (v1 := .slice x11.lo.A x11.lo.xs.length x11.lo.c) (v2 := .slice x11.lo.D x11.lo.ys.length x11.lo.d) (v3 := .bool x11.hi.b) (v4 := .slice x11.hi.A x11.hi.xs.length x11.hi.c) (v5 := .slice x11.hi.D x11.hi.ys.length x11.hi.d) (by omega)
  try have b3 := a3.far6 a9 (v0 := .bool x11.lo.b) (v1 := .slice x11.lo.A x11.lo.xs.length x11.lo.c) (v2 := .slice x11.lo.D x11.lo.ys.length x11.lo.d) (v3 := .bool x11.hi.b) (v4 := .slice x11.hi.A x11.hi.xs.length x11.hi.c) (v5 := .slice x11.hi.D x11.hi.ys.length x11.hi.d) (by omega)
  try have b4 := a4.far6 a9 (v0 := .bool x11.lo.b) (v1 := .slice x11.lo.A x11.lo.xs.length x11.lo.c) (v2 := .slice x11.lo.D x11.lo.ys.length x11.lo.d) (v3 := .bool x11.hi.b) (v4 := .slice x11.hi.A x11.hi.xs.length x11.hi.c) (v5 := .slice x11.hi.D x11.hi.ys.length x11.hi.d) (by omega)
  try have b5 := a5.far6 a9 (v0 := .bool x11.lo.b) (v1 := .slice x11.lo.A x11.lo.xs.length x11.lo.c) (v2 := .slice x11.lo.D x11.lo.ys.length x11.lo.d) (v3 := .bool x11.hi.b) (v4 := .slice x11.hi.A x11.hi.xs.length x11.hi.c) (v5 := .slice x11.hi.D x11.hi.ys.length x11.hi.d) (by omega)
  try have b6 := a6.far6 a9 (v0 := .bool x11.lo.b) (v1 := .slice x11.lo.A x11.lo.xs.length x11.lo.c) (v2 := .slice x11.lo.D x11.lo.ys.length x11.lo.d) (v3 := .bool x11.hi.b) (v4 := .slice x11.hi.A x11.hi.xs.length x11.hi.c) (v5 := .slice x11.hi.D x11.hi.ys.length x11.hi.d) (by omega)
  try have b7 := a7.far6 a9 (v0 := .bool x11.lo.b) (v1 := .slice x11.lo.A x11.lo.xs.length x11.lo.c) (v2 := .slice x11.lo.D x11.lo.ys.length x11.lo.d) (v3 := .bool x11.hi.b) (v4 := .slice x11.hi.A x11.hi.xs.length x11.hi.c) (v5 := .slice x11.hi.D x11.hi.ys.length x11.hi.d) (by omega)
  try have b8 := a8.far6 a9 (v0 := .bool x11.lo.b) (v1 := .slice x11.lo.A x11.lo.xs.length x11.lo.c) (v2 := .slice x11.lo.D x11.lo.ys.length x11.lo.d) (v3 := .bool x11.hi.b) (v4 := .slice x11.hi.A x11.hi.xs.length x11.hi.c) (v5 := .slice x11.hi.D x11.hi.ys.length x11.hi.d) (by omega)
  try have b9 := a9.far6 a9 (v0 := .bool x11.lo.b) (v1 := .slice x11.lo.A x11.lo.xs.length x11.lo.c) (v2 := .slice x11.lo.D x11.lo.ys.length x11.lo.d) (v3 := .bool x11.hi.b) (v4 := .slice x11.hi.A x11.hi.xs.length x11.hi.c) (v5 := .slice x11.hi.D x11.hi.ys.length x11.hi.d) (by omega)
  try have b10 := a10.far6 a9 (v0 := .bool x11.lo.b) (v1 := .slice x11.lo.A x11.lo.xs.length x11.lo.c) (v2 := .slice x11.lo.D x11.lo.ys.length x11.lo.d) (v3 := .bool x11.hi.b) (v4 := .slice x11.hi.A x11.hi.xs.length x11.hi.c) (v5 := .slice x11.hi.D x11.hi.ys.length x11.hi.d) (by omega)
  have bK := a9.put6 ok11
  have bz := set6_below (v0 := .bool x11.lo.b) (v1 := .slice x11.lo.A x11.lo.xs.length x11.lo.c) (v2 := .slice x11.lo.D x11.lo.ys.length x11.lo.d) (v3 := .bool x11.hi.b) (v4 := .slice x11.hi.A x11.hi.xs.length x11.hi.c) (v5 := .slice x11.hi.D x11.hi.ys.length x11.hi.d) bw (G := g5) (by omega)
  clear a9 bw ok11
  try dsimp only [set6] at b1
  try dsimp only [set6] at b2
  try dsimp only [set6] at b3
  try dsimp only [set6] at b4
  try dsimp only [set6] at b5
  try dsimp only [set6] at b6
  try dsimp only [set6] at b7
  try dsimp only [set6] at b8
  try dsimp only [set6] at b9
  try dsimp only [set6] at b10
  dsimp only [set6] at bK bz
  generalize (World.setCell (World.setCell (World.setCell (World.setCell (World.setCell (World.setCell _ ⟨g5, 0, none⟩ (.bool x11.lo.b)) ⟨g5, 1, none⟩ (.slice x11.lo.A x11.lo.xs.length x11.lo.c)) ⟨g5, 2, none⟩ (.slice x11.lo.D x11.lo.ys.length x11.lo.d)) ⟨g5, 3, none⟩ (.bool x11.hi.b)) ⟨g5, 4, none⟩ (.slice x11.hi.A x11.hi.xs.length x11.hi.c)) ⟨g5, 5, none⟩ (.slice x11.hi.D x11.hi.ys.length x11.hi.d)) = wm at *
  try replace a1 := b1
  try clear b1
  try replace a2 := b2
  try clear b2
  try replace a3 := b3
  try clear b3
  try replace a4 := b4
  try clear b4
  try replace a5 := b5
  try clear b5
  try replace a6 := b6
  try clear b6
  try replace a7 := b7
  try clear b7
  try replace a8 := b8
  try clear b8
  try replace a9 := b9
  try clear b9
  try replace a10 := b10
  try clear b10
  have a11 := bK
  have bw := bz
  clear bK bz
  have ci0 := a10.c0
  have ci1 := a10.c1
  have ci2 := a10.c2
  have ci3 := a10.c3
  have ci4 := a10.c4
  have ci5 := a10.c5
  have cj0 := a11.c0
  have cj1 := a11.c1
  have cj2 := a11.c2
  have cj3 := a11.c3
  have cj4 := a11.c4
  have cj5 := a11.c5
  go_wp2_with fail
  clear ci0 ci1 ci2 ci3 ci4 ci5
  clear cj0 cj1 cj2 cj3 cj4 cj5
  refine (samei_any _ x10 x11 a10.ok a11.ok (SmI.of HS10.out.1 HS10.out.2 HS11.out.1 HS11.out.2)).mono ?_
  rintro e wn ⟨rfl, bb⟩
  try replace a1 := a1.below bb
  try replace a2 := a2.below bb
  try replace a3 := a3.below bb
  try replace a4 := a4.below bb
  try replace a5 := a5.below bb
  try replace a6 := a6.below bb
  try replace a7 := a7.below bb
  try replace a8 := a8.below bb
  try replace a9 := a9.below bb
  try replace a10 := a10.below bb
  try replace a11 := a11.below bb
  replace bw := below_on bw bb bw.size
  clear bb
  go_upto_region 19 with fail
  have ci0 := a1.c0
  have ci1 := a1.c1
  have ci2 := a1.c2
  have ci3 := a1.c3
  have ci4 := a1.c4
  have ci5 := a1.c5
  have cj0 := a2.c0
  have cj1 := a2.c1
  have cj2 := a2.c2
  have cj3 := a2.c3
  have cj4 := a2.c4
  have cj5 := a2.c5
  go_wp2_with fail
  clear ci0 ci1 ci2 ci3 ci4 ci5
  clear cj0 cj1 cj2 cj3 cj4 cj5
  refine (imeet_any _ x1 x2 SE a1.ok a2.ok f1 f2 HE.out).mono ?_
  rintro e wn ⟨x12, rfl, h1, h2, ok12, bb⟩
  have HS12 := Lib.hid (And.intro h1 h2)
  clear h1 h2
  try replace a1 := a1.below bb
  try replace a2 := a2.below bb
  try replace a3 := a3.below bb
  try replace a4 := a4.below bb
  try replace a5 := a5.below bb
  try replace a6 := a6.below bb
  try replace a7 := a7.below bb
  try replace a8 := a8.below bb
  try replace a9 := a9.below bb
  try replace a10 := a10.below bb
  try replace a11 := a11.below bb
  replace bw := below_on bw bb bw.size
  clear bb
  have ci0 := a10.c0
  have ci1 := a10.c1
  have ci2 := a10.c2
  have ci3 := a10.c3
  have ci4 := a10.c4
  have ci5 := a10.c5
  have af0 := a10.unf 0
  have af1 := a10.unf 1
  have af2 := a10.unf 2
  have af3 := a10.unf 3
  have af4 := a10.unf 4
  have af5 := a10.unf 5
  go_upto_region 20 with fail
  clear ci0 ci1 ci2 ci3 ci4 ci5
  clear af0 af1 af2 af3 af4 af5
  try have b1 := a1.far6 a10 (v0 := .bool x12.lo.b) (v1 := .slice x12.lo.A x12.lo.xs.length x12.lo.c) (v2 := .slice x12.lo.D x12.lo.ys.length x12.lo.d) (v3 := .bool x12.hi.b) (v4 := .slice x12.hi.A x12.hi.xs.length x12.hi.c) (v5 := .slice x12.hi.D x12.hi.ys.length x12.hi.d) (by omega)
  try have b2 := a2.far6 a10 (v0 := .bool x12.lo.b) (v1 := .slice x12.lo.A x12.lo.xs.length x12.lo.c) (v2 := .slice x12.lo.D x12.lo.ys.length x12.lo.d) (v3 := .bool x12.hi.b) (v4 := .slice x12.hi.A x12.hi.xs.length x12.hi.c) (v5 := .slice x12.hi.D x12.hi.ys.length x12.hi.d) (by omega)
  try have b3 := a3.far6 a10 (v0 := .bool x12.lo.b) (v1 := .slice x12.lo.A x12.lo.xs.length x12.lo.c) (v2 := .slice x12.lo.D x12.lo.ys.length x12.lo.d) (v3 := .bool x12.hi.b) (v4 := .slice x12.hi.A x12.hi.xs.length x12.hi.c) (v5 := .slice x12.hi.D x12.hi.ys.length x12.hi.d) (by omega)
  try have b4 := a4.far6 a10 (v0 := .bool x12.lo.b) (v1 := .slice x12.lo.A x12.lo.xs.length x12.lo.c) (v2 := .slice x12.lo.D x12.lo.ys.length x12.lo.d) (v3 := .bool x12.hi.b) (v4 := .slice x12.hi.A x12.hi.xs.length x12.hi.c) (v5 := .slice x12.hi.D x12.hi.ys.length x12.hi.d) (by omega)
  try have b5 := a5.far6 a10 (v0 := .bool x12.lo.b) (v1 := .slice x12.lo.A x12.lo.xs.length x12.lo.c) (v2 := .slice x12.lo.D x12.lo.ys.length x12.lo.d) (v3 := .bool x12.hi.b) (v4 := .slice x12.hi.A x12.hi.xs.length x12.hi.c) (v5 := .slice x12.hi.D x12.hi.ys.length x12.hi.d) (by omega)
  try have b6 := a6.far6 a10 (v0 := .bool x12.lo.b) (v1 := .slice x12.lo.A x12.lo.xs.length x12.lo.c) (v2 := .slice x12.lo.D x12.lo.ys.length x12.lo.d) (v3 := .bool x12.hi.b) (v4 := .slice x12.hi.A x12.hi.xs.length x12.hi.c) (v5 := .slice x12.hi.D x12.hi.ys.length x12.hi.d) (by omega)
  try have b7 := a7.far6 a10 (v0 := .bool x12.lo.b) (v1 := .slice x12.lo.A x12.lo.xs.length x12.lo.c) (v2 := .slice x12.lo.D x12.lo.ys.length x12.lo.d) (v3 := .bool x12.hi.b) (v4 := .slice x12.hi.A x12.hi.xs.length x12.hi.c) (v5 := .slice x12.hi.D x12.hi.ys.length x12.hi.d) (by omega)
  try have b8 := a8.far6 a10 (v0 := .bool x12.lo.b) (v1 := .slice x12.lo.A x12.lo.xs.length x12.lo.c) (v2 := .slice x12.lo.D x12.lo.ys.length x12.lo.d) (v3 := .bool x12.hi.b) (v4 := .slice x12.hi.A x12.hi.xs.length x12.hi.c) (v5 := .slice x12.hi.D x12.hi.ys.length x12.hi.d) (by omega)
  try have b9 := a9.far6 a10 (v0 := .bool x12.lo.b) (v1 := .slice x12.lo.A x12.lo.xs.length x12.lo.c) (v2 := .slice x12.lo.D x12.lo.ys.length x12.lo.d) (v3 := .bool x12.hi.b) (v4 := .slice x12.hi.A x12.hi.xs.length x12.hi.c) (v5 := .slice x12.hi.D x12.hi.ys.length x12.hi.d) (by omega)
  try have b10 := a10.far6 a10 (v0 := .bool x12.lo.b) (v1 := .slice x12.lo.A x12.lo.xs.length x12.lo.c) (v2 := .slice x12.lo.D x12.lo.ys.length x12.lo.d) (v3 := .bool x12.hi.b) (v4 := .slice x12.hi.A x12.hi.xs.length x12.hi.c) (v5 := .slice x12.hi.D x12.hi.ys.length x12.hi.d) (by omega)
  try have b11 := a11.far6 a10 (v0 := .bool x12.lo.b) (v1 := .slice x12.lo.A x12.lo.xs.length x12.lo.c) (v2 := .slice x12.lo.D x12.lo.ys.length x12.lo.d) (v3 := .bool x12.hi.b) (v4 := .slice x12.hi.A x12.hi.xs.length x12.hi.c) (v5 := .slice x12.hi.D x12.hi.ys.length x12.hi.d) (by omega)
  have bK := a10.put6 ok12
  have bz := set6_below (v0 := .bool x12.lo.b) (v1 := .slice x12.lo.A x12.lo.xs.length x12.lo.c) (v2 := .slice x12.lo.D x12.lo.ys.length x12.lo.d) (v3 := .bool x12.hi.b) (v4 := .slice x12.hi.A x12.hi.xs.length x12.hi.c) (v5 := .slice x12.hi.D x12.hi.ys.length x12.hi.d) bw (G := g4) (by omega)
  clear a10 bw ok12
  try dsimp only [set6] at b1
  try dsimp only [set6] at b2
  try dsimp only [set6] at b3
  try dsimp only [set6] at b4
  try dsimp only [set6] at b5
  try dsimp only [set6] at b6
  try dsimp only [set6] at b7
  try dsimp only [set6] at b8
  try dsimp only [set6] at b9
  try dsimp only [set6] at b10
  try dsimp only [set6] at b11
  dsimp only [set6] at bK bz
  generalize (World.setCell (World.setCell (World.setCell (World.setCell (World.setCell (World.setCell _ ⟨g4, 0, none⟩ (.bool x12.lo.b)) ⟨g4, 1, none⟩ (.slice x12.lo.A x12.lo.xs.length x12.lo.c)) ⟨g4, 2, none⟩ (.slice x12.lo.D x12.lo.ys.length x12.lo.d)) ⟨g4, 3, none⟩ (.bool x12.hi.b)) ⟨g4, 4, none⟩ (.slice x12.hi.A x12.hi.xs.length x12.hi.c)) ⟨g4, 5, none⟩ (.slice x12.hi.D x12.hi.ys.length x12.hi.d)) = wm at *
  try replace a1 := b1
  try clear b1
  try replace a2 := b2
  try clear b2
  try replace a3 := b3
  try clear b3
  try replace a4 := b4
  try clear b4
  try replace a5 := b5
  try clear b5
  try replace a6 := b6
  try clear b6
  try replace a7 := b7
  try clear b7
  try replace a8 := b8
  try clear b8
  try replace a9 := b9
  try clear b9
  try replace a10 := b10
  try clear b10
  try replace a11 := b11
  try clear b11
  have a12 := bK
  have bw := bz
  clear bK bz
  have ci0 := a1.c0
  have ci1 := a1.c1
  have ci2 := a1.c2
  have ci3 := a1.c3
  have ci4 := a1.c4
  have ci5 := a1.c5
  have cj0 := a2.c0
  have cj1 := a2.c1
  have cj2 := a2.c2
  have cj3 := a2.c3
  have cj4 := a2.c4
  have cj5 := a2.c5
  go_wp2_with fail
  clear ci0 ci1 ci2 ci3 ci4 ci5
  clear cj0 cj1 cj2 cj3 cj4 cj5
  refine (rimeet_any _ x1 x2 SE a1.ok a2.ok f1 f2 HE.out).mono ?_
  rintro e wn ⟨x13, rfl, h1, h2, ok13, bb⟩
  have HS13 := Lib.hid (And.intro h1 h2)
  clear h1 h2
  try replace a1 := a1.below bb
  try replace a2 := a2.below bb
  try replace a3 := a3.below bb
  try replace a4 := a4.below bb
  try replace a5 := a5.below bb
  try replace a6 := a6.below bb
  try replace a7 := a7.below bb
  try replace a8 := a8.below bb
  try replace a9 := a9.below bb
  try replace a10 := a10.below bb
  try replace a11 := a11.below bb
  try replace a12 := a12.below bb
  replace bw := below_on bw bb bw.size
  clear bb
  have ci0 := a11.c0
  have ci1 := a11.c1
  have ci2 := a11.c2
  have ci3 := a11.c3
  have ci4 := a11.c4
  have ci5 := a11.c5
  have af0 := a11.unf 0
  have af1 := a11.unf 1
  have af2 := a11.unf 2
  have af3 := a11.unf 3
  have af4 := a11.unf 4
  have af5 := a11.unf 5
  go_upto_region 21 with fail
  clear ci0 ci1 ci2 ci3 ci4 ci5
  clear af0 af1 af2 af3 af4 af5
  try have b1 := a1.far6 a11 (v0 := .bool x13.lo.b) (v1 := .slice x13.lo.A x13.lo.xs.length x13.lo.c) (v2 := .slice x13.lo.D x13.lo.ys.length x13.lo.d) (v3 := .bool x13.hi.b) (v4 := .slice x13.hi.A x13.hi.xs.length x13.hi.c) (v5 := .slice x13.hi.D x13.hi.ys.length x13.hi.d) (by omega)
  try have b2 := a2.far6 a11 (v0 := .bool x13.lo.b) (v1 := .slice x13.lo.A x13.lo.xs.length x13.lo.c) (v2 := .slice x13.lo.D x13.lo.ys.length x13.lo.d) (v3 := .bool x13.hi.b) (v4 := .slice x13.hi.A x13.hi.xs.length x13.hi.c) (v5 := .slice x13.hi.D x13.hi.ys.length x13.hi.d) (by omega)
  try have b3 := a3.far6 a11 (v0 := .bool x13.lo.b) (v1 := .slice x13.lo.A x13.lo.xs.length x13.lo.c) (v2 := .slice x13.lo.D x13.lo.ys.length x13.lo.d) (v3 := .bool x13.hi.b) (v4 := .slice x13.hi.A x13.hi.xs.length x13.hi.c) (v5 := .slice x13.hi.D x13.hi.ys.length x13.hi.d) (by omega)
  try have b4 := a4.far6 a11 (v0 := .bool x13.lo.b) (v1 := .slice x13.lo.A x13.lo.xs.length x13.lo.c) (v2 := .slice x13.lo.D x13.lo.ys.length x13.lo.d) (v3 := .bool x13.hi.b) (v4 := .slice x13.hi.A x13.hi.xs.length x13.hi.c) (v5 := .slice x13.hi.D x13.hi.ys.length x13.hi.d) (by omega)
  try have b5 := a5.far6 a11 (v0 := .bool x13.lo.b) (v1 := .slice x13.lo.A x13.lo.xs.length x13.lo.c) (v2 := .slice x13.lo.D x13.lo.ys.length x13.lo.d) (v3 := .bool x13.hi.b) (v4 := .slice x13.hi.A x13.hi.xs.length x13.hi.c) (v5 := .slice x13.hi.D x13.hi.ys.length x13.hi.d) (by omega)
  try have b6 := a6.far6 a11 (v0 := .bool x13.lo.b) (v1 := .slice x13.lo.A x13.lo.xs.length x13.lo.c) (v2 := .slice x13.lo.D x13.lo.ys.length x13.lo.d) (v3 := .bool x13.hi.b) (v4 := .slice x13.hi.A x13.hi.xs.length x13.hi.c) (v5 := .slice x13.hi.D x13.hi.ys.length x13.hi.d) (by omega)
  try have b7 := a7.far6 a11 (v0 := .bool x13.lo.b) (v1 := .slice x13.lo.A x13.lo.xs.length x13.lo.c) (v2 := .slice x13.lo.D x13.lo.ys.length x13.lo.d) (v3 := .bool x13.hi.b) (v4 := .slice x13.hi.A x13.hi.xs.length x13.hi.c) (v5 := .slice x13.hi.D x13.hi.ys.length x13.hi.d) (by omega)
  try have b8 := a8.far6 a11 (v0 := .bool x13.lo.b) (v1 := .slice x13.lo.A x13.lo.xs.length x13.lo.c) (v2 := .slice x13.lo.D x13.lo.ys.length x13.lo.d) (v3 := .bool x13.hi.b) (v4 := .slice x13.hi.A x13.hi.xs.length x13.hi.c) (v5 := .slice x13.hi.D x13.hi.ys.length x13.hi.d) (by omega)
  try have b9 := a9.far6 a11 (v0 := .bool x13.lo.b) (v1 := .slice x13.lo.A x13.lo.xs.length x13.lo.c) (v2 := .slice x13.lo.D x13.lo.ys.length x13.lo.d) (v3 := .bool x13.hi.b) (v4 := .slice x13.hi.A x13.hi.xs.length x13.hi.c) (v5 := .slice x13.hi.D x13.hi.ys.length x13.hi.d) (by omega)
  try have b10 := a10.far6 a11 (v0 := .bool x13.lo.b) (v1 := .slice x13.lo.A x13.lo.xs.length x13.lo.c) (v2 := .slice x13.lo.D x13.lo.ys.length x13.lo.d) (v3 := .bool x13.hi.b) (v4 := .slice x13.hi.A x13.hi.xs.length x13.hi.c) (v5 := .slice x13.hi.D x13.hi.ys.length x13.hi.d) (by omega)
  try have b11 := a11.far6 a11 (v0 := .bool x13.lo.b) (v1 := .slice x13.lo.A x13.lo.xs.length x13.lo.c) (v2 := .slice x13.lo.D x13.lo.ys.length x13.lo.d) (v3 := .bool x13.hi.b) (v4 := .slice x13.hi.A x13.hi.xs.length x13.hi.c) (v5 := .slice x13.hi.D x13.hi.ys.length x13.hi.d) (by omega)
  try have b12 := a12.far6 a11 (v0 := .bool x13.lo.b) (v1 := .slice x13.lo.A x13.lo.xs.length x13.lo.c) (v2 := .slice x13.lo.D x13.lo.ys.length x13.lo.d) (v3 := .bool x13.hi.b) (v4 := .slice x13.hi.A x13.hi.xs.length x13.hi.c) (v5 := .slice x13.hi.D x13.hi.ys.length x13.hi.d) (by omega)
  have bK := a11.put6 ok13
  have bz := set6_below (v0 := .bool x13.lo.b) (v1 := .slice x13.lo.A x13.lo.xs.length x13.lo.c) (v2 := .slice x13.lo.D x13.lo.ys.length x13.lo.d) (v3 := .bool x13.hi.b) (v4 := .slice x13.hi.A x13.hi.xs.length x13.hi.c) (v5 := .slice x13.hi.D x13.hi.ys.length x13.hi.d) bw (G := g5) (by omega)
  clear a11 bw ok13
  try dsimp only [set6] at b1
  try dsimp only [set6] at b2
  try dsimp only [set6] at b3
  try dsimp only [set6] at b4
  try dsimp only [set6] at b5
  try dsimp only [set6] at b6
  try dsimp only [set6] at b7
  try dsimp only [set6] at b8
  try dsimp only [set6] at b9
  try dsimp only [set6] at b10
  try dsimp only [set6] at b11
  try dsimp only [set6] at b12
  dsimp only [set6] at bK bz
  generalize (World.setCell (World.setCell (World.setCell (World.setCell (World.setCell (World.setCell _ ⟨g5, 0, none⟩ (.bool x13.lo.b)) ⟨g5, 1, none⟩ (.slice x13.lo.A x13.lo.xs.length x13.lo.c)) ⟨g5, 2, none⟩ (.slice x13.lo.D x13.lo.ys.length x13.lo.d)) ⟨g5, 3, none⟩ (.bool x13.hi.b)) ⟨g5, 4, none⟩ (.slice x13.hi.A x13.hi.xs.length x13.hi.c)) ⟨g5, 5, none⟩ (.slice x13.hi.D x13.hi.ys.length x13.hi.d)) = wm at *
  try replace a1 := b1
  try clear b1
  try replace a2 := b2
  try clear b2
  try replace a3 := b3
  try clear b3
  try replace a4 := b4
  try clear b4
  try replace a5 := b5
  try clear b5
  try replace a6 := b6
  try clear b6
  try replace a7 := b7
  try clear b7
  try replace a8 := b8
  try clear b8
  try replace a9 := b9
  try clear b9
  try replace a10 := b10
  try clear b10
  try replace a11 := b11
  try clear b11
  try replace a12 := b12
  try clear b12
  have a13 := bK
  have bw := bz
  clear bK bz
  have ci0 := a1.c0
  have ci1 := a1.c1
  have ci2 := a1.c2
  have ci3 := a1.c3
  have ci4 := a1.c4
  have ci5 := a1.c5
  go_wp2_with fail
  clear ci0 ci1 ci2 ci3 ci4 ci5
  refine (iwidth_any _ x1 SF a1.ok f1 HF.out).mono ?_
  rintro e wn ⟨x14, rfl, hs14, ok14, bb⟩
  have HS14 := Lib.hid hs14
  clear hs14
  try replace a1 := a1.below bb
  try replace a2 := a2.below bb
  try replace a3 := a3.below bb
  try replace a4 := a4.below bb
  try replace a5 := a5.below bb
  try replace a6 := a6.below bb
  try replace a7 := a7.below bb
  try replace a8 := a8.below bb
  try replace a9 := a9.below bb
  try replace a10 := a10.below bb
  try replace a11 := a11.below bb
  try replace a12 := a12.below bb
  try replace a13 := a13.below bb
  replace bw := below_on bw bb bw.size
  clear bb
  go_upto_region 22 with fail
  have a14 := (fa_alloc ok14).1
  have bb := (fa_alloc ok14).2
  clear ok14
  generalize (wn.alloc (.cells #[.bool x14.b, .slice x14.A x14.xs.length x14.c, .slice x14.D x14.ys.length x14.d] 25)) = wm at a14 bb ⊢
  try replace a1 := a1.below bb
  try replace a2 := a2.below bb
  try replace a3 := a3.below bb
  try replace a4 := a4.below bb
  try replace a5 := a5.below bb
  try replace a6 := a6.below bb
  try replace a7 := a7.below bb
  try replace a8 := a8.below bb
  try replace a9 := a9.below bb
  try replace a10 := a10.below bb
  try replace a11 := a11.below bb
  try replace a12 := a12.below bb
  try replace a13 := a13.below bb
  try replace a14 := a14.below bb
  replace bw := below_on bw bb bw.size
  clear bb
  generalize wn.heap.size = g14 at a14 ⊢
  have ci0 := a1.c0
  have ci1 := a1.c1
  have ci2 := a1.c2
  have ci3 := a1.c3
  have ci4 := a1.c4
  have ci5 := a1.c5
  go_wp2_with fail
  clear ci0 ci1 ci2 ci3 ci4 ci5
  refine (riwidth_any _ x1 SF a1.ok f1 HF.out).mono ?_
  rintro e wn ⟨x15, rfl, hs15, ok15, bb⟩
  have HS15 := Lib.hid hs15
  clear hs15
  try replace a1 := a1.below bb
  try replace a2 := a2.below bb
  try replace a3 := a3.below bb
  try replace a4 := a4.below bb
  try replace a5 := a5.below bb
  try replace a6 := a6.below bb
  try replace a7 := a7.below bb
  try replace a8 := a8.below bb
  try replace a9 := a9.below bb
  try replace a10 := a10.below bb
  try replace a11 := a11.below bb
  try replace a12 := a12.below bb
  try replace a13 := a13.below bb
  try replace a14 := a14.below bb
  replace bw := below_on bw bb bw.size
  clear bb
  go_upto_region 23 with fail
  have a15 := (fa_alloc ok15).1
  have bb := (fa_alloc ok15).2
  clear ok15
  generalize (wn.alloc (.cells #[.bool x15.b, .slice x15.A x15.xs.length x15.c, .slice x15.D x15.ys.length x15.d] 25)) = wm at a15 bb ⊢
  try replace a1 := a1.below bb
  try replace a2 := a2.below bb
  try replace a3 := a3.below bb
  try replace a4 := a4.below bb
  try replace a5 := a5.below bb
  try replace a6 := a6.below bb
  try replace a7 := a7.below bb
  try replace a8 := a8.below bb
  try replace a9 := a9.below bb
  try replace a10 := a10.below bb
  try replace a11 := a11.below bb
  try replace a12 := a12.below bb
  try replace a13 := a13.below bb
  try replace a14 := a14.below bb
  try replace a15 := a15.below bb
  replace bw := below_on bw bb bw.size
  clear bb
  generalize wn.heap.size = g15 at a15 ⊢
  have ci0 := a3.c0
  have ci1 := a3.c1
  have ci2 := a3.c2
  go_wp2_with fail
  clear ci0 ci1 ci2
  refine (ipoint_any _ x3 SG a3.ok f3.l f3.m HG.out).mono ?_
  rintro e wn ⟨x16, rfl, h1, h2, ok16, bb⟩
  have HS16 := Lib.hid (And.intro h1 h2)
  clear h1 h2
  try replace a1 := a1.below bb
  try replace a2 := a2.below bb
  try replace a3 := a3.below bb
  try replace a4 := a4.below bb
  try replace a5 := a5.below bb
  try replace a6 := a6.below bb
  try replace a7 := a7.below bb
  try replace a8 := a8.below bb
  try replace a9 := a9.below bb
  try replace a10 := a10.below bb
  try replace a11 := a11.below bb
  try replace a12 := a12.below bb
  try replace a13 := a13.below bb
  try replace a14 := a14.below bb
  try replace a15 := a15.below bb
  replace bw := below_on bw bb bw.size
  clear bb
  go_upto_region 24 with fail
  have a16 := (ia_alloc ok16).1
  have bb := (ia_alloc ok16).2
  clear ok16
  generalize (wn.alloc (.cells #[.bool x16.lo.b, .slice x16.lo.A x16.lo.xs.length x16.lo.c, .slice x16.lo.D x16.lo.ys.length x16.lo.d, .bool x16.hi.b, .slice x16.hi.A x16.hi.xs.length x16.hi.c, .slice x16.hi.D x16.hi.ys.length x16.hi.d] 41)) = wm at a16 bb ⊢
  try replace a1 := a1.below bb
  try replace a2 := a2.below bb
  try replace a3 := a3.below bb
  try replace a4 := a4.below bb
  try replace a5 := a5.below bb
  try replace a6 := a6.below bb
  try replace a7 := a7.below bb
  try replace a8 := a8.below bb
  try replace a9 := a9.below bb
  try replace a10 := a10.below bb
  try replace a11 := a11.below bb
  try replace a12 := a12.below bb
  try replace a13 := a13.below bb
  try replace a14 := a14.below bb
  try replace a15 := a15.below bb
  try replace a16 := a16.below bb
  replace bw := below_on bw bb bw.size
  clear bb
  generalize wn.heap.size = g16 at a16 ⊢
  have ci0 := a3.c0
  have ci1 := a3.c1
  have ci2 := a3.c2
  go_wp2_with fail
  clear ci0 ci1 ci2
  refine (ripoint_any _ x3 SG a3.ok f3 HG.out).mono ?_
  rintro e wn ⟨x17, rfl, h1, h2, ok17, bb⟩
  have HS17 := Lib.hid (And.intro h1 h2)
  clear h1 h2
  try replace a1 := a1.below bb
  try replace a2 := a2.below bb
  try replace a3 := a3.below bb
  try replace a4 := a4.below bb
  try replace a5 := a5.below bb
  try replace a6 := a6.below bb
  try replace a7 := a7.below bb
  try replace a8 := a8.below bb
  try replace a9 := a9.below bb
  try replace a10 := a10.below bb
  try replace a11 := a11.below bb
  try replace a12 := a12.below bb
  try replace a13 := a13.below bb
  try replace a14 := a14.below bb
  try replace a15 := a15.below bb
  try replace a16 := a16.below bb
  replace bw := below_on bw bb bw.size
  clear bb
  go_upto_region 25 with fail
  have a17 := (ia_alloc ok17).1
  have bb := (ia_alloc ok17).2
  clear ok17
  generalize (wn.alloc (.cells #[.bool x17.lo.b, .slice x17.lo.A x17.lo.xs.length x17.lo.c, .slice x17.lo.D x17.lo.ys.length x17.lo.d, .bool x17.hi.b, .slice x17.hi.A x17.hi.xs.length x17.hi.c, .slice x17.hi.D x17.hi.ys.length x17.hi.d] 41)) = wm at a17 bb ⊢
  try replace a1 := a1.below bb
  try replace a2 := a2.below bb
  try replace a3 := a3.below bb
  try replace a4 := a4.below bb
  try replace a5 := a5.below bb
  try replace a6 := a6.below bb
  try replace a7 := a7.below bb
  try replace a8 := a8.below bb
  try replace a9 := a9.below bb
  try replace a10 := a10.below bb
  try replace a11 := a11.below bb
  try replace a12 := a12.below bb
  try replace a13 := a13.below bb
  try replace a14 := a14.below bb
  try replace a15 := a15.below bb
  try replace a16 := a16.below bb
  try replace a17 := a17.below bb
  replace bw := below_on bw bb bw.size
  clear bb
  generalize wn.heap.size = g17 at a17 ⊢
  obtain ⟨vb, hvb⟩ : ∃ vb, decide x1.v = vb := ⟨_, rfl⟩
  obtain ⟨cb, hcb⟩ : ∃ vb, decide (conS x1 x3) = vb := ⟨_, rfl⟩
  obtain ⟨ib, hib⟩ : ∃ vb, decide (insS x1 x2) = vb := ⟨_, rfl⟩
  have HVB := Lib.hid hvb
  have HCB := Lib.hid hcb
  have HIB := Lib.hid hib
  clear hvb hcb hib o4 o5
  go_region_held3 (fun w' => w'.cell? ⟨w.heap.size, 0, none⟩ = some (.bool x1.lo.b) ∧ w'.cell? ⟨w.heap.size, 1, none⟩ = some (.slice x1.lo.A x1.lo.xs.length x1.lo.c) ∧ w'.cell? ⟨w.heap.size, 2, none⟩ = some (.slice x1.lo.D x1.lo.ys.length x1.lo.d) ∧ w'.cell? ⟨w.heap.size, 3, none⟩ = some (.bool x1.hi.b) ∧ w'.cell? ⟨w.heap.size, 4, none⟩ = some (.slice x1.hi.A x1.hi.xs.length x1.hi.c) ∧ w'.cell? ⟨w.heap.size, 5, none⟩ = some (.slice x1.hi.D x1.hi.ys.length x1.hi.d) ∧ w'.cell? ⟨w.heap.size + 1, 0, none⟩ = some (.bool x2.lo.b) ∧ w'.cell? ⟨w.heap.size + 1, 1, none⟩ = some (.slice x2.lo.A x2.lo.xs.length x2.lo.c) ∧ w'.cell? ⟨w.heap.size + 1, 2, none⟩ = some (.slice x2.lo.D x2.lo.ys.length x2.lo.d) ∧ w'.cell? ⟨w.heap.size + 1, 3, none⟩ = some (.bool x2.hi.b) ∧ w'.cell? ⟨w.heap.size + 1, 4, none⟩ = some (.slice x2.hi.A x2.hi.xs.length x2.hi.c) ∧ w'.cell? ⟨w.heap.size + 1, 5, none⟩ = some (.slice x2.hi.D x2.hi.ys.length x2.hi.d) ∧ w'.cell? ⟨w.heap.size + 1 + 1, 0, none⟩ = some (.bool x3.b) ∧ w'.cell? ⟨w.heap.size + 1 + 1, 1, none⟩ = some (.slice x3.A x3.xs.length x3.c) ∧ w'.cell? ⟨w.heap.size + 1 + 1, 2, none⟩ = some (.slice x3.D x3.ys.length x3.d) ∧ w'.cell? ⟨g4, 0, none⟩ = some (.bool x12.lo.b) ∧ w'.cell? ⟨g4, 1, none⟩ = some (.slice x12.lo.A x12.lo.xs.length x12.lo.c) ∧ w'.cell? ⟨g4, 2, none⟩ = some (.slice x12.lo.D x12.lo.ys.length x12.lo.d) ∧ w'.cell? ⟨g4, 3, none⟩ = some (.bool x12.hi.b) ∧ w'.cell? ⟨g4, 4, none⟩ = some (.slice x12.hi.A x12.hi.xs.length x12.hi.c) ∧ w'.cell? ⟨g4, 5, none⟩ = some (.slice x12.hi.D x12.hi.ys.length x12.hi.d) ∧ w'.cell? ⟨g5, 0, none⟩ = some (.bool x13.lo.b) ∧ w'.cell? ⟨g5, 1, none⟩ = some (.slice x13.lo.A x13.lo.xs.length x13.lo.c) ∧ w'.cell? ⟨g5, 2, none⟩ = some (.slice x13.lo.D x13.lo.ys.length x13.lo.d) ∧ w'.cell? ⟨g5, 3, none⟩ = some (.bool x13.hi.b) ∧ w'.cell? ⟨g5, 4, none⟩ = some (.slice x13.hi.A x13.hi.xs.length x13.hi.c) ∧ w'.cell? ⟨g5, 5, none⟩ = some (.slice x13.hi.D x13.hi.ys.length x13.hi.d) ∧ w'.cell? ⟨g14, 0, none⟩ = some (.bool x14.b) ∧ w'.cell? ⟨g14, 1, none⟩ = some (.slice x14.A x14.xs.length x14.c) ∧ w'.cell? ⟨g14, 2, none⟩ = some (.slice x14.D x14.ys.length x14.d) ∧ w'.cell? ⟨g15, 0, none⟩ = some (.bool x15.b) ∧ w'.cell? ⟨g15, 1, none⟩ = some (.slice x15.A x15.xs.length x15.c) ∧ w'.cell? ⟨g15, 2, none⟩ = some (.slice x15.D x15.ys.length x15.d) ∧ w'.cell? ⟨g16, 0, none⟩ = some (.bool x16.lo.b) ∧ w'.cell? ⟨g16, 1, none⟩ = some (.slice x16.lo.A x16.lo.xs.length x16.lo.c) ∧ w'.cell? ⟨g16, 2, none⟩ = some (.slice x16.lo.D x16.lo.ys.length x16.lo.d) ∧ w'.cell? ⟨g16, 3, none⟩ = some (.bool x16.hi.b) ∧ w'.cell? ⟨g16, 4, none⟩ = some (.slice x16.hi.A x16.hi.xs.length x16.hi.c) ∧ w'.cell? ⟨g16, 5, none⟩ = some (.slice x16.hi.D x16.hi.ys.length x16.hi.d) ∧ w'.cell? ⟨g17, 0, none⟩ = some (.bool x17.lo.b) ∧ w'.cell? ⟨g17, 1, none⟩ = some (.slice x17.lo.A x17.lo.xs.length x17.lo.c) ∧ w'.cell? ⟨g17, 2, none⟩ = some (.slice x17.lo.D x17.lo.ys.length x17.lo.d) ∧ w'.cell? ⟨g17, 3, none⟩ = some (.bool x17.hi.b) ∧ w'.cell? ⟨g17, 4, none⟩ = some (.slice x17.hi.A x17.hi.xs.length x17.hi.c) ∧ w'.cell? ⟨g17, 5, none⟩ = some (.slice x17.hi.D x17.hi.ys.length x17.hi.d))
    (first | with_reducible exact ⟨(a1.below (by with_reducible first | exact Below.refl _ _ | exact (Below.refl _ _).drew)).c0, (a1.below (by with_reducible first | exact Below.refl _ _ | exact (Below.refl _ _).drew)).c1, (a1.below (by with_reducible first | exact Below.refl _ _ | exact (Below.refl _ _).drew)).c2, (a1.below (by with_reducible first | exact Below.refl _ _ | exact (Below.refl _ _).drew)).c3, (a1.below (by with_reducible first | exact Below.refl _ _ | exact (Below.refl _ _).drew)).c4, (a1.below (by with_reducible first | exact Below.refl _ _ | exact (Below.refl _ _).drew)).c5, (a2.below (by with_reducible first | exact Below.refl _ _ | exact (Below.refl _ _).drew)).c0, (a2.below (by with_reducible first | exact Below.refl _ _ | exact (Below.refl _ _).drew)).c1, (a2.below (by with_reducible first | exact Below.refl _ _ | exact (Below.refl _ _).drew)).c2, (a2.below (by with_reducible first | exact Below.refl _ _ | exact (Below.refl _ _).drew)).c3, (a2.below (by with_reducible first | exact Below.refl _ _ | exact (Below.refl _ _).drew)).c4, (a2.below (by with_reducible first | exact Below.refl _ _ | exact (Below.refl _ _).drew)).c5, (a3.below (by with_reducible first | exact Below.refl _ _ | exact (Below.refl _ _).drew)).c0, (a3.below (by with_reducible first | exact Below.refl _ _ | exact (Below.refl _ _).drew)).c1, (a3.below (by with_reducible first | exact Below.refl _ _ | exact (Below.refl _ _).drew)).c2, (a12.below (by with_reducible first | exact Below.refl _ _ | exact (Below.refl _ _).drew)).c0, (a12.below (by with_reducible first | exact Below.refl _ _ | exact (Below.refl _ _).drew)).c1, (a12.below (by with_reducible first | exact Below.refl _ _ | exact (Below.refl _ _).drew)).c2, (a12.below (by with_reducible first | exact Below.refl _ _ | exact (Below.refl _ _).drew)).c3, (a12.below (by with_reducible first | exact Below.refl _ _ | exact (Below.refl _ _).drew)).c4, (a12.below (by with_reducible first | exact Below.refl _ _ | exact (Below.refl _ _).drew)).c5, (a13.below (by with_reducible first | exact Below.refl _ _ | exact (Below.refl _ _).drew)).c0, (a13.below (by with_reducible first | exact Below.refl _ _ | exact (Below.refl _ _).drew)).c1, (a13.below (by with_reducible first | exact Below.refl _ _ | exact (Below.refl _ _).drew)).c2, (a13.below (by with_reducible first | exact Below.refl _ _ | exact (Below.refl _ _).drew)).c3, (a13.below (by with_reducible first | exact Below.refl _ _ | exact (Below.refl _ _).drew)).c4, (a13.below (by with_reducible first | exact Below.refl _ _ | exact (Below.refl _ _).drew)).c5, (a14.below (by with_reducible first | exact Below.refl _ _ | exact (Below.refl _ _).drew)).c0, (a14.below (by with_reducible first | exact Below.refl _ _ | exact (Below.refl _ _).drew)).c1, (a14.below (by with_reducible first | exact Below.refl _ _ | exact (Below.refl _ _).drew)).c2, (a15.below (by with_reducible first | exact Below.refl _ _ | exact (Below.refl _ _).drew)).c0, (a15.below (by with_reducible first | exact Below.refl _ _ | exact (Below.refl _ _).drew)).c1, (a15.below (by with_reducible first | exact Below.refl _ _ | exact (Below.refl _ _).drew)).c2, (a16.below (by with_reducible first | exact Below.refl _ _ | exact (Below.refl _ _).drew)).c0, (a16.below (by with_reducible first | exact Below.refl _ _ | exact (Below.refl _ _).drew)).c1, (a16.below (by with_reducible first | exact Below.refl _ _ | exact (Below.refl _ _).drew)).c2, (a16.below (by with_reducible first | exact Below.refl _ _ | exact (Below.refl _ _).drew)).c3, (a16.below (by with_reducible first | exact Below.refl _ _ | exact (Below.refl _ _).drew)).c4, (a16.below (by with_reducible first | exact Below.refl _ _ | exact (Below.refl _ _).drew)).c5, (a17.below (by with_reducible first | exact Below.refl _ _ | exact (Below.refl _ _).drew)).c0, (a17.below (by with_reducible first | exact Below.refl _ _ | exact (Below.refl _ _).drew)).c1, (a17.below (by with_reducible first | exact Below.refl _ _ | exact (Below.refl _ _).drew)).c2, (a17.below (by with_reducible first | exact Below.refl _ _ | exact (Below.refl _ _).drew)).c3, (a17.below (by with_reducible first | exact Below.refl _ _ | exact (Below.refl _ _).drew)).c4, (a17.below (by with_reducible first | exact Below.refl _ _ | exact (Below.refl _ _).drew)).c5⟩ | go_keep)
    (first
     | (go_at_call 34
        first | with_reducible refine (samei_any _ x12 x13 a12.ok a13.ok (SmI.of HS12.out.1 HS12.out.2 HS13.out.1 HS13.out.2)).mono ?_ | with_reducible refine (samei_any _ x12 x13 (a12.below (Below.refl _ _).drew).ok (a13.below (Below.refl _ _).drew).ok (SmI.of HS12.out.1 HS12.out.2 HS13.out.1 HS13.out.2)).mono ?_ | with_reducible refine (samei_any _ x16 x17 a16.ok a17.ok (SmI.of HS16.out.1 HS16.out.2 HS17.out.1 HS17.out.2)).mono ?_ | with_reducible refine (samei_any _ x16 x17 (a16.below (Below.refl _ _).drew).ok (a17.below (Below.refl _ _).drew).ok (SmI.of HS16.out.1 HS16.out.2 HS17.out.1 HS17.out.2)).mono ?_
        rintro e wn ⟨rfl, bb⟩
        repeat replace bb := below_undrew bb
        try replace a1 := a1.below bb
        try replace a2 := a2.below bb
        try replace a3 := a3.below bb
        try replace a4 := a4.below bb
        try replace a5 := a5.below bb
        try replace a6 := a6.below bb
        try replace a7 := a7.below bb
        try replace a8 := a8.below bb
        try replace a9 := a9.below bb
        try replace a10 := a10.below bb
        try replace a11 := a11.below bb
        try replace a12 := a12.below bb
        try replace a13 := a13.below bb
        try replace a14 := a14.below bb
        try replace a15 := a15.below bb
        try replace a16 := a16.below bb
        try replace a17 := a17.below bb
        replace bw := below_on bw bb bw.size
        clear bb
        skip)
     | (go_at_call 18
        first | with_reducible refine (samef_any _ x14 x15 true a14.ok a15.ok (sm HS14.out HS15.out)).mono ?_ | with_reducible refine (samef_any _ x14 x15 true (a14.below (Below.refl _ _).drew).ok (a15.below (Below.refl _ _).drew).ok (sm HS14.out HS15.out)).mono ?_
        rintro e wn ⟨rfl, bb⟩
        repeat replace bb := below_undrew bb
        try replace a1 := a1.below bb
        try replace a2 := a2.below bb
        try replace a3 := a3.below bb
        try replace a4 := a4.below bb
        try replace a5 := a5.below bb
        try replace a6 := a6.below bb
        try replace a7 := a7.below bb
        try replace a8 := a8.below bb
        try replace a9 := a9.below bb
        try replace a10 := a10.below bb
        try replace a11 := a11.below bb
        try replace a12 := a12.below bb
        try replace a13 := a13.below bb
        try replace a14 := a14.below bb
        try replace a15 := a15.below bb
        try replace a16 := a16.below bb
        try replace a17 := a17.below bb
        replace bw := below_on bw bb bw.size
        clear bb
        skip)
     | (go_at_call 46
        first | with_reducible refine (ivalid_any _ x1 vb a1.ok f1 HVB.out).mono ?_ | with_reducible refine (ivalid_any _ x1 vb (a1.below (Below.refl _ _).drew).ok f1 HVB.out).mono ?_
        rintro e wn ⟨rfl, bb⟩
        repeat replace bb := below_undrew bb
        try replace a1 := a1.below bb
        try replace a2 := a2.below bb
        try replace a3 := a3.below bb
        try replace a4 := a4.below bb
        try replace a5 := a5.below bb
        try replace a6 := a6.below bb
        try replace a7 := a7.below bb
        try replace a8 := a8.below bb
        try replace a9 := a9.below bb
        try replace a10 := a10.below bb
        try replace a11 := a11.below bb
        try replace a12 := a12.below bb
        try replace a13 := a13.below bb
        try replace a14 := a14.below bb
        try replace a15 := a15.below bb
        try replace a16 := a16.below bb
        try replace a17 := a17.below bb
        replace bw := below_on bw bb bw.size
        clear bb
        skip)
     | (go_at_call 20
        first | with_reducible refine (rivalid_any _ x1 vb a1.ok f1 HVB.out).mono ?_ | with_reducible refine (rivalid_any _ x1 vb (a1.below (Below.refl _ _).drew).ok f1 HVB.out).mono ?_
        rintro e wn ⟨rfl, bb⟩
        repeat replace bb := below_undrew bb
        try replace a1 := a1.below bb
        try replace a2 := a2.below bb
        try replace a3 := a3.below bb
        try replace a4 := a4.below bb
        try replace a5 := a5.below bb
        try replace a6 := a6.below bb
        try replace a7 := a7.below bb
        try replace a8 := a8.below bb
        try replace a9 := a9.below bb
        try replace a10 := a10.below bb
        try replace a11 := a11.below bb
        try replace a12 := a12.below bb
        try replace a13 := a13.below bb
        try replace a14 := a14.below bb
        try replace a15 := a15.below bb
        try replace a16 := a16.below bb
        try replace a17 := a17.below bb
        replace bw := below_on bw bb bw.size
        clear bb
        skip)
     | (go_at_call 29
        first | with_reducible refine (icontains_any _ x1 x3 cb a1.ok a3.ok f1 f3 HCB.out).mono ?_ | with_reducible refine (icontains_any _ x1 x3 cb (a1.below (Below.refl _ _).drew).ok (a3.below (Below.refl _ _).drew).ok f1 f3 HCB.out).mono ?_
        rintro e wn ⟨rfl, bb⟩
        repeat replace bb := below_undrew bb
        try replace a1 := a1.below bb
        try replace a2 := a2.below bb
        try replace a3 := a3.below bb
        try replace a4 := a4.below bb
        try replace a5 := a5.below bb
        try replace a6 := a6.below bb
        try replace a7 := a7.below bb
        try replace a8 := a8.below bb
        try replace a9 := a9.below bb
        try replace a10 := a10.below bb
        try replace a11 := a11.below bb
        try replace a12 := a12.below bb
        try replace a13 := a13.below bb
        try replace a14 := a14.below bb
        try replace a15 := a15.below bb
        try replace a16 := a16.below bb
        try replace a17 := a17.below bb
        replace bw := below_on bw bb bw.size
        clear bb
        skip)
     | (go_at_call 47
        first | with_reducible refine (ricontains_any _ x1 x3 cb a1.ok a3.ok f1 f3 HCB.out).mono ?_ | with_reducible refine (ricontains_any _ x1 x3 cb (a1.below (Below.refl _ _).drew).ok (a3.below (Below.refl _ _).drew).ok f1 f3 HCB.out).mono ?_
        rintro e wn ⟨rfl, bb⟩
        repeat replace bb := below_undrew bb
        try replace a1 := a1.below bb
        try replace a2 := a2.below bb
        try replace a3 := a3.below bb
        try replace a4 := a4.below bb
        try replace a5 := a5.below bb
        try replace a6 := a6.below bb
        try replace a7 := a7.below bb
        try replace a8 := a8.below bb
        try replace a9 := a9.below bb
        try replace a10 := a10.below bb
        try replace a11 := a11.below bb
        try replace a12 := a12.below bb
        try replace a13 := a13.below bb
        try replace a14 := a14.below bb
        try replace a15 := a15.below bb
        try replace a16 := a16.below bb
        try replace a17 := a17.below bb
        replace bw := below_on bw bb bw.size
        clear bb
        skip)
     | (go_at_call 31
        first | with_reducible refine (iinside_any _ x1 x2 ib a1.ok a2.ok f1 f2 HIB.out).mono ?_ | with_reducible refine (iinside_any _ x1 x2 ib (a1.below (Below.refl _ _).drew).ok (a2.below (Below.refl _ _).drew).ok f1 f2 HIB.out).mono ?_
        rintro e wn ⟨rfl, bb⟩
        repeat replace bb := below_undrew bb
        try replace a1 := a1.below bb
        try replace a2 := a2.below bb
        try replace a3 := a3.below bb
        try replace a4 := a4.below bb
        try replace a5 := a5.below bb
        try replace a6 := a6.below bb
        try replace a7 := a7.below bb
        try replace a8 := a8.below bb
        try replace a9 := a9.below bb
        try replace a10 := a10.below bb
        try replace a11 := a11.below bb
        try replace a12 := a12.below bb
        try replace a13 := a13.below bb
        try replace a14 := a14.below bb
        try replace a15 := a15.below bb
        try replace a16 := a16.below bb
        try replace a17 := a17.below bb
        replace bw := below_on bw bb bw.size
        clear bb
        skip)
     | (go_at_call 48
        first | with_reducible refine (riinside_any _ x1 x2 ib a1.ok a2.ok f1 f2 HIB.out).mono ?_ | with_reducible refine (riinside_any _ x1 x2 ib (a1.below (Below.refl _ _).drew).ok (a2.below (Below.refl _ _).drew).ok f1 f2 HIB.out).mono ?_
        rintro e wn ⟨rfl, bb⟩
        repeat replace bb := below_undrew bb
        try replace a1 := a1.below bb
        try replace a2 := a2.below bb
        try replace a3 := a3.below bb
        try replace a4 := a4.below bb
        try replace a5 := a5.below bb
        try replace a6 := a6.below bb
        try replace a7 := a7.below bb
        try replace a8 := a8.below bb
        try replace a9 := a9.below bb
        try replace a10 := a10.below bb
        try replace a11 := a11.below bb
        try replace a12 := a12.below bb
        try replace a13 := a13.below bb
        try replace a14 := a14.below bb
        try replace a15 := a15.below bb
        try replace a16 := a16.below bb
        try replace a17 := a17.below bb
        replace bw := below_on bw bb bw.size
        clear bb
        skip)
     | (go_at_call 21
        first | with_reducible refine (awakei_any _).mono ?_
        rintro e wn ⟨rfl, bb⟩
        repeat replace bb := below_undrew bb
        try replace a1 := a1.below bb
        try replace a2 := a2.below bb
        try replace a3 := a3.below bb
        try replace a4 := a4.below bb
        try replace a5 := a5.below bb
        try replace a6 := a6.below bb
        try replace a7 := a7.below bb
        try replace a8 := a8.below bb
        try replace a9 := a9.below bb
        try replace a10 := a10.below bb
        try replace a11 := a11.below bb
        try replace a12 := a12.below bb
        try replace a13 := a13.below bb
        try replace a14 := a14.below bb
        try replace a15 := a15.below bb
        try replace a16 := a16.below bb
        try replace a17 := a17.below bb
        replace bw := below_on bw bb bw.size
        clear bb
        skip))
  all_goals
    go_wp2_with fail
    go_ret
    exact ⟨rfl, bw⟩
set_option maxRecDepth 100000 in
theorem iexact_walk (w : World) (x1 x2 : Ix) (x3 : Fx) (ok1 : x1.ok w) (ok2 : x2.ok w) (ok3 : x3.ok w) :
    Calls Try.prog 8 #[x1.val, x2.val, x3.val] w fun e w' => e = .returned (.bool true) ∧ Below w.heap.size w w' := by
  by_cases h : longI [x1, x2] = true ∨ 12 < x3.xs.length ∨ 12 < x3.ys.length
  · exact iexact_long w x1 x2 x3 ok1 ok2 ok3 h
  · have hl : longI [x1, x2] = false := by
      cases hl : longI [x1, x2]
      · rfl
      · exact absurd (.inl hl) h
    obtain ⟨h1, h2⟩ := longI2 hl
    exact iexact_short w x1 x2 x3 ok1 ok2 ok3 h1.few h2.few ⟨by omega, by omega⟩ hl (by omega) (by omega)
end Go.Proofs.Ytlcolmifmhdboaa
