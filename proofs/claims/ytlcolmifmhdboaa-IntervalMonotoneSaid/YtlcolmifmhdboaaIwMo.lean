/- The walk of IntervalMonotone. -/
import Derived.Test.YtlcolmifmhdboaaIvPm
import Derived.Deep.RegionHeld
import Derived.Laws.Cover1
namespace Go.Proofs.Ytlcolmifmhdboaa
open Go.RowKit

set_option maxHeartbeats 4000000 in
set_option maxRecDepth 100000 in
theorem imono_long (w : World) (x1 x2 : Ix) (n1 n2 : Nat) (ok1 : x1.ok w) (ok2 : x2.ok w) (h : longI [x1, x2] = true) :
    Calls Try.prog 5 #[x1.val, x2.val, .int .u8 n1, .int .u8 n2] w fun e w' => e = .returned (.bool true) ∧ Below w.heap.size w w' := by
  have H := Lib.hid h
  clear h
  go_enter Try.func5, Try.ntmps5
  go_upto_region 1 with fail
  have bw := Below.refl w.heap.size w
  have a1 := (ia_alloc ok1).1
  have bb := (ia_alloc ok1).2
  have sz1 := size_box w (.cells x1.cells 41)
  clear ok1
  generalize (w.alloc (.cells x1.cells 41)) = wA at a1 bb sz1 ⊢
  try replace ok1 := ok1.below bb
  try replace ok2 := ok2.below bb
  try replace a1 := a1.below bb
  replace bw := below_on bw bb bw.size
  clear bb
  have a2 := (ia_alloc ok2).1
  have bb := (ia_alloc ok2).2
  have sz2 := size_box wA (.cells x2.cells 41)
  rw [sz1] at a2 sz2
  clear ok2 sz1
  generalize (wA.alloc (.cells x2.cells 41)) = wm at a2 bb sz2 ⊢
  try replace ok1 := ok1.below bb
  try replace ok2 := ok2.below bb
  try replace a1 := a1.below bb
  try replace a2 := a2.below bb
  replace bw := below_on bw bb bw.size
  clear bb
  clear sz2
  have ci0 := a1.c0
  have ci1 := a1.c1
  have ci2 := a1.c2
  have ci3 := a1.c3
  have ci4 := a1.c4
  have ci5 := a1.c5
  have cj0 := a2.c0
  have cj1 := a2.c1
  have cj2 := a2.c2
  have cj3 := a2.c3
  have cj4 := a2.c4
  have cj5 := a2.c5
  go_wp2_with fail
  clear ci0 ci1 ci2 ci3 ci4 ci5
  clear cj0 cj1 cj2 cj3 cj4 cj5
  have hr := rdi_lit wm [x1, x2]
  have bb := (Below.refl wm.heap.size wm).alloc (Nat.le_refl _) (.cells (icells [x1, x2]).toArray 41)
  simp only [icells] at hr bb
  generalize (wm.alloc (.cells [Value.bool x1.lo.b, .slice x1.lo.A x1.lo.xs.length x1.lo.c, .slice x1.lo.D x1.lo.ys.length x1.lo.d, .bool x1.hi.b, .slice x1.hi.A x1.hi.xs.length x1.hi.c, .slice x1.hi.D x1.hi.ys.length x1.hi.d, .bool x2.lo.b, .slice x2.lo.A x2.lo.xs.length x2.lo.c, .slice x2.lo.D x2.lo.ys.length x2.lo.d, .bool x2.hi.b, .slice x2.hi.A x2.hi.xs.length x2.hi.c, .slice x2.hi.D x2.hi.ys.length x2.hi.d].toArray 41)) = wn at hr bb ⊢
  try replace a1 := a1.below bb
  try replace a2 := a2.below bb
  replace bw := below_on bw bb bw.size
  clear bb
  refine (ilong_any wn _ 2 2 [x1, x2] true hr rfl (by simp) (lens2 a1.ok a2.ok) H.out).mono ?_
  rintro e wl ⟨rfl, rfl⟩
  clear hr
  go_wp2_with fail
  refine (awakei_any _).mono ?_
  rintro e wn ⟨rfl, bb⟩
  try replace a1 := a1.below bb
  try replace a2 := a2.below bb
  replace bw := below_on bw bb bw.size
  clear bb
  go_wp2_with fail
  go_ret
  exact ⟨rfl, bw⟩
set_option maxHeartbeats 4000000 in
set_option maxRecDepth 100000 in
theorem imono_bad (w : World) (x1 x2 : Ix) (n1 n2 : Nat) (ok1 : x1.ok w) (ok2 : x2.ok w) (f1 : x1.few) (f2 : x2.few) (h : longI [x1, x2] = false) (hv : ¬ (x1.v ∧ x2.v)) :
    Calls Try.prog 5 #[x1.val, x2.val, .int .u8 n1, .int .u8 n2] w fun e w' => e = .returned (.bool true) ∧ Below w.heap.size w w' := by
  have H := Lib.hid h
  by_cases hv1 : x1.v
  · have HV1 := Lib.hid hv1
    have HV2 : Hid (¬ x2.v) := fun e => hv ⟨hv1, e⟩
    clear h hv hv1
    go_enter Try.func5, Try.ntmps5
    go_upto_region 1 with fail
    have bw := Below.refl w.heap.size w
    have a1 := (ia_alloc ok1).1
    have bb := (ia_alloc ok1).2
    have sz1 := size_box w (.cells x1.cells 41)
    clear ok1
    generalize (w.alloc (.cells x1.cells 41)) = wA at a1 bb sz1 ⊢
    try replace ok1 := ok1.below bb
    try replace ok2 := ok2.below bb
    try replace a1 := a1.below bb
    replace bw := below_on bw bb bw.size
    clear bb
    have a2 := (ia_alloc ok2).1
    have bb := (ia_alloc ok2).2
    have sz2 := size_box wA (.cells x2.cells 41)
    rw [sz1] at a2 sz2
    clear ok2 sz1
    generalize (wA.alloc (.cells x2.cells 41)) = wm at a2 bb sz2 ⊢
    try replace ok1 := ok1.below bb
    try replace ok2 := ok2.below bb
    try replace a1 := a1.below bb
    try replace a2 := a2.below bb
    replace bw := below_on bw bb bw.size
    clear bb
    clear sz2
    have ci0 := a1.c0
    have ci1 := a1.c1
    have ci2 := a1.c2
    have ci3 := a1.c3
    have ci4 := a1.c4
    have ci5 := a1.c5
    have cj0 := a2.c0
    have cj1 := a2.c1
    have cj2 := a2.c2
    have cj3 := a2.c3
    have cj4 := a2.c4
    have cj5 := a2.c5
    go_wp2_with fail
    clear ci0 ci1 ci2 ci3 ci4 ci5
    clear cj0 cj1 cj2 cj3 cj4 cj5
    have hr := rdi_lit wm [x1, x2]
    have bb := (Below.refl wm.heap.size wm).alloc (Nat.le_refl _) (.cells (icells [x1, x2]).toArray 41)
    simp only [icells] at hr bb
    generalize (wm.alloc (.cells [Value.bool x1.lo.b, .slice x1.lo.A x1.lo.xs.length x1.lo.c, .slice x1.lo.D x1.lo.ys.length x1.lo.d, .bool x1.hi.b, .slice x1.hi.A x1.hi.xs.length x1.hi.c, .slice x1.hi.D x1.hi.ys.length x1.hi.d, .bool x2.lo.b, .slice x2.lo.A x2.lo.xs.length x2.lo.c, .slice x2.lo.D x2.lo.ys.length x2.lo.d, .bool x2.hi.b, .slice x2.hi.A x2.hi.xs.length x2.hi.c, .slice x2.hi.D x2.hi.ys.length x2.hi.d].toArray 41)) = wn at hr bb ⊢
    try replace a1 := a1.below bb
    try replace a2 := a2.below bb
    replace bw := below_on bw bb bw.size
    clear bb
    refine (ilong_any wn _ 2 2 [x1, x2] false hr rfl (by simp) (lens2 a1.ok a2.ok) H.out).mono ?_
    rintro e wl ⟨rfl, rfl⟩
    clear hr
    have ci0 := a1.c0
    have ci1 := a1.c1
    have ci2 := a1.c2
    have ci3 := a1.c3
    have ci4 := a1.c4
    have ci5 := a1.c5
    go_wp2_with fail
    clear ci0 ci1 ci2 ci3 ci4 ci5
    refine (rivalid_any _ x1 true a1.ok f1 (decide_eq_true HV1.out)).mono ?_
    rintro e wn ⟨rfl, bb⟩
    try replace a1 := a1.below bb
    try replace a2 := a2.below bb
    replace bw := below_on bw bb bw.size
    clear bb
    have ci0 := a2.c0
    have ci1 := a2.c1
    have ci2 := a2.c2
    have ci3 := a2.c3
    have ci4 := a2.c4
    have ci5 := a2.c5
    go_wp2_with fail
    clear ci0 ci1 ci2 ci3 ci4 ci5
    refine (rivalid_any _ x2 false a2.ok f2 (decide_eq_false HV2.out)).mono ?_
    rintro e wn ⟨rfl, bb⟩
    try replace a1 := a1.below bb
    try replace a2 := a2.below bb
    replace bw := below_on bw bb bw.size
    clear bb
    go_wp2_with fail
    refine (awakei_any _).mono ?_
    rintro e wn ⟨rfl, bb⟩
    try replace a1 := a1.below bb
    try replace a2 := a2.below bb
    replace bw := below_on bw bb bw.size
    clear bb
    go_wp2_with fail
    go_ret
    exact ⟨rfl, bw⟩
  · have HV1 : Hid (¬ x1.v) := hv1
    clear h hv hv1
    go_enter Try.func5, Try.ntmps5
    go_upto_region 1 with fail
    have bw := Below.refl w.heap.size w
    have a1 := (ia_alloc ok1).1
    have bb := (ia_alloc ok1).2
    have sz1 := size_box w (.cells x1.cells 41)
    clear ok1
    generalize (w.alloc (.cells x1.cells 41)) = wA at a1 bb sz1 ⊢
    try replace ok1 := ok1.below bb
    try replace ok2 := ok2.below bb
    try replace a1 := a1.below bb
    try replace a2 := a2.below bb
    replace bw := below_on bw bb bw.size
    clear bb
    have a2 := (ia_alloc ok2).1
    have bb := (ia_alloc ok2).2
    have sz2 := size_box wA (.cells x2.cells 41)
    rw [sz1] at a2 sz2
    clear ok2 sz1
    generalize (wA.alloc (.cells x2.cells 41)) = wm at a2 bb sz2 ⊢
    try replace ok1 := ok1.below bb
    try replace ok2 := ok2.below bb
    try replace a1 := a1.below bb
    try replace a2 := a2.below bb
    replace bw := below_on bw bb bw.size
    clear bb
    clear sz2
    have ci0 := a1.c0
    have ci1 := a1.c1
    have ci2 := a1.c2
    have ci3 := a1.c3
    have ci4 := a1.c4
    have ci5 := a1.c5
    have cj0 := a2.c0
    have cj1 := a2.c1
    have cj2 := a2.c2
    have cj3 := a2.c3
    have cj4 := a2.c4
    have cj5 := a2.c5
    go_wp2_with fail
    clear ci0 ci1 ci2 ci3 ci4 ci5
    clear cj0 cj1 cj2 cj3 cj4 cj5
    have hr := rdi_lit wm [x1, x2]
    have bb := (Below.refl wm.heap.size wm).alloc (Nat.le_refl _) (.cells (icells [x1, x2]).toArray 41)
    simp only [icells] at hr bb
    generalize (wm.alloc (.cells [Value.bool x1.lo.b, .slice x1.lo.A x1.lo.xs.length x1.lo.c, .slice x1.lo.D x1.lo.ys.length x1.lo.d, .bool x1.hi.b, .slice x1.hi.A x1.hi.xs.length x1.hi.c, .slice x1.hi.D x1.hi.ys.length x1.hi.d, .bool x2.lo.b, .slice x2.lo.A x2.lo.xs.length x2.lo.c, .slice x2.lo.D x2.lo.ys.length x2.lo.d, .bool x2.hi.b, .slice x2.hi.A x2.hi.xs.length x2.hi.c, .slice x2.hi.D x2.hi.ys.length x2.hi.d].toArray 41)) = wn at hr bb ⊢
    try replace a1 := a1.below bb
    try replace a2 := a2.below bb
    replace bw := below_on bw bb bw.size
    clear bb
    refine (ilong_any wn _ 2 2 [x1, x2] false hr rfl (by simp) (lens2 a1.ok a2.ok) H.out).mono ?_
    rintro e wl ⟨rfl, rfl⟩
    clear hr
    have ci0 := a1.c0
    have ci1 := a1.c1
    have ci2 := a1.c2
    have ci3 := a1.c3
    have ci4 := a1.c4
    have ci5 := a1.c5
    go_wp2_with fail
    clear ci0 ci1 ci2 ci3 ci4 ci5
    refine (rivalid_any _ x1 false a1.ok f1 (decide_eq_false HV1.out)).mono ?_
    rintro e wn ⟨rfl, bb⟩
    try replace a1 := a1.below bb
    try replace a2 := a2.below bb
    replace bw := below_on bw bb bw.size
    clear bb
    go_wp2_with fail
    refine (awakei_any _).mono ?_
    rintro e wn ⟨rfl, bb⟩
    try replace a1 := a1.below bb
    try replace a2 := a2.below bb
    replace bw := below_on bw bb bw.size
    clear bb
    go_wp2_with fail
    go_ret
    exact ⟨rfl, bw⟩
set_option maxHeartbeats 8000000 in
set_option maxRecDepth 100000 in
theorem imono_main (w : World) (x1 x2 : Ix) (n1 n2 m1 m2 : Nat) (ok1 : x1.ok w) (ok2 : x2.ok w) (f1 : x1.few) (f2 : x2.few) (h : longI [x1, x2] = false) (h1 : Sh x1) (h2 : Sh x2) (hm1 : m1 ≤ 255) (hm2 : m2 ≤ 255) (hmm : m1 ≤ m2) (hmin : (if n2 < n1 then (n2 : Int) else (n1 : Int)) = (m1 : Int)) (hmax : (if n1 < n2 then (n2 : Int) else (n1 : Int)) = (m2 : Int)) :
    Calls Try.prog 5 #[x1.val, x2.val, .int .u8 n1, .int .u8 n2] w fun e w' => e = .returned (.bool true) ∧ Below w.heap.size w w' := by
  have H := Lib.hid h
  have H1 := Lib.hid h1
  have H2 := Lib.hid h2
  obtain ⟨q1, hq1⟩ : ∃ q, wq x1 m1 = q := ⟨_, rfl⟩
  obtain ⟨q2, hq2⟩ : ∃ q, wq x1 m2 = q := ⟨_, rfl⟩
  have HQ1 := Lib.hid hq1
  have HQ2 := Lib.hid hq2
  have HMM := Lib.hid hmm
  have HMN := Lib.hid hmin
  have HMX := Lib.hid hmax
  clear h h1 h2 hq1 hq2 hmm hmin hmax
  go_enter Try.func5, Try.ntmps5
  go_upto_region 1 with fail
  have bw := Below.refl w.heap.size w
  have a1 := (ia_alloc ok1).1
  have bb := (ia_alloc ok1).2
  have sz1 := size_box w (.cells x1.cells 41)
  clear ok1
  generalize (w.alloc (.cells x1.cells 41)) = wA at a1 bb sz1 ⊢
  try replace ok1 := ok1.below bb
  try replace ok2 := ok2.below bb
  try replace a1 := a1.below bb
  replace bw := below_on bw bb bw.size
  clear bb
  have a2 := (ia_alloc ok2).1
  have bb := (ia_alloc ok2).2
  have sz2 := size_box wA (.cells x2.cells 41)
  rw [sz1] at a2 sz2
  clear ok2 sz1
  generalize (wA.alloc (.cells x2.cells 41)) = wm at a2 bb sz2 ⊢
  try replace ok1 := ok1.below bb
  try replace ok2 := ok2.below bb
  try replace a1 := a1.below bb
  try replace a2 := a2.below bb
  replace bw := below_on bw bb bw.size
  clear bb
  clear sz2
  have ci0 := a1.c0
  have ci1 := a1.c1
  have ci2 := a1.c2
  have ci3 := a1.c3
  have ci4 := a1.c4
  have ci5 := a1.c5
  have cj0 := a2.c0
  have cj1 := a2.c1
  have cj2 := a2.c2
  have cj3 := a2.c3
  have cj4 := a2.c4
  have cj5 := a2.c5
  go_wp2_with fail
  clear ci0 ci1 ci2 ci3 ci4 ci5
  clear cj0 cj1 cj2 cj3 cj4 cj5
  have hr := rdi_lit wm [x1, x2]
  have bb := (Below.refl wm.heap.size wm).alloc (Nat.le_refl _) (.cells (icells [x1, x2]).toArray 41)
  simp only [icells] at hr bb
  generalize (wm.alloc (.cells [Value.bool x1.lo.b, .slice x1.lo.A x1.lo.xs.length x1.lo.c, .slice x1.lo.D x1.lo.ys.length x1.lo.d, .bool x1.hi.b, .slice x1.hi.A x1.hi.xs.length x1.hi.c, .slice x1.hi.D x1.hi.ys.length x1.hi.d, .bool x2.lo.b, .slice x2.lo.A x2.lo.xs.length x2.lo.c, .slice x2.lo.D x2.lo.ys.length x2.lo.d, .bool x2.hi.b, .slice x2.hi.A x2.hi.xs.length x2.hi.c, .slice x2.hi.D x2.hi.ys.length x2.hi.d].toArray 41)) = wn at hr bb ⊢
  try replace a1 := a1.below bb
  try replace a2 := a2.below bb
  replace bw := below_on bw bb bw.size
  clear bb
  refine (ilong_any wn _ 2 2 [x1, x2] false hr rfl (by simp) (lens2 a1.ok a2.ok) H.out).mono ?_
  rintro e wl ⟨rfl, rfl⟩
  clear hr
  have ci0 := a1.c0
  have ci1 := a1.c1
  have ci2 := a1.c2
  have ci3 := a1.c3
  have ci4 := a1.c4
  have ci5 := a1.c5
  go_wp2_with fail
  clear ci0 ci1 ci2 ci3 ci4 ci5
  refine (rivalid_any _ x1 true a1.ok f1 (decide_eq_true H1.out.v)).mono ?_
  rintro e wn ⟨rfl, bb⟩
  try replace a1 := a1.below bb
  try replace a2 := a2.below bb
  replace bw := below_on bw bb bw.size
  clear bb
  have ci0 := a2.c0
  have ci1 := a2.c1
  have ci2 := a2.c2
  have ci3 := a2.c3
  have ci4 := a2.c4
  have ci5 := a2.c5
  go_wp2_with fail
  clear ci0 ci1 ci2 ci3 ci4 ci5
  refine (rivalid_any _ x2 true a2.ok f2 (decide_eq_true H2.out.v)).mono ?_
  rintro e wn ⟨rfl, bb⟩
  try replace a1 := a1.below bb
  try replace a2 := a2.below bb
  replace bw := below_on bw bb bw.size
  clear bb
  go_upto_region 3 with fail
  have hsz := a2.lt
  go_cut [9, 10] from 24 (fun s9 s10 w' => ∃ (G H : Nat) (y1 y2 : Fx), s9 = .pointer (some ⟨G, 0, none⟩) ∧ s10 = .pointer (some ⟨H, 0, none⟩) ∧ IsP y1 q1 ∧ IsP y2 q2 ∧ Fa w' G y1 ∧ Fa w' H y2 ∧ Below wn.heap.size wn w')
  case first =>
    have hmin := HMN.out
    have hmax := HMX.out
    --REG{
    refine wp_region_held_drew (S := fun w' => w'.cell? ⟨w.heap.size, 0, none⟩ = some (.bool x1.lo.b) ∧ w'.cell? ⟨w.heap.size, 1, none⟩ = some (.slice x1.lo.A x1.lo.xs.length x1.lo.c) ∧ w'.cell? ⟨w.heap.size, 2, none⟩ = some (.slice x1.lo.D x1.lo.ys.length x1.lo.d) ∧ w'.cell? ⟨w.heap.size, 3, none⟩ = some (.bool x1.hi.b) ∧ w'.cell? ⟨w.heap.size, 4, none⟩ = some (.slice x1.hi.A x1.hi.xs.length x1.hi.c) ∧ w'.cell? ⟨w.heap.size, 5, none⟩ = some (.slice x1.hi.D x1.hi.ys.length x1.hi.d) ∧ w'.cell? ⟨w.heap.size + 1, 0, none⟩ = some (.bool x2.lo.b) ∧ w'.cell? ⟨w.heap.size + 1, 1, none⟩ = some (.slice x2.lo.A x2.lo.xs.length x2.lo.c) ∧ w'.cell? ⟨w.heap.size + 1, 2, none⟩ = some (.slice x2.lo.D x2.lo.ys.length x2.lo.d) ∧ w'.cell? ⟨w.heap.size + 1, 3, none⟩ = some (.bool x2.hi.b) ∧ w'.cell? ⟨w.heap.size + 1, 4, none⟩ = some (.slice x2.hi.A x2.hi.xs.length x2.hi.c) ∧ w'.cell? ⟨w.heap.size + 1, 5, none⟩ = some (.slice x2.hi.D x2.hi.ys.length x2.hi.d)) (by kernel_rfl) ⟨(a1.below (Below.refl _ _).drew).c0, (a1.below (Below.refl _ _).drew).c1, (a1.below (Below.refl _ _).drew).c2, (a1.below (Below.refl _ _).drew).c3, (a1.below (Below.refl _ _).drew).c4, (a1.below (Below.refl _ _).drew).c5, (a2.below (Below.refl _ _).drew).c0, (a2.below (Below.refl _ _).drew).c1, (a2.below (Below.refl _ _).drew).c2, (a2.below (Below.refl _ _).drew).c3, (a2.below (Below.refl _ _).drew).c4, (a2.below (Below.refl _ _).drew).c5⟩ (fun hHeld => ?_)
    have bz := (Below.refl wn.heap.size wn).drew
    replace a1 := a1.below bz
    replace a2 := a2.below bz
    generalize wn.drew = wd at *
    refine wpAnyH_take (i := 0) (v := x1.val) rfl (by kernel_rfl) (by kernel_rfl) (by kernel_rfl) (fun _ _ _ h => h) (Or.inl ⟨by rfl, ?_⟩) (by assumption) ?_
    · intro w hSw
      try dsimp only at hSw
      go_simp
      try first | with_reducible rfl | exact congrArg (fun z => Value.int .u8 z) hmin | exact congrArg (fun z => Value.int .u8 z) hmax | exact hmin | exact hmax
    try simp only [Act.put, List.setIfInBounds_toArray, List.set_cons_zero, List.set_cons_succ]
    refine wpAnyH_take (i := 1) (v := .int .u8 n1) rfl (by kernel_rfl) (by kernel_rfl) (by kernel_rfl) (fun _ _ _ h => h) (Or.inl ⟨by rfl, ?_⟩) (by assumption) ?_
    · intro w hSw
      try dsimp only at hSw
      go_simp
      try first | with_reducible rfl | exact congrArg (fun z => Value.int .u8 z) hmin | exact congrArg (fun z => Value.int .u8 z) hmax | exact hmin | exact hmax
    try simp only [Act.put, List.setIfInBounds_toArray, List.set_cons_zero, List.set_cons_succ]
    refine wpAnyH_take (i := 2) (v := .int .u8 n2) rfl (by kernel_rfl) (by kernel_rfl) (by kernel_rfl) (fun _ _ _ h => h) (Or.inl ⟨by rfl, ?_⟩) (by assumption) ?_
    · intro w hSw
      try dsimp only at hSw
      go_simp
      try first | with_reducible rfl | exact congrArg (fun z => Value.int .u8 z) hmin | exact congrArg (fun z => Value.int .u8 z) hmax | exact hmin | exact hmax
    try simp only [Act.put, List.setIfInBounds_toArray, List.set_cons_zero, List.set_cons_succ]
    refine wpAnyH_take (i := 3) (v := .int .u8 (m1 : Int)) rfl (by kernel_rfl) (by kernel_rfl) (by kernel_rfl) (fun _ _ _ h => h) (Or.inl ⟨by rfl, ?_⟩) (by assumption) ?_
    · intro w hSw
      try dsimp only at hSw
      go_simp
      try first | with_reducible rfl | exact congrArg (fun z => Value.int .u8 z) hmin | exact congrArg (fun z => Value.int .u8 z) hmax | exact hmin | exact hmax
    try simp only [Act.put, List.setIfInBounds_toArray, List.set_cons_zero, List.set_cons_succ]
    refine wpAnyH_take (i := 5) (v := x1.val) rfl (by kernel_rfl) (by kernel_rfl) (by kernel_rfl) (fun _ _ _ h => h) (Or.inl ⟨by rfl, ?_⟩) (by assumption) ?_
    · intro w hSw
      try dsimp only at hSw
      go_simp
      try first | with_reducible rfl | exact congrArg (fun z => Value.int .u8 z) hmin | exact congrArg (fun z => Value.int .u8 z) hmax | exact hmin | exact hmax
    try simp only [Act.put, List.setIfInBounds_toArray, List.set_cons_zero, List.set_cons_succ]
    refine wpAnyH_take (i := 6) (v := .int .u8 n1) rfl (by kernel_rfl) (by kernel_rfl) (by kernel_rfl) (fun _ _ _ h => h) (Or.inl ⟨by rfl, ?_⟩) (by assumption) ?_
    · intro w hSw
      try dsimp only at hSw
      go_simp
      try first | with_reducible rfl | exact congrArg (fun z => Value.int .u8 z) hmin | exact congrArg (fun z => Value.int .u8 z) hmax | exact hmin | exact hmax
    try simp only [Act.put, List.setIfInBounds_toArray, List.set_cons_zero, List.set_cons_succ]
    refine wpAnyH_take (i := 7) (v := .int .u8 n2) rfl (by kernel_rfl) (by kernel_rfl) (by kernel_rfl) (fun _ _ _ h => h) (Or.inl ⟨by rfl, ?_⟩) (by assumption) ?_
    · intro w hSw
      try dsimp only at hSw
      go_simp
      try first | with_reducible rfl | exact congrArg (fun z => Value.int .u8 z) hmin | exact congrArg (fun z => Value.int .u8 z) hmax | exact hmin | exact hmax
    try simp only [Act.put, List.setIfInBounds_toArray, List.set_cons_zero, List.set_cons_succ]
    refine wpAnyH_take (i := 8) (v := .int .u8 (m2 : Int)) rfl (by kernel_rfl) (by kernel_rfl) (by kernel_rfl) (fun _ _ _ h => h) (Or.inl ⟨by rfl, ?_⟩) (by assumption) ?_
    · intro w hSw
      try dsimp only at hSw
      go_simp
      try first | with_reducible rfl | exact congrArg (fun z => Value.int .u8 z) hmin | exact congrArg (fun z => Value.int .u8 z) hmax | exact hmin | exact hmax
    try simp only [Act.put, List.setIfInBounds_toArray, List.set_cons_zero, List.set_cons_succ]
    refine wpAnyH_ready (rs := [4, 10, 11]) (by kernel_rfl) (by simp) ?_
    refine AllReadyH.cons rfl (fun K hK => ?_) ?_
    · go_simp
      go_at_call 22
      refine (iwithin_any _ x1 m1 q1 a1.ok f1 H1.out hm1 HQ1.out).mono ?_
      rintro e wd ⟨y1, rfl, p, oky1, bb⟩
      have Py1 := Lib.hid p
      clear p
      replace a1 := a1.below bb
      replace a2 := a2.below bb
      try replace oky1 := oky1.below bb
      try replace oky2 := oky2.below bb
      try replace kG := kG.below bb
      try replace kH := kH.below bb
      replace bz := below_on bz bb bz.size
      clear bb
      try dsimp only
      refine hK.out _ _ ⟨a1.c0, a1.c1, a1.c2, a1.c3, a1.c4, a1.c5, a2.c0, a2.c1, a2.c2, a2.c3, a2.c4, a2.c5⟩ (fun hHeld => ?_)
      clear hK K
      try simp only [Act.put, List.setIfInBounds_toArray, List.set_cons_zero, List.set_cons_succ]
      refine wpAnyH_ready (rs := [9, 10, 11]) (by kernel_rfl) (by simp) ?_
      refine AllReadyH.cons rfl (fun K hK => ?_) ?_
      · go_simp
        go_at_call 22
        refine (iwithin_any _ x1 m2 q2 a1.ok f1 H1.out hm2 HQ2.out).mono ?_
        rintro e wd ⟨y2, rfl, p, oky2, bb⟩
        have Py2 := Lib.hid p
        clear p
        replace a1 := a1.below bb
        replace a2 := a2.below bb
        try replace oky1 := oky1.below bb
        try replace oky2 := oky2.below bb
        try replace kG := kG.below bb
        try replace kH := kH.below bb
        replace bz := below_on bz bb bz.size
        clear bb
        try dsimp only
        refine hK.out _ _ ⟨a1.c0, a1.c1, a1.c2, a1.c3, a1.c4, a1.c5, a2.c0, a2.c1, a2.c2, a2.c3, a2.c4, a2.c5⟩ (fun hHeld => ?_)
        clear hK K
        try simp only [Act.put, List.setIfInBounds_toArray, List.set_cons_zero, List.set_cons_succ]
        refine wpAnyH_ready (rs := [10, 11]) (by kernel_rfl) (by simp) ?_
        refine AllReadyH.cons rfl (fun K hK => ?_) ?_
        · go_simp
          have kG := bk3_new wd
          have bb := (Below.refl wd.heap.size wd).alloc (Nat.le_refl _) (.cells #[.bool false, .slice none 0 0, .slice none 0 0] 25)
          have sG := bz.size
          try have nGH := kH.lt
          generalize (wd.alloc (.cells #[.bool false, .slice none 0 0, .slice none 0 0] 25)) = we at *
          first | generalize wd.heap.size = G at kG sG nGH ⊢ | generalize wd.heap.size = G at kG sG ⊢
          replace a1 := a1.below bb
          replace a2 := a2.below bb
          try replace oky1 := oky1.below bb
          try replace oky2 := oky2.below bb
          try replace kG := kG.below bb
          try replace kH := kH.below bb
          replace bz := below_on bz bb bz.size
          clear bb
          generalize we = wd at *
          refine hK.out _ _ ⟨a1.c0, a1.c1, a1.c2, a1.c3, a1.c4, a1.c5, a2.c0, a2.c1, a2.c2, a2.c3, a2.c4, a2.c5⟩ (fun hHeld => ?_)
          clear hK K
          try simp only [Act.put, List.setIfInBounds_toArray, List.set_cons_zero, List.set_cons_succ]
          refine wpAnyH_ready (rs := [11]) (by kernel_rfl) (by simp) ?_
          refine AllReadyH.cons rfl (fun K hK => ?_) ?_
          · go_simp
            have kH := bk3_new wd
            have bb := (Below.refl wd.heap.size wd).alloc (Nat.le_refl _) (.cells #[.bool false, .slice none 0 0, .slice none 0 0] 25)
            have sH := bz.size
            try have nGH := kG.lt
            generalize (wd.alloc (.cells #[.bool false, .slice none 0 0, .slice none 0 0] 25)) = we at *
            first | generalize wd.heap.size = H at kH sH nGH ⊢ | generalize wd.heap.size = H at kH sH ⊢
            replace a1 := a1.below bb
            replace a2 := a2.below bb
            try replace oky1 := oky1.below bb
            try replace oky2 := oky2.below bb
            try replace kG := kG.below bb
            try replace kH := kH.below bb
            replace bz := below_on bz bb bz.size
            clear bb
            generalize we = wd at *
            refine hK.out _ _ ⟨a1.c0, a1.c1, a1.c2, a1.c3, a1.c4, a1.c5, a2.c0, a2.c1, a2.c2, a2.c3, a2.c4, a2.c5⟩ (fun hHeld => ?_)
            clear hK K
            try simp only [Act.put, List.setIfInBounds_toArray, List.set_cons_zero, List.set_cons_succ]
            refine wpAnyH_ready (rs := [12]) (by kernel_rfl) (by simp) ?_
            refine AllReadyH.cons rfl (fun K hK => ?_) ?_
            · have t := kG
              obtain ⟨k0, k1, k2, kf0, kf1, kf2, _, _⟩ := t
              go_simp
              clear k0 k1 k2 kf0 kf1 kf2
              have hk : Fa wd G Fx.nil := ⟨kG, Fx.nil_ok _⟩
              have aG := hk.put oky1
              have b1 := a1.far hk (a := .bool y1.b) (b := .slice y1.A y1.xs.length y1.c) (c := .slice y1.D y1.ys.length y1.d) (by omega)
              have b2 := a2.far hk (a := .bool y1.b) (b := .slice y1.A y1.xs.length y1.c) (c := .slice y1.D y1.ys.length y1.d) (by omega)
              have b3 := kH.far (H := G) (a := .bool y1.b) (b := .slice y1.A y1.xs.length y1.c) (c := .slice y1.D y1.ys.length y1.d) (by omega)
              have b4 : Fx.ok y2 (((wd.setCell ⟨G, 0, none⟩ (.bool y1.b)).setCell ⟨G, 1, none⟩ (.slice y1.A y1.xs.length y1.c)).setCell ⟨G, 2, none⟩ (.slice y1.D y1.ys.length y1.d)) := set3_ok oky2 hk.bk rfl rfl rfl
              have b5 := set3g (G := G) (a := .bool y1.b) (b := .slice y1.A y1.xs.length y1.c) (c := .slice y1.D y1.ys.length y1.d) bz (by omega)
              clear a1 a2 bz hk kG oky1 kH oky2
              generalize (((wd.setCell ⟨G, 0, none⟩ (.bool y1.b)).setCell ⟨G, 1, none⟩ (.slice y1.A y1.xs.length y1.c)).setCell ⟨G, 2, none⟩ (.slice y1.D y1.ys.length y1.d)) = we at *
              have a1 := b1
              have a2 := b2
              have bz := b5
              clear b1 b2 b5
              have kH := b3
              have oky2 := b4
              clear b3 b4
              clear hHeld
              generalize we = wd at *
              refine hK.out _ _ ⟨a1.c0, a1.c1, a1.c2, a1.c3, a1.c4, a1.c5, a2.c0, a2.c1, a2.c2, a2.c3, a2.c4, a2.c5⟩ (fun hHeld => ?_)
              clear hK K
              try simp only [Act.put, List.setIfInBounds_toArray, List.set_cons_zero, List.set_cons_succ]
              refine wpAnyH_ready (rs := [13]) (by kernel_rfl) (by simp) ?_
              refine AllReadyH.cons rfl (fun K hK => ?_) ?_
              · have t := kH
                obtain ⟨k0, k1, k2, kf0, kf1, kf2, _, _⟩ := t
                go_simp
                clear k0 k1 k2 kf0 kf1 kf2
                have hk : Fa wd H Fx.nil := ⟨kH, Fx.nil_ok _⟩
                have aH := hk.put oky2
                have b1 := a1.far hk (a := .bool y2.b) (b := .slice y2.A y2.xs.length y2.c) (c := .slice y2.D y2.ys.length y2.d) (by omega)
                have b2 := a2.far hk (a := .bool y2.b) (b := .slice y2.A y2.xs.length y2.c) (c := .slice y2.D y2.ys.length y2.d) (by omega)
                have b3 := aG.far hk (a := .bool y2.b) (b := .slice y2.A y2.xs.length y2.c) (c := .slice y2.D y2.ys.length y2.d) (by omega)
                have b5 := set3g (G := H) (a := .bool y2.b) (b := .slice y2.A y2.xs.length y2.c) (c := .slice y2.D y2.ys.length y2.d) bz (by omega)
                clear a1 a2 bz hk kH oky2 aG
                generalize (((wd.setCell ⟨H, 0, none⟩ (.bool y2.b)).setCell ⟨H, 1, none⟩ (.slice y2.A y2.xs.length y2.c)).setCell ⟨H, 2, none⟩ (.slice y2.D y2.ys.length y2.d)) = we at *
                have a1 := b1
                have a2 := b2
                have bz := b5
                clear b1 b2 b5
                have aG := b3
                clear b3
                clear hHeld
                generalize we = wd at *
                refine hK.out _ _ ⟨a1.c0, a1.c1, a1.c2, a1.c3, a1.c4, a1.c5, a2.c0, a2.c1, a2.c2, a2.c3, a2.c4, a2.c5⟩ (fun hHeld => ?_)
                clear hK K
                try simp only [Act.put, List.setIfInBounds_toArray, List.set_cons_zero, List.set_cons_succ]
                refine wpAnyH_done (by kernel_rfl) ?_ _
                go_wp2_with fail
                go_meet
                case rel => exact ⟨G, H, y1, y2, rfl, rfl, Py1.out, Py2.out, aG, aH, bz⟩
              exact AllReadyH.nil
            exact AllReadyH.nil
          exact AllReadyH.nil
        refine AllReadyH.cons rfl (fun K hK => ?_) ?_
        · go_simp
          have kH := bk3_new wd
          have bb := (Below.refl wd.heap.size wd).alloc (Nat.le_refl _) (.cells #[.bool false, .slice none 0 0, .slice none 0 0] 25)
          have sH := bz.size
          try have nGH := kG.lt
          generalize (wd.alloc (.cells #[.bool false, .slice none 0 0, .slice none 0 0] 25)) = we at *
          first | generalize wd.heap.size = H at kH sH nGH ⊢ | generalize wd.heap.size = H at kH sH ⊢
          replace a1 := a1.below bb
          replace a2 := a2.below bb
          try replace oky1 := oky1.below bb
          try replace oky2 := oky2.below bb
          try replace kG := kG.below bb
          try replace kH := kH.below bb
          replace bz := below_on bz bb bz.size
          clear bb
          generalize we = wd at *
          refine hK.out _ _ ⟨a1.c0, a1.c1, a1.c2, a1.c3, a1.c4, a1.c5, a2.c0, a2.c1, a2.c2, a2.c3, a2.c4, a2.c5⟩ (fun hHeld => ?_)
          clear hK K
          try simp only [Act.put, List.setIfInBounds_toArray, List.set_cons_zero, List.set_cons_succ]
          refine wpAnyH_ready (rs := [10]) (by kernel_rfl) (by simp) ?_
          refine AllReadyH.cons rfl (fun K hK => ?_) ?_
          · go_simp
            have kG := bk3_new wd
            have bb := (Below.refl wd.heap.size wd).alloc (Nat.le_refl _) (.cells #[.bool false, .slice none 0 0, .slice none 0 0] 25)
            have sG := bz.size
            try have nGH := kH.lt
            generalize (wd.alloc (.cells #[.bool false, .slice none 0 0, .slice none 0 0] 25)) = we at *
            first | generalize wd.heap.size = G at kG sG nGH ⊢ | generalize wd.heap.size = G at kG sG ⊢
            replace a1 := a1.below bb
            replace a2 := a2.below bb
            try replace oky1 := oky1.below bb
            try replace oky2 := oky2.below bb
            try replace kG := kG.below bb
            try replace kH := kH.below bb
            replace bz := below_on bz bb bz.size
            clear bb
            generalize we = wd at *
            refine hK.out _ _ ⟨a1.c0, a1.c1, a1.c2, a1.c3, a1.c4, a1.c5, a2.c0, a2.c1, a2.c2, a2.c3, a2.c4, a2.c5⟩ (fun hHeld => ?_)
            clear hK K
            try simp only [Act.put, List.setIfInBounds_toArray, List.set_cons_zero, List.set_cons_succ]
            refine wpAnyH_ready (rs := [12]) (by kernel_rfl) (by simp) ?_
            refine AllReadyH.cons rfl (fun K hK => ?_) ?_
            · have t := kG
              obtain ⟨k0, k1, k2, kf0, kf1, kf2, _, _⟩ := t
              go_simp
              clear k0 k1 k2 kf0 kf1 kf2
              have hk : Fa wd G Fx.nil := ⟨kG, Fx.nil_ok _⟩
              have aG := hk.put oky1
              have b1 := a1.far hk (a := .bool y1.b) (b := .slice y1.A y1.xs.length y1.c) (c := .slice y1.D y1.ys.length y1.d) (by omega)
              have b2 := a2.far hk (a := .bool y1.b) (b := .slice y1.A y1.xs.length y1.c) (c := .slice y1.D y1.ys.length y1.d) (by omega)
              have b3 := kH.far (H := G) (a := .bool y1.b) (b := .slice y1.A y1.xs.length y1.c) (c := .slice y1.D y1.ys.length y1.d) (by omega)
              have b4 : Fx.ok y2 (((wd.setCell ⟨G, 0, none⟩ (.bool y1.b)).setCell ⟨G, 1, none⟩ (.slice y1.A y1.xs.length y1.c)).setCell ⟨G, 2, none⟩ (.slice y1.D y1.ys.length y1.d)) := set3_ok oky2 hk.bk rfl rfl rfl
              have b5 := set3g (G := G) (a := .bool y1.b) (b := .slice y1.A y1.xs.length y1.c) (c := .slice y1.D y1.ys.length y1.d) bz (by omega)
              clear a1 a2 bz hk kG oky1 kH oky2
              generalize (((wd.setCell ⟨G, 0, none⟩ (.bool y1.b)).setCell ⟨G, 1, none⟩ (.slice y1.A y1.xs.length y1.c)).setCell ⟨G, 2, none⟩ (.slice y1.D y1.ys.length y1.d)) = we at *
              have a1 := b1
              have a2 := b2
              have bz := b5
              clear b1 b2 b5
              have kH := b3
              have oky2 := b4
              clear b3 b4
              clear hHeld
              generalize we = wd at *
              refine hK.out _ _ ⟨a1.c0, a1.c1, a1.c2, a1.c3, a1.c4, a1.c5, a2.c0, a2.c1, a2.c2, a2.c3, a2.c4, a2.c5⟩ (fun hHeld => ?_)
              clear hK K
              try simp only [Act.put, List.setIfInBounds_toArray, List.set_cons_zero, List.set_cons_succ]
              refine wpAnyH_ready (rs := [13]) (by kernel_rfl) (by simp) ?_
              refine AllReadyH.cons rfl (fun K hK => ?_) ?_
              · have t := kH
                obtain ⟨k0, k1, k2, kf0, kf1, kf2, _, _⟩ := t
                go_simp
                clear k0 k1 k2 kf0 kf1 kf2
                have hk : Fa wd H Fx.nil := ⟨kH, Fx.nil_ok _⟩
                have aH := hk.put oky2
                have b1 := a1.far hk (a := .bool y2.b) (b := .slice y2.A y2.xs.length y2.c) (c := .slice y2.D y2.ys.length y2.d) (by omega)
                have b2 := a2.far hk (a := .bool y2.b) (b := .slice y2.A y2.xs.length y2.c) (c := .slice y2.D y2.ys.length y2.d) (by omega)
                have b3 := aG.far hk (a := .bool y2.b) (b := .slice y2.A y2.xs.length y2.c) (c := .slice y2.D y2.ys.length y2.d) (by omega)
                have b5 := set3g (G := H) (a := .bool y2.b) (b := .slice y2.A y2.xs.length y2.c) (c := .slice y2.D y2.ys.length y2.d) bz (by omega)
                clear a1 a2 bz hk kH oky2 aG
                generalize (((wd.setCell ⟨H, 0, none⟩ (.bool y2.b)).setCell ⟨H, 1, none⟩ (.slice y2.A y2.xs.length y2.c)).setCell ⟨H, 2, none⟩ (.slice y2.D y2.ys.length y2.d)) = we at *
                have a1 := b1
                have a2 := b2
                have bz := b5
                clear b1 b2 b5
                have aG := b3
                clear b3
                clear hHeld
                generalize we = wd at *
                refine hK.out _ _ ⟨a1.c0, a1.c1, a1.c2, a1.c3, a1.c4, a1.c5, a2.c0, a2.c1, a2.c2, a2.c3, a2.c4, a2.c5⟩ (fun hHeld => ?_)
                clear hK K
                try simp only [Act.put, List.setIfInBounds_toArray, List.set_cons_zero, List.set_cons_succ]
                refine wpAnyH_done (by kernel_rfl) ?_ _
                go_wp2_with fail
                go_meet
                case rel => exact ⟨G, H, y1, y2, rfl, rfl, Py1.out, Py2.out, aG, aH, bz⟩
              exact AllReadyH.nil
            exact AllReadyH.nil
          exact AllReadyH.nil
        exact AllReadyH.nil
      refine AllReadyH.cons rfl (fun K hK => ?_) ?_
      · go_simp
        have kG := bk3_new wd
        have bb := (Below.refl wd.heap.size wd).alloc (Nat.le_refl _) (.cells #[.bool false, .slice none 0 0, .slice none 0 0] 25)
        have sG := bz.size
        try have nGH := kH.lt
        generalize (wd.alloc (.cells #[.bool false, .slice none 0 0, .slice none 0 0] 25)) = we at *
        first | generalize wd.heap.size = G at kG sG nGH ⊢ | generalize wd.heap.size = G at kG sG ⊢
        replace a1 := a1.below bb
        replace a2 := a2.below bb
        try replace oky1 := oky1.below bb
        try replace oky2 := oky2.below bb
        try replace kG := kG.below bb
        try replace kH := kH.below bb
        replace bz := below_on bz bb bz.size
        clear bb
        generalize we = wd at *
        refine hK.out _ _ ⟨a1.c0, a1.c1, a1.c2, a1.c3, a1.c4, a1.c5, a2.c0, a2.c1, a2.c2, a2.c3, a2.c4, a2.c5⟩ (fun hHeld => ?_)
        clear hK K
        try simp only [Act.put, List.setIfInBounds_toArray, List.set_cons_zero, List.set_cons_succ]
        refine wpAnyH_ready (rs := [9, 11]) (by kernel_rfl) (by simp) ?_
        refine AllReadyH.cons rfl (fun K hK => ?_) ?_
        · go_simp
          go_at_call 22
          refine (iwithin_any _ x1 m2 q2 a1.ok f1 H1.out hm2 HQ2.out).mono ?_
          rintro e wd ⟨y2, rfl, p, oky2, bb⟩
          have Py2 := Lib.hid p
          clear p
          replace a1 := a1.below bb
          replace a2 := a2.below bb
          try replace oky1 := oky1.below bb
          try replace oky2 := oky2.below bb
          try replace kG := kG.below bb
          try replace kH := kH.below bb
          replace bz := below_on bz bb bz.size
          clear bb
          try dsimp only
          refine hK.out _ _ ⟨a1.c0, a1.c1, a1.c2, a1.c3, a1.c4, a1.c5, a2.c0, a2.c1, a2.c2, a2.c3, a2.c4, a2.c5⟩ (fun hHeld => ?_)
          clear hK K
          try simp only [Act.put, List.setIfInBounds_toArray, List.set_cons_zero, List.set_cons_succ]
          refine wpAnyH_ready (rs := [11]) (by kernel_rfl) (by simp) ?_
          refine AllReadyH.cons rfl (fun K hK => ?_) ?_
          · go_simp
            have kH := bk3_new wd
            have bb := (Below.refl wd.heap.size wd).alloc (Nat.le_refl _) (.cells #[.bool false, .slice none 0 0, .slice none 0 0] 25)
            have sH := bz.size
            try have nGH := kG.lt
            generalize (wd.alloc (.cells #[.bool false, .slice none 0 0, .slice none 0 0] 25)) = we at *
            first | generalize wd.heap.size = H at kH sH nGH ⊢ | generalize wd.heap.size = H at kH sH ⊢
            replace a1 := a1.below bb
            replace a2 := a2.below bb
            try replace oky1 := oky1.below bb
            try replace oky2 := oky2.below bb
            try replace kG := kG.below bb
            try replace kH := kH.below bb
            replace bz := below_on bz bb bz.size
            clear bb
            generalize we = wd at *
            refine hK.out _ _ ⟨a1.c0, a1.c1, a1.c2, a1.c3, a1.c4, a1.c5, a2.c0, a2.c1, a2.c2, a2.c3, a2.c4, a2.c5⟩ (fun hHeld => ?_)
            clear hK K
            try simp only [Act.put, List.setIfInBounds_toArray, List.set_cons_zero, List.set_cons_succ]
            refine wpAnyH_ready (rs := [12]) (by kernel_rfl) (by simp) ?_
            refine AllReadyH.cons rfl (fun K hK => ?_) ?_
            · have t := kG
              obtain ⟨k0, k1, k2, kf0, kf1, kf2, _, _⟩ := t
              go_simp
              clear k0 k1 k2 kf0 kf1 kf2
              have hk : Fa wd G Fx.nil := ⟨kG, Fx.nil_ok _⟩
              have aG := hk.put oky1
              have b1 := a1.far hk (a := .bool y1.b) (b := .slice y1.A y1.xs.length y1.c) (c := .slice y1.D y1.ys.length y1.d) (by omega)
              have b2 := a2.far hk (a := .bool y1.b) (b := .slice y1.A y1.xs.length y1.c) (c := .slice y1.D y1.ys.length y1.d) (by omega)
              have b3 := kH.far (H := G) (a := .bool y1.b) (b := .slice y1.A y1.xs.length y1.c) (c := .slice y1.D y1.ys.length y1.d) (by omega)
              have b4 : Fx.ok y2 (((wd.setCell ⟨G, 0, none⟩ (.bool y1.b)).setCell ⟨G, 1, none⟩ (.slice y1.A y1.xs.length y1.c)).setCell ⟨G, 2, none⟩ (.slice y1.D y1.ys.length y1.d)) := set3_ok oky2 hk.bk rfl rfl rfl
              have b5 := set3g (G := G) (a := .bool y1.b) (b := .slice y1.A y1.xs.length y1.c) (c := .slice y1.D y1.ys.length y1.d) bz (by omega)
              clear a1 a2 bz hk kG oky1 kH oky2
              generalize (((wd.setCell ⟨G, 0, none⟩ (.bool y1.b)).setCell ⟨G, 1, none⟩ (.slice y1.A y1.xs.length y1.c)).setCell ⟨G, 2, none⟩ (.slice y1.D y1.ys.length y1.d)) = we at *
              have a1 := b1
              have a2 := b2
              have bz := b5
              clear b1 b2 b5
              have kH := b3
              have oky2 := b4
              clear b3 b4
              clear hHeld
              generalize we = wd at *
              refine hK.out _ _ ⟨a1.c0, a1.c1, a1.c2, a1.c3, a1.c4, a1.c5, a2.c0, a2.c1, a2.c2, a2.c3, a2.c4, a2.c5⟩ (fun hHeld => ?_)
              clear hK K
              try simp only [Act.put, List.setIfInBounds_toArray, List.set_cons_zero, List.set_cons_succ]
              refine wpAnyH_ready (rs := [13]) (by kernel_rfl) (by simp) ?_
              refine AllReadyH.cons rfl (fun K hK => ?_) ?_
              · have t := kH
                obtain ⟨k0, k1, k2, kf0, kf1, kf2, _, _⟩ := t
                go_simp
                clear k0 k1 k2 kf0 kf1 kf2
                have hk : Fa wd H Fx.nil := ⟨kH, Fx.nil_ok _⟩
                have aH := hk.put oky2
                have b1 := a1.far hk (a := .bool y2.b) (b := .slice y2.A y2.xs.length y2.c) (c := .slice y2.D y2.ys.length y2.d) (by omega)
                have b2 := a2.far hk (a := .bool y2.b) (b := .slice y2.A y2.xs.length y2.c) (c := .slice y2.D y2.ys.length y2.d) (by omega)
                have b3 := aG.far hk (a := .bool y2.b) (b := .slice y2.A y2.xs.length y2.c) (c := .slice y2.D y2.ys.length y2.d) (by omega)
                have b5 := set3g (G := H) (a := .bool y2.b) (b := .slice y2.A y2.xs.length y2.c) (c := .slice y2.D y2.ys.length y2.d) bz (by omega)
                clear a1 a2 bz hk kH oky2 aG
                generalize (((wd.setCell ⟨H, 0, none⟩ (.bool y2.b)).setCell ⟨H, 1, none⟩ (.slice y2.A y2.xs.length y2.c)).setCell ⟨H, 2, none⟩ (.slice y2.D y2.ys.length y2.d)) = we at *
                have a1 := b1
                have a2 := b2
                have bz := b5
                clear b1 b2 b5
                have aG := b3
                clear b3
                clear hHeld
                generalize we = wd at *
                refine hK.out _ _ ⟨a1.c0, a1.c1, a1.c2, a1.c3, a1.c4, a1.c5, a2.c0, a2.c1, a2.c2, a2.c3, a2.c4, a2.c5⟩ (fun hHeld => ?_)
                clear hK K
                try simp only [Act.put, List.setIfInBounds_toArray, List.set_cons_zero, List.set_cons_succ]
                refine wpAnyH_done (by kernel_rfl) ?_ _
                go_wp2_with fail
                go_meet
                case rel => exact ⟨G, H, y1, y2, rfl, rfl, Py1.out, Py2.out, aG, aH, bz⟩
              exact AllReadyH.nil
            exact AllReadyH.nil
          exact AllReadyH.nil
        refine AllReadyH.cons rfl (fun K hK => ?_) ?_
        · go_simp
          have kH := bk3_new wd
          have bb := (Below.refl wd.heap.size wd).alloc (Nat.le_refl _) (.cells #[.bool false, .slice none 0 0, .slice none 0 0] 25)
          have sH := bz.size
          try have nGH := kG.lt
          generalize (wd.alloc (.cells #[.bool false, .slice none 0 0, .slice none 0 0] 25)) = we at *
          first | generalize wd.heap.size = H at kH sH nGH ⊢ | generalize wd.heap.size = H at kH sH ⊢
          replace a1 := a1.below bb
          replace a2 := a2.below bb
          try replace oky1 := oky1.below bb
          try replace oky2 := oky2.below bb
          try replace kG := kG.below bb
          try replace kH := kH.below bb
          replace bz := below_on bz bb bz.size
          clear bb
          generalize we = wd at *
          refine hK.out _ _ ⟨a1.c0, a1.c1, a1.c2, a1.c3, a1.c4, a1.c5, a2.c0, a2.c1, a2.c2, a2.c3, a2.c4, a2.c5⟩ (fun hHeld => ?_)
          clear hK K
          try simp only [Act.put, List.setIfInBounds_toArray, List.set_cons_zero, List.set_cons_succ]
          refine wpAnyH_ready (rs := [9]) (by kernel_rfl) (by simp) ?_
          refine AllReadyH.cons rfl (fun K hK => ?_) ?_
          · go_simp
            go_at_call 22
            refine (iwithin_any _ x1 m2 q2 a1.ok f1 H1.out hm2 HQ2.out).mono ?_
            rintro e wd ⟨y2, rfl, p, oky2, bb⟩
            have Py2 := Lib.hid p
            clear p
            replace a1 := a1.below bb
            replace a2 := a2.below bb
            try replace oky1 := oky1.below bb
            try replace oky2 := oky2.below bb
            try replace kG := kG.below bb
            try replace kH := kH.below bb
            replace bz := below_on bz bb bz.size
            clear bb
            try dsimp only
            refine hK.out _ _ ⟨a1.c0, a1.c1, a1.c2, a1.c3, a1.c4, a1.c5, a2.c0, a2.c1, a2.c2, a2.c3, a2.c4, a2.c5⟩ (fun hHeld => ?_)
            clear hK K
            try simp only [Act.put, List.setIfInBounds_toArray, List.set_cons_zero, List.set_cons_succ]
            refine wpAnyH_ready (rs := [12]) (by kernel_rfl) (by simp) ?_
            refine AllReadyH.cons rfl (fun K hK => ?_) ?_
            · have t := kG
              obtain ⟨k0, k1, k2, kf0, kf1, kf2, _, _⟩ := t
              go_simp
              clear k0 k1 k2 kf0 kf1 kf2
              have hk : Fa wd G Fx.nil := ⟨kG, Fx.nil_ok _⟩
              have aG := hk.put oky1
              have b1 := a1.far hk (a := .bool y1.b) (b := .slice y1.A y1.xs.length y1.c) (c := .slice y1.D y1.ys.length y1.d) (by omega)
              have b2 := a2.far hk (a := .bool y1.b) (b := .slice y1.A y1.xs.length y1.c) (c := .slice y1.D y1.ys.length y1.d) (by omega)
              have b3 := kH.far (H := G) (a := .bool y1.b) (b := .slice y1.A y1.xs.length y1.c) (c := .slice y1.D y1.ys.length y1.d) (by omega)
              have b4 : Fx.ok y2 (((wd.setCell ⟨G, 0, none⟩ (.bool y1.b)).setCell ⟨G, 1, none⟩ (.slice y1.A y1.xs.length y1.c)).setCell ⟨G, 2, none⟩ (.slice y1.D y1.ys.length y1.d)) := set3_ok oky2 hk.bk rfl rfl rfl
              have b5 := set3g (G := G) (a := .bool y1.b) (b := .slice y1.A y1.xs.length y1.c) (c := .slice y1.D y1.ys.length y1.d) bz (by omega)
              clear a1 a2 bz hk kG oky1 kH oky2
              generalize (((wd.setCell ⟨G, 0, none⟩ (.bool y1.b)).setCell ⟨G, 1, none⟩ (.slice y1.A y1.xs.length y1.c)).setCell ⟨G, 2, none⟩ (.slice y1.D y1.ys.length y1.d)) = we at *
              have a1 := b1
              have a2 := b2
              have bz := b5
              clear b1 b2 b5
              have kH := b3
              have oky2 := b4
              clear b3 b4
              clear hHeld
              generalize we = wd at *
              refine hK.out _ _ ⟨a1.c0, a1.c1, a1.c2, a1.c3, a1.c4, a1.c5, a2.c0, a2.c1, a2.c2, a2.c3, a2.c4, a2.c5⟩ (fun hHeld => ?_)
              clear hK K
              try simp only [Act.put, List.setIfInBounds_toArray, List.set_cons_zero, List.set_cons_succ]
              refine wpAnyH_ready (rs := [13]) (by kernel_rfl) (by simp) ?_
              refine AllReadyH.cons rfl (fun K hK => ?_) ?_
              · have t := kH
                obtain ⟨k0, k1, k2, kf0, kf1, kf2, _, _⟩ := t
                go_simp
                clear k0 k1 k2 kf0 kf1 kf2
                have hk : Fa wd H Fx.nil := ⟨kH, Fx.nil_ok _⟩
                have aH := hk.put oky2
                have b1 := a1.far hk (a := .bool y2.b) (b := .slice y2.A y2.xs.length y2.c) (c := .slice y2.D y2.ys.length y2.d) (by omega)
                have b2 := a2.far hk (a := .bool y2.b) (b := .slice y2.A y2.xs.length y2.c) (c := .slice y2.D y2.ys.length y2.d) (by omega)
                have b3 := aG.far hk (a := .bool y2.b) (b := .slice y2.A y2.xs.length y2.c) (c := .slice y2.D y2.ys.length y2.d) (by omega)
                have b5 := set3g (G := H) (a := .bool y2.b) (b := .slice y2.A y2.xs.length y2.c) (c := .slice y2.D y2.ys.length y2.d) bz (by omega)
                clear a1 a2 bz hk kH oky2 aG
                generalize (((wd.setCell ⟨H, 0, none⟩ (.bool y2.b)).setCell ⟨H, 1, none⟩ (.slice y2.A y2.xs.length y2.c)).setCell ⟨H, 2, none⟩ (.slice y2.D y2.ys.length y2.d)) = we at *
                have a1 := b1
                have a2 := b2
                have bz := b5
                clear b1 b2 b5
                have aG := b3
                clear b3
                clear hHeld
                generalize we = wd at *
                refine hK.out _ _ ⟨a1.c0, a1.c1, a1.c2, a1.c3, a1.c4, a1.c5, a2.c0, a2.c1, a2.c2, a2.c3, a2.c4, a2.c5⟩ (fun hHeld => ?_)
                clear hK K
                try simp only [Act.put, List.setIfInBounds_toArray, List.set_cons_zero, List.set_cons_succ]
                refine wpAnyH_done (by kernel_rfl) ?_ _
                go_wp2_with fail
                go_meet
                case rel => exact ⟨G, H, y1, y2, rfl, rfl, Py1.out, Py2.out, aG, aH, bz⟩
              exact AllReadyH.nil
            exact AllReadyH.nil
          exact AllReadyH.nil
        exact AllReadyH.nil
      refine AllReadyH.cons rfl (fun K hK => ?_) ?_
      · go_simp
        have kH := bk3_new wd
        have bb := (Below.refl wd.heap.size wd).alloc (Nat.le_refl _) (.cells #[.bool false, .slice none 0 0, .slice none 0 0] 25)
        have sH := bz.size
        try have nGH := kG.lt
        generalize (wd.alloc (.cells #[.bool false, .slice none 0 0, .slice none 0 0] 25)) = we at *
        first | generalize wd.heap.size = H at kH sH nGH ⊢ | generalize wd.heap.size = H at kH sH ⊢
        replace a1 := a1.below bb
        replace a2 := a2.below bb
        try replace oky1 := oky1.below bb
        try replace oky2 := oky2.below bb
        try replace kG := kG.below bb
        try replace kH := kH.below bb
        replace bz := below_on bz bb bz.size
        clear bb
        generalize we = wd at *
        refine hK.out _ _ ⟨a1.c0, a1.c1, a1.c2, a1.c3, a1.c4, a1.c5, a2.c0, a2.c1, a2.c2, a2.c3, a2.c4, a2.c5⟩ (fun hHeld => ?_)
        clear hK K
        try simp only [Act.put, List.setIfInBounds_toArray, List.set_cons_zero, List.set_cons_succ]
        refine wpAnyH_ready (rs := [9, 10]) (by kernel_rfl) (by simp) ?_
        refine AllReadyH.cons rfl (fun K hK => ?_) ?_
        · go_simp
          go_at_call 22
          refine (iwithin_any _ x1 m2 q2 a1.ok f1 H1.out hm2 HQ2.out).mono ?_
          rintro e wd ⟨y2, rfl, p, oky2, bb⟩
          have Py2 := Lib.hid p
          clear p
          replace a1 := a1.below bb
          replace a2 := a2.below bb
          try replace oky1 := oky1.below bb
          try replace oky2 := oky2.below bb
          try replace kG := kG.below bb
          try replace kH := kH.below bb
          replace bz := below_on bz bb bz.size
          clear bb
          try dsimp only
          refine hK.out _ _ ⟨a1.c0, a1.c1, a1.c2, a1.c3, a1.c4, a1.c5, a2.c0, a2.c1, a2.c2, a2.c3, a2.c4, a2.c5⟩ (fun hHeld => ?_)
          clear hK K
          try simp only [Act.put, List.setIfInBounds_toArray, List.set_cons_zero, List.set_cons_succ]
          refine wpAnyH_ready (rs := [10]) (by kernel_rfl) (by simp) ?_
          refine AllReadyH.cons rfl (fun K hK => ?_) ?_
          · go_simp
            have kG := bk3_new wd
            have bb := (Below.refl wd.heap.size wd).alloc (Nat.le_refl _) (.cells #[.bool false, .slice none 0 0, .slice none 0 0] 25)
            have sG := bz.size
            try have nGH := kH.lt
            generalize (wd.alloc (.cells #[.bool false, .slice none 0 0, .slice none 0 0] 25)) = we at *
            first | generalize wd.heap.size = G at kG sG nGH ⊢ | generalize wd.heap.size = G at kG sG ⊢
            replace a1 := a1.below bb
            replace a2 := a2.below bb
            try replace oky1 := oky1.below bb
            try replace oky2 := oky2.below bb
            try replace kG := kG.below bb
            try replace kH := kH.below bb
            replace bz := below_on bz bb bz.size
            clear bb
            generalize we = wd at *
            refine hK.out _ _ ⟨a1.c0, a1.c1, a1.c2, a1.c3, a1.c4, a1.c5, a2.c0, a2.c1, a2.c2, a2.c3, a2.c4, a2.c5⟩ (fun hHeld => ?_)
            clear hK K
            try simp only [Act.put, List.setIfInBounds_toArray, List.set_cons_zero, List.set_cons_succ]
            refine wpAnyH_ready (rs := [12]) (by kernel_rfl) (by simp) ?_
            refine AllReadyH.cons rfl (fun K hK => ?_) ?_
            · have t := kG
              obtain ⟨k0, k1, k2, kf0, kf1, kf2, _, _⟩ := t
              go_simp
              clear k0 k1 k2 kf0 kf1 kf2
              have hk : Fa wd G Fx.nil := ⟨kG, Fx.nil_ok _⟩
              have aG := hk.put oky1
              have b1 := a1.far hk (a := .bool y1.b) (b := .slice y1.A y1.xs.length y1.c) (c := .slice y1.D y1.ys.length y1.d) (by omega)
              have b2 := a2.far hk (a := .bool y1.b) (b := .slice y1.A y1.xs.length y1.c) (c := .slice y1.D y1.ys.length y1.d) (by omega)
              have b3 := kH.far (H := G) (a := .bool y1.b) (b := .slice y1.A y1.xs.length y1.c) (c := .slice y1.D y1.ys.length y1.d) (by omega)
              have b4 : Fx.ok y2 (((wd.setCell ⟨G, 0, none⟩ (.bool y1.b)).setCell ⟨G, 1, none⟩ (.slice y1.A y1.xs.length y1.c)).setCell ⟨G, 2, none⟩ (.slice y1.D y1.ys.length y1.d)) := set3_ok oky2 hk.bk rfl rfl rfl
              have b5 := set3g (G := G) (a := .bool y1.b) (b := .slice y1.A y1.xs.length y1.c) (c := .slice y1.D y1.ys.length y1.d) bz (by omega)
              clear a1 a2 bz hk kG oky1 kH oky2
              generalize (((wd.setCell ⟨G, 0, none⟩ (.bool y1.b)).setCell ⟨G, 1, none⟩ (.slice y1.A y1.xs.length y1.c)).setCell ⟨G, 2, none⟩ (.slice y1.D y1.ys.length y1.d)) = we at *
              have a1 := b1
              have a2 := b2
              have bz := b5
              clear b1 b2 b5
              have kH := b3
              have oky2 := b4
              clear b3 b4
              clear hHeld
              generalize we = wd at *
              refine hK.out _ _ ⟨a1.c0, a1.c1, a1.c2, a1.c3, a1.c4, a1.c5, a2.c0, a2.c1, a2.c2, a2.c3, a2.c4, a2.c5⟩ (fun hHeld => ?_)
              clear hK K
              try simp only [Act.put, List.setIfInBounds_toArray, List.set_cons_zero, List.set_cons_succ]
              refine wpAnyH_ready (rs := [13]) (by kernel_rfl) (by simp) ?_
              refine AllReadyH.cons rfl (fun K hK => ?_) ?_
              · have t := kH
                obtain ⟨k0, k1, k2, kf0, kf1, kf2, _, _⟩ := t
                go_simp
                clear k0 k1 k2 kf0 kf1 kf2
                have hk : Fa wd H Fx.nil := ⟨kH, Fx.nil_ok _⟩
                have aH := hk.put oky2
                have b1 := a1.far hk (a := .bool y2.b) (b := .slice y2.A y2.xs.length y2.c) (c := .slice y2.D y2.ys.length y2.d) (by omega)
                have b2 := a2.far hk (a := .bool y2.b) (b := .slice y2.A y2.xs.length y2.c) (c := .slice y2.D y2.ys.length y2.d) (by omega)
                have b3 := aG.far hk (a := .bool y2.b) (b := .slice y2.A y2.xs.length y2.c) (c := .slice y2.D y2.ys.length y2.d) (by omega)
                have b5 := set3g (G := H) (a := .bool y2.b) (b := .slice y2.A y2.xs.length y2.c) (c := .slice y2.D y2.ys.length y2.d) bz (by omega)
                clear a1 a2 bz hk kH oky2 aG
                generalize (((wd.setCell ⟨H, 0, none⟩ (.bool y2.b)).setCell ⟨H, 1, none⟩ (.slice y2.A y2.xs.length y2.c)).setCell ⟨H, 2, none⟩ (.slice y2.D y2.ys.length y2.d)) = we at *
                have a1 := b1
                have a2 := b2
                have bz := b5
                clear b1 b2 b5
                have aG := b3
                clear b3
                clear hHeld
                generalize we = wd at *
                refine hK.out _ _ ⟨a1.c0, a1.c1, a1.c2, a1.c3, a1.c4, a1.c5, a2.c0, a2.c1, a2.c2, a2.c3, a2.c4, a2.c5⟩ (fun hHeld => ?_)
                clear hK K
                try simp only [Act.put, List.setIfInBounds_toArray, List.set_cons_zero, List.set_cons_succ]
                refine wpAnyH_done (by kernel_rfl) ?_ _
                go_wp2_with fail
                go_meet
                case rel => exact ⟨G, H, y1, y2, rfl, rfl, Py1.out, Py2.out, aG, aH, bz⟩
              exact AllReadyH.nil
            exact AllReadyH.nil
          exact AllReadyH.nil
        refine AllReadyH.cons rfl (fun K hK => ?_) ?_
        · go_simp
          have kG := bk3_new wd
          have bb := (Below.refl wd.heap.size wd).alloc (Nat.le_refl _) (.cells #[.bool false, .slice none 0 0, .slice none 0 0] 25)
          have sG := bz.size
          try have nGH := kH.lt
          generalize (wd.alloc (.cells #[.bool false, .slice none 0 0, .slice none 0 0] 25)) = we at *
          first | generalize wd.heap.size = G at kG sG nGH ⊢ | generalize wd.heap.size = G at kG sG ⊢
          replace a1 := a1.below bb
          replace a2 := a2.below bb
          try replace oky1 := oky1.below bb
          try replace oky2 := oky2.below bb
          try replace kG := kG.below bb
          try replace kH := kH.below bb
          replace bz := below_on bz bb bz.size
          clear bb
          generalize we = wd at *
          refine hK.out _ _ ⟨a1.c0, a1.c1, a1.c2, a1.c3, a1.c4, a1.c5, a2.c0, a2.c1, a2.c2, a2.c3, a2.c4, a2.c5⟩ (fun hHeld => ?_)
          clear hK K
          try simp only [Act.put, List.setIfInBounds_toArray, List.set_cons_zero, List.set_cons_succ]
          refine wpAnyH_ready (rs := [9]) (by kernel_rfl) (by simp) ?_
          refine AllReadyH.cons rfl (fun K hK => ?_) ?_
          · go_simp
            go_at_call 22
            refine (iwithin_any _ x1 m2 q2 a1.ok f1 H1.out hm2 HQ2.out).mono ?_
            rintro e wd ⟨y2, rfl, p, oky2, bb⟩
            have Py2 := Lib.hid p
            clear p
            replace a1 := a1.below bb
            replace a2 := a2.below bb
            try replace oky1 := oky1.below bb
            try replace oky2 := oky2.below bb
            try replace kG := kG.below bb
            try replace kH := kH.below bb
            replace bz := below_on bz bb bz.size
            clear bb
            try dsimp only
            refine hK.out _ _ ⟨a1.c0, a1.c1, a1.c2, a1.c3, a1.c4, a1.c5, a2.c0, a2.c1, a2.c2, a2.c3, a2.c4, a2.c5⟩ (fun hHeld => ?_)
            clear hK K
            try simp only [Act.put, List.setIfInBounds_toArray, List.set_cons_zero, List.set_cons_succ]
            refine wpAnyH_ready (rs := [12]) (by kernel_rfl) (by simp) ?_
            refine AllReadyH.cons rfl (fun K hK => ?_) ?_
            · have t := kG
              obtain ⟨k0, k1, k2, kf0, kf1, kf2, _, _⟩ := t
              go_simp
              clear k0 k1 k2 kf0 kf1 kf2
              have hk : Fa wd G Fx.nil := ⟨kG, Fx.nil_ok _⟩
              have aG := hk.put oky1
              have b1 := a1.far hk (a := .bool y1.b) (b := .slice y1.A y1.xs.length y1.c) (c := .slice y1.D y1.ys.length y1.d) (by omega)
              have b2 := a2.far hk (a := .bool y1.b) (b := .slice y1.A y1.xs.length y1.c) (c := .slice y1.D y1.ys.length y1.d) (by omega)
              have b3 := kH.far (H := G) (a := .bool y1.b) (b := .slice y1.A y1.xs.length y1.c) (c := .slice y1.D y1.ys.length y1.d) (by omega)
              have b4 : Fx.ok y2 (((wd.setCell ⟨G, 0, none⟩ (.bool y1.b)).setCell ⟨G, 1, none⟩ (.slice y1.A y1.xs.length y1.c)).setCell ⟨G, 2, none⟩ (.slice y1.D y1.ys.length y1.d)) := set3_ok oky2 hk.bk rfl rfl rfl
              have b5 := set3g (G := G) (a := .bool y1.b) (b := .slice y1.A y1.xs.length y1.c) (c := .slice y1.D y1.ys.length y1.d) bz (by omega)
              clear a1 a2 bz hk kG oky1 kH oky2
              generalize (((wd.setCell ⟨G, 0, none⟩ (.bool y1.b)).setCell ⟨G, 1, none⟩ (.slice y1.A y1.xs.length y1.c)).setCell ⟨G, 2, none⟩ (.slice y1.D y1.ys.length y1.d)) = we at *
              have a1 := b1
              have a2 := b2
              have bz := b5
              clear b1 b2 b5
              have kH := b3
              have oky2 := b4
              clear b3 b4
              clear hHeld
              generalize we = wd at *
              refine hK.out _ _ ⟨a1.c0, a1.c1, a1.c2, a1.c3, a1.c4, a1.c5, a2.c0, a2.c1, a2.c2, a2.c3, a2.c4, a2.c5⟩ (fun hHeld => ?_)
              clear hK K
              try simp only [Act.put, List.setIfInBounds_toArray, List.set_cons_zero, List.set_cons_succ]
              refine wpAnyH_ready (rs := [13]) (by kernel_rfl) (by simp) ?_
              refine AllReadyH.cons rfl (fun K hK => ?_) ?_
              · have t := kH
                obtain ⟨k0, k1, k2, kf0, kf1, kf2, _, _⟩ := t
                go_simp
                clear k0 k1 k2 kf0 kf1 kf2
                have hk : Fa wd H Fx.nil := ⟨kH, Fx.nil_ok _⟩
                have aH := hk.put oky2
                have b1 := a1.far hk (a := .bool y2.b) (b := .slice y2.A y2.xs.length y2.c) (c := .slice y2.D y2.ys.length y2.d) (by omega)
                have b2 := a2.far hk (a := .bool y2.b) (b := .slice y2.A y2.xs.length y2.c) (c := .slice y2.D y2.ys.length y2.d) (by omega)
                have b3 := aG.far hk (a := .bool y2.b) (b := .slice y2.A y2.xs.length y2.c) (c := .slice y2.D y2.ys.length y2.d) (by omega)
                have b5 := set3g (G := H) (a := .bool y2.b) (b := .slice y2.A y2.xs.length y2.c) (c := .slice y2.D y2.ys.length y2.d) bz (by omega)
                clear a1 a2 bz hk kH oky2 aG
                generalize (((wd.setCell ⟨H, 0, none⟩ (.bool y2.b)).setCell ⟨H, 1, none⟩ (.slice y2.A y2.xs.length y2.c)).setCell ⟨H, 2, none⟩ (.slice y2.D y2.ys.length y2.d)) = we at *
                have a1 := b1
                have a2 := b2
                have bz := b5
                clear b1 b2 b5
                have aG := b3
                clear b3
                clear hHeld
                generalize we = wd at *
                refine hK.out _ _ ⟨a1.c0, a1.c1, a1.c2, a1.c3, a1.c4, a1.c5, a2.c0, a2.c1, a2.c2, a2.c3, a2.c4, a2.c5⟩ (fun hHeld => ?_)
                clear hK K
                try simp only [Act.put, List.setIfInBounds_toArray, List.set_cons_zero, List.set_cons_succ]
                refine wpAnyH_done (by kernel_rfl) ?_ _
                go_wp2_with fail
                go_meet
                case rel => exact ⟨G, H, y1, y2, rfl, rfl, Py1.out, Py2.out, aG, aH, bz⟩
              exact AllReadyH.nil
            exact AllReadyH.nil
          exact AllReadyH.nil
        exact AllReadyH.nil
      exact AllReadyH.nil
    refine AllReadyH.cons rfl (fun K hK => ?_) ?_
    · go_simp
      have kG := bk3_new wd
      have bb := (Below.refl wd.heap.size wd).alloc (Nat.le_refl _) (.cells #[.bool false, .slice none 0 0, .slice none 0 0] 25)
      have sG := bz.size
      try have nGH := kH.lt
      generalize (wd.alloc (.cells #[.bool false, .slice none 0 0, .slice none 0 0] 25)) = we at *
      first | generalize wd.heap.size = G at kG sG nGH ⊢ | generalize wd.heap.size = G at kG sG ⊢
      replace a1 := a1.below bb
      replace a2 := a2.below bb
      try replace oky1 := oky1.below bb
      try replace oky2 := oky2.below bb
      try replace kG := kG.below bb
      try replace kH := kH.below bb
      replace bz := below_on bz bb bz.size
      clear bb
      generalize we = wd at *
      refine hK.out _ _ ⟨a1.c0, a1.c1, a1.c2, a1.c3, a1.c4, a1.c5, a2.c0, a2.c1, a2.c2, a2.c3, a2.c4, a2.c5⟩ (fun hHeld => ?_)
      clear hK K
      try simp only [Act.put, List.setIfInBounds_toArray, List.set_cons_zero, List.set_cons_succ]
      refine wpAnyH_ready (rs := [4, 11]) (by kernel_rfl) (by simp) ?_
      refine AllReadyH.cons rfl (fun K hK => ?_) ?_
      · go_simp
        go_at_call 22
        refine (iwithin_any _ x1 m1 q1 a1.ok f1 H1.out hm1 HQ1.out).mono ?_
        rintro e wd ⟨y1, rfl, p, oky1, bb⟩
        have Py1 := Lib.hid p
        clear p
        replace a1 := a1.below bb
        replace a2 := a2.below bb
        try replace oky1 := oky1.below bb
        try replace oky2 := oky2.below bb
        try replace kG := kG.below bb
        try replace kH := kH.below bb
        replace bz := below_on bz bb bz.size
        clear bb
        try dsimp only
        refine hK.out _ _ ⟨a1.c0, a1.c1, a1.c2, a1.c3, a1.c4, a1.c5, a2.c0, a2.c1, a2.c2, a2.c3, a2.c4, a2.c5⟩ (fun hHeld => ?_)
        clear hK K
        try simp only [Act.put, List.setIfInBounds_toArray, List.set_cons_zero, List.set_cons_succ]
        refine wpAnyH_ready (rs := [9, 11]) (by kernel_rfl) (by simp) ?_
        refine AllReadyH.cons rfl (fun K hK => ?_) ?_
        · go_simp
          go_at_call 22
          refine (iwithin_any _ x1 m2 q2 a1.ok f1 H1.out hm2 HQ2.out).mono ?_
          rintro e wd ⟨y2, rfl, p, oky2, bb⟩
          have Py2 := Lib.hid p
          clear p
          replace a1 := a1.below bb
          replace a2 := a2.below bb
          try replace oky1 := oky1.below bb
          try replace oky2 := oky2.below bb
          try replace kG := kG.below bb
          try replace kH := kH.below bb
          replace bz := below_on bz bb bz.size
          clear bb
          try dsimp only
          refine hK.out _ _ ⟨a1.c0, a1.c1, a1.c2, a1.c3, a1.c4, a1.c5, a2.c0, a2.c1, a2.c2, a2.c3, a2.c4, a2.c5⟩ (fun hHeld => ?_)
          clear hK K
          try simp only [Act.put, List.setIfInBounds_toArray, List.set_cons_zero, List.set_cons_succ]
          refine wpAnyH_ready (rs := [11]) (by kernel_rfl) (by simp) ?_
          refine AllReadyH.cons rfl (fun K hK => ?_) ?_
          · go_simp
            have kH := bk3_new wd
            have bb := (Below.refl wd.heap.size wd).alloc (Nat.le_refl _) (.cells #[.bool false, .slice none 0 0, .slice none 0 0] 25)
            have sH := bz.size
            try have nGH := kG.lt
            generalize (wd.alloc (.cells #[.bool false, .slice none 0 0, .slice none 0 0] 25)) = we at *
            first | generalize wd.heap.size = H at kH sH nGH ⊢ | generalize wd.heap.size = H at kH sH ⊢
            replace a1 := a1.below bb
            replace a2 := a2.below bb
            try replace oky1 := oky1.below bb
            try replace oky2 := oky2.below bb
            try replace kG := kG.below bb
            try replace kH := kH.below bb
            replace bz := below_on bz bb bz.size
            clear bb
            generalize we = wd at *
            refine hK.out _ _ ⟨a1.c0, a1.c1, a1.c2, a1.c3, a1.c4, a1.c5, a2.c0, a2.c1, a2.c2, a2.c3, a2.c4, a2.c5⟩ (fun hHeld => ?_)
            clear hK K
            try simp only [Act.put, List.setIfInBounds_toArray, List.set_cons_zero, List.set_cons_succ]
            refine wpAnyH_ready (rs := [12]) (by kernel_rfl) (by simp) ?_
            refine AllReadyH.cons rfl (fun K hK => ?_) ?_
            · have t := kG
              obtain ⟨k0, k1, k2, kf0, kf1, kf2, _, _⟩ := t
              go_simp
              clear k0 k1 k2 kf0 kf1 kf2
              have hk : Fa wd G Fx.nil := ⟨kG, Fx.nil_ok _⟩
              have aG := hk.put oky1
              have b1 := a1.far hk (a := .bool y1.b) (b := .slice y1.A y1.xs.length y1.c) (c := .slice y1.D y1.ys.length y1.d) (by omega)
              have b2 := a2.far hk (a := .bool y1.b) (b := .slice y1.A y1.xs.length y1.c) (c := .slice y1.D y1.ys.length y1.d) (by omega)
              have b3 := kH.far (H := G) (a := .bool y1.b) (b := .slice y1.A y1.xs.length y1.c) (c := .slice y1.D y1.ys.length y1.d) (by omega)
              have b4 : Fx.ok y2 (((wd.setCell ⟨G, 0, none⟩ (.bool y1.b)).setCell ⟨G, 1, none⟩ (.slice y1.A y1.xs.length y1.c)).setCell ⟨G, 2, none⟩ (.slice y1.D y1.ys.length y1.d)) := set3_ok oky2 hk.bk rfl rfl rfl
              have b5 := set3g (G := G) (a := .bool y1.b) (b := .slice y1.A y1.xs.length y1.c) (c := .slice y1.D y1.ys.length y1.d) bz (by omega)
              clear a1 a2 bz hk kG oky1 kH oky2
              generalize (((wd.setCell ⟨G, 0, none⟩ (.bool y1.b)).setCell ⟨G, 1, none⟩ (.slice y1.A y1.xs.length y1.c)).setCell ⟨G, 2, none⟩ (.slice y1.D y1.ys.length y1.d)) = we at *
              have a1 := b1
              have a2 := b2
              have bz := b5
              clear b1 b2 b5
              have kH := b3
              have oky2 := b4
              clear b3 b4
              clear hHeld
              generalize we = wd at *
              refine hK.out _ _ ⟨a1.c0, a1.c1, a1.c2, a1.c3, a1.c4, a1.c5, a2.c0, a2.c1, a2.c2, a2.c3, a2.c4, a2.c5⟩ (fun hHeld => ?_)
              clear hK K
              try simp only [Act.put, List.setIfInBounds_toArray, List.set_cons_zero, List.set_cons_succ]
              refine wpAnyH_ready (rs := [13]) (by kernel_rfl) (by simp) ?_
              refine AllReadyH.cons rfl (fun K hK => ?_) ?_
              · have t := kH
                obtain ⟨k0, k1, k2, kf0, kf1, kf2, _, _⟩ := t
                go_simp
                clear k0 k1 k2 kf0 kf1 kf2
                have hk : Fa wd H Fx.nil := ⟨kH, Fx.nil_ok _⟩
                have aH := hk.put oky2
                have b1 := a1.far hk (a := .bool y2.b) (b := .slice y2.A y2.xs.length y2.c) (c := .slice y2.D y2.ys.length y2.d) (by omega)
                have b2 := a2.far hk (a := .bool y2.b) (b := .slice y2.A y2.xs.length y2.c) (c := .slice y2.D y2.ys.length y2.d) (by omega)
                have b3 := aG.far hk (a := .bool y2.b) (b := .slice y2.A y2.xs.length y2.c) (c := .slice y2.D y2.ys.length y2.d) (by omega)
                have b5 := set3g (G := H) (a := .bool y2.b) (b := .slice y2.A y2.xs.length y2.c) (c := .slice y2.D y2.ys.length y2.d) bz (by omega)
                clear a1 a2 bz hk kH oky2 aG
                generalize (((wd.setCell ⟨H, 0, none⟩ (.bool y2.b)).setCell ⟨H, 1, none⟩ (.slice y2.A y2.xs.length y2.c)).setCell ⟨H, 2, none⟩ (.slice y2.D y2.ys.length y2.d)) = we at *
                have a1 := b1
                have a2 := b2
                have bz := b5
                clear b1 b2 b5
                have aG := b3
                clear b3
                clear hHeld
                generalize we = wd at *
                refine hK.out _ _ ⟨a1.c0, a1.c1, a1.c2, a1.c3, a1.c4, a1.c5, a2.c0, a2.c1, a2.c2, a2.c3, a2.c4, a2.c5⟩ (fun hHeld => ?_)
                clear hK K
                try simp only [Act.put, List.setIfInBounds_toArray, List.set_cons_zero, List.set_cons_succ]
                refine wpAnyH_done (by kernel_rfl) ?_ _
                go_wp2_with fail
                go_meet
                case rel => exact ⟨G, H, y1, y2, rfl, rfl, Py1.out, Py2.out, aG, aH, bz⟩
              exact AllReadyH.nil
            exact AllReadyH.nil
          exact AllReadyH.nil
        refine AllReadyH.cons rfl (fun K hK => ?_) ?_
        · go_simp
          have kH := bk3_new wd
          have bb := (Below.refl wd.heap.size wd).alloc (Nat.le_refl _) (.cells #[.bool false, .slice none 0 0, .slice none 0 0] 25)
          have sH := bz.size
          try have nGH := kG.lt
          generalize (wd.alloc (.cells #[.bool false, .slice none 0 0, .slice none 0 0] 25)) = we at *
          first | generalize wd.heap.size = H at kH sH nGH ⊢ | generalize wd.heap.size = H at kH sH ⊢
          replace a1 := a1.below bb
          replace a2 := a2.below bb
          try replace oky1 := oky1.below bb
          try replace oky2 := oky2.below bb
          try replace kG := kG.below bb
          try replace kH := kH.below bb
          replace bz := below_on bz bb bz.size
          clear bb
          generalize we = wd at *
          refine hK.out _ _ ⟨a1.c0, a1.c1, a1.c2, a1.c3, a1.c4, a1.c5, a2.c0, a2.c1, a2.c2, a2.c3, a2.c4, a2.c5⟩ (fun hHeld => ?_)
          clear hK K
          try simp only [Act.put, List.setIfInBounds_toArray, List.set_cons_zero, List.set_cons_succ]
          refine wpAnyH_ready (rs := [9]) (by kernel_rfl) (by simp) ?_
          refine AllReadyH.cons rfl (fun K hK => ?_) ?_
          · go_simp
            go_at_call 22
            refine (iwithin_any _ x1 m2 q2 a1.ok f1 H1.out hm2 HQ2.out).mono ?_
            rintro e wd ⟨y2, rfl, p, oky2, bb⟩
            have Py2 := Lib.hid p
            clear p
            replace a1 := a1.below bb
            replace a2 := a2.below bb
            try replace oky1 := oky1.below bb
            try replace oky2 := oky2.below bb
            try replace kG := kG.below bb
            try replace kH := kH.below bb
            replace bz := below_on bz bb bz.size
            clear bb
            try dsimp only
            refine hK.out _ _ ⟨a1.c0, a1.c1, a1.c2, a1.c3, a1.c4, a1.c5, a2.c0, a2.c1, a2.c2, a2.c3, a2.c4, a2.c5⟩ (fun hHeld => ?_)
            clear hK K
            try simp only [Act.put, List.setIfInBounds_toArray, List.set_cons_zero, List.set_cons_succ]
            refine wpAnyH_ready (rs := [12]) (by kernel_rfl) (by simp) ?_
            refine AllReadyH.cons rfl (fun K hK => ?_) ?_
            · have t := kG
              obtain ⟨k0, k1, k2, kf0, kf1, kf2, _, _⟩ := t
              go_simp
              clear k0 k1 k2 kf0 kf1 kf2
              have hk : Fa wd G Fx.nil := ⟨kG, Fx.nil_ok _⟩
              have aG := hk.put oky1
              have b1 := a1.far hk (a := .bool y1.b) (b := .slice y1.A y1.xs.length y1.c) (c := .slice y1.D y1.ys.length y1.d) (by omega)
              have b2 := a2.far hk (a := .bool y1.b) (b := .slice y1.A y1.xs.length y1.c) (c := .slice y1.D y1.ys.length y1.d) (by omega)
              have b3 := kH.far (H := G) (a := .bool y1.b) (b := .slice y1.A y1.xs.length y1.c) (c := .slice y1.D y1.ys.length y1.d) (by omega)
              have b4 : Fx.ok y2 (((wd.setCell ⟨G, 0, none⟩ (.bool y1.b)).setCell ⟨G, 1, none⟩ (.slice y1.A y1.xs.length y1.c)).setCell ⟨G, 2, none⟩ (.slice y1.D y1.ys.length y1.d)) := set3_ok oky2 hk.bk rfl rfl rfl
              have b5 := set3g (G := G) (a := .bool y1.b) (b := .slice y1.A y1.xs.length y1.c) (c := .slice y1.D y1.ys.length y1.d) bz (by omega)
              clear a1 a2 bz hk kG oky1 kH oky2
              generalize (((wd.setCell ⟨G, 0, none⟩ (.bool y1.b)).setCell ⟨G, 1, none⟩ (.slice y1.A y1.xs.length y1.c)).setCell ⟨G, 2, none⟩ (.slice y1.D y1.ys.length y1.d)) = we at *
              have a1 := b1
              have a2 := b2
              have bz := b5
              clear b1 b2 b5
              have kH := b3
              have oky2 := b4
              clear b3 b4
              clear hHeld
              generalize we = wd at *
              refine hK.out _ _ ⟨a1.c0, a1.c1, a1.c2, a1.c3, a1.c4, a1.c5, a2.c0, a2.c1, a2.c2, a2.c3, a2.c4, a2.c5⟩ (fun hHeld => ?_)
              clear hK K
              try simp only [Act.put, List.setIfInBounds_toArray, List.set_cons_zero, List.set_cons_succ]
              refine wpAnyH_ready (rs := [13]) (by kernel_rfl) (by simp) ?_
              refine AllReadyH.cons rfl (fun K hK => ?_) ?_
              · have t := kH
                obtain ⟨k0, k1, k2, kf0, kf1, kf2, _, _⟩ := t
                go_simp
                clear k0 k1 k2 kf0 kf1 kf2
                have hk : Fa wd H Fx.nil := ⟨kH, Fx.nil_ok _⟩
                have aH := hk.put oky2
                have b1 := a1.far hk (a := .bool y2.b) (b := .slice y2.A y2.xs.length y2.c) (c := .slice y2.D y2.ys.length y2.d) (by omega)
                have b2 := a2.far hk (a := .bool y2.b) (b := .slice y2.A y2.xs.length y2.c) (c := .slice y2.D y2.ys.length y2.d) (by omega)
                have b3 := aG.far hk (a := .bool y2.b) (b := .slice y2.A y2.xs.length y2.c) (c := .slice y2.D y2.ys.length y2.d) (by omega)
                have b5 := set3g (G := H) (a := .bool y2.b) (b := .slice y2.A y2.xs.length y2.c) (c := .slice y2.D y2.ys.length y2.d) bz (by omega)
                clear a1 a2 bz hk kH oky2 aG
                generalize (((wd.setCell ⟨H, 0, none⟩ (.bool y2.b)).setCell ⟨H, 1, none⟩ (.slice y2.A y2.xs.length y2.c)).setCell ⟨H, 2, none⟩ (.slice y2.D y2.ys.length y2.d)) = we at *
                have a1 := b1
                have a2 := b2
                have bz := b5
                clear b1 b2 b5
                have aG := b3
                clear b3
                clear hHeld
                generalize we = wd at *
                refine hK.out _ _ ⟨a1.c0, a1.c1, a1.c2, a1.c3, a1.c4, a1.c5, a2.c0, a2.c1, a2.c2, a2.c3, a2.c4, a2.c5⟩ (fun hHeld => ?_)
                clear hK K
                try simp only [Act.put, List.setIfInBounds_toArray, List.set_cons_zero, List.set_cons_succ]
                refine wpAnyH_done (by kernel_rfl) ?_ _
                go_wp2_with fail
                go_meet
                case rel => exact ⟨G, H, y1, y2, rfl, rfl, Py1.out, Py2.out, aG, aH, bz⟩
              exact AllReadyH.nil
            exact AllReadyH.nil
          exact AllReadyH.nil
        exact AllReadyH.nil
      refine AllReadyH.cons rfl (fun K hK => ?_) ?_
      · go_simp
        have kH := bk3_new wd
        have bb := (Below.refl wd.heap.size wd).alloc (Nat.le_refl _) (.cells #[.bool false, .slice none 0 0, .slice none 0 0] 25)
        have sH := bz.size
        try have nGH := kG.lt
        generalize (wd.alloc (.cells #[.bool false, .slice none 0 0, .slice none 0 0] 25)) = we at *
        first | generalize wd.heap.size = H at kH sH nGH ⊢ | generalize wd.heap.size = H at kH sH ⊢
        replace a1 := a1.below bb
        replace a2 := a2.below bb
        try replace oky1 := oky1.below bb
        try replace oky2 := oky2.below bb
        try replace kG := kG.below bb
        try replace kH := kH.below bb
        replace bz := below_on bz bb bz.size
        clear bb
        generalize we = wd at *
        refine hK.out _ _ ⟨a1.c0, a1.c1, a1.c2, a1.c3, a1.c4, a1.c5, a2.c0, a2.c1, a2.c2, a2.c3, a2.c4, a2.c5⟩ (fun hHeld => ?_)
        clear hK K
        try simp only [Act.put, List.setIfInBounds_toArray, List.set_cons_zero, List.set_cons_succ]
        refine wpAnyH_ready (rs := [4]) (by kernel_rfl) (by simp) ?_
        refine AllReadyH.cons rfl (fun K hK => ?_) ?_
        · go_simp
          go_at_call 22
          refine (iwithin_any _ x1 m1 q1 a1.ok f1 H1.out hm1 HQ1.out).mono ?_
          rintro e wd ⟨y1, rfl, p, oky1, bb⟩
          have Py1 := Lib.hid p
          clear p
          replace a1 := a1.below bb
          replace a2 := a2.below bb
          try replace oky1 := oky1.below bb
          try replace oky2 := oky2.below bb
          try replace kG := kG.below bb
          try replace kH := kH.below bb
          replace bz := below_on bz bb bz.size
          clear bb
          try dsimp only
          refine hK.out _ _ ⟨a1.c0, a1.c1, a1.c2, a1.c3, a1.c4, a1.c5, a2.c0, a2.c1, a2.c2, a2.c3, a2.c4, a2.c5⟩ (fun hHeld => ?_)
          clear hK K
          try simp only [Act.put, List.setIfInBounds_toArray, List.set_cons_zero, List.set_cons_succ]
          refine wpAnyH_ready (rs := [9]) (by kernel_rfl) (by simp) ?_
          refine AllReadyH.cons rfl (fun K hK => ?_) ?_
          · go_simp
            go_at_call 22
            refine (iwithin_any _ x1 m2 q2 a1.ok f1 H1.out hm2 HQ2.out).mono ?_
            rintro e wd ⟨y2, rfl, p, oky2, bb⟩
            have Py2 := Lib.hid p
            clear p
            replace a1 := a1.below bb
            replace a2 := a2.below bb
            try replace oky1 := oky1.below bb
            try replace oky2 := oky2.below bb
            try replace kG := kG.below bb
            try replace kH := kH.below bb
            replace bz := below_on bz bb bz.size
            clear bb
            try dsimp only
            refine hK.out _ _ ⟨a1.c0, a1.c1, a1.c2, a1.c3, a1.c4, a1.c5, a2.c0, a2.c1, a2.c2, a2.c3, a2.c4, a2.c5⟩ (fun hHeld => ?_)
            clear hK K
            try simp only [Act.put, List.setIfInBounds_toArray, List.set_cons_zero, List.set_cons_succ]
            refine wpAnyH_ready (rs := [12]) (by kernel_rfl) (by simp) ?_
            refine AllReadyH.cons rfl (fun K hK => ?_) ?_
            · have t := kG
              obtain ⟨k0, k1, k2, kf0, kf1, kf2, _, _⟩ := t
              go_simp
              clear k0 k1 k2 kf0 kf1 kf2
              have hk : Fa wd G Fx.nil := ⟨kG, Fx.nil_ok _⟩
              have aG := hk.put oky1
              have b1 := a1.far hk (a := .bool y1.b) (b := .slice y1.A y1.xs.length y1.c) (c := .slice y1.D y1.ys.length y1.d) (by omega)
              have b2 := a2.far hk (a := .bool y1.b) (b := .slice y1.A y1.xs.length y1.c) (c := .slice y1.D y1.ys.length y1.d) (by omega)
              have b3 := kH.far (H := G) (a := .bool y1.b) (b := .slice y1.A y1.xs.length y1.c) (c := .slice y1.D y1.ys.length y1.d) (by omega)
              have b4 : Fx.ok y2 (((wd.setCell ⟨G, 0, none⟩ (.bool y1.b)).setCell ⟨G, 1, none⟩ (.slice y1.A y1.xs.length y1.c)).setCell ⟨G, 2, none⟩ (.slice y1.D y1.ys.length y1.d)) := set3_ok oky2 hk.bk rfl rfl rfl
              have b5 := set3g (G := G) (a := .bool y1.b) (b := .slice y1.A y1.xs.length y1.c) (c := .slice y1.D y1.ys.length y1.d) bz (by omega)
              clear a1 a2 bz hk kG oky1 kH oky2
              generalize (((wd.setCell ⟨G, 0, none⟩ (.bool y1.b)).setCell ⟨G, 1, none⟩ (.slice y1.A y1.xs.length y1.c)).setCell ⟨G, 2, none⟩ (.slice y1.D y1.ys.length y1.d)) = we at *
              have a1 := b1
              have a2 := b2
              have bz := b5
              clear b1 b2 b5
              have kH := b3
              have oky2 := b4
              clear b3 b4
              clear hHeld
              generalize we = wd at *
              refine hK.out _ _ ⟨a1.c0, a1.c1, a1.c2, a1.c3, a1.c4, a1.c5, a2.c0, a2.c1, a2.c2, a2.c3, a2.c4, a2.c5⟩ (fun hHeld => ?_)
              clear hK K
              try simp only [Act.put, List.setIfInBounds_toArray, List.set_cons_zero, List.set_cons_succ]
              refine wpAnyH_ready (rs := [13]) (by kernel_rfl) (by simp) ?_
              refine AllReadyH.cons rfl (fun K hK => ?_) ?_
              · have t := kH
                obtain ⟨k0, k1, k2, kf0, kf1, kf2, _, _⟩ := t
                go_simp
                clear k0 k1 k2 kf0 kf1 kf2
                have hk : Fa wd H Fx.nil := ⟨kH, Fx.nil_ok _⟩
                have aH := hk.put oky2
                have b1 := a1.far hk (a := .bool y2.b) (b := .slice y2.A y2.xs.length y2.c) (c := .slice y2.D y2.ys.length y2.d) (by omega)
                have b2 := a2.far hk (a := .bool y2.b) (b := .slice y2.A y2.xs.length y2.c) (c := .slice y2.D y2.ys.length y2.d) (by omega)
                have b3 := aG.far hk (a := .bool y2.b) (b := .slice y2.A y2.xs.length y2.c) (c := .slice y2.D y2.ys.length y2.d) (by omega)
                have b5 := set3g (G := H) (a := .bool y2.b) (b := .slice y2.A y2.xs.length y2.c) (c := .slice y2.D y2.ys.length y2.d) bz (by omega)
                clear a1 a2 bz hk kH oky2 aG
                generalize (((wd.setCell ⟨H, 0, none⟩ (.bool y2.b)).setCell ⟨H, 1, none⟩ (.slice y2.A y2.xs.length y2.c)).setCell ⟨H, 2, none⟩ (.slice y2.D y2.ys.length y2.d)) = we at *
                have a1 := b1
                have a2 := b2
                have bz := b5
                clear b1 b2 b5
                have aG := b3
                clear b3
                clear hHeld
                generalize we = wd at *
                refine hK.out _ _ ⟨a1.c0, a1.c1, a1.c2, a1.c3, a1.c4, a1.c5, a2.c0, a2.c1, a2.c2, a2.c3, a2.c4, a2.c5⟩ (fun hHeld => ?_)
                clear hK K
                try simp only [Act.put, List.setIfInBounds_toArray, List.set_cons_zero, List.set_cons_succ]
                refine wpAnyH_done (by kernel_rfl) ?_ _
                go_wp2_with fail
                go_meet
                case rel => exact ⟨G, H, y1, y2, rfl, rfl, Py1.out, Py2.out, aG, aH, bz⟩
              exact AllReadyH.nil
            exact AllReadyH.nil
          exact AllReadyH.nil
        exact AllReadyH.nil
      exact AllReadyH.nil
    refine AllReadyH.cons rfl (fun K hK => ?_) ?_
    · go_simp
      have kH := bk3_new wd
      have bb := (Below.refl wd.heap.size wd).alloc (Nat.le_refl _) (.cells #[.bool false, .slice none 0 0, .slice none 0 0] 25)
      have sH := bz.size
      try have nGH := kG.lt
      generalize (wd.alloc (.cells #[.bool false, .slice none 0 0, .slice none 0 0] 25)) = we at *
      first | generalize wd.heap.size = H at kH sH nGH ⊢ | generalize wd.heap.size = H at kH sH ⊢
      replace a1 := a1.below bb
      replace a2 := a2.below bb
      try replace oky1 := oky1.below bb
      try replace oky2 := oky2.below bb
      try replace kG := kG.below bb
      try replace kH := kH.below bb
      replace bz := below_on bz bb bz.size
      clear bb
      generalize we = wd at *
      refine hK.out _ _ ⟨a1.c0, a1.c1, a1.c2, a1.c3, a1.c4, a1.c5, a2.c0, a2.c1, a2.c2, a2.c3, a2.c4, a2.c5⟩ (fun hHeld => ?_)
      clear hK K
      try simp only [Act.put, List.setIfInBounds_toArray, List.set_cons_zero, List.set_cons_succ]
      refine wpAnyH_ready (rs := [4, 10]) (by kernel_rfl) (by simp) ?_
      refine AllReadyH.cons rfl (fun K hK => ?_) ?_
      · go_simp
        go_at_call 22
        refine (iwithin_any _ x1 m1 q1 a1.ok f1 H1.out hm1 HQ1.out).mono ?_
        rintro e wd ⟨y1, rfl, p, oky1, bb⟩
        have Py1 := Lib.hid p
        clear p
        replace a1 := a1.below bb
        replace a2 := a2.below bb
        try replace oky1 := oky1.below bb
        try replace oky2 := oky2.below bb
        try replace kG := kG.below bb
        try replace kH := kH.below bb
        replace bz := below_on bz bb bz.size
        clear bb
        try dsimp only
        refine hK.out _ _ ⟨a1.c0, a1.c1, a1.c2, a1.c3, a1.c4, a1.c5, a2.c0, a2.c1, a2.c2, a2.c3, a2.c4, a2.c5⟩ (fun hHeld => ?_)
        clear hK K
        try simp only [Act.put, List.setIfInBounds_toArray, List.set_cons_zero, List.set_cons_succ]
        refine wpAnyH_ready (rs := [9, 10]) (by kernel_rfl) (by simp) ?_
        refine AllReadyH.cons rfl (fun K hK => ?_) ?_
        · go_simp
          go_at_call 22
          refine (iwithin_any _ x1 m2 q2 a1.ok f1 H1.out hm2 HQ2.out).mono ?_
          rintro e wd ⟨y2, rfl, p, oky2, bb⟩
          have Py2 := Lib.hid p
          clear p
          replace a1 := a1.below bb
          replace a2 := a2.below bb
          try replace oky1 := oky1.below bb
          try replace oky2 := oky2.below bb
          try replace kG := kG.below bb
          try replace kH := kH.below bb
          replace bz := below_on bz bb bz.size
          clear bb
          try dsimp only
          refine hK.out _ _ ⟨a1.c0, a1.c1, a1.c2, a1.c3, a1.c4, a1.c5, a2.c0, a2.c1, a2.c2, a2.c3, a2.c4, a2.c5⟩ (fun hHeld => ?_)
          clear hK K
          try simp only [Act.put, List.setIfInBounds_toArray, List.set_cons_zero, List.set_cons_succ]
          refine wpAnyH_ready (rs := [10]) (by kernel_rfl) (by simp) ?_
          refine AllReadyH.cons rfl (fun K hK => ?_) ?_
          · go_simp
            have kG := bk3_new wd
            have bb := (Below.refl wd.heap.size wd).alloc (Nat.le_refl _) (.cells #[.bool false, .slice none 0 0, .slice none 0 0] 25)
            have sG := bz.size
            try have nGH := kH.lt
            generalize (wd.alloc (.cells #[.bool false, .slice none 0 0, .slice none 0 0] 25)) = we at *
            first | generalize wd.heap.size = G at kG sG nGH ⊢ | generalize wd.heap.size = G at kG sG ⊢
            replace a1 := a1.below bb
            replace a2 := a2.below bb
            try replace oky1 := oky1.below bb
            try replace oky2 := oky2.below bb
            try replace kG := kG.below bb
            try replace kH := kH.below bb
            replace bz := below_on bz bb bz.size
            clear bb
            generalize we = wd at *
            refine hK.out _ _ ⟨a1.c0, a1.c1, a1.c2, a1.c3, a1.c4, a1.c5, a2.c0, a2.c1, a2.c2, a2.c3, a2.c4, a2.c5⟩ (fun hHeld => ?_)
            clear hK K
            try simp only [Act.put, List.setIfInBounds_toArray, List.set_cons_zero, List.set_cons_succ]
            refine wpAnyH_ready (rs := [12]) (by kernel_rfl) (by simp) ?_
            refine AllReadyH.cons rfl (fun K hK => ?_) ?_
            · have t := kG
              obtain ⟨k0, k1, k2, kf0, kf1, kf2, _, _⟩ := t
              go_simp
              clear k0 k1 k2 kf0 kf1 kf2
              have hk : Fa wd G Fx.nil := ⟨kG, Fx.nil_ok _⟩
              have aG := hk.put oky1
              have b1 := a1.far hk (a := .bool y1.b) (b := .slice y1.A y1.xs.length y1.c) (c := .slice y1.D y1.ys.length y1.d) (by omega)
              have b2 := a2.far hk (a := .bool y1.b) (b := .slice y1.A y1.xs.length y1.c) (c := .slice y1.D y1.ys.length y1.d) (by omega)
              have b3 := kH.far (H := G) (a := .bool y1.b) (b := .slice y1.A y1.xs.length y1.c) (c := .slice y1.D y1.ys.length y1.d) (by omega)
              have b4 : Fx.ok y2 (((wd.setCell ⟨G, 0, none⟩ (.bool y1.b)).setCell ⟨G, 1, none⟩ (.slice y1.A y1.xs.length y1.c)).setCell ⟨G, 2, none⟩ (.slice y1.D y1.ys.length y1.d)) := set3_ok oky2 hk.bk rfl rfl rfl
              have b5 := set3g (G := G) (a := .bool y1.b) (b := .slice y1.A y1.xs.length y1.c) (c := .slice y1.D y1.ys.length y1.d) bz (by omega)
              clear a1 a2 bz hk kG oky1 kH oky2
              generalize (((wd.setCell ⟨G, 0, none⟩ (.bool y1.b)).setCell ⟨G, 1, none⟩ (.slice y1.A y1.xs.length y1.c)).setCell ⟨G, 2, none⟩ (.slice y1.D y1.ys.length y1.d)) = we at *
              have a1 := b1
              have a2 := b2
              have bz := b5
              clear b1 b2 b5
              have kH := b3
              have oky2 := b4
              clear b3 b4
              clear hHeld
              generalize we = wd at *
              refine hK.out _ _ ⟨a1.c0, a1.c1, a1.c2, a1.c3, a1.c4, a1.c5, a2.c0, a2.c1, a2.c2, a2.c3, a2.c4, a2.c5⟩ (fun hHeld => ?_)
              clear hK K
              try simp only [Act.put, List.setIfInBounds_toArray, List.set_cons_zero, List.set_cons_succ]
              refine wpAnyH_ready (rs := [13]) (by kernel_rfl) (by simp) ?_
              refine AllReadyH.cons rfl (fun K hK => ?_) ?_
              · have t := kH
                obtain ⟨k0, k1, k2, kf0, kf1, kf2, _, _⟩ := t
                go_simp
                clear k0 k1 k2 kf0 kf1 kf2
                have hk : Fa wd H Fx.nil := ⟨kH, Fx.nil_ok _⟩
                have aH := hk.put oky2
                have b1 := a1.far hk (a := .bool y2.b) (b := .slice y2.A y2.xs.length y2.c) (c := .slice y2.D y2.ys.length y2.d) (by omega)
                have b2 := a2.far hk (a := .bool y2.b) (b := .slice y2.A y2.xs.length y2.c) (c := .slice y2.D y2.ys.length y2.d) (by omega)
                have b3 := aG.far hk (a := .bool y2.b) (b := .slice y2.A y2.xs.length y2.c) (c := .slice y2.D y2.ys.length y2.d) (by omega)
                have b5 := set3g (G := H) (a := .bool y2.b) (b := .slice y2.A y2.xs.length y2.c) (c := .slice y2.D y2.ys.length y2.d) bz (by omega)
                clear a1 a2 bz hk kH oky2 aG
                generalize (((wd.setCell ⟨H, 0, none⟩ (.bool y2.b)).setCell ⟨H, 1, none⟩ (.slice y2.A y2.xs.length y2.c)).setCell ⟨H, 2, none⟩ (.slice y2.D y2.ys.length y2.d)) = we at *
                have a1 := b1
                have a2 := b2
                have bz := b5
                clear b1 b2 b5
                have aG := b3
                clear b3
                clear hHeld
                generalize we = wd at *
                refine hK.out _ _ ⟨a1.c0, a1.c1, a1.c2, a1.c3, a1.c4, a1.c5, a2.c0, a2.c1, a2.c2, a2.c3, a2.c4, a2.c5⟩ (fun hHeld => ?_)
                clear hK K
                try simp only [Act.put, List.setIfInBounds_toArray, List.set_cons_zero, List.set_cons_succ]
                refine wpAnyH_done (by kernel_rfl) ?_ _
                go_wp2_with fail
                go_meet
                case rel => exact ⟨G, H, y1, y2, rfl, rfl, Py1.out, Py2.out, aG, aH, bz⟩
              exact AllReadyH.nil
            exact AllReadyH.nil
          exact AllReadyH.nil
        refine AllReadyH.cons rfl (fun K hK => ?_) ?_
        · go_simp
          have kG := bk3_new wd
          have bb := (Below.refl wd.heap.size wd).alloc (Nat.le_refl _) (.cells #[.bool false, .slice none 0 0, .slice none 0 0] 25)
          have sG := bz.size
          try have nGH := kH.lt
          generalize (wd.alloc (.cells #[.bool false, .slice none 0 0, .slice none 0 0] 25)) = we at *
          first | generalize wd.heap.size = G at kG sG nGH ⊢ | generalize wd.heap.size = G at kG sG ⊢
          replace a1 := a1.below bb
          replace a2 := a2.below bb
          try replace oky1 := oky1.below bb
          try replace oky2 := oky2.below bb
          try replace kG := kG.below bb
          try replace kH := kH.below bb
          replace bz := below_on bz bb bz.size
          clear bb
          generalize we = wd at *
          refine hK.out _ _ ⟨a1.c0, a1.c1, a1.c2, a1.c3, a1.c4, a1.c5, a2.c0, a2.c1, a2.c2, a2.c3, a2.c4, a2.c5⟩ (fun hHeld => ?_)
          clear hK K
          try simp only [Act.put, List.setIfInBounds_toArray, List.set_cons_zero, List.set_cons_succ]
          refine wpAnyH_ready (rs := [9]) (by kernel_rfl) (by simp) ?_
          refine AllReadyH.cons rfl (fun K hK => ?_) ?_
          · go_simp
            go_at_call 22
            refine (iwithin_any _ x1 m2 q2 a1.ok f1 H1.out hm2 HQ2.out).mono ?_
            rintro e wd ⟨y2, rfl, p, oky2, bb⟩
            have Py2 := Lib.hid p
            clear p
            replace a1 := a1.below bb
            replace a2 := a2.below bb
            try replace oky1 := oky1.below bb
            try replace oky2 := oky2.below bb
            try replace kG := kG.below bb
            try replace kH := kH.below bb
            replace bz := below_on bz bb bz.size
            clear bb
            try dsimp only
            refine hK.out _ _ ⟨a1.c0, a1.c1, a1.c2, a1.c3, a1.c4, a1.c5, a2.c0, a2.c1, a2.c2, a2.c3, a2.c4, a2.c5⟩ (fun hHeld => ?_)
            clear hK K
            try simp only [Act.put, List.setIfInBounds_toArray, List.set_cons_zero, List.set_cons_succ]
            refine wpAnyH_ready (rs := [12]) (by kernel_rfl) (by simp) ?_
            refine AllReadyH.cons rfl (fun K hK => ?_) ?_
            · have t := kG
              obtain ⟨k0, k1, k2, kf0, kf1, kf2, _, _⟩ := t
              go_simp
              clear k0 k1 k2 kf0 kf1 kf2
              have hk : Fa wd G Fx.nil := ⟨kG, Fx.nil_ok _⟩
              have aG := hk.put oky1
              have b1 := a1.far hk (a := .bool y1.b) (b := .slice y1.A y1.xs.length y1.c) (c := .slice y1.D y1.ys.length y1.d) (by omega)
              have b2 := a2.far hk (a := .bool y1.b) (b := .slice y1.A y1.xs.length y1.c) (c := .slice y1.D y1.ys.length y1.d) (by omega)
              have b3 := kH.far (H := G) (a := .bool y1.b) (b := .slice y1.A y1.xs.length y1.c) (c := .slice y1.D y1.ys.length y1.d) (by omega)
              have b4 : Fx.ok y2 (((wd.setCell ⟨G, 0, none⟩ (.bool y1.b)).setCell ⟨G, 1, none⟩ (.slice y1.A y1.xs.length y1.c)).setCell ⟨G, 2, none⟩ (.slice y1.D y1.ys.length y1.d)) := set3_ok oky2 hk.bk rfl rfl rfl
              have b5 := set3g (G := G) (a := .bool y1.b) (b := .slice y1.A y1.xs.length y1.c) (c := .slice y1.D y1.ys.length y1.d) bz (by omega)
              clear a1 a2 bz hk kG oky1 kH oky2
              generalize (((wd.setCell ⟨G, 0, none⟩ (.bool y1.b)).setCell ⟨G, 1, none⟩ (.slice y1.A y1.xs.length y1.c)).setCell ⟨G, 2, none⟩ (.slice y1.D y1.ys.length y1.d)) = we at *
              have a1 := b1
              have a2 := b2
              have bz := b5
              clear b1 b2 b5
              have kH := b3
              have oky2 := b4
              clear b3 b4
              clear hHeld
              generalize we = wd at *
              refine hK.out _ _ ⟨a1.c0, a1.c1, a1.c2, a1.c3, a1.c4, a1.c5, a2.c0, a2.c1, a2.c2, a2.c3, a2.c4, a2.c5⟩ (fun hHeld => ?_)
              clear hK K
              try simp only [Act.put, List.setIfInBounds_toArray, List.set_cons_zero, List.set_cons_succ]
              refine wpAnyH_ready (rs := [13]) (by kernel_rfl) (by simp) ?_
              refine AllReadyH.cons rfl (fun K hK => ?_) ?_
              · have t := kH
                obtain ⟨k0, k1, k2, kf0, kf1, kf2, _, _⟩ := t
                go_simp
                clear k0 k1 k2 kf0 kf1 kf2
                have hk : Fa wd H Fx.nil := ⟨kH, Fx.nil_ok _⟩
                have aH := hk.put oky2
                have b1 := a1.far hk (a := .bool y2.b) (b := .slice y2.A y2.xs.length y2.c) (c := .slice y2.D y2.ys.length y2.d) (by omega)
                have b2 := a2.far hk (a := .bool y2.b) (b := .slice y2.A y2.xs.length y2.c) (c := .slice y2.D y2.ys.length y2.d) (by omega)
                have b3 := aG.far hk (a := .bool y2.b) (b := .slice y2.A y2.xs.length y2.c) (c := .slice y2.D y2.ys.length y2.d) (by omega)
                have b5 := set3g (G := H) (a := .bool y2.b) (b := .slice y2.A y2.xs.length y2.c) (c := .slice y2.D y2.ys.length y2.d) bz (by omega)
                clear a1 a2 bz hk kH oky2 aG
                generalize (((wd.setCell ⟨H, 0, none⟩ (.bool y2.b)).setCell ⟨H, 1, none⟩ (.slice y2.A y2.xs.length y2.c)).setCell ⟨H, 2, none⟩ (.slice y2.D y2.ys.length y2.d)) = we at *
                have a1 := b1
                have a2 := b2
                have bz := b5
                clear b1 b2 b5
                have aG := b3
                clear b3
                clear hHeld
                generalize we = wd at *
                refine hK.out _ _ ⟨a1.c0, a1.c1, a1.c2, a1.c3, a1.c4, a1.c5, a2.c0, a2.c1, a2.c2, a2.c3, a2.c4, a2.c5⟩ (fun hHeld => ?_)
                clear hK K
                try simp only [Act.put, List.setIfInBounds_toArray, List.set_cons_zero, List.set_cons_succ]
                refine wpAnyH_done (by kernel_rfl) ?_ _
                go_wp2_with fail
                go_meet
                case rel => exact ⟨G, H, y1, y2, rfl, rfl, Py1.out, Py2.out, aG, aH, bz⟩
              exact AllReadyH.nil
            exact AllReadyH.nil
          exact AllReadyH.nil
        exact AllReadyH.nil
      refine AllReadyH.cons rfl (fun K hK => ?_) ?_
      · go_simp
        have kG := bk3_new wd
        have bb := (Below.refl wd.heap.size wd).alloc (Nat.le_refl _) (.cells #[.bool false, .slice none 0 0, .slice none 0 0] 25)
        have sG := bz.size
        try have nGH := kH.lt
        generalize (wd.alloc (.cells #[.bool false, .slice none 0 0, .slice none 0 0] 25)) = we at *
        first | generalize wd.heap.size = G at kG sG nGH ⊢ | generalize wd.heap.size = G at kG sG ⊢
        replace a1 := a1.below bb
        replace a2 := a2.below bb
        try replace oky1 := oky1.below bb
        try replace oky2 := oky2.below bb
        try replace kG := kG.below bb
        try replace kH := kH.below bb
        replace bz := below_on bz bb bz.size
        clear bb
        generalize we = wd at *
        refine hK.out _ _ ⟨a1.c0, a1.c1, a1.c2, a1.c3, a1.c4, a1.c5, a2.c0, a2.c1, a2.c2, a2.c3, a2.c4, a2.c5⟩ (fun hHeld => ?_)
        clear hK K
        try simp only [Act.put, List.setIfInBounds_toArray, List.set_cons_zero, List.set_cons_succ]
        refine wpAnyH_ready (rs := [4]) (by kernel_rfl) (by simp) ?_
        refine AllReadyH.cons rfl (fun K hK => ?_) ?_
        · go_simp
          go_at_call 22
          refine (iwithin_any _ x1 m1 q1 a1.ok f1 H1.out hm1 HQ1.out).mono ?_
          rintro e wd ⟨y1, rfl, p, oky1, bb⟩
          have Py1 := Lib.hid p
          clear p
          replace a1 := a1.below bb
          replace a2 := a2.below bb
          try replace oky1 := oky1.below bb
          try replace oky2 := oky2.below bb
          try replace kG := kG.below bb
          try replace kH := kH.below bb
          replace bz := below_on bz bb bz.size
          clear bb
          try dsimp only
          refine hK.out _ _ ⟨a1.c0, a1.c1, a1.c2, a1.c3, a1.c4, a1.c5, a2.c0, a2.c1, a2.c2, a2.c3, a2.c4, a2.c5⟩ (fun hHeld => ?_)
          clear hK K
          try simp only [Act.put, List.setIfInBounds_toArray, List.set_cons_zero, List.set_cons_succ]
          refine wpAnyH_ready (rs := [9]) (by kernel_rfl) (by simp) ?_
          refine AllReadyH.cons rfl (fun K hK => ?_) ?_
          · go_simp
            go_at_call 22
            refine (iwithin_any _ x1 m2 q2 a1.ok f1 H1.out hm2 HQ2.out).mono ?_
            rintro e wd ⟨y2, rfl, p, oky2, bb⟩
            have Py2 := Lib.hid p
            clear p
            replace a1 := a1.below bb
            replace a2 := a2.below bb
            try replace oky1 := oky1.below bb
            try replace oky2 := oky2.below bb
            try replace kG := kG.below bb
            try replace kH := kH.below bb
            replace bz := below_on bz bb bz.size
            clear bb
            try dsimp only
            refine hK.out _ _ ⟨a1.c0, a1.c1, a1.c2, a1.c3, a1.c4, a1.c5, a2.c0, a2.c1, a2.c2, a2.c3, a2.c4, a2.c5⟩ (fun hHeld => ?_)
            clear hK K
            try simp only [Act.put, List.setIfInBounds_toArray, List.set_cons_zero, List.set_cons_succ]
            refine wpAnyH_ready (rs := [12]) (by kernel_rfl) (by simp) ?_
            refine AllReadyH.cons rfl (fun K hK => ?_) ?_
            · have t := kG
              obtain ⟨k0, k1, k2, kf0, kf1, kf2, _, _⟩ := t
              go_simp
              clear k0 k1 k2 kf0 kf1 kf2
              have hk : Fa wd G Fx.nil := ⟨kG, Fx.nil_ok _⟩
              have aG := hk.put oky1
              have b1 := a1.far hk (a := .bool y1.b) (b := .slice y1.A y1.xs.length y1.c) (c := .slice y1.D y1.ys.length y1.d) (by omega)
              have b2 := a2.far hk (a := .bool y1.b) (b := .slice y1.A y1.xs.length y1.c) (c := .slice y1.D y1.ys.length y1.d) (by omega)
              have b3 := kH.far (H := G) (a := .bool y1.b) (b := .slice y1.A y1.xs.length y1.c) (c := .slice y1.D y1.ys.length y1.d) (by omega)
              have b4 : Fx.ok y2 (((wd.setCell ⟨G, 0, none⟩ (.bool y1.b)).setCell ⟨G, 1, none⟩ (.slice y1.A y1.xs.length y1.c)).setCell ⟨G, 2, none⟩ (.slice y1.D y1.ys.length y1.d)) := set3_ok oky2 hk.bk rfl rfl rfl
              have b5 := set3g (G := G) (a := .bool y1.b) (b := .slice y1.A y1.xs.length y1.c) (c := .slice y1.D y1.ys.length y1.d) bz (by omega)
              clear a1 a2 bz hk kG oky1 kH oky2
              generalize (((wd.setCell ⟨G, 0, none⟩ (.bool y1.b)).setCell ⟨G, 1, none⟩ (.slice y1.A y1.xs.length y1.c)).setCell ⟨G, 2, none⟩ (.slice y1.D y1.ys.length y1.d)) = we at *
              have a1 := b1
              have a2 := b2
              have bz := b5
              clear b1 b2 b5
              have kH := b3
              have oky2 := b4
              clear b3 b4
              clear hHeld
              generalize we = wd at *
              refine hK.out _ _ ⟨a1.c0, a1.c1, a1.c2, a1.c3, a1.c4, a1.c5, a2.c0, a2.c1, a2.c2, a2.c3, a2.c4, a2.c5⟩ (fun hHeld => ?_)
              clear hK K
              try simp only [Act.put, List.setIfInBounds_toArray, List.set_cons_zero, List.set_cons_succ]
              refine wpAnyH_ready (rs := [13]) (by kernel_rfl) (by simp) ?_
              refine AllReadyH.cons rfl (fun K hK => ?_) ?_
              · have t := kH
                obtain ⟨k0, k1, k2, kf0, kf1, kf2, _, _⟩ := t
                go_simp
                clear k0 k1 k2 kf0 kf1 kf2
                have hk : Fa wd H Fx.nil := ⟨kH, Fx.nil_ok _⟩
                have aH := hk.put oky2
                have b1 := a1.far hk (a := .bool y2.b) (b := .slice y2.A y2.xs.length y2.c) (c := .slice y2.D y2.ys.length y2.d) (by omega)
                have b2 := a2.far hk (a := .bool y2.b) (b := .slice y2.A y2.xs.length y2.c) (c := .slice y2.D y2.ys.length y2.d) (by omega)
                have b3 := aG.far hk (a := .bool y2.b) (b := .slice y2.A y2.xs.length y2.c) (c := .slice y2.D y2.ys.length y2.d) (by omega)
                have b5 := set3g (G := H) (a := .bool y2.b) (b := .slice y2.A y2.xs.length y2.c) (c := .slice y2.D y2.ys.length y2.d) bz (by omega)
                clear a1 a2 bz hk kH oky2 aG
                generalize (((wd.setCell ⟨H, 0, none⟩ (.bool y2.b)).setCell ⟨H, 1, none⟩ (.slice y2.A y2.xs.length y2.c)).setCell ⟨H, 2, none⟩ (.slice y2.D y2.ys.length y2.d)) = we at *
                have a1 := b1
                have a2 := b2
                have bz := b5
                clear b1 b2 b5
                have aG := b3
                clear b3
                clear hHeld
                generalize we = wd at *
                refine hK.out _ _ ⟨a1.c0, a1.c1, a1.c2, a1.c3, a1.c4, a1.c5, a2.c0, a2.c1, a2.c2, a2.c3, a2.c4, a2.c5⟩ (fun hHeld => ?_)
                clear hK K
                try simp only [Act.put, List.setIfInBounds_toArray, List.set_cons_zero, List.set_cons_succ]
                refine wpAnyH_done (by kernel_rfl) ?_ _
                go_wp2_with fail
                go_meet
                case rel => exact ⟨G, H, y1, y2, rfl, rfl, Py1.out, Py2.out, aG, aH, bz⟩
              exact AllReadyH.nil
            exact AllReadyH.nil
          exact AllReadyH.nil
        exact AllReadyH.nil
      exact AllReadyH.nil
    exact AllReadyH.nil
    --REG}
  case rest =>
    obtain ⟨G, H, x3, x4, rfl, rfl, p3, p4, a3, a4, bz⟩ := hcut
    try replace bk := bk.below bz
    try replace a1 := a1.below bz
    try replace a2 := a2.below bz
    try replace a3 := a3.below bz
    try replace a4 := a4.below bz
    replace bw := below_on bw bz bw.size
    clear bz
    have P3 := Lib.hid p3
    have P4 := Lib.hid p4
    clear p3 p4
    have W1 := wq_in (n := m1) H1.out.v hm1
    have W2 := wq_in (n := m2) H1.out.v hm2
    have W3 := wq_mono H1.out.v HMM.out
    have z1 := sz_wq H1.out hm1
    have z2 := sz_wq H1.out hm2
    rw [HQ1.out] at W1 W3 z1
    rw [HQ2.out] at W2 W3 z2
    have zl1 := H1.out.lo
    have zh1 := H1.out.hi
    have zl2 := H2.out.lo
    have zh2 := H2.out.hi
    have V1 := H1.out.v
    have V2 := H2.out.v
    have i5 : IsI ⟨x3, x4⟩ q1 q2 := ⟨P3.out, P4.out⟩
    have v5 := i5.v W3
    have q3 : x3.q = q1 := P3.out.rp.q
    have q4 : x4.q = q2 := P4.out.rp.q
    have sS1 : Sz (q1 + x2.lo.q) 128 128 := (z1.add zl2).mono (by omega) (by omega)
    have sS2 : Sz (q2 + x2.hi.q) 128 128 := (z2.add zh2).mono (by omega) (by omega)
    have sT1 : Sz (x1.lo.q + x2.lo.q) 128 128 := (zl1.add zl2).mono (by omega) (by omega)
    have sT2 : Sz (x1.hi.q + x2.hi.q) 128 128 := (zh1.add zh2).mono (by omega) (by omega)
    have sD1 : Sz (x2.lo.q - q2) 128 128 := (zl2.sub z2).mono (by omega) (by omega)
    have sD2 : Sz (x2.hi.q - q1) 128 128 := (zh2.sub z1).mono (by omega) (by omega)
    have sE1 : Sz (x2.lo.q - x1.hi.q) 128 128 := (zl2.sub zh1).mono (by omega) (by omega)
    have sE2 : Sz (x2.hi.q - x1.lo.q) 128 128 := (zh2.sub zl1).mono (by omega) (by omega)
    have cp := corn_sz z1 z2 zl2 zh2 (by omega) (by omega)
    have cq := corn_sz zl1 zh1 zl2 zh2 (by omega) (by omega)
    have hS : opS addF ⟨x3, x4⟩ x2 x2.lo x2.hi = (okS (q1 + x2.lo.q), okS (q2 + x2.hi.q), 0) := addI_ok v5 V2 (by rw [← q3]) (by rw [← q4]) sS1 sS2
    have hT : opS addF x1 x2 x2.lo x2.hi = (okS (x1.lo.q + x2.lo.q), okS (x1.hi.q + x2.hi.q), 0) := addI_ok V1 V2 rfl rfl sT1 sT2
    have hD : opS subF x2 ⟨x3, x4⟩ x4 x3 = (okS (x2.lo.q - q2), okS (x2.hi.q - q1), 0) := subI_ok V2 v5 (by rw [← q4]) (by rw [← q3]) sD1 sD2
    have hE : opS subF x2 x1 x1.hi x1.lo = (okS (x2.lo.q - x1.hi.q), okS (x2.hi.q - x1.lo.q), 0) := subI_ok V2 V1 rfl rfl sE1 sE2
    obtain ⟨CP, hCP⟩ : ∃ ps, corn q1 q2 x2.lo.q x2.hi.q = ps := ⟨_, rfl⟩
    obtain ⟨CQ, hCQ⟩ : ∃ ps, corn x1.lo.q x1.hi.q x2.lo.q x2.hi.q = ps := ⟨_, rfl⟩
    have hPn : CP ≠ [] := by rw [← hCP]; exact corn_ne _ _ _ _
    have hQn : CQ ≠ [] := by rw [← hCQ]; exact corn_ne _ _ _ _
    have hm1' := corn_mono_lo W1.1 W3 W2.2 V2.2.2
    have hm2' := corn_mono_hi W1.1 W3 W2.2 V2.2.2
    have hm3' : loP (corn q1 q2 x2.lo.q x2.hi.q) ≤ hiP (corn q1 q2 x2.lo.q x2.hi.q) := Rat.le_trans (loP_le (p := x2.lo.q * q1) (by simp [corn])) (hiP_ge (by simp [corn]))
    rw [hCP] at cp hm1' hm2' hm3'
    rw [hCQ] at cq hm1' hm2'
    have hP : mulI ⟨x3, x4⟩ x2 = (okS (loP CP), okS (hiP CP), 0) := by
      have e := mulI_ok v5 V2 (by show ∀ p ∈ corn x3.q x4.q x2.lo.q x2.hi.q, _; rw [q3, q4, hCP]; exact cp)
      have e2 : corn (⟨x3, x4⟩ : Ix).lo.q (⟨x3, x4⟩ : Ix).hi.q x2.lo.q x2.hi.q = CP := by show corn x3.q x4.q x2.lo.q x2.hi.q = CP; rw [q3, q4, hCP]
      rw [e2] at e
      exact e
    have hQ : mulI x1 x2 = (okS (loP CQ), okS (hiP CQ), 0) := by
      have e := mulI_ok V1 V2 (by rw [hCQ]; exact cq)
      rw [hCQ] at e
      exact e
    have HS := Lib.hid hS
    have HT := Lib.hid hT
    have HD := Lib.hid hD
    have HE := Lib.hid hE
    have HP := Lib.hid hP
    have HQ := Lib.hid hQ
    have ZS1 := Lib.hid sS1
    have ZS2 := Lib.hid sS2
    have ZT1 := Lib.hid sT1
    have ZT2 := Lib.hid sT2
    have ZD1 := Lib.hid sD1
    have ZD2 := Lib.hid sD2
    have ZE1 := Lib.hid sE1
    have ZE2 := Lib.hid sE2
    have ZP1 := Lib.hid (cp _ (loP_mem hPn))
    have ZP2 := Lib.hid (cp _ (hiP_mem hPn))
    have ZQ1 := Lib.hid (cq _ (loP_mem hQn))
    have ZQ2 := Lib.hid (cq _ (hiP_mem hQn))
    have I5 := Lib.hid i5
    have V5 := Lib.hid v5
    have HW1 := Lib.hid W1
    have HW2 := Lib.hid W2
    have HW3 := Lib.hid W3
    have HM1 := Lib.hid hm1'
    have HM2 := Lib.hid hm2'
    have HM3 := Lib.hid hm3'
    have f5 := i5.few
    clear hS hT hD hE hP hQ sS1 sS2 sT1 sT2 sD1 sD2 sE1 sE2 cp cq hPn hQn i5 v5 W1 W2 W3 hm1' hm2' hm3' q3 q4 z1 z2 zl1 zh1 zl2 zh2 V1 V2 hCP hCQ
    go_upto_region 4 with fail
    generalize wc = wm at *
    have ci0 := a3.c0
    have ci1 := a3.c1
    have ci2 := a3.c2
    have cj0 := a4.c0
    have cj1 := a4.c1
    have cj2 := a4.c2
    go_upto_region 5 with fail
    clear ci0 ci1 ci2 cj0 cj1 cj2
    have a5 := (ia_alloc (a := ⟨x3, x4⟩) ⟨a3.ok, a4.ok⟩).1
    have bb := (ia_alloc (a := ⟨x3, x4⟩) ⟨a3.ok, a4.ok⟩).2
    generalize (wm.alloc (.cells #[.bool x3.b, .slice x3.A x3.xs.length x3.c, .slice x3.D x3.ys.length x3.d, .bool x4.b, .slice x4.A x4.xs.length x4.c, .slice x4.D x4.ys.length x4.d] 41)) = wk at a5 bb ⊢
    clear a3 a4
    try replace a1 := a1.below bb
    try replace a2 := a2.below bb
    try replace a3 := a3.below bb
    try replace a4 := a4.below bb
    try replace a5 := a5.below bb
    replace bw := below_on bw bb bw.size
    clear bb
    generalize wm.heap.size = g5 at a5 ⊢
    obtain ⟨x5, hx5⟩ : ∃ x, (⟨x3, x4⟩ : Ix) = x := ⟨_, rfl⟩
    have e3 : x3 = x5.lo := by rw [← hx5]
    have e4 : x4 = x5.hi := by rw [← hx5]
    rw [hx5] at a5 f5 HS HD HP I5 V5
    rw [e3, e4] at HD
    subst e3 e4
    clear hx5
    have ci0 := a5.c0
    have ci1 := a5.c1
    have ci2 := a5.c2
    have ci3 := a5.c3
    have ci4 := a5.c4
    have ci5 := a5.c5
    have cj0 := a2.c0
    have cj1 := a2.c1
    have cj2 := a2.c2
    have cj3 := a2.c3
    have cj4 := a2.c4
    have cj5 := a2.c5
    go_wp2_with fail
    clear ci0 ci1 ci2 ci3 ci4 ci5
    clear cj0 cj1 cj2 cj3 cj4 cj5
    refine (iadd_any _ x5 x2 (_) a5.ok a2.ok f5 f2 HS.out).mono ?_
    rintro e wn ⟨x6, rfl, h1, h2, ok6, bb⟩
    have HS6 := Lib.hid (And.intro h1 h2)
    clear h1 h2
    try replace a1 := a1.below bb
    try replace a2 := a2.below bb
    try replace a3 := a3.below bb
    try replace a4 := a4.below bb
    try replace a5 := a5.below bb
    replace bw := below_on bw bb bw.size
    clear bb
    go_upto_region 6 with fail
    have a6 := (ia_alloc ok6).1
    have bb := (ia_alloc ok6).2
    clear ok6
    generalize (wn.alloc (.cells #[.bool x6.lo.b, .slice x6.lo.A x6.lo.xs.length x6.lo.c, .slice x6.lo.D x6.lo.ys.length x6.lo.d, .bool x6.hi.b, .slice x6.hi.A x6.hi.xs.length x6.hi.c, .slice x6.hi.D x6.hi.ys.length x6.hi.d] 41)) = wm at a6 bb ⊢
    try replace a1 := a1.below bb
    try replace a2 := a2.below bb
    try replace a3 := a3.below bb
    try replace a4 := a4.below bb
    try replace a5 := a5.below bb
    try replace a6 := a6.below bb
    replace bw := below_on bw bb bw.size
    clear bb
    generalize wn.heap.size = g6 at a6 ⊢
    have ci0 := a1.c0
    have ci1 := a1.c1
    have ci2 := a1.c2
    have ci3 := a1.c3
    have ci4 := a1.c4
    have ci5 := a1.c5
    have cj0 := a2.c0
    have cj1 := a2.c1
    have cj2 := a2.c2
    have cj3 := a2.c3
    have cj4 := a2.c4
    have cj5 := a2.c5
    go_wp2_with fail
    clear ci0 ci1 ci2 ci3 ci4 ci5
    clear cj0 cj1 cj2 cj3 cj4 cj5
    refine (iadd_any _ x1 x2 (_) a1.ok a2.ok f1 f2 HT.out).mono ?_
    rintro e wn ⟨x7, rfl, h1, h2, ok7, bb⟩
    have HS7 := Lib.hid (And.intro h1 h2)
    clear h1 h2
    try replace a1 := a1.below bb
    try replace a2 := a2.below bb
    try replace a3 := a3.below bb
    try replace a4 := a4.below bb
    try replace a5 := a5.below bb
    try replace a6 := a6.below bb
    replace bw := below_on bw bb bw.size
    clear bb
    go_upto_region 7 with fail
    have a7 := (ia_alloc ok7).1
    have bb := (ia_alloc ok7).2
    clear ok7
    generalize (wn.alloc (.cells #[.bool x7.lo.b, .slice x7.lo.A x7.lo.xs.length x7.lo.c, .slice x7.lo.D x7.lo.ys.length x7.lo.d, .bool x7.hi.b, .slice x7.hi.A x7.hi.xs.length x7.hi.c, .slice x7.hi.D x7.hi.ys.length x7.hi.d] 41)) = wm at a7 bb ⊢
    try replace a1 := a1.below bb
    try replace a2 := a2.below bb
    try replace a3 := a3.below bb
    try replace a4 := a4.below bb
    try replace a5 := a5.below bb
    try replace a6 := a6.below bb
    try replace a7 := a7.below bb
    replace bw := below_on bw bb bw.size
    clear bb
    generalize wn.heap.size = g7 at a7 ⊢
    have ci0 := a5.c0
    have ci1 := a5.c1
    have ci2 := a5.c2
    have ci3 := a5.c3
    have ci4 := a5.c4
    have ci5 := a5.c5
    have cj0 := a2.c0
    have cj1 := a2.c1
    have cj2 := a2.c2
    have cj3 := a2.c3
    have cj4 := a2.c4
    have cj5 := a2.c5
    go_wp2_with fail
    clear ci0 ci1 ci2 ci3 ci4 ci5
    clear cj0 cj1 cj2 cj3 cj4 cj5
    refine (imul_any _ x5 x2 (_) a5.ok a2.ok f5 f2 HP.out).mono ?_
    rintro e wn ⟨x8, rfl, h1, h2, ok8, bb⟩
    have HS8 := Lib.hid (And.intro h1 h2)
    clear h1 h2
    try replace a1 := a1.below bb
    try replace a2 := a2.below bb
    try replace a3 := a3.below bb
    try replace a4 := a4.below bb
    try replace a5 := a5.below bb
    try replace a6 := a6.below bb
    try replace a7 := a7.below bb
    replace bw := below_on bw bb bw.size
    clear bb
    go_upto_region 8 with fail
    have a8 := (ia_alloc ok8).1
    have bb := (ia_alloc ok8).2
    clear ok8
    generalize (wn.alloc (.cells #[.bool x8.lo.b, .slice x8.lo.A x8.lo.xs.length x8.lo.c, .slice x8.lo.D x8.lo.ys.length x8.lo.d, .bool x8.hi.b, .slice x8.hi.A x8.hi.xs.length x8.hi.c, .slice x8.hi.D x8.hi.ys.length x8.hi.d] 41)) = wm at a8 bb ⊢
    try replace a1 := a1.below bb
    try replace a2 := a2.below bb
    try replace a3 := a3.below bb
    try replace a4 := a4.below bb
    try replace a5 := a5.below bb
    try replace a6 := a6.below bb
    try replace a7 := a7.below bb
    try replace a8 := a8.below bb
    replace bw := below_on bw bb bw.size
    clear bb
    generalize wn.heap.size = g8 at a8 ⊢
    have ci0 := a1.c0
    have ci1 := a1.c1
    have ci2 := a1.c2
    have ci3 := a1.c3
    have ci4 := a1.c4
    have ci5 := a1.c5
    have cj0 := a2.c0
    have cj1 := a2.c1
    have cj2 := a2.c2
    have cj3 := a2.c3
    have cj4 := a2.c4
    have cj5 := a2.c5
    go_wp2_with fail
    clear ci0 ci1 ci2 ci3 ci4 ci5
    clear cj0 cj1 cj2 cj3 cj4 cj5
    refine (imul_any _ x1 x2 (_) a1.ok a2.ok f1 f2 HQ.out).mono ?_
    rintro e wn ⟨x9, rfl, h1, h2, ok9, bb⟩
    have HS9 := Lib.hid (And.intro h1 h2)
    clear h1 h2
    try replace a1 := a1.below bb
    try replace a2 := a2.below bb
    try replace a3 := a3.below bb
    try replace a4 := a4.below bb
    try replace a5 := a5.below bb
    try replace a6 := a6.below bb
    try replace a7 := a7.below bb
    try replace a8 := a8.below bb
    replace bw := below_on bw bb bw.size
    clear bb
    go_upto_region 9 with fail
    have a9 := (ia_alloc ok9).1
    have bb := (ia_alloc ok9).2
    clear ok9
    generalize (wn.alloc (.cells #[.bool x9.lo.b, .slice x9.lo.A x9.lo.xs.length x9.lo.c, .slice x9.lo.D x9.lo.ys.length x9.lo.d, .bool x9.hi.b, .slice x9.hi.A x9.hi.xs.length x9.hi.c, .slice x9.hi.D x9.hi.ys.length x9.hi.d] 41)) = wm at a9 bb ⊢
    try replace a1 := a1.below bb
    try replace a2 := a2.below bb
    try replace a3 := a3.below bb
    try replace a4 := a4.below bb
    try replace a5 := a5.below bb
    try replace a6 := a6.below bb
    try replace a7 := a7.below bb
    try replace a8 := a8.below bb
    try replace a9 := a9.below bb
    replace bw := below_on bw bb bw.size
    clear bb
    generalize wn.heap.size = g9 at a9 ⊢
    have ci0 := a2.c0
    have ci1 := a2.c1
    have ci2 := a2.c2
    have ci3 := a2.c3
    have ci4 := a2.c4
    have ci5 := a2.c5
    have cj0 := a5.c0
    have cj1 := a5.c1
    have cj2 := a5.c2
    have cj3 := a5.c3
    have cj4 := a5.c4
    have cj5 := a5.c5
    go_wp2_with fail
    clear ci0 ci1 ci2 ci3 ci4 ci5
    clear cj0 cj1 cj2 cj3 cj4 cj5
    refine (isub_any _ x2 x5 (_) a2.ok a5.ok f2 f5 HD.out).mono ?_
    rintro e wn ⟨x10, rfl, h1, h2, ok10, bb⟩
    have HS10 := Lib.hid (And.intro h1 h2)
    clear h1 h2
    try replace a1 := a1.below bb
    try replace a2 := a2.below bb
    try replace a3 := a3.below bb
    try replace a4 := a4.below bb
    try replace a5 := a5.below bb
    try replace a6 := a6.below bb
    try replace a7 := a7.below bb
    try replace a8 := a8.below bb
    try replace a9 := a9.below bb
    replace bw := below_on bw bb bw.size
    clear bb
    go_upto_region 10 with fail
    have a10 := (ia_alloc ok10).1
    have bb := (ia_alloc ok10).2
    clear ok10
    generalize (wn.alloc (.cells #[.bool x10.lo.b, .slice x10.lo.A x10.lo.xs.length x10.lo.c, .slice x10.lo.D x10.lo.ys.length x10.lo.d, .bool x10.hi.b, .slice x10.hi.A x10.hi.xs.length x10.hi.c, .slice x10.hi.D x10.hi.ys.length x10.hi.d] 41)) = wm at a10 bb ⊢
    try replace a1 := a1.below bb
    try replace a2 := a2.below bb
    try replace a3 := a3.below bb
    try replace a4 := a4.below bb
    try replace a5 := a5.below bb
    try replace a6 := a6.below bb
    try replace a7 := a7.below bb
    try replace a8 := a8.below bb
    try replace a9 := a9.below bb
    try replace a10 := a10.below bb
    replace bw := below_on bw bb bw.size
    clear bb
    generalize wn.heap.size = g10 at a10 ⊢
    have ci0 := a2.c0
    have ci1 := a2.c1
    have ci2 := a2.c2
    have ci3 := a2.c3
    have ci4 := a2.c4
    have ci5 := a2.c5
    have cj0 := a1.c0
    have cj1 := a1.c1
    have cj2 := a1.c2
    have cj3 := a1.c3
    have cj4 := a1.c4
    have cj5 := a1.c5
    go_wp2_with fail
    clear ci0 ci1 ci2 ci3 ci4 ci5
    clear cj0 cj1 cj2 cj3 cj4 cj5
    refine (isub_any _ x2 x1 (_) a2.ok a1.ok f2 f1 HE.out).mono ?_
    rintro e wn ⟨x11, rfl, h1, h2, ok11, bb⟩
    have HS11 := Lib.hid (And.intro h1 h2)
    clear h1 h2
    try replace a1 := a1.below bb
    try replace a2 := a2.below bb
    try replace a3 := a3.below bb
    try replace a4 := a4.below bb
    try replace a5 := a5.below bb
    try replace a6 := a6.below bb
    try replace a7 := a7.below bb
    try replace a8 := a8.below bb
    try replace a9 := a9.below bb
    try replace a10 := a10.below bb
    replace bw := below_on bw bb bw.size
    clear bb
    go_upto_region 11 with fail
    have a11 := (ia_alloc ok11).1
    have bb := (ia_alloc ok11).2
    clear ok11
    generalize (wn.alloc (.cells #[.bool x11.lo.b, .slice x11.lo.A x11.lo.xs.length x11.lo.c, .slice x11.lo.D x11.lo.ys.length x11.lo.d, .bool x11.hi.b, .slice x11.hi.A x11.hi.xs.length x11.hi.c, .slice x11.hi.D x11.hi.ys.length x11.hi.d] 41)) = wm at a11 bb ⊢
    try replace a1 := a1.below bb
    try replace a2 := a2.below bb
    try replace a3 := a3.below bb
    try replace a4 := a4.below bb
    try replace a5 := a5.below bb
    try replace a6 := a6.below bb
    try replace a7 := a7.below bb
    try replace a8 := a8.below bb
    try replace a9 := a9.below bb
    try replace a10 := a10.below bb
    try replace a11 := a11.below bb
    replace bw := below_on bw bb bw.size
    clear bb
    generalize wn.heap.size = g11 at a11 ⊢
    have I1 : Hid (insS x5 x1) := Lib.hid ⟨V5.out, H1.out.v, ⟨H1.out.v.1, I5.out.l.v, by rw [I5.out.l.rp.q]; exact HW1.out.1⟩, ⟨I5.out.h.v, H1.out.v.2.1, by rw [I5.out.h.rp.q]; exact HW2.out.2⟩⟩
    have I6 := Lib.hid (IsI.of HS6.out rfl ZS1.out ZS2.out)
    have I7 := Lib.hid (IsI.of HS7.out rfl ZT1.out ZT2.out)
    have I8 := Lib.hid (IsI.of HS8.out rfl ZP1.out ZP2.out)
    have I9 := Lib.hid (IsI.of HS9.out rfl ZQ1.out ZQ2.out)
    have I10 := Lib.hid (IsI.of HS10.out rfl ZD1.out ZD2.out)
    have I11 := Lib.hid (IsI.of HS11.out rfl ZE1.out ZE2.out)
    have f6 := I6.out.few
    have f7 := I7.out.few
    have f8 := I8.out.few
    have f9 := I9.out.few
    have f10 := I10.out.few
    have f11 := I11.out.few
    have N1 : Hid (insS x6 x7) := Lib.hid (insS_of I6.out I7.out (by have h1 := HW3.out; have h2 := H2.out.v.2.2; grind) (by have h1 := HW1.out; grind) (by have h1 := HW2.out; grind))
    have N2 : Hid (insS x8 x9) := Lib.hid (insS_of I8.out I9.out HM3.out HM1.out HM2.out)
    have N3 : Hid (insS x10 x11) := Lib.hid (insS_of I10.out I11.out (by have h1 := HW3.out; have h2 := H2.out.v.2.2; grind) (by have h1 := HW2.out; grind) (by have h1 := HW1.out; grind))
    have ci0 := a5.c0
    have ci1 := a5.c1
    have ci2 := a5.c2
    have ci3 := a5.c3
    have ci4 := a5.c4
    have ci5 := a5.c5
    have cj0 := a1.c0
    have cj1 := a1.c1
    have cj2 := a1.c2
    have cj3 := a1.c3
    have cj4 := a1.c4
    have cj5 := a1.c5
    go_wp2_with fail
    clear ci0 ci1 ci2 ci3 ci4 ci5
    clear cj0 cj1 cj2 cj3 cj4 cj5
    refine (iinside_any _ x5 x1 true a5.ok a1.ok f5 f1 (decide_eq_true I1.out)).mono ?_
    rintro e wn ⟨rfl, bb⟩
    try replace a1 := a1.below bb
    try replace a2 := a2.below bb
    try replace a3 := a3.below bb
    try replace a4 := a4.below bb
    try replace a5 := a5.below bb
    try replace a6 := a6.below bb
    try replace a7 := a7.below bb
    try replace a8 := a8.below bb
    try replace a9 := a9.below bb
    try replace a10 := a10.below bb
    try replace a11 := a11.below bb
    replace bw := below_on bw bb bw.size
    clear bb
    have ci0 := a6.c0
    have ci1 := a6.c1
    have ci2 := a6.c2
    have ci3 := a6.c3
    have ci4 := a6.c4
    have ci5 := a6.c5
    have cj0 := a7.c0
    have cj1 := a7.c1
    have cj2 := a7.c2
    have cj3 := a7.c3
    have cj4 := a7.c4
    have cj5 := a7.c5
    go_wp2_with fail
    clear ci0 ci1 ci2 ci3 ci4 ci5
    clear cj0 cj1 cj2 cj3 cj4 cj5
    refine (iinside_any _ x6 x7 true a6.ok a7.ok f6 f7 (decide_eq_true N1.out)).mono ?_
    rintro e wn ⟨rfl, bb⟩
    try replace a1 := a1.below bb
    try replace a2 := a2.below bb
    try replace a3 := a3.below bb
    try replace a4 := a4.below bb
    try replace a5 := a5.below bb
    try replace a6 := a6.below bb
    try replace a7 := a7.below bb
    try replace a8 := a8.below bb
    try replace a9 := a9.below bb
    try replace a10 := a10.below bb
    try replace a11 := a11.below bb
    replace bw := below_on bw bb bw.size
    clear bb
    have ci0 := a8.c0
    have ci1 := a8.c1
    have ci2 := a8.c2
    have ci3 := a8.c3
    have ci4 := a8.c4
    have ci5 := a8.c5
    have cj0 := a9.c0
    have cj1 := a9.c1
    have cj2 := a9.c2
    have cj3 := a9.c3
    have cj4 := a9.c4
    have cj5 := a9.c5
    go_wp2_with fail
    clear ci0 ci1 ci2 ci3 ci4 ci5
    clear cj0 cj1 cj2 cj3 cj4 cj5
    refine (iinside_any _ x8 x9 true a8.ok a9.ok f8 f9 (decide_eq_true N2.out)).mono ?_
    rintro e wn ⟨rfl, bb⟩
    try replace a1 := a1.below bb
    try replace a2 := a2.below bb
    try replace a3 := a3.below bb
    try replace a4 := a4.below bb
    try replace a5 := a5.below bb
    try replace a6 := a6.below bb
    try replace a7 := a7.below bb
    try replace a8 := a8.below bb
    try replace a9 := a9.below bb
    try replace a10 := a10.below bb
    try replace a11 := a11.below bb
    replace bw := below_on bw bb bw.size
    clear bb
    have ci0 := a10.c0
    have ci1 := a10.c1
    have ci2 := a10.c2
    have ci3 := a10.c3
    have ci4 := a10.c4
    have ci5 := a10.c5
    have cj0 := a11.c0
    have cj1 := a11.c1
    have cj2 := a11.c2
    have cj3 := a11.c3
    have cj4 := a11.c4
    have cj5 := a11.c5
    go_wp2_with fail
    clear ci0 ci1 ci2 ci3 ci4 ci5
    clear cj0 cj1 cj2 cj3 cj4 cj5
    refine (iinside_any _ x10 x11 true a10.ok a11.ok f10 f11 (decide_eq_true N3.out)).mono ?_
    rintro e wn ⟨rfl, bb⟩
    try replace a1 := a1.below bb
    try replace a2 := a2.below bb
    try replace a3 := a3.below bb
    try replace a4 := a4.below bb
    try replace a5 := a5.below bb
    try replace a6 := a6.below bb
    try replace a7 := a7.below bb
    try replace a8 := a8.below bb
    try replace a9 := a9.below bb
    try replace a10 := a10.below bb
    try replace a11 := a11.below bb
    replace bw := below_on bw bb bw.size
    clear bb
    go_wp2_with fail
    refine (awakei_any _).mono ?_
    rintro e wn ⟨rfl, bb⟩
    try replace a1 := a1.below bb
    try replace a2 := a2.below bb
    try replace a3 := a3.below bb
    try replace a4 := a4.below bb
    try replace a5 := a5.below bb
    try replace a6 := a6.below bb
    try replace a7 := a7.below bb
    try replace a8 := a8.below bb
    try replace a9 := a9.below bb
    try replace a10 := a10.below bb
    try replace a11 := a11.below bb
    replace bw := below_on bw bb bw.size
    clear bb
    go_wp2_with fail
    go_ret
    exact ⟨rfl, bw⟩
set_option maxRecDepth 100000 in
theorem imono_walk (w : World) (x1 x2 : Ix) (a1 a2 : Int) (ok1 : x1.ok w) (ok2 : x2.ok w) (wf1 : (Lit.int IntKind.u8 a1).wf = true) (wf2 : (Lit.int IntKind.u8 a2).wf = true) :
    Calls Try.prog 5 #[x1.val, x2.val, .int .u8 a1, .int .u8 a2] w fun e w' => e = .returned (.bool true) ∧ Below w.heap.size w w' := by
  have b1 : 0 ≤ a1 ∧ a1 ≤ 255 := by simp [Lit.wf, IntKind.min, IntKind.max, IntKind.signed, IntKind.bits] at wf1; omega
  have b2 : 0 ≤ a2 ∧ a2 ≤ 255 := by simp [Lit.wf, IntKind.min, IntKind.max, IntKind.signed, IntKind.bits] at wf2; omega
  obtain ⟨n1, rfl⟩ : ∃ n : Nat, a1 = (n : Int) := ⟨a1.toNat, by omega⟩
  obtain ⟨n2, rfl⟩ : ∃ n : Nat, a2 = (n : Int) := ⟨a2.toNat, by omega⟩
  cases h : longI [x1, x2]
  · obtain ⟨t1, t2⟩ := longI2 h
    by_cases hv : x1.v ∧ x2.v
    · exact imono_main w x1 x2 n1 n2 (min n1 n2) (max n1 n2) ok1 ok2 t1.few t2.few h (t1.sh ok1 hv.1) (t2.sh ok2 hv.2) (by omega) (by omega) (by omega) (by split <;> omega) (by split <;> omega)
    · exact imono_bad w x1 x2 n1 n2 ok1 ok2 t1.few t2.few h hv
  · exact imono_long w x1 x2 n1 n2 ok1 ok2 h
end Go.Proofs.Ytlcolmifmhdboaa
