/- The walk of IntervalIncludes. -/
import Derived.Test.YtlcolmifmhdboaaIvP
import Derived.Deep.RegionHeld
import Derived.Deep.CutRange
namespace Go.Proofs.Ytlcolmifmhdboaa
open Go.RowKit

set_option maxRecDepth 100000 in
theorem conS_of {x : Ix} {y : Fx} {l h q : Rat} (L : IsP x.lo l) (H : IsP x.hi h) (P : IsP y q) (h1 : l ≤ q) (h2 : q ≤ h) : conS x y :=
  ⟨⟨L.v, H.v, by rw [L.rp.q, H.rp.q]; exact Rat.le_trans h1 h2⟩, ⟨L.v, P.v, by rw [L.rp.q, P.rp.q]; exact h1⟩, ⟨P.v, H.v, by rw [P.rp.q, H.rp.q]; exact h2⟩⟩
set_option maxRecDepth 100000 in
theorem IsP.few2' {x : Ix} {l h : Rat} (L : IsP x.lo l) (H : IsP x.hi h) : x.few := ⟨L.f.l, L.f.m, H.f.l, H.f.m⟩
set_option maxRecDepth 100000 in
theorem any_next {cs : List Rat} {k : Nat} {c : Rat} (h : cs[k]? = some c) (f : Rat → Bool) : (cs.take (k + 1)).any f = ((cs.take k).any f || f c) := by
  rw [← take_next rfl h, List.any_append]; simp
set_option maxRecDepth 100000 in
theorem corn_swap {a b c d p : Rat} {ps cs : List Rat} (h1 : corn a b c d = ps) (h2 : [a * c, b * c, a * d, b * d] = cs) (h : p ∈ ps) : p ∈ cs.take 4 := by
  rw [← h1] at h
  rw [← h2]
  simp only [corn, List.mem_cons, List.not_mem_nil, or_false] at h
  rcases h with rfl | rfl | rfl | rfl <;> simp [Rat.mul_comm]
set_option maxHeartbeats 4000000 in
set_option maxRecDepth 100000 in
theorem iincl_long (w : World) (x1 x2 : Ix) (n1 n2 : Nat) (ok1 : x1.ok w) (ok2 : x2.ok w) (h : longI [x1, x2] = true) :
    Calls Try.prog 4 #[x1.val, x2.val, .int .u8 n1, .int .u8 n2] w fun e w' => e = .returned (.bool true) ∧ Below w.heap.size w w' := by
  have H := Lib.hid h
  clear h
  go_enter Try.func4, Try.ntmps4
  go_upto_region 1 with fail
  have bw := Below.refl w.heap.size w
  have a1 := (ia_alloc ok1).1
  have bb := (ia_alloc ok1).2
  have sz1 := size_box w (.cells x1.cells 41)
  clear ok1
  generalize (w.alloc (.cells x1.cells 41)) = wA at a1 bb sz1 ⊢
  try replace ok1 := ok1.below bb
  try replace ok2 := ok2.below bb
  try replace a1 := a1.below bb
  replace bw := below_on bw bb bw.size
  clear bb
  have a2 := (ia_alloc ok2).1
  have bb := (ia_alloc ok2).2
  have sz2 := size_box wA (.cells x2.cells 41)
  rw [sz1] at a2 sz2
  clear ok2 sz1
  generalize (wA.alloc (.cells x2.cells 41)) = wm at a2 bb sz2 ⊢
  try replace ok1 := ok1.below bb
  try replace ok2 := ok2.below bb
  try replace a1 := a1.below bb
  try replace a2 := a2.below bb
  replace bw := below_on bw bb bw.size
  clear bb
  clear sz2
  have ci0 := a1.c0
  have ci1 := a1.c1
  have ci2 := a1.c2
  have ci3 := a1.c3
  have ci4 := a1.c4
  have ci5 := a1.c5
  have cj0 := a2.c0
  have cj1 := a2.c1
  have cj2 := a2.c2
  have cj3 := a2.c3
  have cj4 := a2.c4
  have cj5 := a2.c5
  go_wp2_with fail
  clear ci0 ci1 ci2 ci3 ci4 ci5
  clear cj0 cj1 cj2 cj3 cj4 cj5
  have hr := rdi_lit wm [x1, x2]
  have bb := (Below.refl wm.heap.size wm).alloc (Nat.le_refl _) (.cells (icells [x1, x2]).toArray 41)
  simp only [icells] at hr bb
  generalize (wm.alloc (.cells [Value.bool x1.lo.b, .slice x1.lo.A x1.lo.xs.length x1.lo.c, .slice x1.lo.D x1.lo.ys.length x1.lo.d, .bool x1.hi.b, .slice x1.hi.A x1.hi.xs.length x1.hi.c, .slice x1.hi.D x1.hi.ys.length x1.hi.d, .bool x2.lo.b, .slice x2.lo.A x2.lo.xs.length x2.lo.c, .slice x2.lo.D x2.lo.ys.length x2.lo.d, .bool x2.hi.b, .slice x2.hi.A x2.hi.xs.length x2.hi.c, .slice x2.hi.D x2.hi.ys.length x2.hi.d].toArray 41)) = wn at hr bb ⊢
  try replace a1 := a1.below bb
  try replace a2 := a2.below bb
  replace bw := below_on bw bb bw.size
  clear bb
  refine (ilong_any wn _ 2 2 [x1, x2] true hr rfl (by simp) (lens2 a1.ok a2.ok) H.out).mono ?_
  rintro e wl ⟨rfl, rfl⟩
  clear hr
  go_wp2_with fail
  refine (awakei_any _).mono ?_
  rintro e wn ⟨rfl, bb⟩
  try replace a1 := a1.below bb
  try replace a2 := a2.below bb
  replace bw := below_on bw bb bw.size
  clear bb
  go_wp2_with fail
  go_ret
  exact ⟨rfl, bw⟩
set_option maxHeartbeats 4000000 in
set_option maxRecDepth 100000 in
theorem iincl_bad (w : World) (x1 x2 : Ix) (n1 n2 : Nat) (ok1 : x1.ok w) (ok2 : x2.ok w) (f1 : x1.few) (f2 : x2.few) (h : longI [x1, x2] = false) (hv : ¬ (x1.v ∧ x2.v)) :
    Calls Try.prog 4 #[x1.val, x2.val, .int .u8 n1, .int .u8 n2] w fun e w' => e = .returned (.bool true) ∧ Below w.heap.size w w' := by
  have H := Lib.hid h
  by_cases hv1 : x1.v
  · have HV1 := Lib.hid hv1
    have HV2 : Hid (¬ x2.v) := fun e => hv ⟨hv1, e⟩
    clear h hv hv1
    go_enter Try.func4, Try.ntmps4
    go_upto_region 1 with fail
    have bw := Below.refl w.heap.size w
    have a1 := (ia_alloc ok1).1
    have bb := (ia_alloc ok1).2
    have sz1 := size_box w (.cells x1.cells 41)
    clear ok1
    generalize (w.alloc (.cells x1.cells 41)) = wA at a1 bb sz1 ⊢
    try replace ok1 := ok1.below bb
    try replace ok2 := ok2.below bb
    try replace a1 := a1.below bb
    replace bw := below_on bw bb bw.size
    clear bb
    have a2 := (ia_alloc ok2).1
    have bb := (ia_alloc ok2).2
    have sz2 := size_box wA (.cells x2.cells 41)
    rw [sz1] at a2 sz2
    clear ok2 sz1
    generalize (wA.alloc (.cells x2.cells 41)) = wm at a2 bb sz2 ⊢
    try replace ok1 := ok1.below bb
    try replace ok2 := ok2.below bb
    try replace a1 := a1.below bb
    try replace a2 := a2.below bb
    replace bw := below_on bw bb bw.size
    clear bb
    clear sz2
    have ci0 := a1.c0
    have ci1 := a1.c1
    have ci2 := a1.c2
    have ci3 := a1.c3
    have ci4 := a1.c4
    have ci5 := a1.c5
    have cj0 := a2.c0
    have cj1 := a2.c1
    have cj2 := a2.c2
    have cj3 := a2.c3
    have cj4 := a2.c4
    have cj5 := a2.c5
    go_wp2_with fail
    clear ci0 ci1 ci2 ci3 ci4 ci5
    clear cj0 cj1 cj2 cj3 cj4 cj5
    have hr := rdi_lit wm [x1, x2]
    have bb := (Below.refl wm.heap.size wm).alloc (Nat.le_refl _) (.cells (icells [x1, x2]).toArray 41)
    simp only [icells] at hr bb
    generalize (wm.alloc (.cells [Value.bool x1.lo.b, .slice x1.lo.A x1.lo.xs.length x1.lo.c, .slice x1.lo.D x1.lo.ys.length x1.lo.d, .bool x1.hi.b, .slice x1.hi.A x1.hi.xs.length x1.hi.c, .slice x1.hi.D x1.hi.ys.length x1.hi.d, .bool x2.lo.b, .slice x2.lo.A x2.lo.xs.length x2.lo.c, .slice x2.lo.D x2.lo.ys.length x2.lo.d, .bool x2.hi.b, .slice x2.hi.A x2.hi.xs.length x2.hi.c, .slice x2.hi.D x2.hi.ys.length x2.hi.d].toArray 41)) = wn at hr bb ⊢
    try replace a1 := a1.below bb
    try replace a2 := a2.below bb
    replace bw := below_on bw bb bw.size
    clear bb
    refine (ilong_any wn _ 2 2 [x1, x2] false hr rfl (by simp) (lens2 a1.ok a2.ok) H.out).mono ?_
    rintro e wl ⟨rfl, rfl⟩
    clear hr
    have ci0 := a1.c0
    have ci1 := a1.c1
    have ci2 := a1.c2
    have ci3 := a1.c3
    have ci4 := a1.c4
    have ci5 := a1.c5
    go_wp2_with fail
    clear ci0 ci1 ci2 ci3 ci4 ci5
    refine (rivalid_any _ x1 true a1.ok f1 (decide_eq_true HV1.out)).mono ?_
    rintro e wn ⟨rfl, bb⟩
    try replace a1 := a1.below bb
    try replace a2 := a2.below bb
    replace bw := below_on bw bb bw.size
    clear bb
    have ci0 := a2.c0
    have ci1 := a2.c1
    have ci2 := a2.c2
    have ci3 := a2.c3
    have ci4 := a2.c4
    have ci5 := a2.c5
    go_wp2_with fail
    clear ci0 ci1 ci2 ci3 ci4 ci5
    refine (rivalid_any _ x2 false a2.ok f2 (decide_eq_false HV2.out)).mono ?_
    rintro e wn ⟨rfl, bb⟩
    try replace a1 := a1.below bb
    try replace a2 := a2.below bb
    replace bw := below_on bw bb bw.size
    clear bb
    go_wp2_with fail
    refine (awakei_any _).mono ?_
    rintro e wn ⟨rfl, bb⟩
    try replace a1 := a1.below bb
    try replace a2 := a2.below bb
    replace bw := below_on bw bb bw.size
    clear bb
    go_wp2_with fail
    go_ret
    exact ⟨rfl, bw⟩
  · have HV1 : Hid (¬ x1.v) := hv1
    clear h hv hv1
    go_enter Try.func4, Try.ntmps4
    go_upto_region 1 with fail
    have bw := Below.refl w.heap.size w
    have a1 := (ia_alloc ok1).1
    have bb := (ia_alloc ok1).2
    have sz1 := size_box w (.cells x1.cells 41)
    clear ok1
    generalize (w.alloc (.cells x1.cells 41)) = wA at a1 bb sz1 ⊢
    try replace ok1 := ok1.below bb
    try replace ok2 := ok2.below bb
    try replace a1 := a1.below bb
    try replace a2 := a2.below bb
    replace bw := below_on bw bb bw.size
    clear bb
    have a2 := (ia_alloc ok2).1
    have bb := (ia_alloc ok2).2
    have sz2 := size_box wA (.cells x2.cells 41)
    rw [sz1] at a2 sz2
    clear ok2 sz1
    generalize (wA.alloc (.cells x2.cells 41)) = wm at a2 bb sz2 ⊢
    try replace ok1 := ok1.below bb
    try replace ok2 := ok2.below bb
    try replace a1 := a1.below bb
    try replace a2 := a2.below bb
    replace bw := below_on bw bb bw.size
    clear bb
    clear sz2
    have ci0 := a1.c0
    have ci1 := a1.c1
    have ci2 := a1.c2
    have ci3 := a1.c3
    have ci4 := a1.c4
    have ci5 := a1.c5
    have cj0 := a2.c0
    have cj1 := a2.c1
    have cj2 := a2.c2
    have cj3 := a2.c3
    have cj4 := a2.c4
    have cj5 := a2.c5
    go_wp2_with fail
    clear ci0 ci1 ci2 ci3 ci4 ci5
    clear cj0 cj1 cj2 cj3 cj4 cj5
    have hr := rdi_lit wm [x1, x2]
    have bb := (Below.refl wm.heap.size wm).alloc (Nat.le_refl _) (.cells (icells [x1, x2]).toArray 41)
    simp only [icells] at hr bb
    generalize (wm.alloc (.cells [Value.bool x1.lo.b, .slice x1.lo.A x1.lo.xs.length x1.lo.c, .slice x1.lo.D x1.lo.ys.length x1.lo.d, .bool x1.hi.b, .slice x1.hi.A x1.hi.xs.length x1.hi.c, .slice x1.hi.D x1.hi.ys.length x1.hi.d, .bool x2.lo.b, .slice x2.lo.A x2.lo.xs.length x2.lo.c, .slice x2.lo.D x2.lo.ys.length x2.lo.d, .bool x2.hi.b, .slice x2.hi.A x2.hi.xs.length x2.hi.c, .slice x2.hi.D x2.hi.ys.length x2.hi.d].toArray 41)) = wn at hr bb ⊢
    try replace a1 := a1.below bb
    try replace a2 := a2.below bb
    replace bw := below_on bw bb bw.size
    clear bb
    refine (ilong_any wn _ 2 2 [x1, x2] false hr rfl (by simp) (lens2 a1.ok a2.ok) H.out).mono ?_
    rintro e wl ⟨rfl, rfl⟩
    clear hr
    have ci0 := a1.c0
    have ci1 := a1.c1
    have ci2 := a1.c2
    have ci3 := a1.c3
    have ci4 := a1.c4
    have ci5 := a1.c5
    go_wp2_with fail
    clear ci0 ci1 ci2 ci3 ci4 ci5
    refine (rivalid_any _ x1 false a1.ok f1 (decide_eq_false HV1.out)).mono ?_
    rintro e wn ⟨rfl, bb⟩
    try replace a1 := a1.below bb
    try replace a2 := a2.below bb
    replace bw := below_on bw bb bw.size
    clear bb
    go_wp2_with fail
    refine (awakei_any _).mono ?_
    rintro e wn ⟨rfl, bb⟩
    try replace a1 := a1.below bb
    try replace a2 := a2.below bb
    replace bw := below_on bw bb bw.size
    clear bb
    go_wp2_with fail
    go_ret
    exact ⟨rfl, bw⟩
set_option maxHeartbeats 8000000 in
set_option maxRecDepth 100000 in
theorem iincl_main (w : World) (x1 x2 : Ix) (n1 n2 : Nat) (ok1 : x1.ok w) (ok2 : x2.ok w) (f1 : x1.few) (f2 : x2.few) (h : longI [x1, x2] = false) (h1 : Sh x1) (h2 : Sh x2) (hn1 : n1 ≤ 255) (hn2 : n2 ≤ 255) :
    Calls Try.prog 4 #[x1.val, x2.val, .int .u8 n1, .int .u8 n2] w fun e w' => e = .returned (.bool true) ∧ Below w.heap.size w w' := by
  have H := Lib.hid h
  have H1 := Lib.hid h1
  have H2 := Lib.hid h2
  obtain ⟨q1, hq1⟩ : ∃ q, wq x1 n1 = q := ⟨_, rfl⟩
  obtain ⟨q2, hq2⟩ : ∃ q, wq x2 n2 = q := ⟨_, rfl⟩
  have HQ1 := Lib.hid hq1
  have HQ2 := Lib.hid hq2
  clear h h1 h2 hq1 hq2
  go_enter Try.func4, Try.ntmps4
  go_upto_region 1 with fail
  have bw := Below.refl w.heap.size w
  have a1 := (ia_alloc ok1).1
  have bb := (ia_alloc ok1).2
  have sz1 := size_box w (.cells x1.cells 41)
  clear ok1
  generalize (w.alloc (.cells x1.cells 41)) = wA at a1 bb sz1 ⊢
  try replace ok1 := ok1.below bb
  try replace ok2 := ok2.below bb
  try replace a1 := a1.below bb
  replace bw := below_on bw bb bw.size
  clear bb
  have a2 := (ia_alloc ok2).1
  have bb := (ia_alloc ok2).2
  have sz2 := size_box wA (.cells x2.cells 41)
  rw [sz1] at a2 sz2
  clear ok2 sz1
  generalize (wA.alloc (.cells x2.cells 41)) = wm at a2 bb sz2 ⊢
  try replace ok1 := ok1.below bb
  try replace ok2 := ok2.below bb
  try replace a1 := a1.below bb
  try replace a2 := a2.below bb
  replace bw := below_on bw bb bw.size
  clear bb
  clear sz2
  have ci0 := a1.c0
  have ci1 := a1.c1
  have ci2 := a1.c2
  have ci3 := a1.c3
  have ci4 := a1.c4
  have ci5 := a1.c5
  have cj0 := a2.c0
  have cj1 := a2.c1
  have cj2 := a2.c2
  have cj3 := a2.c3
  have cj4 := a2.c4
  have cj5 := a2.c5
  go_wp2_with fail
  clear ci0 ci1 ci2 ci3 ci4 ci5
  clear cj0 cj1 cj2 cj3 cj4 cj5
  have hr := rdi_lit wm [x1, x2]
  have bb := (Below.refl wm.heap.size wm).alloc (Nat.le_refl _) (.cells (icells [x1, x2]).toArray 41)
  simp only [icells] at hr bb
  generalize (wm.alloc (.cells [Value.bool x1.lo.b, .slice x1.lo.A x1.lo.xs.length x1.lo.c, .slice x1.lo.D x1.lo.ys.length x1.lo.d, .bool x1.hi.b, .slice x1.hi.A x1.hi.xs.length x1.hi.c, .slice x1.hi.D x1.hi.ys.length x1.hi.d, .bool x2.lo.b, .slice x2.lo.A x2.lo.xs.length x2.lo.c, .slice x2.lo.D x2.lo.ys.length x2.lo.d, .bool x2.hi.b, .slice x2.hi.A x2.hi.xs.length x2.hi.c, .slice x2.hi.D x2.hi.ys.length x2.hi.d].toArray 41)) = wn at hr bb ⊢
  try replace a1 := a1.below bb
  try replace a2 := a2.below bb
  replace bw := below_on bw bb bw.size
  clear bb
  refine (ilong_any wn _ 2 2 [x1, x2] false hr rfl (by simp) (lens2 a1.ok a2.ok) H.out).mono ?_
  rintro e wl ⟨rfl, rfl⟩
  clear hr
  have ci0 := a1.c0
  have ci1 := a1.c1
  have ci2 := a1.c2
  have ci3 := a1.c3
  have ci4 := a1.c4
  have ci5 := a1.c5
  go_wp2_with fail
  clear ci0 ci1 ci2 ci3 ci4 ci5
  refine (rivalid_any _ x1 true a1.ok f1 (decide_eq_true H1.out.v)).mono ?_
  rintro e wn ⟨rfl, bb⟩
  try replace a1 := a1.below bb
  try replace a2 := a2.below bb
  replace bw := below_on bw bb bw.size
  clear bb
  have ci0 := a2.c0
  have ci1 := a2.c1
  have ci2 := a2.c2
  have ci3 := a2.c3
  have ci4 := a2.c4
  have ci5 := a2.c5
  go_wp2_with fail
  clear ci0 ci1 ci2 ci3 ci4 ci5
  refine (rivalid_any _ x2 true a2.ok f2 (decide_eq_true H2.out.v)).mono ?_
  rintro e wn ⟨rfl, bb⟩
  try replace a1 := a1.below bb
  try replace a2 := a2.below bb
  replace bw := below_on bw bb bw.size
  clear bb
  go_upto_region 3 with fail
  have hsz := a2.lt
  go_cut [9, 10] from 30 (fun s9 s10 w' => ∃ (G H : Nat) (y1 y2 : Fx), s9 = .pointer (some ⟨G, 0, none⟩) ∧ s10 = .pointer (some ⟨H, 0, none⟩) ∧ IsP y1 q1 ∧ IsP y2 q2 ∧ Fa w' G y1 ∧ Fa w' H y2 ∧ Below wn.heap.size wn w')
  case first =>
    --REG{
    refine wp_region_held_drew (S := fun w' => w'.cell? ⟨w.heap.size, 0, none⟩ = some (.bool x1.lo.b) ∧ w'.cell? ⟨w.heap.size, 1, none⟩ = some (.slice x1.lo.A x1.lo.xs.length x1.lo.c) ∧ w'.cell? ⟨w.heap.size, 2, none⟩ = some (.slice x1.lo.D x1.lo.ys.length x1.lo.d) ∧ w'.cell? ⟨w.heap.size, 3, none⟩ = some (.bool x1.hi.b) ∧ w'.cell? ⟨w.heap.size, 4, none⟩ = some (.slice x1.hi.A x1.hi.xs.length x1.hi.c) ∧ w'.cell? ⟨w.heap.size, 5, none⟩ = some (.slice x1.hi.D x1.hi.ys.length x1.hi.d) ∧ w'.cell? ⟨w.heap.size + 1, 0, none⟩ = some (.bool x2.lo.b) ∧ w'.cell? ⟨w.heap.size + 1, 1, none⟩ = some (.slice x2.lo.A x2.lo.xs.length x2.lo.c) ∧ w'.cell? ⟨w.heap.size + 1, 2, none⟩ = some (.slice x2.lo.D x2.lo.ys.length x2.lo.d) ∧ w'.cell? ⟨w.heap.size + 1, 3, none⟩ = some (.bool x2.hi.b) ∧ w'.cell? ⟨w.heap.size + 1, 4, none⟩ = some (.slice x2.hi.A x2.hi.xs.length x2.hi.c) ∧ w'.cell? ⟨w.heap.size + 1, 5, none⟩ = some (.slice x2.hi.D x2.hi.ys.length x2.hi.d)) (by kernel_rfl) ⟨(a1.below (Below.refl _ _).drew).c0, (a1.below (Below.refl _ _).drew).c1, (a1.below (Below.refl _ _).drew).c2, (a1.below (Below.refl _ _).drew).c3, (a1.below (Below.refl _ _).drew).c4, (a1.below (Below.refl _ _).drew).c5, (a2.below (Below.refl _ _).drew).c0, (a2.below (Below.refl _ _).drew).c1, (a2.below (Below.refl _ _).drew).c2, (a2.below (Below.refl _ _).drew).c3, (a2.below (Below.refl _ _).drew).c4, (a2.below (Below.refl _ _).drew).c5⟩ (fun hHeld => ?_)
    have bz := (Below.refl wn.heap.size wn).drew
    replace a1 := a1.below bz
    replace a2 := a2.below bz
    generalize wn.drew = wd at *
    refine wpAnyH_take (i := 0) (v := x1.val) rfl (by kernel_rfl) (by kernel_rfl) (by kernel_rfl) (fun _ _ _ h => h) (Or.inl ⟨by rfl, ?_⟩) (by assumption) ?_
    · intro w hSw
      try dsimp only at hSw
      go_simp
      try with_reducible rfl
    try simp only [Act.put, List.setIfInBounds_toArray, List.set_cons_zero, List.set_cons_succ]
    refine wpAnyH_take (i := 1) (v := .int .u8 n1) rfl (by kernel_rfl) (by kernel_rfl) (by kernel_rfl) (fun _ _ _ h => h) (Or.inl ⟨by rfl, ?_⟩) (by assumption) ?_
    · intro w hSw
      try dsimp only at hSw
      go_simp
      try with_reducible rfl
    try simp only [Act.put, List.setIfInBounds_toArray, List.set_cons_zero, List.set_cons_succ]
    refine wpAnyH_take (i := 3) (v := x2.val) rfl (by kernel_rfl) (by kernel_rfl) (by kernel_rfl) (fun _ _ _ h => h) (Or.inl ⟨by rfl, ?_⟩) (by assumption) ?_
    · intro w hSw
      try dsimp only at hSw
      go_simp
      try with_reducible rfl
    try simp only [Act.put, List.setIfInBounds_toArray, List.set_cons_zero, List.set_cons_succ]
    refine wpAnyH_take (i := 4) (v := .int .u8 n2) rfl (by kernel_rfl) (by kernel_rfl) (by kernel_rfl) (fun _ _ _ h => h) (Or.inl ⟨by rfl, ?_⟩) (by assumption) ?_
    · intro w hSw
      try dsimp only at hSw
      go_simp
      try with_reducible rfl
    try simp only [Act.put, List.setIfInBounds_toArray, List.set_cons_zero, List.set_cons_succ]
    refine wpAnyH_ready (rs := [2, 6, 7]) (by kernel_rfl) (by simp) ?_
    refine AllReadyH.cons rfl (fun K hK => ?_) ?_
    · go_simp
      go_at_call 22
      refine (iwithin_any _ x1 n1 q1 a1.ok f1 H1.out hn1 HQ1.out).mono ?_
      rintro e wd ⟨y1, rfl, p, oky1, bb⟩
      have Py1 := Lib.hid p
      clear p
      replace a1 := a1.below bb
      replace a2 := a2.below bb
      try replace oky1 := oky1.below bb
      try replace oky2 := oky2.below bb
      try replace kG := kG.below bb
      try replace kH := kH.below bb
      replace bz := below_on bz bb bz.size
      clear bb
      try dsimp only
      refine hK.out _ _ ⟨a1.c0, a1.c1, a1.c2, a1.c3, a1.c4, a1.c5, a2.c0, a2.c1, a2.c2, a2.c3, a2.c4, a2.c5⟩ (fun hHeld => ?_)
      clear hK K
      try simp only [Act.put, List.setIfInBounds_toArray, List.set_cons_zero, List.set_cons_succ]
      refine wpAnyH_ready (rs := [5, 6, 7]) (by kernel_rfl) (by simp) ?_
      refine AllReadyH.cons rfl (fun K hK => ?_) ?_
      · go_simp
        go_at_call 22
        refine (iwithin_any _ x2 n2 q2 a2.ok f2 H2.out hn2 HQ2.out).mono ?_
        rintro e wd ⟨y2, rfl, p, oky2, bb⟩
        have Py2 := Lib.hid p
        clear p
        replace a1 := a1.below bb
        replace a2 := a2.below bb
        try replace oky1 := oky1.below bb
        try replace oky2 := oky2.below bb
        try replace kG := kG.below bb
        try replace kH := kH.below bb
        replace bz := below_on bz bb bz.size
        clear bb
        try dsimp only
        refine hK.out _ _ ⟨a1.c0, a1.c1, a1.c2, a1.c3, a1.c4, a1.c5, a2.c0, a2.c1, a2.c2, a2.c3, a2.c4, a2.c5⟩ (fun hHeld => ?_)
        clear hK K
        try simp only [Act.put, List.setIfInBounds_toArray, List.set_cons_zero, List.set_cons_succ]
        refine wpAnyH_ready (rs := [6, 7]) (by kernel_rfl) (by simp) ?_
        refine AllReadyH.cons rfl (fun K hK => ?_) ?_
        · go_simp
          have kG := bk3_new wd
          have bb := (Below.refl wd.heap.size wd).alloc (Nat.le_refl _) (.cells #[.bool false, .slice none 0 0, .slice none 0 0] 25)
          have sG := bz.size
          try have nGH := kH.lt
          generalize (wd.alloc (.cells #[.bool false, .slice none 0 0, .slice none 0 0] 25)) = we at *
          first | generalize wd.heap.size = G at kG sG nGH ⊢ | generalize wd.heap.size = G at kG sG ⊢
          replace a1 := a1.below bb
          replace a2 := a2.below bb
          try replace oky1 := oky1.below bb
          try replace oky2 := oky2.below bb
          try replace kG := kG.below bb
          try replace kH := kH.below bb
          replace bz := below_on bz bb bz.size
          clear bb
          generalize we = wd at *
          refine hK.out _ _ ⟨a1.c0, a1.c1, a1.c2, a1.c3, a1.c4, a1.c5, a2.c0, a2.c1, a2.c2, a2.c3, a2.c4, a2.c5⟩ (fun hHeld => ?_)
          clear hK K
          try simp only [Act.put, List.setIfInBounds_toArray, List.set_cons_zero, List.set_cons_succ]
          refine wpAnyH_ready (rs := [7]) (by kernel_rfl) (by simp) ?_
          refine AllReadyH.cons rfl (fun K hK => ?_) ?_
          · go_simp
            have kH := bk3_new wd
            have bb := (Below.refl wd.heap.size wd).alloc (Nat.le_refl _) (.cells #[.bool false, .slice none 0 0, .slice none 0 0] 25)
            have sH := bz.size
            try have nGH := kG.lt
            generalize (wd.alloc (.cells #[.bool false, .slice none 0 0, .slice none 0 0] 25)) = we at *
            first | generalize wd.heap.size = H at kH sH nGH ⊢ | generalize wd.heap.size = H at kH sH ⊢
            replace a1 := a1.below bb
            replace a2 := a2.below bb
            try replace oky1 := oky1.below bb
            try replace oky2 := oky2.below bb
            try replace kG := kG.below bb
            try replace kH := kH.below bb
            replace bz := below_on bz bb bz.size
            clear bb
            generalize we = wd at *
            refine hK.out _ _ ⟨a1.c0, a1.c1, a1.c2, a1.c3, a1.c4, a1.c5, a2.c0, a2.c1, a2.c2, a2.c3, a2.c4, a2.c5⟩ (fun hHeld => ?_)
            clear hK K
            try simp only [Act.put, List.setIfInBounds_toArray, List.set_cons_zero, List.set_cons_succ]
            refine wpAnyH_ready (rs := [8]) (by kernel_rfl) (by simp) ?_
            refine AllReadyH.cons rfl (fun K hK => ?_) ?_
            · have t := kG
              obtain ⟨k0, k1, k2, kf0, kf1, kf2, _, _⟩ := t
              go_simp
              clear k0 k1 k2 kf0 kf1 kf2
              have hk : Fa wd G Fx.nil := ⟨kG, Fx.nil_ok _⟩
              have aG := hk.put oky1
              have b1 := a1.far hk (a := .bool y1.b) (b := .slice y1.A y1.xs.length y1.c) (c := .slice y1.D y1.ys.length y1.d) (by omega)
              have b2 := a2.far hk (a := .bool y1.b) (b := .slice y1.A y1.xs.length y1.c) (c := .slice y1.D y1.ys.length y1.d) (by omega)
              have b3 := kH.far (H := G) (a := .bool y1.b) (b := .slice y1.A y1.xs.length y1.c) (c := .slice y1.D y1.ys.length y1.d) (by omega)
              have b4 : Fx.ok y2 (((wd.setCell ⟨G, 0, none⟩ (.bool y1.b)).setCell ⟨G, 1, none⟩ (.slice y1.A y1.xs.length y1.c)).setCell ⟨G, 2, none⟩ (.slice y1.D y1.ys.length y1.d)) := set3_ok oky2 hk.bk rfl rfl rfl
              have b5 := set3g (G := G) (a := .bool y1.b) (b := .slice y1.A y1.xs.length y1.c) (c := .slice y1.D y1.ys.length y1.d) bz (by omega)
              clear a1 a2 bz hk kG oky1 kH oky2
              generalize (((wd.setCell ⟨G, 0, none⟩ (.bool y1.b)).setCell ⟨G, 1, none⟩ (.slice y1.A y1.xs.length y1.c)).setCell ⟨G, 2, none⟩ (.slice y1.D y1.ys.length y1.d)) = we at *
              have a1 := b1
              have a2 := b2
              have bz := b5
              clear b1 b2 b5
              have kH := b3
              have oky2 := b4
              clear b3 b4
              clear hHeld
              generalize we = wd at *
              refine hK.out _ _ ⟨a1.c0, a1.c1, a1.c2, a1.c3, a1.c4, a1.c5, a2.c0, a2.c1, a2.c2, a2.c3, a2.c4, a2.c5⟩ (fun hHeld => ?_)
              clear hK K
              try simp only [Act.put, List.setIfInBounds_toArray, List.set_cons_zero, List.set_cons_succ]
              refine wpAnyH_ready (rs := [9]) (by kernel_rfl) (by simp) ?_
              refine AllReadyH.cons rfl (fun K hK => ?_) ?_
              · have t := kH
                obtain ⟨k0, k1, k2, kf0, kf1, kf2, _, _⟩ := t
                go_simp
                clear k0 k1 k2 kf0 kf1 kf2
                have hk : Fa wd H Fx.nil := ⟨kH, Fx.nil_ok _⟩
                have aH := hk.put oky2
                have b1 := a1.far hk (a := .bool y2.b) (b := .slice y2.A y2.xs.length y2.c) (c := .slice y2.D y2.ys.length y2.d) (by omega)
                have b2 := a2.far hk (a := .bool y2.b) (b := .slice y2.A y2.xs.length y2.c) (c := .slice y2.D y2.ys.length y2.d) (by omega)
                have b3 := aG.far hk (a := .bool y2.b) (b := .slice y2.A y2.xs.length y2.c) (c := .slice y2.D y2.ys.length y2.d) (by omega)
                have b5 := set3g (G := H) (a := .bool y2.b) (b := .slice y2.A y2.xs.length y2.c) (c := .slice y2.D y2.ys.length y2.d) bz (by omega)
                clear a1 a2 bz hk kH oky2 aG
                generalize (((wd.setCell ⟨H, 0, none⟩ (.bool y2.b)).setCell ⟨H, 1, none⟩ (.slice y2.A y2.xs.length y2.c)).setCell ⟨H, 2, none⟩ (.slice y2.D y2.ys.length y2.d)) = we at *
                have a1 := b1
                have a2 := b2
                have bz := b5
                clear b1 b2 b5
                have aG := b3
                clear b3
                clear hHeld
                generalize we = wd at *
                refine hK.out _ _ ⟨a1.c0, a1.c1, a1.c2, a1.c3, a1.c4, a1.c5, a2.c0, a2.c1, a2.c2, a2.c3, a2.c4, a2.c5⟩ (fun hHeld => ?_)
                clear hK K
                try simp only [Act.put, List.setIfInBounds_toArray, List.set_cons_zero, List.set_cons_succ]
                refine wpAnyH_done (by kernel_rfl) ?_ _
                go_wp2_with fail
                go_meet
                case rel => exact ⟨G, H, y1, y2, rfl, rfl, Py1.out, Py2.out, aG, aH, bz⟩
              exact AllReadyH.nil
            exact AllReadyH.nil
          exact AllReadyH.nil
        refine AllReadyH.cons rfl (fun K hK => ?_) ?_
        · go_simp
          have kH := bk3_new wd
          have bb := (Below.refl wd.heap.size wd).alloc (Nat.le_refl _) (.cells #[.bool false, .slice none 0 0, .slice none 0 0] 25)
          have sH := bz.size
          try have nGH := kG.lt
          generalize (wd.alloc (.cells #[.bool false, .slice none 0 0, .slice none 0 0] 25)) = we at *
          first | generalize wd.heap.size = H at kH sH nGH ⊢ | generalize wd.heap.size = H at kH sH ⊢
          replace a1 := a1.below bb
          replace a2 := a2.below bb
          try replace oky1 := oky1.below bb
          try replace oky2 := oky2.below bb
          try replace kG := kG.below bb
          try replace kH := kH.below bb
          replace bz := below_on bz bb bz.size
          clear bb
          generalize we = wd at *
          refine hK.out _ _ ⟨a1.c0, a1.c1, a1.c2, a1.c3, a1.c4, a1.c5, a2.c0, a2.c1, a2.c2, a2.c3, a2.c4, a2.c5⟩ (fun hHeld => ?_)
          clear hK K
          try simp only [Act.put, List.setIfInBounds_toArray, List.set_cons_zero, List.set_cons_succ]
          refine wpAnyH_ready (rs := [6]) (by kernel_rfl) (by simp) ?_
          refine AllReadyH.cons rfl (fun K hK => ?_) ?_
          · go_simp
            have kG := bk3_new wd
            have bb := (Below.refl wd.heap.size wd).alloc (Nat.le_refl _) (.cells #[.bool false, .slice none 0 0, .slice none 0 0] 25)
            have sG := bz.size
            try have nGH := kH.lt
            generalize (wd.alloc (.cells #[.bool false, .slice none 0 0, .slice none 0 0] 25)) = we at *
            first | generalize wd.heap.size = G at kG sG nGH ⊢ | generalize wd.heap.size = G at kG sG ⊢
            replace a1 := a1.below bb
            replace a2 := a2.below bb
            try replace oky1 := oky1.below bb
            try replace oky2 := oky2.below bb
            try replace kG := kG.below bb
            try replace kH := kH.below bb
            replace bz := below_on bz bb bz.size
            clear bb
            generalize we = wd at *
            refine hK.out _ _ ⟨a1.c0, a1.c1, a1.c2, a1.c3, a1.c4, a1.c5, a2.c0, a2.c1, a2.c2, a2.c3, a2.c4, a2.c5⟩ (fun hHeld => ?_)
            clear hK K
            try simp only [Act.put, List.setIfInBounds_toArray, List.set_cons_zero, List.set_cons_succ]
            refine wpAnyH_ready (rs := [8]) (by kernel_rfl) (by simp) ?_
            refine AllReadyH.cons rfl (fun K hK => ?_) ?_
            · have t := kG
              obtain ⟨k0, k1, k2, kf0, kf1, kf2, _, _⟩ := t
              go_simp
              clear k0 k1 k2 kf0 kf1 kf2
              have hk : Fa wd G Fx.nil := ⟨kG, Fx.nil_ok _⟩
              have aG := hk.put oky1
              have b1 := a1.far hk (a := .bool y1.b) (b := .slice y1.A y1.xs.length y1.c) (c := .slice y1.D y1.ys.length y1.d) (by omega)
              have b2 := a2.far hk (a := .bool y1.b) (b := .slice y1.A y1.xs.length y1.c) (c := .slice y1.D y1.ys.length y1.d) (by omega)
              have b3 := kH.far (H := G) (a := .bool y1.b) (b := .slice y1.A y1.xs.length y1.c) (c := .slice y1.D y1.ys.length y1.d) (by omega)
              have b4 : Fx.ok y2 (((wd.setCell ⟨G, 0, none⟩ (.bool y1.b)).setCell ⟨G, 1, none⟩ (.slice y1.A y1.xs.length y1.c)).setCell ⟨G, 2, none⟩ (.slice y1.D y1.ys.length y1.d)) := set3_ok oky2 hk.bk rfl rfl rfl
              have b5 := set3g (G := G) (a := .bool y1.b) (b := .slice y1.A y1.xs.length y1.c) (c := .slice y1.D y1.ys.length y1.d) bz (by omega)
              clear a1 a2 bz hk kG oky1 kH oky2
              generalize (((wd.setCell ⟨G, 0, none⟩ (.bool y1.b)).setCell ⟨G, 1, none⟩ (.slice y1.A y1.xs.length y1.c)).setCell ⟨G, 2, none⟩ (.slice y1.D y1.ys.length y1.d)) = we at *
              have a1 := b1
              have a2 := b2
              have bz := b5
              clear b1 b2 b5
              have kH := b3
              have oky2 := b4
              clear b3 b4
              clear hHeld
              generalize we = wd at *
              refine hK.out _ _ ⟨a1.c0, a1.c1, a1.c2, a1.c3, a1.c4, a1.c5, a2.c0, a2.c1, a2.c2, a2.c3, a2.c4, a2.c5⟩ (fun hHeld => ?_)
              clear hK K
              try simp only [Act.put, List.setIfInBounds_toArray, List.set_cons_zero, List.set_cons_succ]
              refine wpAnyH_ready (rs := [9]) (by kernel_rfl) (by simp) ?_
              refine AllReadyH.cons rfl (fun K hK => ?_) ?_
              · have t := kH
                obtain ⟨k0, k1, k2, kf0, kf1, kf2, _, _⟩ := t
                go_simp
                clear k0 k1 k2 kf0 kf1 kf2
                have hk : Fa wd H Fx.nil := ⟨kH, Fx.nil_ok _⟩
                have aH := hk.put oky2
                have b1 := a1.far hk (a := .bool y2.b) (b := .slice y2.A y2.xs.length y2.c) (c := .slice y2.D y2.ys.length y2.d) (by omega)
                have b2 := a2.far hk (a := .bool y2.b) (b := .slice y2.A y2.xs.length y2.c) (c := .slice y2.D y2.ys.length y2.d) (by omega)
                have b3 := aG.far hk (a := .bool y2.b) (b := .slice y2.A y2.xs.length y2.c) (c := .slice y2.D y2.ys.length y2.d) (by omega)
                have b5 := set3g (G := H) (a := .bool y2.b) (b := .slice y2.A y2.xs.length y2.c) (c := .slice y2.D y2.ys.length y2.d) bz (by omega)
                clear a1 a2 bz hk kH oky2 aG
                generalize (((wd.setCell ⟨H, 0, none⟩ (.bool y2.b)).setCell ⟨H, 1, none⟩ (.slice y2.A y2.xs.length y2.c)).setCell ⟨H, 2, none⟩ (.slice y2.D y2.ys.length y2.d)) = we at *
                have a1 := b1
                have a2 := b2
                have bz := b5
                clear b1 b2 b5
                have aG := b3
                clear b3
                clear hHeld
                generalize we = wd at *
                refine hK.out _ _ ⟨a1.c0, a1.c1, a1.c2, a1.c3, a1.c4, a1.c5, a2.c0, a2.c1, a2.c2, a2.c3, a2.c4, a2.c5⟩ (fun hHeld => ?_)
                clear hK K
                try simp only [Act.put, List.setIfInBounds_toArray, List.set_cons_zero, List.set_cons_succ]
                refine wpAnyH_done (by kernel_rfl) ?_ _
                go_wp2_with fail
                go_meet
                case rel => exact ⟨G, H, y1, y2, rfl, rfl, Py1.out, Py2.out, aG, aH, bz⟩
              exact AllReadyH.nil
            exact AllReadyH.nil
          exact AllReadyH.nil
        exact AllReadyH.nil
      refine AllReadyH.cons rfl (fun K hK => ?_) ?_
      · go_simp
        have kG := bk3_new wd
        have bb := (Below.refl wd.heap.size wd).alloc (Nat.le_refl _) (.cells #[.bool false, .slice none 0 0, .slice none 0 0] 25)
        have sG := bz.size
        try have nGH := kH.lt
        generalize (wd.alloc (.cells #[.bool false, .slice none 0 0, .slice none 0 0] 25)) = we at *
        first | generalize wd.heap.size = G at kG sG nGH ⊢ | generalize wd.heap.size = G at kG sG ⊢
        replace a1 := a1.below bb
        replace a2 := a2.below bb
        try replace oky1 := oky1.below bb
        try replace oky2 := oky2.below bb
        try replace kG := kG.below bb
        try replace kH := kH.below bb
        replace bz := below_on bz bb bz.size
        clear bb
        generalize we = wd at *
        refine hK.out _ _ ⟨a1.c0, a1.c1, a1.c2, a1.c3, a1.c4, a1.c5, a2.c0, a2.c1, a2.c2, a2.c3, a2.c4, a2.c5⟩ (fun hHeld => ?_)
        clear hK K
        try simp only [Act.put, List.setIfInBounds_toArray, List.set_cons_zero, List.set_cons_succ]
        refine wpAnyH_ready (rs := [5, 7]) (by kernel_rfl) (by simp) ?_
        refine AllReadyH.cons rfl (fun K hK => ?_) ?_
        · go_simp
          go_at_call 22
          refine (iwithin_any _ x2 n2 q2 a2.ok f2 H2.out hn2 HQ2.out).mono ?_
          rintro e wd ⟨y2, rfl, p, oky2, bb⟩
          have Py2 := Lib.hid p
          clear p
          replace a1 := a1.below bb
          replace a2 := a2.below bb
          try replace oky1 := oky1.below bb
          try replace oky2 := oky2.below bb
          try replace kG := kG.below bb
          try replace kH := kH.below bb
          replace bz := below_on bz bb bz.size
          clear bb
          try dsimp only
          refine hK.out _ _ ⟨a1.c0, a1.c1, a1.c2, a1.c3, a1.c4, a1.c5, a2.c0, a2.c1, a2.c2, a2.c3, a2.c4, a2.c5⟩ (fun hHeld => ?_)
          clear hK K
          try simp only [Act.put, List.setIfInBounds_toArray, List.set_cons_zero, List.set_cons_succ]
          refine wpAnyH_ready (rs := [7]) (by kernel_rfl) (by simp) ?_
          refine AllReadyH.cons rfl (fun K hK => ?_) ?_
          · go_simp
            have kH := bk3_new wd
            have bb := (Below.refl wd.heap.size wd).alloc (Nat.le_refl _) (.cells #[.bool false, .slice none 0 0, .slice none 0 0] 25)
            have sH := bz.size
            try have nGH := kG.lt
            generalize (wd.alloc (.cells #[.bool false, .slice none 0 0, .slice none 0 0] 25)) = we at *
            first | generalize wd.heap.size = H at kH sH nGH ⊢ | generalize wd.heap.size = H at kH sH ⊢
            replace a1 := a1.below bb
            replace a2 := a2.below bb
            try replace oky1 := oky1.below bb
            try replace oky2 := oky2.below bb
            try replace kG := kG.below bb
            try replace kH := kH.below bb
            replace bz := below_on bz bb bz.size
            clear bb
            generalize we = wd at *
            refine hK.out _ _ ⟨a1.c0, a1.c1, a1.c2, a1.c3, a1.c4, a1.c5, a2.c0, a2.c1, a2.c2, a2.c3, a2.c4, a2.c5⟩ (fun hHeld => ?_)
            clear hK K
            try simp only [Act.put, List.setIfInBounds_toArray, List.set_cons_zero, List.set_cons_succ]
            refine wpAnyH_ready (rs := [8]) (by kernel_rfl) (by simp) ?_
            refine AllReadyH.cons rfl (fun K hK => ?_) ?_
            · have t := kG
              obtain ⟨k0, k1, k2, kf0, kf1, kf2, _, _⟩ := t
              go_simp
              clear k0 k1 k2 kf0 kf1 kf2
              have hk : Fa wd G Fx.nil := ⟨kG, Fx.nil_ok _⟩
              have aG := hk.put oky1
              have b1 := a1.far hk (a := .bool y1.b) (b := .slice y1.A y1.xs.length y1.c) (c := .slice y1.D y1.ys.length y1.d) (by omega)
              have b2 := a2.far hk (a := .bool y1.b) (b := .slice y1.A y1.xs.length y1.c) (c := .slice y1.D y1.ys.length y1.d) (by omega)
              have b3 := kH.far (H := G) (a := .bool y1.b) (b := .slice y1.A y1.xs.length y1.c) (c := .slice y1.D y1.ys.length y1.d) (by omega)
              have b4 : Fx.ok y2 (((wd.setCell ⟨G, 0, none⟩ (.bool y1.b)).setCell ⟨G, 1, none⟩ (.slice y1.A y1.xs.length y1.c)).setCell ⟨G, 2, none⟩ (.slice y1.D y1.ys.length y1.d)) := set3_ok oky2 hk.bk rfl rfl rfl
              have b5 := set3g (G := G) (a := .bool y1.b) (b := .slice y1.A y1.xs.length y1.c) (c := .slice y1.D y1.ys.length y1.d) bz (by omega)
              clear a1 a2 bz hk kG oky1 kH oky2
              generalize (((wd.setCell ⟨G, 0, none⟩ (.bool y1.b)).setCell ⟨G, 1, none⟩ (.slice y1.A y1.xs.length y1.c)).setCell ⟨G, 2, none⟩ (.slice y1.D y1.ys.length y1.d)) = we at *
              have a1 := b1
              have a2 := b2
              have bz := b5
              clear b1 b2 b5
              have kH := b3
              have oky2 := b4
              clear b3 b4
              clear hHeld
              generalize we = wd at *
              refine hK.out _ _ ⟨a1.c0, a1.c1, a1.c2, a1.c3, a1.c4, a1.c5, a2.c0, a2.c1, a2.c2, a2.c3, a2.c4, a2.c5⟩ (fun hHeld => ?_)
              clear hK K
              try simp only [Act.put, List.setIfInBounds_toArray, List.set_cons_zero, List.set_cons_succ]
              refine wpAnyH_ready (rs := [9]) (by kernel_rfl) (by simp) ?_
              refine AllReadyH.cons rfl (fun K hK => ?_) ?_
              · have t := kH
                obtain ⟨k0, k1, k2, kf0, kf1, kf2, _, _⟩ := t
                go_simp
                clear k0 k1 k2 kf0 kf1 kf2
                have hk : Fa wd H Fx.nil := ⟨kH, Fx.nil_ok _⟩
                have aH := hk.put oky2
                have b1 := a1.far hk (a := .bool y2.b) (b := .slice y2.A y2.xs.length y2.c) (c := .slice y2.D y2.ys.length y2.d) (by omega)
                have b2 := a2.far hk (a := .bool y2.b) (b := .slice y2.A y2.xs.length y2.c) (c := .slice y2.D y2.ys.length y2.d) (by omega)
                have b3 := aG.far hk (a := .bool y2.b) (b := .slice y2.A y2.xs.length y2.c) (c := .slice y2.D y2.ys.length y2.d) (by omega)
                have b5 := set3g (G := H) (a := .bool y2.b) (b := .slice y2.A y2.xs.length y2.c) (c := .slice y2.D y2.ys.length y2.d) bz (by omega)
                clear a1 a2 bz hk kH oky2 aG
                generalize (((wd.setCell ⟨H, 0, none⟩ (.bool y2.b)).setCell ⟨H, 1, none⟩ (.slice y2.A y2.xs.length y2.c)).setCell ⟨H, 2, none⟩ (.slice y2.D y2.ys.length y2.d)) = we at *
                have a1 := b1
                have a2 := b2
                have bz := b5
                clear b1 b2 b5
                have aG := b3
                clear b3
                clear hHeld
                generalize we = wd at *
                refine hK.out _ _ ⟨a1.c0, a1.c1, a1.c2, a1.c3, a1.c4, a1.c5, a2.c0, a2.c1, a2.c2, a2.c3, a2.c4, a2.c5⟩ (fun hHeld => ?_)
                clear hK K
                try simp only [Act.put, List.setIfInBounds_toArray, List.set_cons_zero, List.set_cons_succ]
                refine wpAnyH_done (by kernel_rfl) ?_ _
                go_wp2_with fail
                go_meet
                case rel => exact ⟨G, H, y1, y2, rfl, rfl, Py1.out, Py2.out, aG, aH, bz⟩
              exact AllReadyH.nil
            exact AllReadyH.nil
          exact AllReadyH.nil
        refine AllReadyH.cons rfl (fun K hK => ?_) ?_
        · go_simp
          have kH := bk3_new wd
          have bb := (Below.refl wd.heap.size wd).alloc (Nat.le_refl _) (.cells #[.bool false, .slice none 0 0, .slice none 0 0] 25)
          have sH := bz.size
          try have nGH := kG.lt
          generalize (wd.alloc (.cells #[.bool false, .slice none 0 0, .slice none 0 0] 25)) = we at *
          first | generalize wd.heap.size = H at kH sH nGH ⊢ | generalize wd.heap.size = H at kH sH ⊢
          replace a1 := a1.below bb
          replace a2 := a2.below bb
          try replace oky1 := oky1.below bb
          try replace oky2 := oky2.below bb
          try replace kG := kG.below bb
          try replace kH := kH.below bb
          replace bz := below_on bz bb bz.size
          clear bb
          generalize we = wd at *
          refine hK.out _ _ ⟨a1.c0, a1.c1, a1.c2, a1.c3, a1.c4, a1.c5, a2.c0, a2.c1, a2.c2, a2.c3, a2.c4, a2.c5⟩ (fun hHeld => ?_)
          clear hK K
          try simp only [Act.put, List.setIfInBounds_toArray, List.set_cons_zero, List.set_cons_succ]
          refine wpAnyH_ready (rs := [5]) (by kernel_rfl) (by simp) ?_
          refine AllReadyH.cons rfl (fun K hK => ?_) ?_
          · go_simp
            go_at_call 22
            refine (iwithin_any _ x2 n2 q2 a2.ok f2 H2.out hn2 HQ2.out).mono ?_
            rintro e wd ⟨y2, rfl, p, oky2, bb⟩
            have Py2 := Lib.hid p
            clear p
            replace a1 := a1.below bb
            replace a2 := a2.below bb
            try replace oky1 := oky1.below bb
            try replace oky2 := oky2.below bb
            try replace kG := kG.below bb
            try replace kH := kH.below bb
            replace bz := below_on bz bb bz.size
            clear bb
            try dsimp only
            refine hK.out _ _ ⟨a1.c0, a1.c1, a1.c2, a1.c3, a1.c4, a1.c5, a2.c0, a2.c1, a2.c2, a2.c3, a2.c4, a2.c5⟩ (fun hHeld => ?_)
            clear hK K
            try simp only [Act.put, List.setIfInBounds_toArray, List.set_cons_zero, List.set_cons_succ]
            refine wpAnyH_ready (rs := [8]) (by kernel_rfl) (by simp) ?_
            refine AllReadyH.cons rfl (fun K hK => ?_) ?_
            · have t := kG
              obtain ⟨k0, k1, k2, kf0, kf1, kf2, _, _⟩ := t
              go_simp
              clear k0 k1 k2 kf0 kf1 kf2
              have hk : Fa wd G Fx.nil := ⟨kG, Fx.nil_ok _⟩
              have aG := hk.put oky1
              have b1 := a1.far hk (a := .bool y1.b) (b := .slice y1.A y1.xs.length y1.c) (c := .slice y1.D y1.ys.length y1.d) (by omega)
              have b2 := a2.far hk (a := .bool y1.b) (b := .slice y1.A y1.xs.length y1.c) (c := .slice y1.D y1.ys.length y1.d) (by omega)
              have b3 := kH.far (H := G) (a := .bool y1.b) (b := .slice y1.A y1.xs.length y1.c) (c := .slice y1.D y1.ys.length y1.d) (by omega)
              have b4 : Fx.ok y2 (((wd.setCell ⟨G, 0, none⟩ (.bool y1.b)).setCell ⟨G, 1, none⟩ (.slice y1.A y1.xs.length y1.c)).setCell ⟨G, 2, none⟩ (.slice y1.D y1.ys.length y1.d)) := set3_ok oky2 hk.bk rfl rfl rfl
              have b5 := set3g (G := G) (a := .bool y1.b) (b := .slice y1.A y1.xs.length y1.c) (c := .slice y1.D y1.ys.length y1.d) bz (by omega)
              clear a1 a2 bz hk kG oky1 kH oky2
              generalize (((wd.setCell ⟨G, 0, none⟩ (.bool y1.b)).setCell ⟨G, 1, none⟩ (.slice y1.A y1.xs.length y1.c)).setCell ⟨G, 2, none⟩ (.slice y1.D y1.ys.length y1.d)) = we at *
              have a1 := b1
              have a2 := b2
              have bz := b5
              clear b1 b2 b5
              have kH := b3
              have oky2 := b4
              clear b3 b4
              clear hHeld
              generalize we = wd at *
              refine hK.out _ _ ⟨a1.c0, a1.c1, a1.c2, a1.c3, a1.c4, a1.c5, a2.c0, a2.c1, a2.c2, a2.c3, a2.c4, a2.c5⟩ (fun hHeld => ?_)
              clear hK K
              try simp only [Act.put, List.setIfInBounds_toArray, List.set_cons_zero, List.set_cons_succ]
              refine wpAnyH_ready (rs := [9]) (by kernel_rfl) (by simp) ?_
              refine AllReadyH.cons rfl (fun K hK => ?_) ?_
              · have t := kH
                obtain ⟨k0, k1, k2, kf0, kf1, kf2, _, _⟩ := t
                go_simp
                clear k0 k1 k2 kf0 kf1 kf2
                have hk : Fa wd H Fx.nil := ⟨kH, Fx.nil_ok _⟩
                have aH := hk.put oky2
                have b1 := a1.far hk (a := .bool y2.b) (b := .slice y2.A y2.xs.length y2.c) (c := .slice y2.D y2.ys.length y2.d) (by omega)
                have b2 := a2.far hk (a := .bool y2.b) (b := .slice y2.A y2.xs.length y2.c) (c := .slice y2.D y2.ys.length y2.d) (by omega)
                have b3 := aG.far hk (a := .bool y2.b) (b := .slice y2.A y2.xs.length y2.c) (c := .slice y2.D y2.ys.length y2.d) (by omega)
                have b5 := set3g (G := H) (a := .bool y2.b) (b := .slice y2.A y2.xs.length y2.c) (c := .slice y2.D y2.ys.length y2.d) bz (by omega)
                clear a1 a2 bz hk kH oky2 aG
                generalize (((wd.setCell ⟨H, 0, none⟩ (.bool y2.b)).setCell ⟨H, 1, none⟩ (.slice y2.A y2.xs.length y2.c)).setCell ⟨H, 2, none⟩ (.slice y2.D y2.ys.length y2.d)) = we at *
                have a1 := b1
                have a2 := b2
                have bz := b5
                clear b1 b2 b5
                have aG := b3
                clear b3
                clear hHeld
                generalize we = wd at *
                refine hK.out _ _ ⟨a1.c0, a1.c1, a1.c2, a1.c3, a1.c4, a1.c5, a2.c0, a2.c1, a2.c2, a2.c3, a2.c4, a2.c5⟩ (fun hHeld => ?_)
                clear hK K
                try simp only [Act.put, List.setIfInBounds_toArray, List.set_cons_zero, List.set_cons_succ]
                refine wpAnyH_done (by kernel_rfl) ?_ _
                go_wp2_with fail
                go_meet
                case rel => exact ⟨G, H, y1, y2, rfl, rfl, Py1.out, Py2.out, aG, aH, bz⟩
              exact AllReadyH.nil
            exact AllReadyH.nil
          exact AllReadyH.nil
        exact AllReadyH.nil
      refine AllReadyH.cons rfl (fun K hK => ?_) ?_
      · go_simp
        have kH := bk3_new wd
        have bb := (Below.refl wd.heap.size wd).alloc (Nat.le_refl _) (.cells #[.bool false, .slice none 0 0, .slice none 0 0] 25)
        have sH := bz.size
        try have nGH := kG.lt
        generalize (wd.alloc (.cells #[.bool false, .slice none 0 0, .slice none 0 0] 25)) = we at *
        first | generalize wd.heap.size = H at kH sH nGH ⊢ | generalize wd.heap.size = H at kH sH ⊢
        replace a1 := a1.below bb
        replace a2 := a2.below bb
        try replace oky1 := oky1.below bb
        try replace oky2 := oky2.below bb
        try replace kG := kG.below bb
        try replace kH := kH.below bb
        replace bz := below_on bz bb bz.size
        clear bb
        generalize we = wd at *
        refine hK.out _ _ ⟨a1.c0, a1.c1, a1.c2, a1.c3, a1.c4, a1.c5, a2.c0, a2.c1, a2.c2, a2.c3, a2.c4, a2.c5⟩ (fun hHeld => ?_)
        clear hK K
        try simp only [Act.put, List.setIfInBounds_toArray, List.set_cons_zero, List.set_cons_succ]
        refine wpAnyH_ready (rs := [5, 6]) (by kernel_rfl) (by simp) ?_
        refine AllReadyH.cons rfl (fun K hK => ?_) ?_
        · go_simp
          go_at_call 22
          refine (iwithin_any _ x2 n2 q2 a2.ok f2 H2.out hn2 HQ2.out).mono ?_
          rintro e wd ⟨y2, rfl, p, oky2, bb⟩
          have Py2 := Lib.hid p
          clear p
          replace a1 := a1.below bb
          replace a2 := a2.below bb
          try replace oky1 := oky1.below bb
          try replace oky2 := oky2.below bb
          try replace kG := kG.below bb
          try replace kH := kH.below bb
          replace bz := below_on bz bb bz.size
          clear bb
          try dsimp only
          refine hK.out _ _ ⟨a1.c0, a1.c1, a1.c2, a1.c3, a1.c4, a1.c5, a2.c0, a2.c1, a2.c2, a2.c3, a2.c4, a2.c5⟩ (fun hHeld => ?_)
          clear hK K
          try simp only [Act.put, List.setIfInBounds_toArray, List.set_cons_zero, List.set_cons_succ]
          refine wpAnyH_ready (rs := [6]) (by kernel_rfl) (by simp) ?_
          refine AllReadyH.cons rfl (fun K hK => ?_) ?_
          · go_simp
            have kG := bk3_new wd
            have bb := (Below.refl wd.heap.size wd).alloc (Nat.le_refl _) (.cells #[.bool false, .slice none 0 0, .slice none 0 0] 25)
            have sG := bz.size
            try have nGH := kH.lt
            generalize (wd.alloc (.cells #[.bool false, .slice none 0 0, .slice none 0 0] 25)) = we at *
            first | generalize wd.heap.size = G at kG sG nGH ⊢ | generalize wd.heap.size = G at kG sG ⊢
            replace a1 := a1.below bb
            replace a2 := a2.below bb
            try replace oky1 := oky1.below bb
            try replace oky2 := oky2.below bb
            try replace kG := kG.below bb
            try replace kH := kH.below bb
            replace bz := below_on bz bb bz.size
            clear bb
            generalize we = wd at *
            refine hK.out _ _ ⟨a1.c0, a1.c1, a1.c2, a1.c3, a1.c4, a1.c5, a2.c0, a2.c1, a2.c2, a2.c3, a2.c4, a2.c5⟩ (fun hHeld => ?_)
            clear hK K
            try simp only [Act.put, List.setIfInBounds_toArray, List.set_cons_zero, List.set_cons_succ]
            refine wpAnyH_ready (rs := [8]) (by kernel_rfl) (by simp) ?_
            refine AllReadyH.cons rfl (fun K hK => ?_) ?_
            · have t := kG
              obtain ⟨k0, k1, k2, kf0, kf1, kf2, _, _⟩ := t
              go_simp
              clear k0 k1 k2 kf0 kf1 kf2
              have hk : Fa wd G Fx.nil := ⟨kG, Fx.nil_ok _⟩
              have aG := hk.put oky1
              have b1 := a1.far hk (a := .bool y1.b) (b := .slice y1.A y1.xs.length y1.c) (c := .slice y1.D y1.ys.length y1.d) (by omega)
              have b2 := a2.far hk (a := .bool y1.b) (b := .slice y1.A y1.xs.length y1.c) (c := .slice y1.D y1.ys.length y1.d) (by omega)
              have b3 := kH.far (H := G) (a := .bool y1.b) (b := .slice y1.A y1.xs.length y1.c) (c := .slice y1.D y1.ys.length y1.d) (by omega)
              have b4 : Fx.ok y2 (((wd.setCell ⟨G, 0, none⟩ (.bool y1.b)).setCell ⟨G, 1, none⟩ (.slice y1.A y1.xs.length y1.c)).setCell ⟨G, 2, none⟩ (.slice y1.D y1.ys.length y1.d)) := set3_ok oky2 hk.bk rfl rfl rfl
              have b5 := set3g (G := G) (a := .bool y1.b) (b := .slice y1.A y1.xs.length y1.c) (c := .slice y1.D y1.ys.length y1.d) bz (by omega)
              clear a1 a2 bz hk kG oky1 kH oky2
              generalize (((wd.setCell ⟨G, 0, none⟩ (.bool y1.b)).setCell ⟨G, 1, none⟩ (.slice y1.A y1.xs.length y1.c)).setCell ⟨G, 2, none⟩ (.slice y1.D y1.ys.length y1.d)) = we at *
              have a1 := b1
              have a2 := b2
              have bz := b5
              clear b1 b2 b5
              have kH := b3
              have oky2 := b4
              clear b3 b4
              clear hHeld
              generalize we = wd at *
              refine hK.out _ _ ⟨a1.c0, a1.c1, a1.c2, a1.c3, a1.c4, a1.c5, a2.c0, a2.c1, a2.c2, a2.c3, a2.c4, a2.c5⟩ (fun hHeld => ?_)
              clear hK K
              try simp only [Act.put, List.setIfInBounds_toArray, List.set_cons_zero, List.set_cons_succ]
              refine wpAnyH_ready (rs := [9]) (by kernel_rfl) (by simp) ?_
              refine AllReadyH.cons rfl (fun K hK => ?_) ?_
              · have t := kH
                obtain ⟨k0, k1, k2, kf0, kf1, kf2, _, _⟩ := t
                go_simp
                clear k0 k1 k2 kf0 kf1 kf2
                have hk : Fa wd H Fx.nil := ⟨kH, Fx.nil_ok _⟩
                have aH := hk.put oky2
                have b1 := a1.far hk (a := .bool y2.b) (b := .slice y2.A y2.xs.length y2.c) (c := .slice y2.D y2.ys.length y2.d) (by omega)
                have b2 := a2.far hk (a := .bool y2.b) (b := .slice y2.A y2.xs.length y2.c) (c := .slice y2.D y2.ys.length y2.d) (by omega)
                have b3 := aG.far hk (a := .bool y2.b) (b := .slice y2.A y2.xs.length y2.c) (c := .slice y2.D y2.ys.length y2.d) (by omega)
                have b5 := set3g (G := H) (a := .bool y2.b) (b := .slice y2.A y2.xs.length y2.c) (c := .slice y2.D y2.ys.length y2.d) bz (by omega)
                clear a1 a2 bz hk kH oky2 aG
                generalize (((wd.setCell ⟨H, 0, none⟩ (.bool y2.b)).setCell ⟨H, 1, none⟩ (.slice y2.A y2.xs.length y2.c)).setCell ⟨H, 2, none⟩ (.slice y2.D y2.ys.length y2.d)) = we at *
                have a1 := b1
                have a2 := b2
                have bz := b5
                clear b1 b2 b5
                have aG := b3
                clear b3
                clear hHeld
                generalize we = wd at *
                refine hK.out _ _ ⟨a1.c0, a1.c1, a1.c2, a1.c3, a1.c4, a1.c5, a2.c0, a2.c1, a2.c2, a2.c3, a2.c4, a2.c5⟩ (fun hHeld => ?_)
                clear hK K
                try simp only [Act.put, List.setIfInBounds_toArray, List.set_cons_zero, List.set_cons_succ]
                refine wpAnyH_done (by kernel_rfl) ?_ _
                go_wp2_with fail
                go_meet
                case rel => exact ⟨G, H, y1, y2, rfl, rfl, Py1.out, Py2.out, aG, aH, bz⟩
              exact AllReadyH.nil
            exact AllReadyH.nil
          exact AllReadyH.nil
        refine AllReadyH.cons rfl (fun K hK => ?_) ?_
        · go_simp
          have kG := bk3_new wd
          have bb := (Below.refl wd.heap.size wd).alloc (Nat.le_refl _) (.cells #[.bool false, .slice none 0 0, .slice none 0 0] 25)
          have sG := bz.size
          try have nGH := kH.lt
          generalize (wd.alloc (.cells #[.bool false, .slice none 0 0, .slice none 0 0] 25)) = we at *
          first | generalize wd.heap.size = G at kG sG nGH ⊢ | generalize wd.heap.size = G at kG sG ⊢
          replace a1 := a1.below bb
          replace a2 := a2.below bb
          try replace oky1 := oky1.below bb
          try replace oky2 := oky2.below bb
          try replace kG := kG.below bb
          try replace kH := kH.below bb
          replace bz := below_on bz bb bz.size
          clear bb
          generalize we = wd at *
          refine hK.out _ _ ⟨a1.c0, a1.c1, a1.c2, a1.c3, a1.c4, a1.c5, a2.c0, a2.c1, a2.c2, a2.c3, a2.c4, a2.c5⟩ (fun hHeld => ?_)
          clear hK K
          try simp only [Act.put, List.setIfInBounds_toArray, List.set_cons_zero, List.set_cons_succ]
          refine wpAnyH_ready (rs := [5]) (by kernel_rfl) (by simp) ?_
          refine AllReadyH.cons rfl (fun K hK => ?_) ?_
          · go_simp
            go_at_call 22
            refine (iwithin_any _ x2 n2 q2 a2.ok f2 H2.out hn2 HQ2.out).mono ?_
            rintro e wd ⟨y2, rfl, p, oky2, bb⟩
            have Py2 := Lib.hid p
            clear p
            replace a1 := a1.below bb
            replace a2 := a2.below bb
            try replace oky1 := oky1.below bb
            try replace oky2 := oky2.below bb
            try replace kG := kG.below bb
            try replace kH := kH.below bb
            replace bz := below_on bz bb bz.size
            clear bb
            try dsimp only
            refine hK.out _ _ ⟨a1.c0, a1.c1, a1.c2, a1.c3, a1.c4, a1.c5, a2.c0, a2.c1, a2.c2, a2.c3, a2.c4, a2.c5⟩ (fun hHeld => ?_)
            clear hK K
            try simp only [Act.put, List.setIfInBounds_toArray, List.set_cons_zero, List.set_cons_succ]
            refine wpAnyH_ready (rs := [8]) (by kernel_rfl) (by simp) ?_
            refine AllReadyH.cons rfl (fun K hK => ?_) ?_
            · have t := kG
              obtain ⟨k0, k1, k2, kf0, kf1, kf2, _, _⟩ := t
              go_simp
              clear k0 k1 k2 kf0 kf1 kf2
              have hk : Fa wd G Fx.nil := ⟨kG, Fx.nil_ok _⟩
              have aG := hk.put oky1
              have b1 := a1.far hk (a := .bool y1.b) (b := .slice y1.A y1.xs.length y1.c) (c := .slice y1.D y1.ys.length y1.d) (by omega)
              have b2 := a2.far hk (a := .bool y1.b) (b := .slice y1.A y1.xs.length y1.c) (c := .slice y1.D y1.ys.length y1.d) (by omega)
              have b3 := kH.far (H := G) (a := .bool y1.b) (b := .slice y1.A y1.xs.length y1.c) (c := .slice y1.D y1.ys.length y1.d) (by omega)
              have b4 : Fx.ok y2 (((wd.setCell ⟨G, 0, none⟩ (.bool y1.b)).setCell ⟨G, 1, none⟩ (.slice y1.A y1.xs.length y1.c)).setCell ⟨G, 2, none⟩ (.slice y1.D y1.ys.length y1.d)) := set3_ok oky2 hk.bk rfl rfl rfl
              have b5 := set3g (G := G) (a := .bool y1.b) (b := .slice y1.A y1.xs.length y1.c) (c := .slice y1.D y1.ys.length y1.d) bz (by omega)
              clear a1 a2 bz hk kG oky1 kH oky2
              generalize (((wd.setCell ⟨G, 0, none⟩ (.bool y1.b)).setCell ⟨G, 1, none⟩ (.slice y1.A y1.xs.length y1.c)).setCell ⟨G, 2, none⟩ (.slice y1.D y1.ys.length y1.d)) = we at *
              have a1 := b1
              have a2 := b2
              have bz := b5
              clear b1 b2 b5
              have kH := b3
              have oky2 := b4
              clear b3 b4
              clear hHeld
              generalize we = wd at *
              refine hK.out _ _ ⟨a1.c0, a1.c1, a1.c2, a1.c3, a1.c4, a1.c5, a2.c0, a2.c1, a2.c2, a2.c3, a2.c4, a2.c5⟩ (fun hHeld => ?_)
              clear hK K
              try simp only [Act.put, List.setIfInBounds_toArray, List.set_cons_zero, List.set_cons_succ]
              refine wpAnyH_ready (rs := [9]) (by kernel_rfl) (by simp) ?_
              refine AllReadyH.cons rfl (fun K hK => ?_) ?_
              · have t := kH
                obtain ⟨k0, k1, k2, kf0, kf1, kf2, _, _⟩ := t
                go_simp
                clear k0 k1 k2 kf0 kf1 kf2
                have hk : Fa wd H Fx.nil := ⟨kH, Fx.nil_ok _⟩
                have aH := hk.put oky2
                have b1 := a1.far hk (a := .bool y2.b) (b := .slice y2.A y2.xs.length y2.c) (c := .slice y2.D y2.ys.length y2.d) (by omega)
                have b2 := a2.far hk (a := .bool y2.b) (b := .slice y2.A y2.xs.length y2.c) (c := .slice y2.D y2.ys.length y2.d) (by omega)
                have b3 := aG.far hk (a := .bool y2.b) (b := .slice y2.A y2.xs.length y2.c) (c := .slice y2.D y2.ys.length y2.d) (by omega)
                have b5 := set3g (G := H) (a := .bool y2.b) (b := .slice y2.A y2.xs.length y2.c) (c := .slice y2.D y2.ys.length y2.d) bz (by omega)
                clear a1 a2 bz hk kH oky2 aG
                generalize (((wd.setCell ⟨H, 0, none⟩ (.bool y2.b)).setCell ⟨H, 1, none⟩ (.slice y2.A y2.xs.length y2.c)).setCell ⟨H, 2, none⟩ (.slice y2.D y2.ys.length y2.d)) = we at *
                have a1 := b1
                have a2 := b2
                have bz := b5
                clear b1 b2 b5
                have aG := b3
                clear b3
                clear hHeld
                generalize we = wd at *
                refine hK.out _ _ ⟨a1.c0, a1.c1, a1.c2, a1.c3, a1.c4, a1.c5, a2.c0, a2.c1, a2.c2, a2.c3, a2.c4, a2.c5⟩ (fun hHeld => ?_)
                clear hK K
                try simp only [Act.put, List.setIfInBounds_toArray, List.set_cons_zero, List.set_cons_succ]
                refine wpAnyH_done (by kernel_rfl) ?_ _
                go_wp2_with fail
                go_meet
                case rel => exact ⟨G, H, y1, y2, rfl, rfl, Py1.out, Py2.out, aG, aH, bz⟩
              exact AllReadyH.nil
            exact AllReadyH.nil
          exact AllReadyH.nil
        exact AllReadyH.nil
      exact AllReadyH.nil
    refine AllReadyH.cons rfl (fun K hK => ?_) ?_
    · go_simp
      have kG := bk3_new wd
      have bb := (Below.refl wd.heap.size wd).alloc (Nat.le_refl _) (.cells #[.bool false, .slice none 0 0, .slice none 0 0] 25)
      have sG := bz.size
      try have nGH := kH.lt
      generalize (wd.alloc (.cells #[.bool false, .slice none 0 0, .slice none 0 0] 25)) = we at *
      first | generalize wd.heap.size = G at kG sG nGH ⊢ | generalize wd.heap.size = G at kG sG ⊢
      replace a1 := a1.below bb
      replace a2 := a2.below bb
      try replace oky1 := oky1.below bb
      try replace oky2 := oky2.below bb
      try replace kG := kG.below bb
      try replace kH := kH.below bb
      replace bz := below_on bz bb bz.size
      clear bb
      generalize we = wd at *
      refine hK.out _ _ ⟨a1.c0, a1.c1, a1.c2, a1.c3, a1.c4, a1.c5, a2.c0, a2.c1, a2.c2, a2.c3, a2.c4, a2.c5⟩ (fun hHeld => ?_)
      clear hK K
      try simp only [Act.put, List.setIfInBounds_toArray, List.set_cons_zero, List.set_cons_succ]
      refine wpAnyH_ready (rs := [2, 7]) (by kernel_rfl) (by simp) ?_
      refine AllReadyH.cons rfl (fun K hK => ?_) ?_
      · go_simp
        go_at_call 22
        refine (iwithin_any _ x1 n1 q1 a1.ok f1 H1.out hn1 HQ1.out).mono ?_
        rintro e wd ⟨y1, rfl, p, oky1, bb⟩
        have Py1 := Lib.hid p
        clear p
        replace a1 := a1.below bb
        replace a2 := a2.below bb
        try replace oky1 := oky1.below bb
        try replace oky2 := oky2.below bb
        try replace kG := kG.below bb
        try replace kH := kH.below bb
        replace bz := below_on bz bb bz.size
        clear bb
        try dsimp only
        refine hK.out _ _ ⟨a1.c0, a1.c1, a1.c2, a1.c3, a1.c4, a1.c5, a2.c0, a2.c1, a2.c2, a2.c3, a2.c4, a2.c5⟩ (fun hHeld => ?_)
        clear hK K
        try simp only [Act.put, List.setIfInBounds_toArray, List.set_cons_zero, List.set_cons_succ]
        refine wpAnyH_ready (rs := [5, 7]) (by kernel_rfl) (by simp) ?_
        refine AllReadyH.cons rfl (fun K hK => ?_) ?_
        · go_simp
          go_at_call 22
          refine (iwithin_any _ x2 n2 q2 a2.ok f2 H2.out hn2 HQ2.out).mono ?_
          rintro e wd ⟨y2, rfl, p, oky2, bb⟩
          have Py2 := Lib.hid p
          clear p
          replace a1 := a1.below bb
          replace a2 := a2.below bb
          try replace oky1 := oky1.below bb
          try replace oky2 := oky2.below bb
          try replace kG := kG.below bb
          try replace kH := kH.below bb
          replace bz := below_on bz bb bz.size
          clear bb
          try dsimp only
          refine hK.out _ _ ⟨a1.c0, a1.c1, a1.c2, a1.c3, a1.c4, a1.c5, a2.c0, a2.c1, a2.c2, a2.c3, a2.c4, a2.c5⟩ (fun hHeld => ?_)
          clear hK K
          try simp only [Act.put, List.setIfInBounds_toArray, List.set_cons_zero, List.set_cons_succ]
          refine wpAnyH_ready (rs := [7]) (by kernel_rfl) (by simp) ?_
          refine AllReadyH.cons rfl (fun K hK => ?_) ?_
          · go_simp
            have kH := bk3_new wd
            have bb := (Below.refl wd.heap.size wd).alloc (Nat.le_refl _) (.cells #[.bool false, .slice none 0 0, .slice none 0 0] 25)
            have sH := bz.size
            try have nGH := kG.lt
            generalize (wd.alloc (.cells #[.bool false, .slice none 0 0, .slice none 0 0] 25)) = we at *
            first | generalize wd.heap.size = H at kH sH nGH ⊢ | generalize wd.heap.size = H at kH sH ⊢
            replace a1 := a1.below bb
            replace a2 := a2.below bb
            try replace oky1 := oky1.below bb
            try replace oky2 := oky2.below bb
            try replace kG := kG.below bb
            try replace kH := kH.below bb
            replace bz := below_on bz bb bz.size
            clear bb
            generalize we = wd at *
            refine hK.out _ _ ⟨a1.c0, a1.c1, a1.c2, a1.c3, a1.c4, a1.c5, a2.c0, a2.c1, a2.c2, a2.c3, a2.c4, a2.c5⟩ (fun hHeld => ?_)
            clear hK K
            try simp only [Act.put, List.setIfInBounds_toArray, List.set_cons_zero, List.set_cons_succ]
            refine wpAnyH_ready (rs := [8]) (by kernel_rfl) (by simp) ?_
            refine AllReadyH.cons rfl (fun K hK => ?_) ?_
            · have t := kG
              obtain ⟨k0, k1, k2, kf0, kf1, kf2, _, _⟩ := t
              go_simp
              clear k0 k1 k2 kf0 kf1 kf2
              have hk : Fa wd G Fx.nil := ⟨kG, Fx.nil_ok _⟩
              have aG := hk.put oky1
              have b1 := a1.far hk (a := .bool y1.b) (b := .slice y1.A y1.xs.length y1.c) (c := .slice y1.D y1.ys.length y1.d) (by omega)
              have b2 := a2.far hk (a := .bool y1.b) (b := .slice y1.A y1.xs.length y1.c) (c := .slice y1.D y1.ys.length y1.d) (by omega)
              have b3 := kH.far (H := G) (a := .bool y1.b) (b := .slice y1.A y1.xs.length y1.c) (c := .slice y1.D y1.ys.length y1.d) (by omega)
              have b4 : Fx.ok y2 (((wd.setCell ⟨G, 0, none⟩ (.bool y1.b)).setCell ⟨G, 1, none⟩ (.slice y1.A y1.xs.length y1.c)).setCell ⟨G, 2, none⟩ (.slice y1.D y1.ys.length y1.d)) := set3_ok oky2 hk.bk rfl rfl rfl
              have b5 := set3g (G := G) (a := .bool y1.b) (b := .slice y1.A y1.xs.length y1.c) (c := .slice y1.D y1.ys.length y1.d) bz (by omega)
              clear a1 a2 bz hk kG oky1 kH oky2
              generalize (((wd.setCell ⟨G, 0, none⟩ (.bool y1.b)).setCell ⟨G, 1, none⟩ (.slice y1.A y1.xs.length y1.c)).setCell ⟨G, 2, none⟩ (.slice y1.D y1.ys.length y1.d)) = we at *
              have a1 := b1
              have a2 := b2
              have bz := b5
              clear b1 b2 b5
              have kH := b3
              have oky2 := b4
              clear b3 b4
              clear hHeld
              generalize we = wd at *
              refine hK.out _ _ ⟨a1.c0, a1.c1, a1.c2, a1.c3, a1.c4, a1.c5, a2.c0, a2.c1, a2.c2, a2.c3, a2.c4, a2.c5⟩ (fun hHeld => ?_)
              clear hK K
              try simp only [Act.put, List.setIfInBounds_toArray, List.set_cons_zero, List.set_cons_succ]
              refine wpAnyH_ready (rs := [9]) (by kernel_rfl) (by simp) ?_
              refine AllReadyH.cons rfl (fun K hK => ?_) ?_
              · have t := kH
                obtain ⟨k0, k1, k2, kf0, kf1, kf2, _, _⟩ := t
                go_simp
                clear k0 k1 k2 kf0 kf1 kf2
                have hk : Fa wd H Fx.nil := ⟨kH, Fx.nil_ok _⟩
                have aH := hk.put oky2
                have b1 := a1.far hk (a := .bool y2.b) (b := .slice y2.A y2.xs.length y2.c) (c := .slice y2.D y2.ys.length y2.d) (by omega)
                have b2 := a2.far hk (a := .bool y2.b) (b := .slice y2.A y2.xs.length y2.c) (c := .slice y2.D y2.ys.length y2.d) (by omega)
                have b3 := aG.far hk (a := .bool y2.b) (b := .slice y2.A y2.xs.length y2.c) (c := .slice y2.D y2.ys.length y2.d) (by omega)
                have b5 := set3g (G := H) (a := .bool y2.b) (b := .slice y2.A y2.xs.length y2.c) (c := .slice y2.D y2.ys.length y2.d) bz (by omega)
                clear a1 a2 bz hk kH oky2 aG
                generalize (((wd.setCell ⟨H, 0, none⟩ (.bool y2.b)).setCell ⟨H, 1, none⟩ (.slice y2.A y2.xs.length y2.c)).setCell ⟨H, 2, none⟩ (.slice y2.D y2.ys.length y2.d)) = we at *
                have a1 := b1
                have a2 := b2
                have bz := b5
                clear b1 b2 b5
                have aG := b3
                clear b3
                clear hHeld
                generalize we = wd at *
                refine hK.out _ _ ⟨a1.c0, a1.c1, a1.c2, a1.c3, a1.c4, a1.c5, a2.c0, a2.c1, a2.c2, a2.c3, a2.c4, a2.c5⟩ (fun hHeld => ?_)
                clear hK K
                try simp only [Act.put, List.setIfInBounds_toArray, List.set_cons_zero, List.set_cons_succ]
                refine wpAnyH_done (by kernel_rfl) ?_ _
                go_wp2_with fail
                go_meet
                case rel => exact ⟨G, H, y1, y2, rfl, rfl, Py1.out, Py2.out, aG, aH, bz⟩
              exact AllReadyH.nil
            exact AllReadyH.nil
          exact AllReadyH.nil
        refine AllReadyH.cons rfl (fun K hK => ?_) ?_
        · go_simp
          have kH := bk3_new wd
          have bb := (Below.refl wd.heap.size wd).alloc (Nat.le_refl _) (.cells #[.bool false, .slice none 0 0, .slice none 0 0] 25)
          have sH := bz.size
          try have nGH := kG.lt
          generalize (wd.alloc (.cells #[.bool false, .slice none 0 0, .slice none 0 0] 25)) = we at *
          first | generalize wd.heap.size = H at kH sH nGH ⊢ | generalize wd.heap.size = H at kH sH ⊢
          replace a1 := a1.below bb
          replace a2 := a2.below bb
          try replace oky1 := oky1.below bb
          try replace oky2 := oky2.below bb
          try replace kG := kG.below bb
          try replace kH := kH.below bb
          replace bz := below_on bz bb bz.size
          clear bb
          generalize we = wd at *
          refine hK.out _ _ ⟨a1.c0, a1.c1, a1.c2, a1.c3, a1.c4, a1.c5, a2.c0, a2.c1, a2.c2, a2.c3, a2.c4, a2.c5⟩ (fun hHeld => ?_)
          clear hK K
          try simp only [Act.put, List.setIfInBounds_toArray, List.set_cons_zero, List.set_cons_succ]
          refine wpAnyH_ready (rs := [5]) (by kernel_rfl) (by simp) ?_
          refine AllReadyH.cons rfl (fun K hK => ?_) ?_
          · go_simp
            go_at_call 22
            refine (iwithin_any _ x2 n2 q2 a2.ok f2 H2.out hn2 HQ2.out).mono ?_
            rintro e wd ⟨y2, rfl, p, oky2, bb⟩
            have Py2 := Lib.hid p
            clear p
            replace a1 := a1.below bb
            replace a2 := a2.below bb
            try replace oky1 := oky1.below bb
            try replace oky2 := oky2.below bb
            try replace kG := kG.below bb
            try replace kH := kH.below bb
            replace bz := below_on bz bb bz.size
            clear bb
            try dsimp only
            refine hK.out _ _ ⟨a1.c0, a1.c1, a1.c2, a1.c3, a1.c4, a1.c5, a2.c0, a2.c1, a2.c2, a2.c3, a2.c4, a2.c5⟩ (fun hHeld => ?_)
            clear hK K
            try simp only [Act.put, List.setIfInBounds_toArray, List.set_cons_zero, List.set_cons_succ]
            refine wpAnyH_ready (rs := [8]) (by kernel_rfl) (by simp) ?_
            refine AllReadyH.cons rfl (fun K hK => ?_) ?_
            · have t := kG
              obtain ⟨k0, k1, k2, kf0, kf1, kf2, _, _⟩ := t
              go_simp
              clear k0 k1 k2 kf0 kf1 kf2
              have hk : Fa wd G Fx.nil := ⟨kG, Fx.nil_ok _⟩
              have aG := hk.put oky1
              have b1 := a1.far hk (a := .bool y1.b) (b := .slice y1.A y1.xs.length y1.c) (c := .slice y1.D y1.ys.length y1.d) (by omega)
              have b2 := a2.far hk (a := .bool y1.b) (b := .slice y1.A y1.xs.length y1.c) (c := .slice y1.D y1.ys.length y1.d) (by omega)
              have b3 := kH.far (H := G) (a := .bool y1.b) (b := .slice y1.A y1.xs.length y1.c) (c := .slice y1.D y1.ys.length y1.d) (by omega)
              have b4 : Fx.ok y2 (((wd.setCell ⟨G, 0, none⟩ (.bool y1.b)).setCell ⟨G, 1, none⟩ (.slice y1.A y1.xs.length y1.c)).setCell ⟨G, 2, none⟩ (.slice y1.D y1.ys.length y1.d)) := set3_ok oky2 hk.bk rfl rfl rfl
              have b5 := set3g (G := G) (a := .bool y1.b) (b := .slice y1.A y1.xs.length y1.c) (c := .slice y1.D y1.ys.length y1.d) bz (by omega)
              clear a1 a2 bz hk kG oky1 kH oky2
              generalize (((wd.setCell ⟨G, 0, none⟩ (.bool y1.b)).setCell ⟨G, 1, none⟩ (.slice y1.A y1.xs.length y1.c)).setCell ⟨G, 2, none⟩ (.slice y1.D y1.ys.length y1.d)) = we at *
              have a1 := b1
              have a2 := b2
              have bz := b5
              clear b1 b2 b5
              have kH := b3
              have oky2 := b4
              clear b3 b4
              clear hHeld
              generalize we = wd at *
              refine hK.out _ _ ⟨a1.c0, a1.c1, a1.c2, a1.c3, a1.c4, a1.c5, a2.c0, a2.c1, a2.c2, a2.c3, a2.c4, a2.c5⟩ (fun hHeld => ?_)
              clear hK K
              try simp only [Act.put, List.setIfInBounds_toArray, List.set_cons_zero, List.set_cons_succ]
              refine wpAnyH_ready (rs := [9]) (by kernel_rfl) (by simp) ?_
              refine AllReadyH.cons rfl (fun K hK => ?_) ?_
              · have t := kH
                obtain ⟨k0, k1, k2, kf0, kf1, kf2, _, _⟩ := t
                go_simp
                clear k0 k1 k2 kf0 kf1 kf2
                have hk : Fa wd H Fx.nil := ⟨kH, Fx.nil_ok _⟩
                have aH := hk.put oky2
                have b1 := a1.far hk (a := .bool y2.b) (b := .slice y2.A y2.xs.length y2.c) (c := .slice y2.D y2.ys.length y2.d) (by omega)
                have b2 := a2.far hk (a := .bool y2.b) (b := .slice y2.A y2.xs.length y2.c) (c := .slice y2.D y2.ys.length y2.d) (by omega)
                have b3 := aG.far hk (a := .bool y2.b) (b := .slice y2.A y2.xs.length y2.c) (c := .slice y2.D y2.ys.length y2.d) (by omega)
                have b5 := set3g (G := H) (a := .bool y2.b) (b := .slice y2.A y2.xs.length y2.c) (c := .slice y2.D y2.ys.length y2.d) bz (by omega)
                clear a1 a2 bz hk kH oky2 aG
                generalize (((wd.setCell ⟨H, 0, none⟩ (.bool y2.b)).setCell ⟨H, 1, none⟩ (.slice y2.A y2.xs.length y2.c)).setCell ⟨H, 2, none⟩ (.slice y2.D y2.ys.length y2.d)) = we at *
                have a1 := b1
                have a2 := b2
                have bz := b5
                clear b1 b2 b5
                have aG := b3
                clear b3
                clear hHeld
                generalize we = wd at *
                refine hK.out _ _ ⟨a1.c0, a1.c1, a1.c2, a1.c3, a1.c4, a1.c5, a2.c0, a2.c1, a2.c2, a2.c3, a2.c4, a2.c5⟩ (fun hHeld => ?_)
                clear hK K
                try simp only [Act.put, List.setIfInBounds_toArray, List.set_cons_zero, List.set_cons_succ]
                refine wpAnyH_done (by kernel_rfl) ?_ _
                go_wp2_with fail
                go_meet
                case rel => exact ⟨G, H, y1, y2, rfl, rfl, Py1.out, Py2.out, aG, aH, bz⟩
              exact AllReadyH.nil
            exact AllReadyH.nil
          exact AllReadyH.nil
        exact AllReadyH.nil
      refine AllReadyH.cons rfl (fun K hK => ?_) ?_
      · go_simp
        have kH := bk3_new wd
        have bb := (Below.refl wd.heap.size wd).alloc (Nat.le_refl _) (.cells #[.bool false, .slice none 0 0, .slice none 0 0] 25)
        have sH := bz.size
        try have nGH := kG.lt
        generalize (wd.alloc (.cells #[.bool false, .slice none 0 0, .slice none 0 0] 25)) = we at *
        first | generalize wd.heap.size = H at kH sH nGH ⊢ | generalize wd.heap.size = H at kH sH ⊢
        replace a1 := a1.below bb
        replace a2 := a2.below bb
        try replace oky1 := oky1.below bb
        try replace oky2 := oky2.below bb
        try replace kG := kG.below bb
        try replace kH := kH.below bb
        replace bz := below_on bz bb bz.size
        clear bb
        generalize we = wd at *
        refine hK.out _ _ ⟨a1.c0, a1.c1, a1.c2, a1.c3, a1.c4, a1.c5, a2.c0, a2.c1, a2.c2, a2.c3, a2.c4, a2.c5⟩ (fun hHeld => ?_)
        clear hK K
        try simp only [Act.put, List.setIfInBounds_toArray, List.set_cons_zero, List.set_cons_succ]
        refine wpAnyH_ready (rs := [2]) (by kernel_rfl) (by simp) ?_
        refine AllReadyH.cons rfl (fun K hK => ?_) ?_
        · go_simp
          go_at_call 22
          refine (iwithin_any _ x1 n1 q1 a1.ok f1 H1.out hn1 HQ1.out).mono ?_
          rintro e wd ⟨y1, rfl, p, oky1, bb⟩
          have Py1 := Lib.hid p
          clear p
          replace a1 := a1.below bb
          replace a2 := a2.below bb
          try replace oky1 := oky1.below bb
          try replace oky2 := oky2.below bb
          try replace kG := kG.below bb
          try replace kH := kH.below bb
          replace bz := below_on bz bb bz.size
          clear bb
          try dsimp only
          refine hK.out _ _ ⟨a1.c0, a1.c1, a1.c2, a1.c3, a1.c4, a1.c5, a2.c0, a2.c1, a2.c2, a2.c3, a2.c4, a2.c5⟩ (fun hHeld => ?_)
          clear hK K
          try simp only [Act.put, List.setIfInBounds_toArray, List.set_cons_zero, List.set_cons_succ]
          refine wpAnyH_ready (rs := [5]) (by kernel_rfl) (by simp) ?_
          refine AllReadyH.cons rfl (fun K hK => ?_) ?_
          · go_simp
            go_at_call 22
            refine (iwithin_any _ x2 n2 q2 a2.ok f2 H2.out hn2 HQ2.out).mono ?_
            rintro e wd ⟨y2, rfl, p, oky2, bb⟩
            have Py2 := Lib.hid p
            clear p
            replace a1 := a1.below bb
            replace a2 := a2.below bb
            try replace oky1 := oky1.below bb
            try replace oky2 := oky2.below bb
            try replace kG := kG.below bb
            try replace kH := kH.below bb
            replace bz := below_on bz bb bz.size
            clear bb
            try dsimp only
            refine hK.out _ _ ⟨a1.c0, a1.c1, a1.c2, a1.c3, a1.c4, a1.c5, a2.c0, a2.c1, a2.c2, a2.c3, a2.c4, a2.c5⟩ (fun hHeld => ?_)
            clear hK K
            try simp only [Act.put, List.setIfInBounds_toArray, List.set_cons_zero, List.set_cons_succ]
            refine wpAnyH_ready (rs := [8]) (by kernel_rfl) (by simp) ?_
            refine AllReadyH.cons rfl (fun K hK => ?_) ?_
            · have t := kG
              obtain ⟨k0, k1, k2, kf0, kf1, kf2, _, _⟩ := t
              go_simp
              clear k0 k1 k2 kf0 kf1 kf2
              have hk : Fa wd G Fx.nil := ⟨kG, Fx.nil_ok _⟩
              have aG := hk.put oky1
              have b1 := a1.far hk (a := .bool y1.b) (b := .slice y1.A y1.xs.length y1.c) (c := .slice y1.D y1.ys.length y1.d) (by omega)
              have b2 := a2.far hk (a := .bool y1.b) (b := .slice y1.A y1.xs.length y1.c) (c := .slice y1.D y1.ys.length y1.d) (by omega)
              have b3 := kH.far (H := G) (a := .bool y1.b) (b := .slice y1.A y1.xs.length y1.c) (c := .slice y1.D y1.ys.length y1.d) (by omega)
              have b4 : Fx.ok y2 (((wd.setCell ⟨G, 0, none⟩ (.bool y1.b)).setCell ⟨G, 1, none⟩ (.slice y1.A y1.xs.length y1.c)).setCell ⟨G, 2, none⟩ (.slice y1.D y1.ys.length y1.d)) := set3_ok oky2 hk.bk rfl rfl rfl
              have b5 := set3g (G := G) (a := .bool y1.b) (b := .slice y1.A y1.xs.length y1.c) (c := .slice y1.D y1.ys.length y1.d) bz (by omega)
              clear a1 a2 bz hk kG oky1 kH oky2
              generalize (((wd.setCell ⟨G, 0, none⟩ (.bool y1.b)).setCell ⟨G, 1, none⟩ (.slice y1.A y1.xs.length y1.c)).setCell ⟨G, 2, none⟩ (.slice y1.D y1.ys.length y1.d)) = we at *
              have a1 := b1
              have a2 := b2
              have bz := b5
              clear b1 b2 b5
              have kH := b3
              have oky2 := b4
              clear b3 b4
              clear hHeld
              generalize we = wd at *
              refine hK.out _ _ ⟨a1.c0, a1.c1, a1.c2, a1.c3, a1.c4, a1.c5, a2.c0, a2.c1, a2.c2, a2.c3, a2.c4, a2.c5⟩ (fun hHeld => ?_)
              clear hK K
              try simp only [Act.put, List.setIfInBounds_toArray, List.set_cons_zero, List.set_cons_succ]
              refine wpAnyH_ready (rs := [9]) (by kernel_rfl) (by simp) ?_
              refine AllReadyH.cons rfl (fun K hK => ?_) ?_
              · have t := kH
                obtain ⟨k0, k1, k2, kf0, kf1, kf2, _, _⟩ := t
                go_simp
                clear k0 k1 k2 kf0 kf1 kf2
                have hk : Fa wd H Fx.nil := ⟨kH, Fx.nil_ok _⟩
                have aH := hk.put oky2
                have b1 := a1.far hk (a := .bool y2.b) (b := .slice y2.A y2.xs.length y2.c) (c := .slice y2.D y2.ys.length y2.d) (by omega)
                have b2 := a2.far hk (a := .bool y2.b) (b := .slice y2.A y2.xs.length y2.c) (c := .slice y2.D y2.ys.length y2.d) (by omega)
                have b3 := aG.far hk (a := .bool y2.b) (b := .slice y2.A y2.xs.length y2.c) (c := .slice y2.D y2.ys.length y2.d) (by omega)
                have b5 := set3g (G := H) (a := .bool y2.b) (b := .slice y2.A y2.xs.length y2.c) (c := .slice y2.D y2.ys.length y2.d) bz (by omega)
                clear a1 a2 bz hk kH oky2 aG
                generalize (((wd.setCell ⟨H, 0, none⟩ (.bool y2.b)).setCell ⟨H, 1, none⟩ (.slice y2.A y2.xs.length y2.c)).setCell ⟨H, 2, none⟩ (.slice y2.D y2.ys.length y2.d)) = we at *
                have a1 := b1
                have a2 := b2
                have bz := b5
                clear b1 b2 b5
                have aG := b3
                clear b3
                clear hHeld
                generalize we = wd at *
                refine hK.out _ _ ⟨a1.c0, a1.c1, a1.c2, a1.c3, a1.c4, a1.c5, a2.c0, a2.c1, a2.c2, a2.c3, a2.c4, a2.c5⟩ (fun hHeld => ?_)
                clear hK K
                try simp only [Act.put, List.setIfInBounds_toArray, List.set_cons_zero, List.set_cons_succ]
                refine wpAnyH_done (by kernel_rfl) ?_ _
                go_wp2_with fail
                go_meet
                case rel => exact ⟨G, H, y1, y2, rfl, rfl, Py1.out, Py2.out, aG, aH, bz⟩
              exact AllReadyH.nil
            exact AllReadyH.nil
          exact AllReadyH.nil
        exact AllReadyH.nil
      exact AllReadyH.nil
    refine AllReadyH.cons rfl (fun K hK => ?_) ?_
    · go_simp
      have kH := bk3_new wd
      have bb := (Below.refl wd.heap.size wd).alloc (Nat.le_refl _) (.cells #[.bool false, .slice none 0 0, .slice none 0 0] 25)
      have sH := bz.size
      try have nGH := kG.lt
      generalize (wd.alloc (.cells #[.bool false, .slice none 0 0, .slice none 0 0] 25)) = we at *
      first | generalize wd.heap.size = H at kH sH nGH ⊢ | generalize wd.heap.size = H at kH sH ⊢
      replace a1 := a1.below bb
      replace a2 := a2.below bb
      try replace oky1 := oky1.below bb
      try replace oky2 := oky2.below bb
      try replace kG := kG.below bb
      try replace kH := kH.below bb
      replace bz := below_on bz bb bz.size
      clear bb
      generalize we = wd at *
      refine hK.out _ _ ⟨a1.c0, a1.c1, a1.c2, a1.c3, a1.c4, a1.c5, a2.c0, a2.c1, a2.c2, a2.c3, a2.c4, a2.c5⟩ (fun hHeld => ?_)
      clear hK K
      try simp only [Act.put, List.setIfInBounds_toArray, List.set_cons_zero, List.set_cons_succ]
      refine wpAnyH_ready (rs := [2, 6]) (by kernel_rfl) (by simp) ?_
      refine AllReadyH.cons rfl (fun K hK => ?_) ?_
      · go_simp
        go_at_call 22
        refine (iwithin_any _ x1 n1 q1 a1.ok f1 H1.out hn1 HQ1.out).mono ?_
        rintro e wd ⟨y1, rfl, p, oky1, bb⟩
        have Py1 := Lib.hid p
        clear p
        replace a1 := a1.below bb
        replace a2 := a2.below bb
        try replace oky1 := oky1.below bb
        try replace oky2 := oky2.below bb
        try replace kG := kG.below bb
        try replace kH := kH.below bb
        replace bz := below_on bz bb bz.size
        clear bb
        try dsimp only
        refine hK.out _ _ ⟨a1.c0, a1.c1, a1.c2, a1.c3, a1.c4, a1.c5, a2.c0, a2.c1, a2.c2, a2.c3, a2.c4, a2.c5⟩ (fun hHeld => ?_)
        clear hK K
        try simp only [Act.put, List.setIfInBounds_toArray, List.set_cons_zero, List.set_cons_succ]
        refine wpAnyH_ready (rs := [5, 6]) (by kernel_rfl) (by simp) ?_
        refine AllReadyH.cons rfl (fun K hK => ?_) ?_
        · go_simp
          go_at_call 22
          refine (iwithin_any _ x2 n2 q2 a2.ok f2 H2.out hn2 HQ2.out).mono ?_
          rintro e wd ⟨y2, rfl, p, oky2, bb⟩
          have Py2 := Lib.hid p
          clear p
          replace a1 := a1.below bb
          replace a2 := a2.below bb
          try replace oky1 := oky1.below bb
          try replace oky2 := oky2.below bb
          try replace kG := kG.below bb
          try replace kH := kH.below bb
          replace bz := below_on bz bb bz.size
          clear bb
          try dsimp only
          refine hK.out _ _ ⟨a1.c0, a1.c1, a1.c2, a1.c3, a1.c4, a1.c5, a2.c0, a2.c1, a2.c2, a2.c3, a2.c4, a2.c5⟩ (fun hHeld => ?_)
          clear hK K
          try simp only [Act.put, List.setIfInBounds_toArray, List.set_cons_zero, List.set_cons_succ]
          refine wpAnyH_ready (rs := [6]) (by kernel_rfl) (by simp) ?_
          refine AllReadyH.cons rfl (fun K hK => ?_) ?_
          · go_simp
            have kG := bk3_new wd
            have bb := (Below.refl wd.heap.size wd).alloc (Nat.le_refl _) (.cells #[.bool false, .slice none 0 0, .slice none 0 0] 25)
            have sG := bz.size
            try have nGH := kH.lt
            generalize (wd.alloc (.cells #[.bool false, .slice none 0 0, .slice none 0 0] 25)) = we at *
            first | generalize wd.heap.size = G at kG sG nGH ⊢ | generalize wd.heap.size = G at kG sG ⊢
            replace a1 := a1.below bb
            replace a2 := a2.below bb
            try replace oky1 := oky1.below bb
            try replace oky2 := oky2.below bb
            try replace kG := kG.below bb
            try replace kH := kH.below bb
            replace bz := below_on bz bb bz.size
            clear bb
            generalize we = wd at *
            refine hK.out _ _ ⟨a1.c0, a1.c1, a1.c2, a1.c3, a1.c4, a1.c5, a2.c0, a2.c1, a2.c2, a2.c3, a2.c4, a2.c5⟩ (fun hHeld => ?_)
            clear hK K
            try simp only [Act.put, List.setIfInBounds_toArray, List.set_cons_zero, List.set_cons_succ]
            refine wpAnyH_ready (rs := [8]) (by kernel_rfl) (by simp) ?_
            refine AllReadyH.cons rfl (fun K hK => ?_) ?_
            · have t := kG
              obtain ⟨k0, k1, k2, kf0, kf1, kf2, _, _⟩ := t
              go_simp
              clear k0 k1 k2 kf0 kf1 kf2
              have hk : Fa wd G Fx.nil := ⟨kG, Fx.nil_ok _⟩
              have aG := hk.put oky1
              have b1 := a1.far hk (a := .bool y1.b) (b := .slice y1.A y1.xs.length y1.c) (c := .slice y1.D y1.ys.length y1.d) (by omega)
              have b2 := a2.far hk (a := .bool y1.b) (b := .slice y1.A y1.xs.length y1.c) (c := .slice y1.D y1.ys.length y1.d) (by omega)
              have b3 := kH.far (H := G) (a := .bool y1.b) (b := .slice y1.A y1.xs.length y1.c) (c := .slice y1.D y1.ys.length y1.d) (by omega)
              have b4 : Fx.ok y2 (((wd.setCell ⟨G, 0, none⟩ (.bool y1.b)).setCell ⟨G, 1, none⟩ (.slice y1.A y1.xs.length y1.c)).setCell ⟨G, 2, none⟩ (.slice y1.D y1.ys.length y1.d)) := set3_ok oky2 hk.bk rfl rfl rfl
              have b5 := set3g (G := G) (a := .bool y1.b) (b := .slice y1.A y1.xs.length y1.c) (c := .slice y1.D y1.ys.length y1.d) bz (by omega)
              clear a1 a2 bz hk kG oky1 kH oky2
              generalize (((wd.setCell ⟨G, 0, none⟩ (.bool y1.b)).setCell ⟨G, 1, none⟩ (.slice y1.A y1.xs.length y1.c)).setCell ⟨G, 2, none⟩ (.slice y1.D y1.ys.length y1.d)) = we at *
              have a1 := b1
              have a2 := b2
              have bz := b5
              clear b1 b2 b5
              have kH := b3
              have oky2 := b4
              clear b3 b4
              clear hHeld
              generalize we = wd at *
              refine hK.out _ _ ⟨a1.c0, a1.c1, a1.c2, a1.c3, a1.c4, a1.c5, a2.c0, a2.c1, a2.c2, a2.c3, a2.c4, a2.c5⟩ (fun hHeld => ?_)
              clear hK K
              try simp only [Act.put, List.setIfInBounds_toArray, List.set_cons_zero, List.set_cons_succ]
              refine wpAnyH_ready (rs := [9]) (by kernel_rfl) (by simp) ?_
              refine AllReadyH.cons rfl (fun K hK => ?_) ?_
              · have t := kH
                obtain ⟨k0, k1, k2, kf0, kf1, kf2, _, _⟩ := t
                go_simp
                clear k0 k1 k2 kf0 kf1 kf2
                have hk : Fa wd H Fx.nil := ⟨kH, Fx.nil_ok _⟩
                have aH := hk.put oky2
                have b1 := a1.far hk (a := .bool y2.b) (b := .slice y2.A y2.xs.length y2.c) (c := .slice y2.D y2.ys.length y2.d) (by omega)
                have b2 := a2.far hk (a := .bool y2.b) (b := .slice y2.A y2.xs.length y2.c) (c := .slice y2.D y2.ys.length y2.d) (by omega)
                have b3 := aG.far hk (a := .bool y2.b) (b := .slice y2.A y2.xs.length y2.c) (c := .slice y2.D y2.ys.length y2.d) (by omega)
                have b5 := set3g (G := H) (a := .bool y2.b) (b := .slice y2.A y2.xs.length y2.c) (c := .slice y2.D y2.ys.length y2.d) bz (by omega)
                clear a1 a2 bz hk kH oky2 aG
                generalize (((wd.setCell ⟨H, 0, none⟩ (.bool y2.b)).setCell ⟨H, 1, none⟩ (.slice y2.A y2.xs.length y2.c)).setCell ⟨H, 2, none⟩ (.slice y2.D y2.ys.length y2.d)) = we at *
                have a1 := b1
                have a2 := b2
                have bz := b5
                clear b1 b2 b5
                have aG := b3
                clear b3
                clear hHeld
                generalize we = wd at *
                refine hK.out _ _ ⟨a1.c0, a1.c1, a1.c2, a1.c3, a1.c4, a1.c5, a2.c0, a2.c1, a2.c2, a2.c3, a2.c4, a2.c5⟩ (fun hHeld => ?_)
                clear hK K
                try simp only [Act.put, List.setIfInBounds_toArray, List.set_cons_zero, List.set_cons_succ]
                refine wpAnyH_done (by kernel_rfl) ?_ _
                go_wp2_with fail
                go_meet
                case rel => exact ⟨G, H, y1, y2, rfl, rfl, Py1.out, Py2.out, aG, aH, bz⟩
              exact AllReadyH.nil
            exact AllReadyH.nil
          exact AllReadyH.nil
        refine AllReadyH.cons rfl (fun K hK => ?_) ?_
        · go_simp
          have kG := bk3_new wd
          have bb := (Below.refl wd.heap.size wd).alloc (Nat.le_refl _) (.cells #[.bool false, .slice none 0 0, .slice none 0 0] 25)
          have sG := bz.size
          try have nGH := kH.lt
          generalize (wd.alloc (.cells #[.bool false, .slice none 0 0, .slice none 0 0] 25)) = we at *
          first | generalize wd.heap.size = G at kG sG nGH ⊢ | generalize wd.heap.size = G at kG sG ⊢
          replace a1 := a1.below bb
          replace a2 := a2.below bb
          try replace oky1 := oky1.below bb
          try replace oky2 := oky2.below bb
          try replace kG := kG.below bb
          try replace kH := kH.below bb
          replace bz := below_on bz bb bz.size
          clear bb
          generalize we = wd at *
          refine hK.out _ _ ⟨a1.c0, a1.c1, a1.c2, a1.c3, a1.c4, a1.c5, a2.c0, a2.c1, a2.c2, a2.c3, a2.c4, a2.c5⟩ (fun hHeld => ?_)
          clear hK K
          try simp only [Act.put, List.setIfInBounds_toArray, List.set_cons_zero, List.set_cons_succ]
          refine wpAnyH_ready (rs := [5]) (by kernel_rfl) (by simp) ?_
          refine AllReadyH.cons rfl (fun K hK => ?_) ?_
          · go_simp
            go_at_call 22
            refine (iwithin_any _ x2 n2 q2 a2.ok f2 H2.out hn2 HQ2.out).mono ?_
            rintro e wd ⟨y2, rfl, p, oky2, bb⟩
            have Py2 := Lib.hid p
            clear p
            replace a1 := a1.below bb
            replace a2 := a2.below bb
            try replace oky1 := oky1.below bb
            try replace oky2 := oky2.below bb
            try replace kG := kG.below bb
            try replace kH := kH.below bb
            replace bz := below_on bz bb bz.size
            clear bb
            try dsimp only
            refine hK.out _ _ ⟨a1.c0, a1.c1, a1.c2, a1.c3, a1.c4, a1.c5, a2.c0, a2.c1, a2.c2, a2.c3, a2.c4, a2.c5⟩ (fun hHeld => ?_)
            clear hK K
            try simp only [Act.put, List.setIfInBounds_toArray, List.set_cons_zero, List.set_cons_succ]
            refine wpAnyH_ready (rs := [8]) (by kernel_rfl) (by simp) ?_
            refine AllReadyH.cons rfl (fun K hK => ?_) ?_
            · have t := kG
              obtain ⟨k0, k1, k2, kf0, kf1, kf2, _, _⟩ := t
              go_simp
              clear k0 k1 k2 kf0 kf1 kf2
              have hk : Fa wd G Fx.nil := ⟨kG, Fx.nil_ok _⟩
              have aG := hk.put oky1
              have b1 := a1.far hk (a := .bool y1.b) (b := .slice y1.A y1.xs.length y1.c) (c := .slice y1.D y1.ys.length y1.d) (by omega)
              have b2 := a2.far hk (a := .bool y1.b) (b := .slice y1.A y1.xs.length y1.c) (c := .slice y1.D y1.ys.length y1.d) (by omega)
              have b3 := kH.far (H := G) (a := .bool y1.b) (b := .slice y1.A y1.xs.length y1.c) (c := .slice y1.D y1.ys.length y1.d) (by omega)
              have b4 : Fx.ok y2 (((wd.setCell ⟨G, 0, none⟩ (.bool y1.b)).setCell ⟨G, 1, none⟩ (.slice y1.A y1.xs.length y1.c)).setCell ⟨G, 2, none⟩ (.slice y1.D y1.ys.length y1.d)) := set3_ok oky2 hk.bk rfl rfl rfl
              have b5 := set3g (G := G) (a := .bool y1.b) (b := .slice y1.A y1.xs.length y1.c) (c := .slice y1.D y1.ys.length y1.d) bz (by omega)
              clear a1 a2 bz hk kG oky1 kH oky2
              generalize (((wd.setCell ⟨G, 0, none⟩ (.bool y1.b)).setCell ⟨G, 1, none⟩ (.slice y1.A y1.xs.length y1.c)).setCell ⟨G, 2, none⟩ (.slice y1.D y1.ys.length y1.d)) = we at *
              have a1 := b1
              have a2 := b2
              have bz := b5
              clear b1 b2 b5
              have kH := b3
              have oky2 := b4
              clear b3 b4
              clear hHeld
              generalize we = wd at *
              refine hK.out _ _ ⟨a1.c0, a1.c1, a1.c2, a1.c3, a1.c4, a1.c5, a2.c0, a2.c1, a2.c2, a2.c3, a2.c4, a2.c5⟩ (fun hHeld => ?_)
              clear hK K
              try simp only [Act.put, List.setIfInBounds_toArray, List.set_cons_zero, List.set_cons_succ]
              refine wpAnyH_ready (rs := [9]) (by kernel_rfl) (by simp) ?_
              refine AllReadyH.cons rfl (fun K hK => ?_) ?_
              · have t := kH
                obtain ⟨k0, k1, k2, kf0, kf1, kf2, _, _⟩ := t
                go_simp
                clear k0 k1 k2 kf0 kf1 kf2
                have hk : Fa wd H Fx.nil := ⟨kH, Fx.nil_ok _⟩
                have aH := hk.put oky2
                have b1 := a1.far hk (a := .bool y2.b) (b := .slice y2.A y2.xs.length y2.c) (c := .slice y2.D y2.ys.length y2.d) (by omega)
                have b2 := a2.far hk (a := .bool y2.b) (b := .slice y2.A y2.xs.length y2.c) (c := .slice y2.D y2.ys.length y2.d) (by omega)
                have b3 := aG.far hk (a := .bool y2.b) (b := .slice y2.A y2.xs.length y2.c) (c := .slice y2.D y2.ys.length y2.d) (by omega)
                have b5 := set3g (G := H) (a := .bool y2.b) (b := .slice y2.A y2.xs.length y2.c) (c := .slice y2.D y2.ys.length y2.d) bz (by omega)
                clear a1 a2 bz hk kH oky2 aG
                generalize (((wd.setCell ⟨H, 0, none⟩ (.bool y2.b)).setCell ⟨H, 1, none⟩ (.slice y2.A y2.xs.length y2.c)).setCell ⟨H, 2, none⟩ (.slice y2.D y2.ys.length y2.d)) = we at *
                have a1 := b1
                have a2 := b2
                have bz := b5
                clear b1 b2 b5
                have aG := b3
                clear b3
                clear hHeld
                generalize we = wd at *
                refine hK.out _ _ ⟨a1.c0, a1.c1, a1.c2, a1.c3, a1.c4, a1.c5, a2.c0, a2.c1, a2.c2, a2.c3, a2.c4, a2.c5⟩ (fun hHeld => ?_)
                clear hK K
                try simp only [Act.put, List.setIfInBounds_toArray, List.set_cons_zero, List.set_cons_succ]
                refine wpAnyH_done (by kernel_rfl) ?_ _
                go_wp2_with fail
                go_meet
                case rel => exact ⟨G, H, y1, y2, rfl, rfl, Py1.out, Py2.out, aG, aH, bz⟩
              exact AllReadyH.nil
            exact AllReadyH.nil
          exact AllReadyH.nil
        exact AllReadyH.nil
      refine AllReadyH.cons rfl (fun K hK => ?_) ?_
      · go_simp
        have kG := bk3_new wd
        have bb := (Below.refl wd.heap.size wd).alloc (Nat.le_refl _) (.cells #[.bool false, .slice none 0 0, .slice none 0 0] 25)
        have sG := bz.size
        try have nGH := kH.lt
        generalize (wd.alloc (.cells #[.bool false, .slice none 0 0, .slice none 0 0] 25)) = we at *
        first | generalize wd.heap.size = G at kG sG nGH ⊢ | generalize wd.heap.size = G at kG sG ⊢
        replace a1 := a1.below bb
        replace a2 := a2.below bb
        try replace oky1 := oky1.below bb
        try replace oky2 := oky2.below bb
        try replace kG := kG.below bb
        try replace kH := kH.below bb
        replace bz := below_on bz bb bz.size
        clear bb
        generalize we = wd at *
        refine hK.out _ _ ⟨a1.c0, a1.c1, a1.c2, a1.c3, a1.c4, a1.c5, a2.c0, a2.c1, a2.c2, a2.c3, a2.c4, a2.c5⟩ (fun hHeld => ?_)
        clear hK K
        try simp only [Act.put, List.setIfInBounds_toArray, List.set_cons_zero, List.set_cons_succ]
        refine wpAnyH_ready (rs := [2]) (by kernel_rfl) (by simp) ?_
        refine AllReadyH.cons rfl (fun K hK => ?_) ?_
        · go_simp
          go_at_call 22
          refine (iwithin_any _ x1 n1 q1 a1.ok f1 H1.out hn1 HQ1.out).mono ?_
          rintro e wd ⟨y1, rfl, p, oky1, bb⟩
          have Py1 := Lib.hid p
          clear p
          replace a1 := a1.below bb
          replace a2 := a2.below bb
          try replace oky1 := oky1.below bb
          try replace oky2 := oky2.below bb
          try replace kG := kG.below bb
          try replace kH := kH.below bb
          replace bz := below_on bz bb bz.size
          clear bb
          try dsimp only
          refine hK.out _ _ ⟨a1.c0, a1.c1, a1.c2, a1.c3, a1.c4, a1.c5, a2.c0, a2.c1, a2.c2, a2.c3, a2.c4, a2.c5⟩ (fun hHeld => ?_)
          clear hK K
          try simp only [Act.put, List.setIfInBounds_toArray, List.set_cons_zero, List.set_cons_succ]
          refine wpAnyH_ready (rs := [5]) (by kernel_rfl) (by simp) ?_
          refine AllReadyH.cons rfl (fun K hK => ?_) ?_
          · go_simp
            go_at_call 22
            refine (iwithin_any _ x2 n2 q2 a2.ok f2 H2.out hn2 HQ2.out).mono ?_
            rintro e wd ⟨y2, rfl, p, oky2, bb⟩
            have Py2 := Lib.hid p
            clear p
            replace a1 := a1.below bb
            replace a2 := a2.below bb
            try replace oky1 := oky1.below bb
            try replace oky2 := oky2.below bb
            try replace kG := kG.below bb
            try replace kH := kH.below bb
            replace bz := below_on bz bb bz.size
            clear bb
            try dsimp only
            refine hK.out _ _ ⟨a1.c0, a1.c1, a1.c2, a1.c3, a1.c4, a1.c5, a2.c0, a2.c1, a2.c2, a2.c3, a2.c4, a2.c5⟩ (fun hHeld => ?_)
            clear hK K
            try simp only [Act.put, List.setIfInBounds_toArray, List.set_cons_zero, List.set_cons_succ]
            refine wpAnyH_ready (rs := [8]) (by kernel_rfl) (by simp) ?_
            refine AllReadyH.cons rfl (fun K hK => ?_) ?_
            · have t := kG
              obtain ⟨k0, k1, k2, kf0, kf1, kf2, _, _⟩ := t
              go_simp
              clear k0 k1 k2 kf0 kf1 kf2
              have hk : Fa wd G Fx.nil := ⟨kG, Fx.nil_ok _⟩
              have aG := hk.put oky1
              have b1 := a1.far hk (a := .bool y1.b) (b := .slice y1.A y1.xs.length y1.c) (c := .slice y1.D y1.ys.length y1.d) (by omega)
              have b2 := a2.far hk (a := .bool y1.b) (b := .slice y1.A y1.xs.length y1.c) (c := .slice y1.D y1.ys.length y1.d) (by omega)
              have b3 := kH.far (H := G) (a := .bool y1.b) (b := .slice y1.A y1.xs.length y1.c) (c := .slice y1.D y1.ys.length y1.d) (by omega)
              have b4 : Fx.ok y2 (((wd.setCell ⟨G, 0, none⟩ (.bool y1.b)).setCell ⟨G, 1, none⟩ (.slice y1.A y1.xs.length y1.c)).setCell ⟨G, 2, none⟩ (.slice y1.D y1.ys.length y1.d)) := set3_ok oky2 hk.bk rfl rfl rfl
              have b5 := set3g (G := G) (a := .bool y1.b) (b := .slice y1.A y1.xs.length y1.c) (c := .slice y1.D y1.ys.length y1.d) bz (by omega)
              clear a1 a2 bz hk kG oky1 kH oky2
              generalize (((wd.setCell ⟨G, 0, none⟩ (.bool y1.b)).setCell ⟨G, 1, none⟩ (.slice y1.A y1.xs.length y1.c)).setCell ⟨G, 2, none⟩ (.slice y1.D y1.ys.length y1.d)) = we at *
              have a1 := b1
              have a2 := b2
              have bz := b5
              clear b1 b2 b5
              have kH := b3
              have oky2 := b4
              clear b3 b4
              clear hHeld
              generalize we = wd at *
              refine hK.out _ _ ⟨a1.c0, a1.c1, a1.c2, a1.c3, a1.c4, a1.c5, a2.c0, a2.c1, a2.c2, a2.c3, a2.c4, a2.c5⟩ (fun hHeld => ?_)
              clear hK K
              try simp only [Act.put, List.setIfInBounds_toArray, List.set_cons_zero, List.set_cons_succ]
              refine wpAnyH_ready (rs := [9]) (by kernel_rfl) (by simp) ?_
              refine AllReadyH.cons rfl (fun K hK => ?_) ?_
              · have t := kH
                obtain ⟨k0, k1, k2, kf0, kf1, kf2, _, _⟩ := t
                go_simp
                clear k0 k1 k2 kf0 kf1 kf2
                have hk : Fa wd H Fx.nil := ⟨kH, Fx.nil_ok _⟩
                have aH := hk.put oky2
                have b1 := a1.far hk (a := .bool y2.b) (b := .slice y2.A y2.xs.length y2.c) (c := .slice y2.D y2.ys.length y2.d) (by omega)
                have b2 := a2.far hk (a := .bool y2.b) (b := .slice y2.A y2.xs.length y2.c) (c := .slice y2.D y2.ys.length y2.d) (by omega)
                have b3 := aG.far hk (a := .bool y2.b) (b := .slice y2.A y2.xs.length y2.c) (c := .slice y2.D y2.ys.length y2.d) (by omega)
                have b5 := set3g (G := H) (a := .bool y2.b) (b := .slice y2.A y2.xs.length y2.c) (c := .slice y2.D y2.ys.length y2.d) bz (by omega)
                clear a1 a2 bz hk kH oky2 aG
                generalize (((wd.setCell ⟨H, 0, none⟩ (.bool y2.b)).setCell ⟨H, 1, none⟩ (.slice y2.A y2.xs.length y2.c)).setCell ⟨H, 2, none⟩ (.slice y2.D y2.ys.length y2.d)) = we at *
                have a1 := b1
                have a2 := b2
                have bz := b5
                clear b1 b2 b5
                have aG := b3
                clear b3
                clear hHeld
                generalize we = wd at *
                refine hK.out _ _ ⟨a1.c0, a1.c1, a1.c2, a1.c3, a1.c4, a1.c5, a2.c0, a2.c1, a2.c2, a2.c3, a2.c4, a2.c5⟩ (fun hHeld => ?_)
                clear hK K
                try simp only [Act.put, List.setIfInBounds_toArray, List.set_cons_zero, List.set_cons_succ]
                refine wpAnyH_done (by kernel_rfl) ?_ _
                go_wp2_with fail
                go_meet
                case rel => exact ⟨G, H, y1, y2, rfl, rfl, Py1.out, Py2.out, aG, aH, bz⟩
              exact AllReadyH.nil
            exact AllReadyH.nil
          exact AllReadyH.nil
        exact AllReadyH.nil
      exact AllReadyH.nil
    exact AllReadyH.nil
    --REG}
  case rest =>
    obtain ⟨G, H, x3, x4, rfl, rfl, p3, p4, a3, a4, bz⟩ := hcut
    try replace bk := bk.below bz
    try replace a1 := a1.below bz
    try replace a2 := a2.below bz
    try replace a3 := a3.below bz
    try replace a4 := a4.below bz
    replace bw := below_on bw bz bw.size
    clear bz
    have P3 := Lib.hid p3
    have P4 := Lib.hid p4
    clear p3 p4
    have W1 := wq_in (n := n1) H1.out.v hn1
    have W2 := wq_in (n := n2) H2.out.v hn2
    rw [HQ1.out] at W1
    rw [HQ2.out] at W2
    have z1 := sz_wq H1.out hn1
    have z2 := sz_wq H2.out hn2
    rw [HQ1.out] at z1
    rw [HQ2.out] at z2
    have V1 := H1.out.v
    have V2 := H2.out.v
    have sA1 : Sz (x1.lo.q + x2.lo.q) 128 128 := (H1.out.lo.add H2.out.lo).mono (by omega) (by omega)
    have sA2 : Sz (x1.hi.q + x2.hi.q) 128 128 := (H1.out.hi.add H2.out.hi).mono (by omega) (by omega)
    have sB1 : Sz (x1.lo.q - x2.hi.q) 128 128 := (H1.out.lo.sub H2.out.hi).mono (by omega) (by omega)
    have sB2 : Sz (x1.hi.q - x2.lo.q) 128 128 := (H1.out.hi.sub H2.out.lo).mono (by omega) (by omega)
    have hA : opS addF x1 x2 x2.lo x2.hi = (okS (x1.lo.q + x2.lo.q), okS (x1.hi.q + x2.hi.q), 0) := by
      rw [opS, if_pos ⟨V1, V2⟩, addF_ok V1.1 V2.1 rfl rfl sA1, addF_ok V1.2.1 V2.2.1 rfl rfl sA2]; rfl
    have hB : opS subF x1 x2 x2.hi x2.lo = (okS (x1.lo.q - x2.hi.q), okS (x1.hi.q - x2.lo.q), 0) := by
      rw [opS, if_pos ⟨V1, V2⟩, subF_ok V1.1 V2.2.1 rfl rfl sB1, subF_ok V1.2.1 V2.1 rfl rfl sB2]; rfl
    obtain ⟨PS, hPS⟩ : ∃ ps, corn x1.lo.q x1.hi.q x2.lo.q x2.hi.q = ps := ⟨_, rfl⟩
    have hnb : ∀ p ∈ PS, Sz p 24 24 := by
      intro p hp
      rw [← hPS] at hp
      simp only [corn, List.mem_cons, List.not_mem_nil, or_false] at hp
      rcases hp with rfl | rfl | rfl | rfl
      · exact (H2.out.lo.mul H1.out.lo).mono (by omega) (by omega)
      · exact (H2.out.lo.mul H1.out.hi).mono (by omega) (by omega)
      · exact (H2.out.hi.mul H1.out.lo).mono (by omega) (by omega)
      · exact (H2.out.hi.mul H1.out.hi).mono (by omega) (by omega)
    have hne : PS ≠ [] := by rw [← hPS]; simp [corn]
    have hC : mulI x1 x2 = (okS (loP PS), okS (hiP PS), 0) := by
      rw [mulI, if_pos ⟨V1, V2⟩, show prodL [x2.lo, x2.hi] x1.lo.q x1.hi.q = PS from hPS, mulsS, if_neg]
      rintro ⟨p, hp, hb⟩
      have hz := hnb p hp
      rw [bigQ] at hb
      have h3 := hz.1
      have h4 := hz.2
      omega
    have sL := (hnb _ (loP_mem hne)).mono (n' := 128) (d' := 128) (by omega) (by omega)
    have sH := (hnb _ (hiP_mem hne)).mono (n' := 128) (d' := 128) (by omega) (by omega)
    have cL := corn_lo W1.1 W1.2 W2.1 W2.2
    have cH := corn_hi W1.1 W1.2 W2.1 W2.2
    rw [hPS] at cL cH
    have sS : Sz (q1 + q2) 128 128 := (z1.add z2).mono (by omega) (by omega)
    have sD : Sz (q1 - q2) 128 128 := (z1.sub z2).mono (by omega) (by omega)
    have sP : Sz (q1 * q2) 128 128 := (z1.mul z2).mono (by omega) (by omega)
    have HA := Lib.hid hA
    have HB := Lib.hid hB
    have HC := Lib.hid hC
    have ZA1 := Lib.hid sA1
    have ZA2 := Lib.hid sA2
    have ZB1 := Lib.hid sB1
    have ZB2 := Lib.hid sB2
    have ZL := Lib.hid sL
    have ZH := Lib.hid sH
    have ZS := Lib.hid sS
    have ZD := Lib.hid sD
    have ZP := Lib.hid sP
    have CL := Lib.hid cL
    have CH := Lib.hid cH
    have HW1 := Lib.hid W1
    have HW2 := Lib.hid W2
    have HPS := Lib.hid hPS
    have HNE := Lib.hid hne
    have HNB := Lib.hid hnb
    clear hA hB hC sA1 sA2 sB1 sB2 sL sH sS sD sP cL cH W1 W2 z1 z2 V1 V2 hPS hne hnb
    have e0 : ((okS (x1.lo.q + x2.lo.q), okS (x1.hi.q + x2.hi.q), (0 : Int)) : IvS).2.2 = 0 := rfl
    go_upto_region 4 with fail
    generalize wc = wm at *
    have ci0 := a1.c0
    have ci1 := a1.c1
    have ci2 := a1.c2
    have ci3 := a1.c3
    have ci4 := a1.c4
    have ci5 := a1.c5
    have cj0 := a2.c0
    have cj1 := a2.c1
    have cj2 := a2.c2
    have cj3 := a2.c3
    have cj4 := a2.c4
    have cj5 := a2.c5
    go_wp2_with fail
    clear ci0 ci1 ci2 ci3 ci4 ci5
    clear cj0 cj1 cj2 cj3 cj4 cj5
    refine (iadd_any _ x1 x2 (_) a1.ok a2.ok f1 f2 HA.out).mono ?_
    rintro e wn ⟨x5, rfl, h1, h2, ok5, bb⟩
    have HS5 := Lib.hid (And.intro h1 h2)
    clear h1 h2
    try replace a1 := a1.below bb
    try replace a2 := a2.below bb
    try replace a3 := a3.below bb
    try replace a4 := a4.below bb
    replace bw := below_on bw bb bw.size
    clear bb
    go_upto_region 5 with fail
    have a5 := (ia_alloc ok5).1
    have bb := (ia_alloc ok5).2
    clear ok5
    generalize (wn.alloc (.cells #[.bool x5.lo.b, .slice x5.lo.A x5.lo.xs.length x5.lo.c, .slice x5.lo.D x5.lo.ys.length x5.lo.d, .bool x5.hi.b, .slice x5.hi.A x5.hi.xs.length x5.hi.c, .slice x5.hi.D x5.hi.ys.length x5.hi.d] 41)) = wm at a5 bb ⊢
    try replace a1 := a1.below bb
    try replace a2 := a2.below bb
    try replace a3 := a3.below bb
    try replace a4 := a4.below bb
    try replace a5 := a5.below bb
    replace bw := below_on bw bb bw.size
    clear bb
    generalize wn.heap.size = g5 at a5 ⊢
    have ci0 := a1.c0
    have ci1 := a1.c1
    have ci2 := a1.c2
    have ci3 := a1.c3
    have ci4 := a1.c4
    have ci5 := a1.c5
    have cj0 := a2.c0
    have cj1 := a2.c1
    have cj2 := a2.c2
    have cj3 := a2.c3
    have cj4 := a2.c4
    have cj5 := a2.c5
    go_wp2_with fail
    clear ci0 ci1 ci2 ci3 ci4 ci5
    clear cj0 cj1 cj2 cj3 cj4 cj5
    refine (isub_any _ x1 x2 (_) a1.ok a2.ok f1 f2 HB.out).mono ?_
    rintro e wn ⟨x6, rfl, h1, h2, ok6, bb⟩
    have HS6 := Lib.hid (And.intro h1 h2)
    clear h1 h2
    try replace a1 := a1.below bb
    try replace a2 := a2.below bb
    try replace a3 := a3.below bb
    try replace a4 := a4.below bb
    try replace a5 := a5.below bb
    replace bw := below_on bw bb bw.size
    clear bb
    go_upto_region 6 with fail
    have a6 := (ia_alloc ok6).1
    have bb := (ia_alloc ok6).2
    clear ok6
    generalize (wn.alloc (.cells #[.bool x6.lo.b, .slice x6.lo.A x6.lo.xs.length x6.lo.c, .slice x6.lo.D x6.lo.ys.length x6.lo.d, .bool x6.hi.b, .slice x6.hi.A x6.hi.xs.length x6.hi.c, .slice x6.hi.D x6.hi.ys.length x6.hi.d] 41)) = wm at a6 bb ⊢
    try replace a1 := a1.below bb
    try replace a2 := a2.below bb
    try replace a3 := a3.below bb
    try replace a4 := a4.below bb
    try replace a5 := a5.below bb
    try replace a6 := a6.below bb
    replace bw := below_on bw bb bw.size
    clear bb
    generalize wn.heap.size = g6 at a6 ⊢
    have ci0 := a1.c0
    have ci1 := a1.c1
    have ci2 := a1.c2
    have ci3 := a1.c3
    have ci4 := a1.c4
    have ci5 := a1.c5
    have cj0 := a2.c0
    have cj1 := a2.c1
    have cj2 := a2.c2
    have cj3 := a2.c3
    have cj4 := a2.c4
    have cj5 := a2.c5
    go_wp2_with fail
    clear ci0 ci1 ci2 ci3 ci4 ci5
    clear cj0 cj1 cj2 cj3 cj4 cj5
    refine (imul_any _ x1 x2 (_) a1.ok a2.ok f1 f2 HC.out).mono ?_
    rintro e wn ⟨x7, rfl, h1, h2, ok7, bb⟩
    have HS7 := Lib.hid (And.intro h1 h2)
    clear h1 h2
    try replace a1 := a1.below bb
    try replace a2 := a2.below bb
    try replace a3 := a3.below bb
    try replace a4 := a4.below bb
    try replace a5 := a5.below bb
    try replace a6 := a6.below bb
    replace bw := below_on bw bb bw.size
    clear bb
    go_upto_region 7 with fail
    have a7 := (ia_alloc ok7).1
    have bb := (ia_alloc ok7).2
    clear ok7
    generalize (wn.alloc (.cells #[.bool x7.lo.b, .slice x7.lo.A x7.lo.xs.length x7.lo.c, .slice x7.lo.D x7.lo.ys.length x7.lo.d, .bool x7.hi.b, .slice x7.hi.A x7.hi.xs.length x7.hi.c, .slice x7.hi.D x7.hi.ys.length x7.hi.d] 41)) = wm at a7 bb ⊢
    try replace a1 := a1.below bb
    try replace a2 := a2.below bb
    try replace a3 := a3.below bb
    try replace a4 := a4.below bb
    try replace a5 := a5.below bb
    try replace a6 := a6.below bb
    try replace a7 := a7.below bb
    replace bw := below_on bw bb bw.size
    clear bb
    generalize wn.heap.size = g7 at a7 ⊢
    have f3 := P3.out.f
    have f4 := P4.out.f
    have l3 := f3.l
    have m3 := f3.m
    have l4 := f4.l
    have m4 := f4.m
    have ci0 := a3.c0
    have ci1 := a3.c1
    have ci2 := a3.c2
    have cj0 := a4.c0
    have cj1 := a4.c1
    have cj2 := a4.c2
    go_wp2_with fail
    clear ci0 ci1 ci2 cj0 cj1 cj2
    refine (rfadd_any _ x3 x4 (okS (q1 + q2)) a3.ok a4.ok l3 m3 l4 m4 (addF_ok P3.out.v P4.out.v P3.out.rp.q P4.out.rp.q ZS.out)).mono ?_
    rintro e wn ⟨x8, rfl, hs8, ok8, bb⟩
    have HS8 := Lib.hid hs8
    clear hs8
    try replace a1 := a1.below bb
    try replace a2 := a2.below bb
    try replace a3 := a3.below bb
    try replace a4 := a4.below bb
    try replace a5 := a5.below bb
    try replace a6 := a6.below bb
    try replace a7 := a7.below bb
    replace bw := below_on bw bb bw.size
    clear bb
    go_upto_region 8 with fail
    have a8 := (fa_alloc ok8).1
    have bb := (fa_alloc ok8).2
    clear ok8
    generalize (wn.alloc (.cells #[.bool x8.b, .slice x8.A x8.xs.length x8.c, .slice x8.D x8.ys.length x8.d] 25)) = wm at a8 bb ⊢
    try replace a1 := a1.below bb
    try replace a2 := a2.below bb
    try replace a3 := a3.below bb
    try replace a4 := a4.below bb
    try replace a5 := a5.below bb
    try replace a6 := a6.below bb
    try replace a7 := a7.below bb
    try replace a8 := a8.below bb
    replace bw := below_on bw bb bw.size
    clear bb
    generalize wn.heap.size = g8 at a8 ⊢
    have ci0 := a3.c0
    have ci1 := a3.c1
    have ci2 := a3.c2
    have cj0 := a4.c0
    have cj1 := a4.c1
    have cj2 := a4.c2
    go_wp2_with fail
    clear ci0 ci1 ci2 cj0 cj1 cj2
    refine (rfsub_any _ x3 x4 (okS (q1 - q2)) a3.ok a4.ok l3 m3 l4 m4 (subF_ok P3.out.v P4.out.v P3.out.rp.q P4.out.rp.q ZD.out)).mono ?_
    rintro e wn ⟨x9, rfl, hs9, ok9, bb⟩
    have HS9 := Lib.hid hs9
    clear hs9
    try replace a1 := a1.below bb
    try replace a2 := a2.below bb
    try replace a3 := a3.below bb
    try replace a4 := a4.below bb
    try replace a5 := a5.below bb
    try replace a6 := a6.below bb
    try replace a7 := a7.below bb
    try replace a8 := a8.below bb
    replace bw := below_on bw bb bw.size
    clear bb
    go_upto_region 9 with fail
    have a9 := (fa_alloc ok9).1
    have bb := (fa_alloc ok9).2
    clear ok9
    generalize (wn.alloc (.cells #[.bool x9.b, .slice x9.A x9.xs.length x9.c, .slice x9.D x9.ys.length x9.d] 25)) = wm at a9 bb ⊢
    try replace a1 := a1.below bb
    try replace a2 := a2.below bb
    try replace a3 := a3.below bb
    try replace a4 := a4.below bb
    try replace a5 := a5.below bb
    try replace a6 := a6.below bb
    try replace a7 := a7.below bb
    try replace a8 := a8.below bb
    try replace a9 := a9.below bb
    replace bw := below_on bw bb bw.size
    clear bb
    generalize wn.heap.size = g9 at a9 ⊢
    have ci0 := a3.c0
    have ci1 := a3.c1
    have ci2 := a3.c2
    have cj0 := a4.c0
    have cj1 := a4.c1
    have cj2 := a4.c2
    go_wp2_with fail
    clear ci0 ci1 ci2 cj0 cj1 cj2
    refine (rfmul_any _ x3 x4 (okS (q1 * q2)) a3.ok a4.ok l3 m3 l4 m4 (mulF_ok P3.out.v P4.out.v P3.out.rp.q P4.out.rp.q ZP.out)).mono ?_
    rintro e wn ⟨x10, rfl, hs10, ok10, bb⟩
    have HS10 := Lib.hid hs10
    clear hs10
    try replace a1 := a1.below bb
    try replace a2 := a2.below bb
    try replace a3 := a3.below bb
    try replace a4 := a4.below bb
    try replace a5 := a5.below bb
    try replace a6 := a6.below bb
    try replace a7 := a7.below bb
    try replace a8 := a8.below bb
    try replace a9 := a9.below bb
    replace bw := below_on bw bb bw.size
    clear bb
    go_upto_region 10 with fail
    have a10 := (fa_alloc ok10).1
    have bb := (fa_alloc ok10).2
    clear ok10
    generalize (wn.alloc (.cells #[.bool x10.b, .slice x10.A x10.xs.length x10.c, .slice x10.D x10.ys.length x10.d] 25)) = wm at a10 bb ⊢
    try replace a1 := a1.below bb
    try replace a2 := a2.below bb
    try replace a3 := a3.below bb
    try replace a4 := a4.below bb
    try replace a5 := a5.below bb
    try replace a6 := a6.below bb
    try replace a7 := a7.below bb
    try replace a8 := a8.below bb
    try replace a9 := a9.below bb
    try replace a10 := a10.below bb
    replace bw := below_on bw bb bw.size
    clear bb
    generalize wn.heap.size = g10 at a10 ⊢
    have P8 := Lib.hid (IsP.sz HS8.out ZS.out)
    have P9 := Lib.hid (IsP.sz HS9.out ZD.out)
    have P10 := Lib.hid (IsP.sz HS10.out ZP.out)
    have L5 := Lib.hid (IsP.sz HS5.out.1 ZA1.out)
    have U5 := Lib.hid (IsP.sz HS5.out.2 ZA2.out)
    have L6 := Lib.hid (IsP.sz HS6.out.1 ZB1.out)
    have U6 := Lib.hid (IsP.sz HS6.out.2 ZB2.out)
    have L7 := Lib.hid (IsP.sz HS7.out.1 ZL.out)
    have U7 := Lib.hid (IsP.sz HS7.out.2 ZH.out)
    have C5 : Hid (conS x5 x8) := Lib.hid (conS_of L5.out U5.out P8.out (by have h1 := HW1.out; have h2 := HW2.out; grind) (by have h1 := HW1.out; have h2 := HW2.out; grind))
    have C6 : Hid (conS x6 x9) := Lib.hid (conS_of L6.out U6.out P9.out (by have h1 := HW1.out; have h2 := HW2.out; grind) (by have h1 := HW1.out; have h2 := HW2.out; grind))
    have C7 : Hid (conS x7 x10) := Lib.hid (conS_of L7.out U7.out P10.out CL.out CH.out)
    have f5 := L5.out.few2' U5.out
    have f6 := L6.out.few2' U6.out
    have f7 := L7.out.few2' U7.out
    have ci0 := a5.c0
    have ci1 := a5.c1
    have ci2 := a5.c2
    have ci3 := a5.c3
    have ci4 := a5.c4
    have ci5 := a5.c5
    have cj0 := a8.c0
    have cj1 := a8.c1
    have cj2 := a8.c2
    go_wp2_with fail
    clear ci0 ci1 ci2 ci3 ci4 ci5
    clear cj0 cj1 cj2
    refine (icontains_any _ x5 x8 true a5.ok a8.ok f5 P8.out.f (decide_eq_true C5.out)).mono ?_
    rintro e wn ⟨rfl, bb⟩
    try replace a1 := a1.below bb
    try replace a2 := a2.below bb
    try replace a3 := a3.below bb
    try replace a4 := a4.below bb
    try replace a5 := a5.below bb
    try replace a6 := a6.below bb
    try replace a7 := a7.below bb
    try replace a8 := a8.below bb
    try replace a9 := a9.below bb
    try replace a10 := a10.below bb
    replace bw := below_on bw bb bw.size
    clear bb
    have ci0 := a6.c0
    have ci1 := a6.c1
    have ci2 := a6.c2
    have ci3 := a6.c3
    have ci4 := a6.c4
    have ci5 := a6.c5
    have cj0 := a9.c0
    have cj1 := a9.c1
    have cj2 := a9.c2
    go_wp2_with fail
    clear ci0 ci1 ci2 ci3 ci4 ci5
    clear cj0 cj1 cj2
    refine (icontains_any _ x6 x9 true a6.ok a9.ok f6 P9.out.f (decide_eq_true C6.out)).mono ?_
    rintro e wn ⟨rfl, bb⟩
    try replace a1 := a1.below bb
    try replace a2 := a2.below bb
    try replace a3 := a3.below bb
    try replace a4 := a4.below bb
    try replace a5 := a5.below bb
    try replace a6 := a6.below bb
    try replace a7 := a7.below bb
    try replace a8 := a8.below bb
    try replace a9 := a9.below bb
    try replace a10 := a10.below bb
    replace bw := below_on bw bb bw.size
    clear bb
    have ci0 := a7.c0
    have ci1 := a7.c1
    have ci2 := a7.c2
    have ci3 := a7.c3
    have ci4 := a7.c4
    have ci5 := a7.c5
    have cj0 := a10.c0
    have cj1 := a10.c1
    have cj2 := a10.c2
    go_wp2_with fail
    clear ci0 ci1 ci2 ci3 ci4 ci5
    clear cj0 cj1 cj2
    refine (icontains_any _ x7 x10 true a7.ok a10.ok f7 P10.out.f (decide_eq_true C7.out)).mono ?_
    rintro e wn ⟨rfl, bb⟩
    try replace a1 := a1.below bb
    try replace a2 := a2.below bb
    try replace a3 := a3.below bb
    try replace a4 := a4.below bb
    try replace a5 := a5.below bb
    try replace a6 := a6.below bb
    try replace a7 := a7.below bb
    try replace a8 := a8.below bb
    try replace a9 := a9.below bb
    try replace a10 := a10.below bb
    replace bw := below_on bw bb bw.size
    clear bb
    go_upto_region 12 with fail
    clear a3 a4 a5 a6 a8 a9 a10
    go_wp2_with fail
    obtain ⟨CS, hCS⟩ : ∃ cs, [x1.lo.q * x2.lo.q, x1.hi.q * x2.lo.q, x1.lo.q * x2.hi.q, x1.hi.q * x2.hi.q] = cs := ⟨_, rfl⟩
    have HCS := Lib.hid hCS
    clear hCS
    go_loopw [23, 24, 25] (fun s23 s24 s25 wr => ∃ (k : Nat) (lb hb : Bool), k ≤ 4 ∧ s23 = .bool lb ∧ s24 = .bool hb ∧ s25 = .int .i64 k ∧ lb = (CS.take k).any (fun c => decide (c = loP PS)) ∧ hb = (CS.take k).any (fun c => decide (c = hiP PS)) ∧ Ia wr w.heap.size x1 ∧ Ia wr (w.heap.size + 1) x2 ∧ Ia wr g7 x7 ∧ Below w.heap.size w wr) (fun _ _ i _ => 4 - (intOf i).toNat)
    case atStart => exact ⟨0, false, false, by omega, rfl, rfl, rfl, rfl, rfl, a1, a2, a7, bw⟩
    case round =>
      clear a1 a2 a7 bw
      obtain ⟨k, lb, hb, hk4, rfl, rfl, rfl, hlb, hhb, a1, a2, a7, bw⟩ := hrel
      have HLB := Lib.hid hlb
      have HHB := Lib.hid hhb
      clear hlb hhb
      by_cases hlt : k < 4
      · go_upto_region 16 with fail
        have hal1 := a1.lt
        have hal2 := a2.lt
        go_cut [26, 27] from 116 to 152 (fun s26 s27 w' => ∃ U V : Nat, s26 = .pointer (some ⟨U, 0, none⟩) ∧ s27 = .pointer (some ⟨V, 0, none⟩) ∧ U ≠ V ∧ wr.heap.size ≤ U ∧ wr.heap.size ≤ V ∧ Fa w' U x1.lo ∧ Fa w' V x2.lo ∧ Below wr.heap.size wr w')
        case first =>
          obtain ⟨g1, g2, g3⟩ := fa_two a1.ok.lo a2.ok.lo
          obtain ⟨h1, h2, h3⟩ := fa_two a2.ok.lo a1.ok.lo
          have ci0 := a1.c0
          have ci1 := a1.c1
          have ci2 := a1.c2
          have ci3 := a1.c3
          have ci4 := a1.c4
          have ci5 := a1.c5
          have cj0 := a2.c0
          have cj1 := a2.c1
          have cj2 := a2.c2
          have cj3 := a2.c3
          have cj4 := a2.c4
          have cj5 := a2.c5
          go_region
          · go_wp2_with fail
            go_meet
            case rel => exact ⟨_, _, rfl, rfl, by omega, by omega, by omega, g1, g2, g3⟩
          · go_wp2_with fail
            go_meet
            case rel => exact ⟨_, _, rfl, rfl, by omega, by omega, by omega, h2, h1, h3⟩
        case rest =>
          obtain ⟨U, V, rfl, rfl, hUV, hU, hV, a3, a4, bz⟩ := hcut
          have hal7 := a7.lt
          have hU1 : w.heap.size + 1 < U ∧ w.heap.size + 1 < V ∧ g7 < U ∧ g7 < V := by omega
          clear hU hV
          obtain ⟨hU1, hV1, hU7, hV7⟩ := hU1
          try replace bk := bk.below bz
          try replace a1 := a1.below bz
          try replace a2 := a2.below bz
          try replace a3 := a3.below bz
          try replace a4 := a4.below bz
          try replace a5 := a5.below bz
          try replace a6 := a6.below bz
          try replace a7 := a7.below bz
          try replace a8 := a8.below bz
          try replace a9 := a9.below bz
          try replace a10 := a10.below bz
          replace bw := below_on bw bz bw.size
          clear bz
          clear hal1 hal2 hal7
          generalize wc = wm at *
          go_upto_if 125 with fail
          go_cut [] from 126 to 152 (fun w' => ∃ xu : Fx, Fa w' U xu ∧ xu.v ∧ xu.few ∧ xu.q = (if k % 2 = 1 then x1.hi.q else x1.lo.q) ∧ Sz xu.q 12 12 ∧ Fa w' V x2.lo ∧ Ia w' w.heap.size x1 ∧ Ia w' (w.heap.size + 1) x2 ∧ Ia w' g7 x7 ∧ Below w.heap.size w w')
          case first =>
            by_cases hp : k % 2 = 1
            · have hb1 : ((k : Int) % 2 == 1) = true := beq_iff_eq.2 (by omega)
              have HP := Lib.hid hp
              clear hp
              have ci0 := a1.c0
              have ci1 := a1.c1
              have ci2 := a1.c2
              have ci3 := a1.c3
              have ci4 := a1.c4
              have ci5 := a1.c5
              have tk := a3.bk
              obtain ⟨k0, k1, k2, kf0, kf1, kf2, klt, kb⟩ := tk
              clear kb
              go_wp2_with fail
              clear k0 k1 k2 kf0 kf1 kf2 klt
              clear ci0 ci1 ci2 ci3 ci4 ci5
              have b1 := a1.far a3 (a := .bool x1.hi.b) (b := .slice x1.hi.A x1.hi.xs.length x1.hi.c) (c := .slice x1.hi.D x1.hi.ys.length x1.hi.d) (by omega)
              have b2 := a2.far a3 (a := .bool x1.hi.b) (b := .slice x1.hi.A x1.hi.xs.length x1.hi.c) (c := .slice x1.hi.D x1.hi.ys.length x1.hi.d) (by omega)
              have b7 := a7.far a3 (a := .bool x1.hi.b) (b := .slice x1.hi.A x1.hi.xs.length x1.hi.c) (c := .slice x1.hi.D x1.hi.ys.length x1.hi.d) (by omega)
              try have b3 := a3.far a3 (a := .bool x1.hi.b) (b := .slice x1.hi.A x1.hi.xs.length x1.hi.c) (c := .slice x1.hi.D x1.hi.ys.length x1.hi.d) (by omega)
              try have b4 := a4.far a3 (a := .bool x1.hi.b) (b := .slice x1.hi.A x1.hi.xs.length x1.hi.c) (c := .slice x1.hi.D x1.hi.ys.length x1.hi.d) (by omega)
              have bO := a3.put a1.ok.hi
              have bz := set3g (G := U) (a := .bool x1.hi.b) (b := .slice x1.hi.A x1.hi.xs.length x1.hi.c) (c := .slice x1.hi.D x1.hi.ys.length x1.hi.d) bw (by omega)
              clear a3 bw
              generalize ((World.setCell (World.setCell (World.setCell _ ⟨U, 0, none⟩ (.bool x1.hi.b)) ⟨U, 1, none⟩ (.slice x1.hi.A x1.hi.xs.length x1.hi.c)) ⟨U, 2, none⟩ (.slice x1.hi.D x1.hi.ys.length x1.hi.d))) = wm at *
              replace a1 := b1
              replace a2 := b2
              replace a7 := b7
              try replace a3 := b3
              try replace a4 := b4
              have a3 := bO
              have bw := bz
              clear bO bz b1 b2 b7
              try clear b3
              try clear b4
              go_meet
              case rel => exact ⟨x1.hi, a3, H1.out.v.2.1, f1.hi, by rw [if_pos HP.out], H1.out.hi, a4, a1, a2, a7, bw⟩
            · have hb1 : ((k : Int) % 2 == 1) = false := beq_eq_false_iff_ne.2 (by omega)
              have HP : Hid (¬ k % 2 = 1) := hp
              clear hp
              go_wp2_with fail
              go_meet
              case rel => exact ⟨x1.lo, a3, H1.out.v.1, f1.lo, by rw [if_neg HP.out], H1.out.lo, a4, a1, a2, a7, bw⟩
          case rest =>
            clear a1 a2 a3 a4 a7 bw
            obtain ⟨x3, a3, v3, f3, hq3, z3, a4, a1, a2, a7, bw⟩ := hcut
            have V3 := Lib.hid v3
            have Q3 := Lib.hid hq3
            have Z3 := Lib.hid z3
            clear v3 hq3 z3
            go_upto_if 130 with fail
            go_cut [] from 131 to 152 (fun w' => ∃ xv : Fx, Fa w' V xv ∧ xv.v ∧ xv.few ∧ xv.q = (if k / 2 = 1 then x2.hi.q else x2.lo.q) ∧ Sz xv.q 12 12 ∧ Fa w' U x3 ∧ Ia w' w.heap.size x1 ∧ Ia w' (w.heap.size + 1) x2 ∧ Ia w' g7 x7 ∧ Below w.heap.size w w')
            case first =>
              by_cases hp : k / 2 = 1
              · have hb1 : ((k : Int) / 2 == 1) = true := beq_iff_eq.2 (by omega)
                have HP := Lib.hid hp
                clear hp
                have ci0 := a2.c0
                have ci1 := a2.c1
                have ci2 := a2.c2
                have ci3 := a2.c3
                have ci4 := a2.c4
                have ci5 := a2.c5
                have tk := a4.bk
                obtain ⟨k0, k1, k2, kf0, kf1, kf2, klt, kb⟩ := tk
                clear kb
                go_wp2_with fail
                clear k0 k1 k2 kf0 kf1 kf2 klt
                clear ci0 ci1 ci2 ci3 ci4 ci5
                have b1 := a1.far a4 (a := .bool x2.hi.b) (b := .slice x2.hi.A x2.hi.xs.length x2.hi.c) (c := .slice x2.hi.D x2.hi.ys.length x2.hi.d) (by omega)
                have b2 := a2.far a4 (a := .bool x2.hi.b) (b := .slice x2.hi.A x2.hi.xs.length x2.hi.c) (c := .slice x2.hi.D x2.hi.ys.length x2.hi.d) (by omega)
                have b7 := a7.far a4 (a := .bool x2.hi.b) (b := .slice x2.hi.A x2.hi.xs.length x2.hi.c) (c := .slice x2.hi.D x2.hi.ys.length x2.hi.d) (by omega)
                try have b3 := a3.far a4 (a := .bool x2.hi.b) (b := .slice x2.hi.A x2.hi.xs.length x2.hi.c) (c := .slice x2.hi.D x2.hi.ys.length x2.hi.d) (by omega)
                try have b4 := a4.far a4 (a := .bool x2.hi.b) (b := .slice x2.hi.A x2.hi.xs.length x2.hi.c) (c := .slice x2.hi.D x2.hi.ys.length x2.hi.d) (by omega)
                have bO := a4.put a2.ok.hi
                have bz := set3g (G := V) (a := .bool x2.hi.b) (b := .slice x2.hi.A x2.hi.xs.length x2.hi.c) (c := .slice x2.hi.D x2.hi.ys.length x2.hi.d) bw (by omega)
                clear a4 bw
                generalize ((World.setCell (World.setCell (World.setCell _ ⟨V, 0, none⟩ (.bool x2.hi.b)) ⟨V, 1, none⟩ (.slice x2.hi.A x2.hi.xs.length x2.hi.c)) ⟨V, 2, none⟩ (.slice x2.hi.D x2.hi.ys.length x2.hi.d))) = wm at *
                replace a1 := b1
                replace a2 := b2
                replace a7 := b7
                try replace a3 := b3
                try replace a4 := b4
                have a4 := bO
                have bw := bz
                clear bO bz b1 b2 b7
                try clear b3
                try clear b4
                go_meet
                case rel => exact ⟨x2.hi, a4, H2.out.v.2.1, f2.hi, by rw [if_pos HP.out], H2.out.hi, a3, a1, a2, a7, bw⟩
              · have hb1 : ((k : Int) / 2 == 1) = false := beq_eq_false_iff_ne.2 (by omega)
                have HP : Hid (¬ k / 2 = 1) := hp
                clear hp
                go_wp2_with fail
                go_meet
                case rel => exact ⟨x2.lo, a4, H2.out.v.1, f2.lo, by rw [if_neg HP.out], H2.out.lo, a3, a1, a2, a7, bw⟩
            case rest =>
              clear a1 a2 a3 a4 a7 bw
              obtain ⟨x4, a4, v4, f4, hq4, z4, a3, a1, a2, a7, bw⟩ := hcut
              have V4 := Lib.hid v4
              have sM : Sz (x3.q * x4.q) 128 128 := (Z3.out.mul z4).mono (by omega) (by omega)
              have hck : CS[k]? = some (x3.q * x4.q) := by
                rw [Q3.out, hq4, ← HCS.out]
                rcases (show k = 0 ∨ k = 1 ∨ k = 2 ∨ k = 3 by omega) with rfl | rfl | rfl | rfl <;> rfl
              have HCK := Lib.hid hck
              have SM := Lib.hid sM
              clear v4 hq4 z4 sM hck
              have l3 := f3.l
              have m3 := f3.m
              have l4 := f4.l
              have m4 := f4.m
              generalize wc = wm at *
              have ci0 := a3.c0
              have ci1 := a3.c1
              have ci2 := a3.c2
              have cj0 := a4.c0
              have cj1 := a4.c1
              have cj2 := a4.c2
              go_wp2_with fail
              clear ci0 ci1 ci2 cj0 cj1 cj2
              refine (rfmul_any _ x3 x4 (okS (x3.q * x4.q)) a3.ok a4.ok l3 m3 l4 m4 (mulF_ok V3.out V4.out rfl rfl SM.out)).mono ?_
              rintro e wn ⟨x5, rfl, hs5, ok5, bb⟩
              have HS5 := Lib.hid hs5
              clear hs5
              try replace a1 := a1.below bb
              try replace a2 := a2.below bb
              try replace a3 := a3.below bb
              try replace a4 := a4.below bb
              try replace a5 := a5.below bb
              try replace a6 := a6.below bb
              try replace a7 := a7.below bb
              try replace a8 := a8.below bb
              try replace a9 := a9.below bb
              try replace a10 := a10.below bb
              replace bw := below_on bw bb bw.size
              clear bb
              go_upto_region 22 with fail
              have a5 := (fa_alloc ok5).1
              have bb := (fa_alloc ok5).2
              clear ok5
              generalize (wn.alloc (.cells #[.bool x5.b, .slice x5.A x5.xs.length x5.c, .slice x5.D x5.ys.length x5.d] 25)) = wm at a5 bb ⊢
              try replace a1 := a1.below bb
              try replace a2 := a2.below bb
              try replace a3 := a3.below bb
              try replace a4 := a4.below bb
              try replace a5 := a5.below bb
              try replace a6 := a6.below bb
              try replace a7 := a7.below bb
              try replace a8 := a8.below bb
              try replace a9 := a9.below bb
              try replace a10 := a10.below bb
              replace bw := below_on bw bb bw.size
              clear bb
              generalize wn.heap.size = g5 at a5 ⊢
              have P5 := Lib.hid (IsP.sz HS5.out SM.out)
              obtain ⟨b1, hb1⟩ : ∃ b, decide (x5.q = x7.lo.q) = b := ⟨_, rfl⟩
              obtain ⟨b2, hb2⟩ : ∃ b, decide (x5.q = x7.hi.q) = b := ⟨_, rfl⟩
              have HB1 := Lib.hid hb1
              have HB2 := Lib.hid hb2
              have HB1L : Hid (b1 = decide (x3.q * x4.q = loP PS)) := Lib.hid (by rw [← hb1, P5.out.rp.q, L7.out.rp.q])
              have HB2L : Hid (b2 = decide (x3.q * x4.q = hiP PS)) := Lib.hid (by rw [← hb2, P5.out.rp.q, U7.out.rp.q])
              clear hb1 hb2 a3 a4
              cases lb
              · cases hb
                · skip
                  skip
                  have ci0 := a7.c0
                  have ci1 := a7.c1
                  have ci2 := a7.c2
                  have ci3 := a7.c3
                  have ci4 := a7.c4
                  have ci5 := a7.c5
                  have cj0 := a5.c0
                  have cj1 := a5.c1
                  have cj2 := a5.c2
                  go_wp2_with fail
                  clear ci0 ci1 ci2 ci3 ci4 ci5
                  clear cj0 cj1 cj2
                  refine (rsame_any _ x5 x7.lo b1 a5.ok a7.ok.lo P5.out.v L7.out.v P5.out.f L7.out.f HB1.out).mono ?_
                  rintro e wn ⟨rfl, bb⟩
                  try replace a1 := a1.below bb
                  try replace a2 := a2.below bb
                  try replace a3 := a3.below bb
                  try replace a4 := a4.below bb
                  try replace a5 := a5.below bb
                  try replace a6 := a6.below bb
                  try replace a7 := a7.below bb
                  try replace a8 := a8.below bb
                  try replace a9 := a9.below bb
                  try replace a10 := a10.below bb
                  replace bw := below_on bw bb bw.size
                  clear bb
                  have ci0 := a7.c0
                  have ci1 := a7.c1
                  have ci2 := a7.c2
                  have ci3 := a7.c3
                  have ci4 := a7.c4
                  have ci5 := a7.c5
                  have cj0 := a5.c0
                  have cj1 := a5.c1
                  have cj2 := a5.c2
                  go_wp2_with fail
                  clear ci0 ci1 ci2 ci3 ci4 ci5
                  clear cj0 cj1 cj2
                  refine (rsame_any _ x5 x7.hi b2 a5.ok a7.ok.hi P5.out.v U7.out.v P5.out.f U7.out.f HB2.out).mono ?_
                  rintro e wn ⟨rfl, bb⟩
                  try replace a1 := a1.below bb
                  try replace a2 := a2.below bb
                  try replace a3 := a3.below bb
                  try replace a4 := a4.below bb
                  try replace a5 := a5.below bb
                  try replace a6 := a6.below bb
                  try replace a7 := a7.below bb
                  try replace a8 := a8.below bb
                  try replace a9 := a9.below bb
                  try replace a10 := a10.below bb
                  replace bw := below_on bw bb bw.size
                  clear bb
                  go_wp2_with fail
                  go_roundw
                  case rel => exact ⟨k + 1, b1, b2, by omega, rfl, rfl, by go_num, by rw [any_next HCK.out, ← HLB.out]; exact HB1L.out, by rw [any_next HCK.out, ← HHB.out]; exact HB2L.out, a1, a2, a7, bw⟩
                  case measure => simp [intOf]; omega
                · skip
                  skip
                  have ci0 := a7.c0
                  have ci1 := a7.c1
                  have ci2 := a7.c2
                  have ci3 := a7.c3
                  have ci4 := a7.c4
                  have ci5 := a7.c5
                  have cj0 := a5.c0
                  have cj1 := a5.c1
                  have cj2 := a5.c2
                  go_wp2_with fail
                  clear ci0 ci1 ci2 ci3 ci4 ci5
                  clear cj0 cj1 cj2
                  refine (rsame_any _ x5 x7.lo b1 a5.ok a7.ok.lo P5.out.v L7.out.v P5.out.f L7.out.f HB1.out).mono ?_
                  rintro e wn ⟨rfl, bb⟩
                  try replace a1 := a1.below bb
                  try replace a2 := a2.below bb
                  try replace a3 := a3.below bb
                  try replace a4 := a4.below bb
                  try replace a5 := a5.below bb
                  try replace a6 := a6.below bb
                  try replace a7 := a7.below bb
                  try replace a8 := a8.below bb
                  try replace a9 := a9.below bb
                  try replace a10 := a10.below bb
                  replace bw := below_on bw bb bw.size
                  clear bb
                  go_wp2_with fail
                  go_roundw
                  case rel => exact ⟨k + 1, b1, true, by omega, rfl, rfl, by go_num, by rw [any_next HCK.out, ← HLB.out]; exact HB1L.out, by rw [any_next HCK.out, ← HHB.out]; rfl, a1, a2, a7, bw⟩
                  case measure => simp [intOf]; omega
              · cases hb
                · skip
                  skip
                  have ci0 := a7.c0
                  have ci1 := a7.c1
                  have ci2 := a7.c2
                  have ci3 := a7.c3
                  have ci4 := a7.c4
                  have ci5 := a7.c5
                  have cj0 := a5.c0
                  have cj1 := a5.c1
                  have cj2 := a5.c2
                  go_wp2_with fail
                  clear ci0 ci1 ci2 ci3 ci4 ci5
                  clear cj0 cj1 cj2
                  refine (rsame_any _ x5 x7.hi b2 a5.ok a7.ok.hi P5.out.v U7.out.v P5.out.f U7.out.f HB2.out).mono ?_
                  rintro e wn ⟨rfl, bb⟩
                  try replace a1 := a1.below bb
                  try replace a2 := a2.below bb
                  try replace a3 := a3.below bb
                  try replace a4 := a4.below bb
                  try replace a5 := a5.below bb
                  try replace a6 := a6.below bb
                  try replace a7 := a7.below bb
                  try replace a8 := a8.below bb
                  try replace a9 := a9.below bb
                  try replace a10 := a10.below bb
                  replace bw := below_on bw bb bw.size
                  clear bb
                  go_wp2_with fail
                  go_roundw
                  case rel => exact ⟨k + 1, true, b2, by omega, rfl, rfl, by go_num, by rw [any_next HCK.out, ← HLB.out]; rfl, by rw [any_next HCK.out, ← HHB.out]; exact HB2L.out, a1, a2, a7, bw⟩
                  case measure => simp [intOf]; omega
                · skip
                  skip
                  go_wp2_with fail
                  go_roundw
                  case rel => exact ⟨k + 1, true, true, by omega, rfl, rfl, by go_num, by rw [any_next HCK.out, ← HLB.out]; rfl, by rw [any_next HCK.out, ← HHB.out]; rfl, a1, a2, a7, bw⟩
                  case measure => simp [intOf]; omega
      · obtain rfl : k = 4 := by omega
        have hl : lb = true := by
          rw [HLB.out, List.any_eq_true]
          have h := loP_mem HNE.out
          exact ⟨_, corn_swap HPS.out HCS.out h, by simp⟩
        have hh : hb = true := by
          rw [HHB.out, List.any_eq_true]
          have h := hiP_mem HNE.out
          exact ⟨_, corn_swap HPS.out HCS.out h, by simp⟩
        subst hl hh
        go_wp2_with fail
        refine (awakei_any _).mono ?_
        rintro e wn ⟨rfl, bb⟩
        try replace a1 := a1.below bb
        try replace a2 := a2.below bb
        try replace a3 := a3.below bb
        try replace a4 := a4.below bb
        try replace a5 := a5.below bb
        try replace a6 := a6.below bb
        try replace a7 := a7.below bb
        try replace a8 := a8.below bb
        try replace a9 := a9.below bb
        try replace a10 := a10.below bb
        replace bw := below_on bw bb bw.size
        clear bb
        go_wp2_with fail
        go_ret
        exact ⟨rfl, bw⟩
set_option maxRecDepth 100000 in
theorem iincl_walk (w : World) (x1 x2 : Ix) (a1 a2 : Int) (ok1 : x1.ok w) (ok2 : x2.ok w) (wf1 : (Lit.int IntKind.u8 a1).wf = true) (wf2 : (Lit.int IntKind.u8 a2).wf = true) :
    Calls Try.prog 4 #[x1.val, x2.val, .int .u8 a1, .int .u8 a2] w fun e w' => e = .returned (.bool true) ∧ Below w.heap.size w w' := by
  have b1 : 0 ≤ a1 ∧ a1 ≤ 255 := by simp [Lit.wf, IntKind.min, IntKind.max, IntKind.signed, IntKind.bits] at wf1; omega
  have b2 : 0 ≤ a2 ∧ a2 ≤ 255 := by simp [Lit.wf, IntKind.min, IntKind.max, IntKind.signed, IntKind.bits] at wf2; omega
  obtain ⟨n1, rfl⟩ : ∃ n : Nat, a1 = (n : Int) := ⟨a1.toNat, by omega⟩
  obtain ⟨n2, rfl⟩ : ∃ n : Nat, a2 = (n : Int) := ⟨a2.toNat, by omega⟩
  cases h : longI [x1, x2]
  · obtain ⟨t1, t2⟩ := longI2 h
    by_cases hv : x1.v ∧ x2.v
    · exact iincl_main w x1 x2 n1 n2 ok1 ok2 t1.few t2.few h (t1.sh ok1 hv.1) (t2.sh ok2 hv.2) (by omega) (by omega)
    · exact iincl_bad w x1 x2 n1 n2 ok1 ok2 t1.few t2.few h hv
  · exact iincl_long w x1 x2 n1 n2 ok1 ok2 h
end Go.Proofs.Ytlcolmifmhdboaa
