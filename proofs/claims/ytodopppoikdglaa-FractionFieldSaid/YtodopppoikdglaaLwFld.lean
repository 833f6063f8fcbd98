/- The walk of FractionField. -/
import Derived.Test.YtodopppoikdglaaLwD
namespace Go.Proofs.Ytodopppoikdglaa
open Go.RowKit

set_option maxRecDepth 100000 in
set_option maxHeartbeats 1600000 in
theorem field_long (w : World) (x1 x2 x3 : Fx) (ok1 : x1.ok w) (ok2 : x2.ok w) (ok3 : x3.ok w) (hL : lensB [x1, x2, x3]) (h : longB [x1, x2, x3] = true) :
    Calls Try.prog 6 #[x1.val, x2.val, x3.val] w fun e w' => e = .returned (.bool true) ∧ Below w.heap.size w w' := by
  have HL := Lib.hid hL
  have H := Lib.hid h
  clear hL h
  go_enter Try.func6, Try.ntmps6
  go_upto_region 1 with fail
  have bw := Below.refl w.heap.size w
  have a1 := (fa_alloc ok1).1
  have bb := (fa_alloc ok1).2
  have sz1 := size_box w (.cells #[.bool x1.b, .slice x1.A x1.xs.length x1.c, .slice x1.D x1.ys.length x1.d] 25)
  clear ok1
  generalize (w.alloc (.cells #[.bool x1.b, .slice x1.A x1.xs.length x1.c, .slice x1.D x1.ys.length x1.d] 25)) = wA at a1 bb sz1 ⊢
  try replace ok1 := ok1.below bb
  try replace ok2 := ok2.below bb
  try replace ok3 := ok3.below bb
  try replace a1 := a1.below bb
  try replace a2 := a2.below bb
  try replace a3 := a3.below bb
  try replace a4 := a4.below bb
  try replace a5 := a5.below bb
  try replace a6 := a6.below bb
  try replace a7 := a7.below bb
  try replace a8 := a8.below bb
  try replace a9 := a9.below bb
  try replace a10 := a10.below bb
  try replace a11 := a11.below bb
  try replace a12 := a12.below bb
  try replace a13 := a13.below bb
  try replace a14 := a14.below bb
  try replace a15 := a15.below bb
  try replace a16 := a16.below bb
  try replace a17 := a17.below bb
  try replace a18 := a18.below bb
  try replace a19 := a19.below bb
  try replace a20 := a20.below bb
  replace bw := below_on bw bb bw.size
  clear bb
  have a2 := (fa_alloc ok2).1
  have bb := (fa_alloc ok2).2
  have sz2 := size_box wA (.cells #[.bool x2.b, .slice x2.A x2.xs.length x2.c, .slice x2.D x2.ys.length x2.d] 25)
  rw [sz1] at a2 sz2
  clear ok2 sz1
  generalize (wA.alloc (.cells #[.bool x2.b, .slice x2.A x2.xs.length x2.c, .slice x2.D x2.ys.length x2.d] 25)) = wB at a2 bb sz2 ⊢
  try replace ok1 := ok1.below bb
  try replace ok2 := ok2.below bb
  try replace ok3 := ok3.below bb
  try replace a1 := a1.below bb
  try replace a2 := a2.below bb
  try replace a3 := a3.below bb
  try replace a4 := a4.below bb
  try replace a5 := a5.below bb
  try replace a6 := a6.below bb
  try replace a7 := a7.below bb
  try replace a8 := a8.below bb
  try replace a9 := a9.below bb
  try replace a10 := a10.below bb
  try replace a11 := a11.below bb
  try replace a12 := a12.below bb
  try replace a13 := a13.below bb
  try replace a14 := a14.below bb
  try replace a15 := a15.below bb
  try replace a16 := a16.below bb
  try replace a17 := a17.below bb
  try replace a18 := a18.below bb
  try replace a19 := a19.below bb
  try replace a20 := a20.below bb
  replace bw := below_on bw bb bw.size
  clear bb
  have a3 := (fa_alloc ok3).1
  have bb := (fa_alloc ok3).2
  have sz3 := size_box wB (.cells #[.bool x3.b, .slice x3.A x3.xs.length x3.c, .slice x3.D x3.ys.length x3.d] 25)
  rw [sz2] at a3 sz3
  clear ok3 sz2
  generalize (wB.alloc (.cells #[.bool x3.b, .slice x3.A x3.xs.length x3.c, .slice x3.D x3.ys.length x3.d] 25)) = wm at a3 bb sz3 ⊢
  try replace ok1 := ok1.below bb
  try replace ok2 := ok2.below bb
  try replace ok3 := ok3.below bb
  try replace a1 := a1.below bb
  try replace a2 := a2.below bb
  try replace a3 := a3.below bb
  try replace a4 := a4.below bb
  try replace a5 := a5.below bb
  try replace a6 := a6.below bb
  try replace a7 := a7.below bb
  try replace a8 := a8.below bb
  try replace a9 := a9.below bb
  try replace a10 := a10.below bb
  try replace a11 := a11.below bb
  try replace a12 := a12.below bb
  try replace a13 := a13.below bb
  try replace a14 := a14.below bb
  try replace a15 := a15.below bb
  try replace a16 := a16.below bb
  try replace a17 := a17.below bb
  try replace a18 := a18.below bb
  try replace a19 := a19.below bb
  try replace a20 := a20.below bb
  replace bw := below_on bw bb bw.size
  clear bb
  clear sz3
  have ci0 := a1.c0
  have ci1 := a1.c1
  have ci2 := a1.c2
  have cj0 := a2.c0
  have cj1 := a2.c1
  have cj2 := a2.c2
  have ck0 := a3.c0
  have ck1 := a3.c1
  have ck2 := a3.c2
  go_wp2_with fail
  clear ci0 ci1 ci2 cj0 cj1 cj2
  clear ck0 ck1 ck2
  have hr := rdf3 wm x1 x2 x3
  have bb := (Below.refl wm.heap.size wm).alloc (Nat.le_refl _) (.cells #[.bool x1.b, .slice x1.A x1.xs.length x1.c, .slice x1.D x1.ys.length x1.d, .bool x2.b, .slice x2.A x2.xs.length x2.c, .slice x2.D x2.ys.length x2.d, .bool x3.b, .slice x3.A x3.xs.length x3.c, .slice x3.D x3.ys.length x3.d] 25)
  generalize (wm.alloc (.cells #[.bool x1.b, .slice x1.A x1.xs.length x1.c, .slice x1.D x1.ys.length x1.d, .bool x2.b, .slice x2.A x2.xs.length x2.c, .slice x2.D x2.ys.length x2.d, .bool x3.b, .slice x3.A x3.xs.length x3.c, .slice x3.D x3.ys.length x3.d] 25)) = wn at hr bb ⊢
  try replace a1 := a1.below bb
  try replace a2 := a2.below bb
  try replace a3 := a3.below bb
  try replace a4 := a4.below bb
  try replace a5 := a5.below bb
  try replace a6 := a6.below bb
  try replace a7 := a7.below bb
  try replace a8 := a8.below bb
  try replace a9 := a9.below bb
  try replace a10 := a10.below bb
  try replace a11 := a11.below bb
  try replace a12 := a12.below bb
  try replace a13 := a13.below bb
  try replace a14 := a14.below bb
  try replace a15 := a15.below bb
  try replace a16 := a16.below bb
  try replace a17 := a17.below bb
  try replace a18 := a18.below bb
  try replace a19 := a19.below bb
  try replace a20 := a20.below bb
  replace bw := below_on bw bb bw.size
  clear bb
  refine (flong_any wn _ _ _ _ true hr rfl (by simp) (by intro v hv; simp only [List.mem_cons, List.not_mem_nil, or_false] at hv; rcases hv with rfl | rfl | rfl <;> exact HL.out _ (by simp)) H.out).mono ?_
  rintro e wl ⟨rfl, rfl⟩
  clear hr
  go_wp2_with fail
  refine (awakef_any _).mono ?_
  rintro e wn ⟨rfl, bb⟩
  try replace a1 := a1.below bb
  try replace a2 := a2.below bb
  try replace a3 := a3.below bb
  try replace a4 := a4.below bb
  try replace a5 := a5.below bb
  try replace a6 := a6.below bb
  try replace a7 := a7.below bb
  try replace a8 := a8.below bb
  try replace a9 := a9.below bb
  try replace a10 := a10.below bb
  try replace a11 := a11.below bb
  try replace a12 := a12.below bb
  try replace a13 := a13.below bb
  try replace a14 := a14.below bb
  try replace a15 := a15.below bb
  try replace a16 := a16.below bb
  try replace a17 := a17.below bb
  try replace a18 := a18.below bb
  try replace a19 := a19.below bb
  try replace a20 := a20.below bb
  replace bw := below_on bw bb bw.size
  clear bb
  go_wp2_with fail
  go_ret
  exact ⟨rfl, bw⟩
set_option maxRecDepth 100000 in
set_option maxHeartbeats 1600000 in
theorem field_bad (w : World) (x1 x2 x3 : Fx) (ok1 : x1.ok w) (ok2 : x2.ok w) (ok3 : x3.ok w) (hL : lensB [x1, x2, x3]) (h : longB [x1, x2, x3] = false) (l1 : x1.xs.length ≤ 10000) (m1 : x1.ys.length ≤ 10000) (l2 : x2.xs.length ≤ 10000) (m2 : x2.ys.length ≤ 10000) (l3 : x3.xs.length ≤ 10000) (m3 : x3.ys.length ≤ 10000) (hv : ¬ (x1.v ∧ x2.v ∧ x3.v)) :
    Calls Try.prog 6 #[x1.val, x2.val, x3.val] w fun e w' => e = .returned (.bool true) ∧ Below w.heap.size w w' := by
  have HL := Lib.hid hL
  have H := Lib.hid h
  clear hL h
  by_cases hv1 : x1.v
  · have HV1 := Lib.hid hv1
    by_cases hv2 : x2.v
    · have HV2 := Lib.hid hv2
      have HV3 : Hid (¬ x3.v) := fun h => hv ⟨hv1, hv2, h⟩
      clear hv1 hv2 hv
      go_enter Try.func6, Try.ntmps6
      go_upto_region 1 with fail
      have bw := Below.refl w.heap.size w
      have a1 := (fa_alloc ok1).1
      have bb := (fa_alloc ok1).2
      have sz1 := size_box w (.cells #[.bool x1.b, .slice x1.A x1.xs.length x1.c, .slice x1.D x1.ys.length x1.d] 25)
      clear ok1
      generalize (w.alloc (.cells #[.bool x1.b, .slice x1.A x1.xs.length x1.c, .slice x1.D x1.ys.length x1.d] 25)) = wA at a1 bb sz1 ⊢
      try replace ok1 := ok1.below bb
      try replace ok2 := ok2.below bb
      try replace ok3 := ok3.below bb
      try replace a1 := a1.below bb
      try replace a2 := a2.below bb
      try replace a3 := a3.below bb
      try replace a4 := a4.below bb
      try replace a5 := a5.below bb
      try replace a6 := a6.below bb
      try replace a7 := a7.below bb
      try replace a8 := a8.below bb
      try replace a9 := a9.below bb
      try replace a10 := a10.below bb
      try replace a11 := a11.below bb
      try replace a12 := a12.below bb
      try replace a13 := a13.below bb
      try replace a14 := a14.below bb
      try replace a15 := a15.below bb
      try replace a16 := a16.below bb
      try replace a17 := a17.below bb
      try replace a18 := a18.below bb
      try replace a19 := a19.below bb
      try replace a20 := a20.below bb
      replace bw := below_on bw bb bw.size
      clear bb
      have a2 := (fa_alloc ok2).1
      have bb := (fa_alloc ok2).2
      have sz2 := size_box wA (.cells #[.bool x2.b, .slice x2.A x2.xs.length x2.c, .slice x2.D x2.ys.length x2.d] 25)
      rw [sz1] at a2 sz2
      clear ok2 sz1
      generalize (wA.alloc (.cells #[.bool x2.b, .slice x2.A x2.xs.length x2.c, .slice x2.D x2.ys.length x2.d] 25)) = wB at a2 bb sz2 ⊢
      try replace ok1 := ok1.below bb
      try replace ok2 := ok2.below bb
      try replace ok3 := ok3.below bb
      try replace a1 := a1.below bb
      try replace a2 := a2.below bb
      try replace a3 := a3.below bb
      try replace a4 := a4.below bb
      try replace a5 := a5.below bb
      try replace a6 := a6.below bb
      try replace a7 := a7.below bb
      try replace a8 := a8.below bb
      try replace a9 := a9.below bb
      try replace a10 := a10.below bb
      try replace a11 := a11.below bb
      try replace a12 := a12.below bb
      try replace a13 := a13.below bb
      try replace a14 := a14.below bb
      try replace a15 := a15.below bb
      try replace a16 := a16.below bb
      try replace a17 := a17.below bb
      try replace a18 := a18.below bb
      try replace a19 := a19.below bb
      try replace a20 := a20.below bb
      replace bw := below_on bw bb bw.size
      clear bb
      have a3 := (fa_alloc ok3).1
      have bb := (fa_alloc ok3).2
      have sz3 := size_box wB (.cells #[.bool x3.b, .slice x3.A x3.xs.length x3.c, .slice x3.D x3.ys.length x3.d] 25)
      rw [sz2] at a3 sz3
      clear ok3 sz2
      generalize (wB.alloc (.cells #[.bool x3.b, .slice x3.A x3.xs.length x3.c, .slice x3.D x3.ys.length x3.d] 25)) = wm at a3 bb sz3 ⊢
      try replace ok1 := ok1.below bb
      try replace ok2 := ok2.below bb
      try replace ok3 := ok3.below bb
      try replace a1 := a1.below bb
      try replace a2 := a2.below bb
      try replace a3 := a3.below bb
      try replace a4 := a4.below bb
      try replace a5 := a5.below bb
      try replace a6 := a6.below bb
      try replace a7 := a7.below bb
      try replace a8 := a8.below bb
      try replace a9 := a9.below bb
      try replace a10 := a10.below bb
      try replace a11 := a11.below bb
      try replace a12 := a12.below bb
      try replace a13 := a13.below bb
      try replace a14 := a14.below bb
      try replace a15 := a15.below bb
      try replace a16 := a16.below bb
      try replace a17 := a17.below bb
      try replace a18 := a18.below bb
      try replace a19 := a19.below bb
      try replace a20 := a20.below bb
      replace bw := below_on bw bb bw.size
      clear bb
      clear sz3
      have ci0 := a1.c0
      have ci1 := a1.c1
      have ci2 := a1.c2
      have cj0 := a2.c0
      have cj1 := a2.c1
      have cj2 := a2.c2
      have ck0 := a3.c0
      have ck1 := a3.c1
      have ck2 := a3.c2
      go_wp2_with fail
      clear ci0 ci1 ci2 cj0 cj1 cj2
      clear ck0 ck1 ck2
      have hr := rdf3 wm x1 x2 x3
      have bb := (Below.refl wm.heap.size wm).alloc (Nat.le_refl _) (.cells #[.bool x1.b, .slice x1.A x1.xs.length x1.c, .slice x1.D x1.ys.length x1.d, .bool x2.b, .slice x2.A x2.xs.length x2.c, .slice x2.D x2.ys.length x2.d, .bool x3.b, .slice x3.A x3.xs.length x3.c, .slice x3.D x3.ys.length x3.d] 25)
      generalize (wm.alloc (.cells #[.bool x1.b, .slice x1.A x1.xs.length x1.c, .slice x1.D x1.ys.length x1.d, .bool x2.b, .slice x2.A x2.xs.length x2.c, .slice x2.D x2.ys.length x2.d, .bool x3.b, .slice x3.A x3.xs.length x3.c, .slice x3.D x3.ys.length x3.d] 25)) = wn at hr bb ⊢
      try replace a1 := a1.below bb
      try replace a2 := a2.below bb
      try replace a3 := a3.below bb
      try replace a4 := a4.below bb
      try replace a5 := a5.below bb
      try replace a6 := a6.below bb
      try replace a7 := a7.below bb
      try replace a8 := a8.below bb
      try replace a9 := a9.below bb
      try replace a10 := a10.below bb
      try replace a11 := a11.below bb
      try replace a12 := a12.below bb
      try replace a13 := a13.below bb
      try replace a14 := a14.below bb
      try replace a15 := a15.below bb
      try replace a16 := a16.below bb
      try replace a17 := a17.below bb
      try replace a18 := a18.below bb
      try replace a19 := a19.below bb
      try replace a20 := a20.below bb
      replace bw := below_on bw bb bw.size
      clear bb
      refine (flong_any wn _ _ _ _ false hr rfl (by simp) (by intro v hv; simp only [List.mem_cons, List.not_mem_nil, or_false] at hv; rcases hv with rfl | rfl | rfl <;> exact HL.out _ (by simp)) H.out).mono ?_
      rintro e wl ⟨rfl, rfl⟩
      clear hr
      have ci0 := a1.c0
      have ci1 := a1.c1
      have ci2 := a1.c2
      go_wp2_with fail
      clear ci0 ci1 ci2
      refine (rfvalid_any _ x1 true a1.ok l1 m1 (decide_eq_true HV1.out)).mono ?_
      rintro e wn ⟨rfl, bb⟩
      try replace a1 := a1.below bb
      try replace a2 := a2.below bb
      try replace a3 := a3.below bb
      try replace a4 := a4.below bb
      try replace a5 := a5.below bb
      try replace a6 := a6.below bb
      try replace a7 := a7.below bb
      try replace a8 := a8.below bb
      try replace a9 := a9.below bb
      try replace a10 := a10.below bb
      try replace a11 := a11.below bb
      try replace a12 := a12.below bb
      try replace a13 := a13.below bb
      try replace a14 := a14.below bb
      try replace a15 := a15.below bb
      try replace a16 := a16.below bb
      try replace a17 := a17.below bb
      try replace a18 := a18.below bb
      try replace a19 := a19.below bb
      try replace a20 := a20.below bb
      replace bw := below_on bw bb bw.size
      clear bb
      have ci0 := a2.c0
      have ci1 := a2.c1
      have ci2 := a2.c2
      go_wp2_with fail
      clear ci0 ci1 ci2
      refine (rfvalid_any _ x2 true a2.ok l2 m2 (decide_eq_true HV2.out)).mono ?_
      rintro e wn ⟨rfl, bb⟩
      try replace a1 := a1.below bb
      try replace a2 := a2.below bb
      try replace a3 := a3.below bb
      try replace a4 := a4.below bb
      try replace a5 := a5.below bb
      try replace a6 := a6.below bb
      try replace a7 := a7.below bb
      try replace a8 := a8.below bb
      try replace a9 := a9.below bb
      try replace a10 := a10.below bb
      try replace a11 := a11.below bb
      try replace a12 := a12.below bb
      try replace a13 := a13.below bb
      try replace a14 := a14.below bb
      try replace a15 := a15.below bb
      try replace a16 := a16.below bb
      try replace a17 := a17.below bb
      try replace a18 := a18.below bb
      try replace a19 := a19.below bb
      try replace a20 := a20.below bb
      replace bw := below_on bw bb bw.size
      clear bb
      have ci0 := a3.c0
      have ci1 := a3.c1
      have ci2 := a3.c2
      go_wp2_with fail
      clear ci0 ci1 ci2
      refine (rfvalid_any _ x3 false a3.ok l3 m3 (decide_eq_false HV3.out)).mono ?_
      rintro e wn ⟨rfl, bb⟩
      try replace a1 := a1.below bb
      try replace a2 := a2.below bb
      try replace a3 := a3.below bb
      try replace a4 := a4.below bb
      try replace a5 := a5.below bb
      try replace a6 := a6.below bb
      try replace a7 := a7.below bb
      try replace a8 := a8.below bb
      try replace a9 := a9.below bb
      try replace a10 := a10.below bb
      try replace a11 := a11.below bb
      try replace a12 := a12.below bb
      try replace a13 := a13.below bb
      try replace a14 := a14.below bb
      try replace a15 := a15.below bb
      try replace a16 := a16.below bb
      try replace a17 := a17.below bb
      try replace a18 := a18.below bb
      try replace a19 := a19.below bb
      try replace a20 := a20.below bb
      replace bw := below_on bw bb bw.size
      clear bb
      go_wp2_with fail
      refine (awakef_any _).mono ?_
      rintro e wn ⟨rfl, bb⟩
      try replace a1 := a1.below bb
      try replace a2 := a2.below bb
      try replace a3 := a3.below bb
      try replace a4 := a4.below bb
      try replace a5 := a5.below bb
      try replace a6 := a6.below bb
      try replace a7 := a7.below bb
      try replace a8 := a8.below bb
      try replace a9 := a9.below bb
      try replace a10 := a10.below bb
      try replace a11 := a11.below bb
      try replace a12 := a12.below bb
      try replace a13 := a13.below bb
      try replace a14 := a14.below bb
      try replace a15 := a15.below bb
      try replace a16 := a16.below bb
      try replace a17 := a17.below bb
      try replace a18 := a18.below bb
      try replace a19 := a19.below bb
      try replace a20 := a20.below bb
      replace bw := below_on bw bb bw.size
      clear bb
      go_wp2_with fail
      go_ret
      exact ⟨rfl, bw⟩
    · have HV2 : Hid (¬ x2.v) := hv2
      clear hv1 hv2 hv
      go_enter Try.func6, Try.ntmps6
      go_upto_region 1 with fail
      have bw := Below.refl w.heap.size w
      have a1 := (fa_alloc ok1).1
      have bb := (fa_alloc ok1).2
      have sz1 := size_box w (.cells #[.bool x1.b, .slice x1.A x1.xs.length x1.c, .slice x1.D x1.ys.length x1.d] 25)
      clear ok1
      generalize (w.alloc (.cells #[.bool x1.b, .slice x1.A x1.xs.length x1.c, .slice x1.D x1.ys.length x1.d] 25)) = wA at a1 bb sz1 ⊢
      try replace ok1 := ok1.below bb
      try replace ok2 := ok2.below bb
      try replace ok3 := ok3.below bb
      try replace a1 := a1.below bb
      try replace a2 := a2.below bb
      try replace a3 := a3.below bb
      try replace a4 := a4.below bb
      try replace a5 := a5.below bb
      try replace a6 := a6.below bb
      try replace a7 := a7.below bb
      try replace a8 := a8.below bb
      try replace a9 := a9.below bb
      try replace a10 := a10.below bb
      try replace a11 := a11.below bb
      try replace a12 := a12.below bb
      try replace a13 := a13.below bb
      try replace a14 := a14.below bb
      try replace a15 := a15.below bb
      try replace a16 := a16.below bb
      try replace a17 := a17.below bb
      try replace a18 := a18.below bb
      try replace a19 := a19.below bb
      try replace a20 := a20.below bb
      replace bw := below_on bw bb bw.size
      clear bb
      have a2 := (fa_alloc ok2).1
      have bb := (fa_alloc ok2).2
      have sz2 := size_box wA (.cells #[.bool x2.b, .slice x2.A x2.xs.length x2.c, .slice x2.D x2.ys.length x2.d] 25)
      rw [sz1] at a2 sz2
      clear ok2 sz1
      generalize (wA.alloc (.cells #[.bool x2.b, .slice x2.A x2.xs.length x2.c, .slice x2.D x2.ys.length x2.d] 25)) = wB at a2 bb sz2 ⊢
      try replace ok1 := ok1.below bb
      try replace ok2 := ok2.below bb
      try replace ok3 := ok3.below bb
      try replace a1 := a1.below bb
      try replace a2 := a2.below bb
      try replace a3 := a3.below bb
      try replace a4 := a4.below bb
      try replace a5 := a5.below bb
      try replace a6 := a6.below bb
      try replace a7 := a7.below bb
      try replace a8 := a8.below bb
      try replace a9 := a9.below bb
      try replace a10 := a10.below bb
      try replace a11 := a11.below bb
      try replace a12 := a12.below bb
      try replace a13 := a13.below bb
      try replace a14 := a14.below bb
      try replace a15 := a15.below bb
      try replace a16 := a16.below bb
      try replace a17 := a17.below bb
      try replace a18 := a18.below bb
      try replace a19 := a19.below bb
      try replace a20 := a20.below bb
      replace bw := below_on bw bb bw.size
      clear bb
      have a3 := (fa_alloc ok3).1
      have bb := (fa_alloc ok3).2
      have sz3 := size_box wB (.cells #[.bool x3.b, .slice x3.A x3.xs.length x3.c, .slice x3.D x3.ys.length x3.d] 25)
      rw [sz2] at a3 sz3
      clear ok3 sz2
      generalize (wB.alloc (.cells #[.bool x3.b, .slice x3.A x3.xs.length x3.c, .slice x3.D x3.ys.length x3.d] 25)) = wm at a3 bb sz3 ⊢
      try replace ok1 := ok1.below bb
      try replace ok2 := ok2.below bb
      try replace ok3 := ok3.below bb
      try replace a1 := a1.below bb
      try replace a2 := a2.below bb
      try replace a3 := a3.below bb
      try replace a4 := a4.below bb
      try replace a5 := a5.below bb
      try replace a6 := a6.below bb
      try replace a7 := a7.below bb
      try replace a8 := a8.below bb
      try replace a9 := a9.below bb
      try replace a10 := a10.below bb
      try replace a11 := a11.below bb
      try replace a12 := a12.below bb
      try replace a13 := a13.below bb
      try replace a14 := a14.below bb
      try replace a15 := a15.below bb
      try replace a16 := a16.below bb
      try replace a17 := a17.below bb
      try replace a18 := a18.below bb
      try replace a19 := a19.below bb
      try replace a20 := a20.below bb
      replace bw := below_on bw bb bw.size
      clear bb
      clear sz3
      have ci0 := a1.c0
      have ci1 := a1.c1
      have ci2 := a1.c2
      have cj0 := a2.c0
      have cj1 := a2.c1
      have cj2 := a2.c2
      have ck0 := a3.c0
      have ck1 := a3.c1
      have ck2 := a3.c2
      go_wp2_with fail
      clear ci0 ci1 ci2 cj0 cj1 cj2
      clear ck0 ck1 ck2
      have hr := rdf3 wm x1 x2 x3
      have bb := (Below.refl wm.heap.size wm).alloc (Nat.le_refl _) (.cells #[.bool x1.b, .slice x1.A x1.xs.length x1.c, .slice x1.D x1.ys.length x1.d, .bool x2.b, .slice x2.A x2.xs.length x2.c, .slice x2.D x2.ys.length x2.d, .bool x3.b, .slice x3.A x3.xs.length x3.c, .slice x3.D x3.ys.length x3.d] 25)
      generalize (wm.alloc (.cells #[.bool x1.b, .slice x1.A x1.xs.length x1.c, .slice x1.D x1.ys.length x1.d, .bool x2.b, .slice x2.A x2.xs.length x2.c, .slice x2.D x2.ys.length x2.d, .bool x3.b, .slice x3.A x3.xs.length x3.c, .slice x3.D x3.ys.length x3.d] 25)) = wn at hr bb ⊢
      try replace a1 := a1.below bb
      try replace a2 := a2.below bb
      try replace a3 := a3.below bb
      try replace a4 := a4.below bb
      try replace a5 := a5.below bb
      try replace a6 := a6.below bb
      try replace a7 := a7.below bb
      try replace a8 := a8.below bb
      try replace a9 := a9.below bb
      try replace a10 := a10.below bb
      try replace a11 := a11.below bb
      try replace a12 := a12.below bb
      try replace a13 := a13.below bb
      try replace a14 := a14.below bb
      try replace a15 := a15.below bb
      try replace a16 := a16.below bb
      try replace a17 := a17.below bb
      try replace a18 := a18.below bb
      try replace a19 := a19.below bb
      try replace a20 := a20.below bb
      replace bw := below_on bw bb bw.size
      clear bb
      refine (flong_any wn _ _ _ _ false hr rfl (by simp) (by intro v hv; simp only [List.mem_cons, List.not_mem_nil, or_false] at hv; rcases hv with rfl | rfl | rfl <;> exact HL.out _ (by simp)) H.out).mono ?_
      rintro e wl ⟨rfl, rfl⟩
      clear hr
      have ci0 := a1.c0
      have ci1 := a1.c1
      have ci2 := a1.c2
      go_wp2_with fail
      clear ci0 ci1 ci2
      refine (rfvalid_any _ x1 true a1.ok l1 m1 (decide_eq_true HV1.out)).mono ?_
      rintro e wn ⟨rfl, bb⟩
      try replace a1 := a1.below bb
      try replace a2 := a2.below bb
      try replace a3 := a3.below bb
      try replace a4 := a4.below bb
      try replace a5 := a5.below bb
      try replace a6 := a6.below bb
      try replace a7 := a7.below bb
      try replace a8 := a8.below bb
      try replace a9 := a9.below bb
      try replace a10 := a10.below bb
      try replace a11 := a11.below bb
      try replace a12 := a12.below bb
      try replace a13 := a13.below bb
      try replace a14 := a14.below bb
      try replace a15 := a15.below bb
      try replace a16 := a16.below bb
      try replace a17 := a17.below bb
      try replace a18 := a18.below bb
      try replace a19 := a19.below bb
      try replace a20 := a20.below bb
      replace bw := below_on bw bb bw.size
      clear bb
      have ci0 := a2.c0
      have ci1 := a2.c1
      have ci2 := a2.c2
      go_wp2_with fail
      clear ci0 ci1 ci2
      refine (rfvalid_any _ x2 false a2.ok l2 m2 (decide_eq_false HV2.out)).mono ?_
      rintro e wn ⟨rfl, bb⟩
      try replace a1 := a1.below bb
      try replace a2 := a2.below bb
      try replace a3 := a3.below bb
      try replace a4 := a4.below bb
      try replace a5 := a5.below bb
      try replace a6 := a6.below bb
      try replace a7 := a7.below bb
      try replace a8 := a8.below bb
      try replace a9 := a9.below bb
      try replace a10 := a10.below bb
      try replace a11 := a11.below bb
      try replace a12 := a12.below bb
      try replace a13 := a13.below bb
      try replace a14 := a14.below bb
      try replace a15 := a15.below bb
      try replace a16 := a16.below bb
      try replace a17 := a17.below bb
      try replace a18 := a18.below bb
      try replace a19 := a19.below bb
      try replace a20 := a20.below bb
      replace bw := below_on bw bb bw.size
      clear bb
      go_wp2_with fail
      refine (awakef_any _).mono ?_
      rintro e wn ⟨rfl, bb⟩
      try replace a1 := a1.below bb
      try replace a2 := a2.below bb
      try replace a3 := a3.below bb
      try replace a4 := a4.below bb
      try replace a5 := a5.below bb
      try replace a6 := a6.below bb
      try replace a7 := a7.below bb
      try replace a8 := a8.below bb
      try replace a9 := a9.below bb
      try replace a10 := a10.below bb
      try replace a11 := a11.below bb
      try replace a12 := a12.below bb
      try replace a13 := a13.below bb
      try replace a14 := a14.below bb
      try replace a15 := a15.below bb
      try replace a16 := a16.below bb
      try replace a17 := a17.below bb
      try replace a18 := a18.below bb
      try replace a19 := a19.below bb
      try replace a20 := a20.below bb
      replace bw := below_on bw bb bw.size
      clear bb
      go_wp2_with fail
      go_ret
      exact ⟨rfl, bw⟩
  · have HV1 : Hid (¬ x1.v) := hv1
    clear hv1 hv
    go_enter Try.func6, Try.ntmps6
    go_upto_region 1 with fail
    have bw := Below.refl w.heap.size w
    have a1 := (fa_alloc ok1).1
    have bb := (fa_alloc ok1).2
    have sz1 := size_box w (.cells #[.bool x1.b, .slice x1.A x1.xs.length x1.c, .slice x1.D x1.ys.length x1.d] 25)
    clear ok1
    generalize (w.alloc (.cells #[.bool x1.b, .slice x1.A x1.xs.length x1.c, .slice x1.D x1.ys.length x1.d] 25)) = wA at a1 bb sz1 ⊢
    try replace ok1 := ok1.below bb
    try replace ok2 := ok2.below bb
    try replace ok3 := ok3.below bb
    try replace a1 := a1.below bb
    try replace a2 := a2.below bb
    try replace a3 := a3.below bb
    try replace a4 := a4.below bb
    try replace a5 := a5.below bb
    try replace a6 := a6.below bb
    try replace a7 := a7.below bb
    try replace a8 := a8.below bb
    try replace a9 := a9.below bb
    try replace a10 := a10.below bb
    try replace a11 := a11.below bb
    try replace a12 := a12.below bb
    try replace a13 := a13.below bb
    try replace a14 := a14.below bb
    try replace a15 := a15.below bb
    try replace a16 := a16.below bb
    try replace a17 := a17.below bb
    try replace a18 := a18.below bb
    try replace a19 := a19.below bb
    try replace a20 := a20.below bb
    replace bw := below_on bw bb bw.size
    clear bb
    have a2 := (fa_alloc ok2).1
    have bb := (fa_alloc ok2).2
    have sz2 := size_box wA (.cells #[.bool x2.b, .slice x2.A x2.xs.length x2.c, .slice x2.D x2.ys.length x2.d] 25)
    rw [sz1] at a2 sz2
    clear ok2 sz1
    generalize (wA.alloc (.cells #[.bool x2.b, .slice x2.A x2.xs.length x2.c, .slice x2.D x2.ys.length x2.d] 25)) = wB at a2 bb sz2 ⊢
    try replace ok1 := ok1.below bb
    try replace ok2 := ok2.below bb
    try replace ok3 := ok3.below bb
    try replace a1 := a1.below bb
    try replace a2 := a2.below bb
    try replace a3 := a3.below bb
    try replace a4 := a4.below bb
    try replace a5 := a5.below bb
    try replace a6 := a6.below bb
    try replace a7 := a7.below bb
    try replace a8 := a8.below bb
    try replace a9 := a9.below bb
    try replace a10 := a10.below bb
    try replace a11 := a11.below bb
    try replace a12 := a12.below bb
    try replace a13 := a13.below bb
    try replace a14 := a14.below bb
    try replace a15 := a15.below bb
    try replace a16 := a16.below bb
    try replace a17 := a17.below bb
    try replace a18 := a18.below bb
    try replace a19 := a19.below bb
    try replace a20 := a20.below bb
    replace bw := below_on bw bb bw.size
    clear bb
    have a3 := (fa_alloc ok3).1
    have bb := (fa_alloc ok3).2
    have sz3 := size_box wB (.cells #[.bool x3.b, .slice x3.A x3.xs.length x3.c, .slice x3.D x3.ys.length x3.d] 25)
    rw [sz2] at a3 sz3
    clear ok3 sz2
    generalize (wB.alloc (.cells #[.bool x3.b, .slice x3.A x3.xs.length x3.c, .slice x3.D x3.ys.length x3.d] 25)) = wm at a3 bb sz3 ⊢
    try replace ok1 := ok1.below bb
    try replace ok2 := ok2.below bb
    try replace ok3 := ok3.below bb
    try replace a1 := a1.below bb
    try replace a2 := a2.below bb
    try replace a3 := a3.below bb
    try replace a4 := a4.below bb
    try replace a5 := a5.below bb
    try replace a6 := a6.below bb
    try replace a7 := a7.below bb
    try replace a8 := a8.below bb
    try replace a9 := a9.below bb
    try replace a10 := a10.below bb
    try replace a11 := a11.below bb
    try replace a12 := a12.below bb
    try replace a13 := a13.below bb
    try replace a14 := a14.below bb
    try replace a15 := a15.below bb
    try replace a16 := a16.below bb
    try replace a17 := a17.below bb
    try replace a18 := a18.below bb
    try replace a19 := a19.below bb
    try replace a20 := a20.below bb
    replace bw := below_on bw bb bw.size
    clear bb
    clear sz3
    have ci0 := a1.c0
    have ci1 := a1.c1
    have ci2 := a1.c2
    have cj0 := a2.c0
    have cj1 := a2.c1
    have cj2 := a2.c2
    have ck0 := a3.c0
    have ck1 := a3.c1
    have ck2 := a3.c2
    go_wp2_with fail
    clear ci0 ci1 ci2 cj0 cj1 cj2
    clear ck0 ck1 ck2
    have hr := rdf3 wm x1 x2 x3
    have bb := (Below.refl wm.heap.size wm).alloc (Nat.le_refl _) (.cells #[.bool x1.b, .slice x1.A x1.xs.length x1.c, .slice x1.D x1.ys.length x1.d, .bool x2.b, .slice x2.A x2.xs.length x2.c, .slice x2.D x2.ys.length x2.d, .bool x3.b, .slice x3.A x3.xs.length x3.c, .slice x3.D x3.ys.length x3.d] 25)
    generalize (wm.alloc (.cells #[.bool x1.b, .slice x1.A x1.xs.length x1.c, .slice x1.D x1.ys.length x1.d, .bool x2.b, .slice x2.A x2.xs.length x2.c, .slice x2.D x2.ys.length x2.d, .bool x3.b, .slice x3.A x3.xs.length x3.c, .slice x3.D x3.ys.length x3.d] 25)) = wn at hr bb ⊢
    try replace a1 := a1.below bb
    try replace a2 := a2.below bb
    try replace a3 := a3.below bb
    try replace a4 := a4.below bb
    try replace a5 := a5.below bb
    try replace a6 := a6.below bb
    try replace a7 := a7.below bb
    try replace a8 := a8.below bb
    try replace a9 := a9.below bb
    try replace a10 := a10.below bb
    try replace a11 := a11.below bb
    try replace a12 := a12.below bb
    try replace a13 := a13.below bb
    try replace a14 := a14.below bb
    try replace a15 := a15.below bb
    try replace a16 := a16.below bb
    try replace a17 := a17.below bb
    try replace a18 := a18.below bb
    try replace a19 := a19.below bb
    try replace a20 := a20.below bb
    replace bw := below_on bw bb bw.size
    clear bb
    refine (flong_any wn _ _ _ _ false hr rfl (by simp) (by intro v hv; simp only [List.mem_cons, List.not_mem_nil, or_false] at hv; rcases hv with rfl | rfl | rfl <;> exact HL.out _ (by simp)) H.out).mono ?_
    rintro e wl ⟨rfl, rfl⟩
    clear hr
    have ci0 := a1.c0
    have ci1 := a1.c1
    have ci2 := a1.c2
    go_wp2_with fail
    clear ci0 ci1 ci2
    refine (rfvalid_any _ x1 false a1.ok l1 m1 (decide_eq_false HV1.out)).mono ?_
    rintro e wn ⟨rfl, bb⟩
    try replace a1 := a1.below bb
    try replace a2 := a2.below bb
    try replace a3 := a3.below bb
    try replace a4 := a4.below bb
    try replace a5 := a5.below bb
    try replace a6 := a6.below bb
    try replace a7 := a7.below bb
    try replace a8 := a8.below bb
    try replace a9 := a9.below bb
    try replace a10 := a10.below bb
    try replace a11 := a11.below bb
    try replace a12 := a12.below bb
    try replace a13 := a13.below bb
    try replace a14 := a14.below bb
    try replace a15 := a15.below bb
    try replace a16 := a16.below bb
    try replace a17 := a17.below bb
    try replace a18 := a18.below bb
    try replace a19 := a19.below bb
    try replace a20 := a20.below bb
    replace bw := below_on bw bb bw.size
    clear bb
    go_wp2_with fail
    refine (awakef_any _).mono ?_
    rintro e wn ⟨rfl, bb⟩
    try replace a1 := a1.below bb
    try replace a2 := a2.below bb
    try replace a3 := a3.below bb
    try replace a4 := a4.below bb
    try replace a5 := a5.below bb
    try replace a6 := a6.below bb
    try replace a7 := a7.below bb
    try replace a8 := a8.below bb
    try replace a9 := a9.below bb
    try replace a10 := a10.below bb
    try replace a11 := a11.below bb
    try replace a12 := a12.below bb
    try replace a13 := a13.below bb
    try replace a14 := a14.below bb
    try replace a15 := a15.below bb
    try replace a16 := a16.below bb
    try replace a17 := a17.below bb
    try replace a18 := a18.below bb
    try replace a19 := a19.below bb
    try replace a20 := a20.below bb
    replace bw := below_on bw bb bw.size
    clear bb
    go_wp2_with fail
    go_ret
    exact ⟨rfl, bw⟩
set_option maxRecDepth 100000 in
set_option maxHeartbeats 8000000 in
theorem field_main (w : World) (x1 x2 x3 : Fx) (ok1 : x1.ok w) (ok2 : x2.ok w) (ok3 : x3.ok w) (hL : lensB [x1, x2, x3]) (h : longB [x1, x2, x3] = false) (l1 : x1.xs.length ≤ 10000) (m1 : x1.ys.length ≤ 10000) (l2 : x2.xs.length ≤ 10000) (m2 : x2.ys.length ≤ 10000) (l3 : x3.xs.length ≤ 10000) (m3 : x3.ys.length ≤ 10000) (hv : x1.v ∧ x2.v ∧ x3.v)
    (z1 : Sz x1.q 24 24) (z2 : Sz x2.q 24 24) (z3 : Sz x3.q 24 24) :
    Calls Try.prog 6 #[x1.val, x2.val, x3.val] w fun e w' => e = .returned (.bool true) ∧ Below w.heap.size w w' := by
  have HL := Lib.hid hL
  have H := Lib.hid h
  have HV1 := Lib.hid hv.1
  have HV2 := Lib.hid hv.2.1
  have HV3 := Lib.hid hv.2.2
  have HW1 := Lib.hid (redS_okS hv.1)
  have HW2 := Lib.hid (redS_okS hv.2.1)
  have HW3 := Lib.hid (redS_okS hv.2.2)
  obtain ⟨p, hp⟩ : ∃ p, x1.q = p := ⟨_, rfl⟩
  obtain ⟨q, hq⟩ : ∃ q, x2.q = q := ⟨_, rfl⟩
  obtain ⟨r, hr⟩ : ∃ r, x3.q = r := ⟨_, rfl⟩
  rw [hp] at z1 HW1
  rw [hq] at z2 HW2
  rw [hr] at z3 HW3
  have Z4 := Lib.hid (z1.mono (n' := 128) (d' := 128) (by omega) (by omega))
  have Z5 := Lib.hid (z2.mono (n' := 128) (d' := 128) (by omega) (by omega))
  have Z6 := Lib.hid (z3.mono (n' := 128) (d' := 128) (by omega) (by omega))
  have Z7 := Lib.hid ((z1.add z2).mono (n' := 128) (d' := 128) (by omega) (by omega))
  have Z9 := Lib.hid (((z1.add z2).add z3).mono (n' := 128) (d' := 128) (by omega) (by omega))
  have Z10 := Lib.hid ((z2.add z3).mono (n' := 128) (d' := 128) (by omega) (by omega))
  have Z13 := Lib.hid ((z1.mul z2).mono (n' := 128) (d' := 128) (by omega) (by omega))
  have Z15 := Lib.hid (((z1.mul z2).mul z3).mono (n' := 128) (d' := 128) (by omega) (by omega))
  have Z16 := Lib.hid ((z2.mul z3).mono (n' := 128) (d' := 128) (by omega) (by omega))
  have Z18 := Lib.hid ((z1.mul (z2.add z3)).mono (n' := 128) (d' := 128) (by omega) (by omega))
  have Z19 := Lib.hid ((z1.mul z3).mono (n' := 128) (d' := 128) (by omega) (by omega))
  clear hL h hv z1 z2 z3 hp hq hr
  have e0 : ∀ q, (okS q).2.2.2 = 0 := fun q => rfl
  go_enter Try.func6, Try.ntmps6
  go_upto_region 1 with fail
  have bw := Below.refl w.heap.size w
  have a1 := (fa_alloc ok1).1
  have bb := (fa_alloc ok1).2
  have sz1 := size_box w (.cells #[.bool x1.b, .slice x1.A x1.xs.length x1.c, .slice x1.D x1.ys.length x1.d] 25)
  clear ok1
  generalize (w.alloc (.cells #[.bool x1.b, .slice x1.A x1.xs.length x1.c, .slice x1.D x1.ys.length x1.d] 25)) = wA at a1 bb sz1 ⊢
  try replace ok1 := ok1.below bb
  try replace ok2 := ok2.below bb
  try replace ok3 := ok3.below bb
  try replace a1 := a1.below bb
  try replace a2 := a2.below bb
  try replace a3 := a3.below bb
  try replace a4 := a4.below bb
  try replace a5 := a5.below bb
  try replace a6 := a6.below bb
  try replace a7 := a7.below bb
  try replace a8 := a8.below bb
  try replace a9 := a9.below bb
  try replace a10 := a10.below bb
  try replace a11 := a11.below bb
  try replace a12 := a12.below bb
  try replace a13 := a13.below bb
  try replace a14 := a14.below bb
  try replace a15 := a15.below bb
  try replace a16 := a16.below bb
  try replace a17 := a17.below bb
  try replace a18 := a18.below bb
  try replace a19 := a19.below bb
  try replace a20 := a20.below bb
  replace bw := below_on bw bb bw.size
  clear bb
  have a2 := (fa_alloc ok2).1
  have bb := (fa_alloc ok2).2
  have sz2 := size_box wA (.cells #[.bool x2.b, .slice x2.A x2.xs.length x2.c, .slice x2.D x2.ys.length x2.d] 25)
  rw [sz1] at a2 sz2
  clear ok2 sz1
  generalize (wA.alloc (.cells #[.bool x2.b, .slice x2.A x2.xs.length x2.c, .slice x2.D x2.ys.length x2.d] 25)) = wB at a2 bb sz2 ⊢
  try replace ok1 := ok1.below bb
  try replace ok2 := ok2.below bb
  try replace ok3 := ok3.below bb
  try replace a1 := a1.below bb
  try replace a2 := a2.below bb
  try replace a3 := a3.below bb
  try replace a4 := a4.below bb
  try replace a5 := a5.below bb
  try replace a6 := a6.below bb
  try replace a7 := a7.below bb
  try replace a8 := a8.below bb
  try replace a9 := a9.below bb
  try replace a10 := a10.below bb
  try replace a11 := a11.below bb
  try replace a12 := a12.below bb
  try replace a13 := a13.below bb
  try replace a14 := a14.below bb
  try replace a15 := a15.below bb
  try replace a16 := a16.below bb
  try replace a17 := a17.below bb
  try replace a18 := a18.below bb
  try replace a19 := a19.below bb
  try replace a20 := a20.below bb
  replace bw := below_on bw bb bw.size
  clear bb
  have a3 := (fa_alloc ok3).1
  have bb := (fa_alloc ok3).2
  have sz3 := size_box wB (.cells #[.bool x3.b, .slice x3.A x3.xs.length x3.c, .slice x3.D x3.ys.length x3.d] 25)
  rw [sz2] at a3 sz3
  clear ok3 sz2
  generalize (wB.alloc (.cells #[.bool x3.b, .slice x3.A x3.xs.length x3.c, .slice x3.D x3.ys.length x3.d] 25)) = wm at a3 bb sz3 ⊢
  try replace ok1 := ok1.below bb
  try replace ok2 := ok2.below bb
  try replace ok3 := ok3.below bb
  try replace a1 := a1.below bb
  try replace a2 := a2.below bb
  try replace a3 := a3.below bb
  try replace a4 := a4.below bb
  try replace a5 := a5.below bb
  try replace a6 := a6.below bb
  try replace a7 := a7.below bb
  try replace a8 := a8.below bb
  try replace a9 := a9.below bb
  try replace a10 := a10.below bb
  try replace a11 := a11.below bb
  try replace a12 := a12.below bb
  try replace a13 := a13.below bb
  try replace a14 := a14.below bb
  try replace a15 := a15.below bb
  try replace a16 := a16.below bb
  try replace a17 := a17.below bb
  try replace a18 := a18.below bb
  try replace a19 := a19.below bb
  try replace a20 := a20.below bb
  replace bw := below_on bw bb bw.size
  clear bb
  clear sz3
  have ci0 := a1.c0
  have ci1 := a1.c1
  have ci2 := a1.c2
  have cj0 := a2.c0
  have cj1 := a2.c1
  have cj2 := a2.c2
  have ck0 := a3.c0
  have ck1 := a3.c1
  have ck2 := a3.c2
  go_wp2_with fail
  clear ci0 ci1 ci2 cj0 cj1 cj2
  clear ck0 ck1 ck2
  have hr := rdf3 wm x1 x2 x3
  have bb := (Below.refl wm.heap.size wm).alloc (Nat.le_refl _) (.cells #[.bool x1.b, .slice x1.A x1.xs.length x1.c, .slice x1.D x1.ys.length x1.d, .bool x2.b, .slice x2.A x2.xs.length x2.c, .slice x2.D x2.ys.length x2.d, .bool x3.b, .slice x3.A x3.xs.length x3.c, .slice x3.D x3.ys.length x3.d] 25)
  generalize (wm.alloc (.cells #[.bool x1.b, .slice x1.A x1.xs.length x1.c, .slice x1.D x1.ys.length x1.d, .bool x2.b, .slice x2.A x2.xs.length x2.c, .slice x2.D x2.ys.length x2.d, .bool x3.b, .slice x3.A x3.xs.length x3.c, .slice x3.D x3.ys.length x3.d] 25)) = wn at hr bb ⊢
  try replace a1 := a1.below bb
  try replace a2 := a2.below bb
  try replace a3 := a3.below bb
  try replace a4 := a4.below bb
  try replace a5 := a5.below bb
  try replace a6 := a6.below bb
  try replace a7 := a7.below bb
  try replace a8 := a8.below bb
  try replace a9 := a9.below bb
  try replace a10 := a10.below bb
  try replace a11 := a11.below bb
  try replace a12 := a12.below bb
  try replace a13 := a13.below bb
  try replace a14 := a14.below bb
  try replace a15 := a15.below bb
  try replace a16 := a16.below bb
  try replace a17 := a17.below bb
  try replace a18 := a18.below bb
  try replace a19 := a19.below bb
  try replace a20 := a20.below bb
  replace bw := below_on bw bb bw.size
  clear bb
  refine (flong_any wn _ _ _ _ false hr rfl (by simp) (by intro v hv; simp only [List.mem_cons, List.not_mem_nil, or_false] at hv; rcases hv with rfl | rfl | rfl <;> exact HL.out _ (by simp)) H.out).mono ?_
  rintro e wl ⟨rfl, rfl⟩
  clear hr
  have ci0 := a1.c0
  have ci1 := a1.c1
  have ci2 := a1.c2
  go_wp2_with fail
  clear ci0 ci1 ci2
  refine (rfvalid_any _ x1 true a1.ok l1 m1 (decide_eq_true HV1.out)).mono ?_
  rintro e wn ⟨rfl, bb⟩
  try replace a1 := a1.below bb
  try replace a2 := a2.below bb
  try replace a3 := a3.below bb
  try replace a4 := a4.below bb
  try replace a5 := a5.below bb
  try replace a6 := a6.below bb
  try replace a7 := a7.below bb
  try replace a8 := a8.below bb
  try replace a9 := a9.below bb
  try replace a10 := a10.below bb
  try replace a11 := a11.below bb
  try replace a12 := a12.below bb
  try replace a13 := a13.below bb
  try replace a14 := a14.below bb
  try replace a15 := a15.below bb
  try replace a16 := a16.below bb
  try replace a17 := a17.below bb
  try replace a18 := a18.below bb
  try replace a19 := a19.below bb
  try replace a20 := a20.below bb
  replace bw := below_on bw bb bw.size
  clear bb
  have ci0 := a2.c0
  have ci1 := a2.c1
  have ci2 := a2.c2
  go_wp2_with fail
  clear ci0 ci1 ci2
  refine (rfvalid_any _ x2 true a2.ok l2 m2 (decide_eq_true HV2.out)).mono ?_
  rintro e wn ⟨rfl, bb⟩
  try replace a1 := a1.below bb
  try replace a2 := a2.below bb
  try replace a3 := a3.below bb
  try replace a4 := a4.below bb
  try replace a5 := a5.below bb
  try replace a6 := a6.below bb
  try replace a7 := a7.below bb
  try replace a8 := a8.below bb
  try replace a9 := a9.below bb
  try replace a10 := a10.below bb
  try replace a11 := a11.below bb
  try replace a12 := a12.below bb
  try replace a13 := a13.below bb
  try replace a14 := a14.below bb
  try replace a15 := a15.below bb
  try replace a16 := a16.below bb
  try replace a17 := a17.below bb
  try replace a18 := a18.below bb
  try replace a19 := a19.below bb
  try replace a20 := a20.below bb
  replace bw := below_on bw bb bw.size
  clear bb
  have ci0 := a3.c0
  have ci1 := a3.c1
  have ci2 := a3.c2
  go_wp2_with fail
  clear ci0 ci1 ci2
  refine (rfvalid_any _ x3 true a3.ok l3 m3 (decide_eq_true HV3.out)).mono ?_
  rintro e wn ⟨rfl, bb⟩
  try replace a1 := a1.below bb
  try replace a2 := a2.below bb
  try replace a3 := a3.below bb
  try replace a4 := a4.below bb
  try replace a5 := a5.below bb
  try replace a6 := a6.below bb
  try replace a7 := a7.below bb
  try replace a8 := a8.below bb
  try replace a9 := a9.below bb
  try replace a10 := a10.below bb
  try replace a11 := a11.below bb
  try replace a12 := a12.below bb
  try replace a13 := a13.below bb
  try replace a14 := a14.below bb
  try replace a15 := a15.below bb
  try replace a16 := a16.below bb
  try replace a17 := a17.below bb
  try replace a18 := a18.below bb
  try replace a19 := a19.below bb
  try replace a20 := a20.below bb
  replace bw := below_on bw bb bw.size
  clear bb
  go_upto_region 3 with fail
  have ci0 := a1.c0
  have ci1 := a1.c1
  have ci2 := a1.c2
  go_wp2_with fail
  clear ci0 ci1 ci2
  refine (rfreduce_any _ x1 (okS p) a1.ok l1 m1 HW1.out).mono ?_
  rintro e wn ⟨x4, rfl, hs4, ok4, bb⟩
  have HS4 := Lib.hid hs4
  clear hs4
  try replace a1 := a1.below bb
  try replace a2 := a2.below bb
  try replace a3 := a3.below bb
  try replace a4 := a4.below bb
  try replace a5 := a5.below bb
  try replace a6 := a6.below bb
  try replace a7 := a7.below bb
  try replace a8 := a8.below bb
  try replace a9 := a9.below bb
  try replace a10 := a10.below bb
  try replace a11 := a11.below bb
  try replace a12 := a12.below bb
  try replace a13 := a13.below bb
  try replace a14 := a14.below bb
  try replace a15 := a15.below bb
  try replace a16 := a16.below bb
  try replace a17 := a17.below bb
  try replace a18 := a18.below bb
  try replace a19 := a19.below bb
  try replace a20 := a20.below bb
  replace bw := below_on bw bb bw.size
  clear bb
  have tk := a1.bk
  obtain ⟨k0, k1, k2, kf0, kf1, kf2, klt, kb⟩ := tk
  clear kb
  go_upto_region 4 with fail
  clear k0 k1 k2 kf0 kf1 kf2 klt
  try have b1 := a1.far a1 (a := .bool x4.b) (b := .slice x4.A x4.xs.length x4.c) (c := .slice x4.D x4.ys.length x4.d) (by omega)
  try have b2 := a2.far a1 (a := .bool x4.b) (b := .slice x4.A x4.xs.length x4.c) (c := .slice x4.D x4.ys.length x4.d) (by omega)
  try have b3 := a3.far a1 (a := .bool x4.b) (b := .slice x4.A x4.xs.length x4.c) (c := .slice x4.D x4.ys.length x4.d) (by omega)
  try have b4 := a4.far a1 (a := .bool x4.b) (b := .slice x4.A x4.xs.length x4.c) (c := .slice x4.D x4.ys.length x4.d) (by omega)
  try have b5 := a5.far a1 (a := .bool x4.b) (b := .slice x4.A x4.xs.length x4.c) (c := .slice x4.D x4.ys.length x4.d) (by omega)
  try have b6 := a6.far a1 (a := .bool x4.b) (b := .slice x4.A x4.xs.length x4.c) (c := .slice x4.D x4.ys.length x4.d) (by omega)
  try have b7 := a7.far a1 (a := .bool x4.b) (b := .slice x4.A x4.xs.length x4.c) (c := .slice x4.D x4.ys.length x4.d) (by omega)
  try have b8 := a8.far a1 (a := .bool x4.b) (b := .slice x4.A x4.xs.length x4.c) (c := .slice x4.D x4.ys.length x4.d) (by omega)
  try have b9 := a9.far a1 (a := .bool x4.b) (b := .slice x4.A x4.xs.length x4.c) (c := .slice x4.D x4.ys.length x4.d) (by omega)
  try have b10 := a10.far a1 (a := .bool x4.b) (b := .slice x4.A x4.xs.length x4.c) (c := .slice x4.D x4.ys.length x4.d) (by omega)
  try have b11 := a11.far a1 (a := .bool x4.b) (b := .slice x4.A x4.xs.length x4.c) (c := .slice x4.D x4.ys.length x4.d) (by omega)
  try have b12 := a12.far a1 (a := .bool x4.b) (b := .slice x4.A x4.xs.length x4.c) (c := .slice x4.D x4.ys.length x4.d) (by omega)
  try have b13 := a13.far a1 (a := .bool x4.b) (b := .slice x4.A x4.xs.length x4.c) (c := .slice x4.D x4.ys.length x4.d) (by omega)
  try have b14 := a14.far a1 (a := .bool x4.b) (b := .slice x4.A x4.xs.length x4.c) (c := .slice x4.D x4.ys.length x4.d) (by omega)
  have b4 := a1.put ok4
  have bz := set3g (G := w.heap.size) (a := .bool x4.b) (b := .slice x4.A x4.xs.length x4.c) (c := .slice x4.D x4.ys.length x4.d) bw (by omega)
  clear a1 bw ok4
  generalize (((wn.setCell ⟨w.heap.size, 0, none⟩ (.bool x4.b)).setCell ⟨w.heap.size, 1, none⟩ (.slice x4.A x4.xs.length x4.c)).setCell ⟨w.heap.size, 2, none⟩ (.slice x4.D x4.ys.length x4.d)) = wm at *
  try replace a1 := b1
  try clear b1
  try replace a2 := b2
  try clear b2
  try replace a3 := b3
  try clear b3
  try replace a4 := b4
  try clear b4
  try replace a5 := b5
  try clear b5
  try replace a6 := b6
  try clear b6
  try replace a7 := b7
  try clear b7
  try replace a8 := b8
  try clear b8
  try replace a9 := b9
  try clear b9
  try replace a10 := b10
  try clear b10
  try replace a11 := b11
  try clear b11
  try replace a12 := b12
  try clear b12
  try replace a13 := b13
  try clear b13
  try replace a14 := b14
  try clear b14
  try have a4 := b4
  try clear b4
  have bw := bz
  clear bz
  have ci0 := a2.c0
  have ci1 := a2.c1
  have ci2 := a2.c2
  go_wp2_with fail
  clear ci0 ci1 ci2
  refine (rfreduce_any _ x2 (okS q) a2.ok l2 m2 HW2.out).mono ?_
  rintro e wn ⟨x5, rfl, hs5, ok5, bb⟩
  have HS5 := Lib.hid hs5
  clear hs5
  try replace a1 := a1.below bb
  try replace a2 := a2.below bb
  try replace a3 := a3.below bb
  try replace a4 := a4.below bb
  try replace a5 := a5.below bb
  try replace a6 := a6.below bb
  try replace a7 := a7.below bb
  try replace a8 := a8.below bb
  try replace a9 := a9.below bb
  try replace a10 := a10.below bb
  try replace a11 := a11.below bb
  try replace a12 := a12.below bb
  try replace a13 := a13.below bb
  try replace a14 := a14.below bb
  try replace a15 := a15.below bb
  try replace a16 := a16.below bb
  try replace a17 := a17.below bb
  try replace a18 := a18.below bb
  try replace a19 := a19.below bb
  try replace a20 := a20.below bb
  replace bw := below_on bw bb bw.size
  clear bb
  have tk := a2.bk
  obtain ⟨k0, k1, k2, kf0, kf1, kf2, klt, kb⟩ := tk
  clear kb
  go_upto_region 5 with fail
  clear k0 k1 k2 kf0 kf1 kf2 klt
  try have b1 := a1.far a2 (a := .bool x5.b) (b := .slice x5.A x5.xs.length x5.c) (c := .slice x5.D x5.ys.length x5.d) (by omega)
  try have b2 := a2.far a2 (a := .bool x5.b) (b := .slice x5.A x5.xs.length x5.c) (c := .slice x5.D x5.ys.length x5.d) (by omega)
  try have b3 := a3.far a2 (a := .bool x5.b) (b := .slice x5.A x5.xs.length x5.c) (c := .slice x5.D x5.ys.length x5.d) (by omega)
  try have b4 := a4.far a2 (a := .bool x5.b) (b := .slice x5.A x5.xs.length x5.c) (c := .slice x5.D x5.ys.length x5.d) (by omega)
  try have b5 := a5.far a2 (a := .bool x5.b) (b := .slice x5.A x5.xs.length x5.c) (c := .slice x5.D x5.ys.length x5.d) (by omega)
  try have b6 := a6.far a2 (a := .bool x5.b) (b := .slice x5.A x5.xs.length x5.c) (c := .slice x5.D x5.ys.length x5.d) (by omega)
  try have b7 := a7.far a2 (a := .bool x5.b) (b := .slice x5.A x5.xs.length x5.c) (c := .slice x5.D x5.ys.length x5.d) (by omega)
  try have b8 := a8.far a2 (a := .bool x5.b) (b := .slice x5.A x5.xs.length x5.c) (c := .slice x5.D x5.ys.length x5.d) (by omega)
  try have b9 := a9.far a2 (a := .bool x5.b) (b := .slice x5.A x5.xs.length x5.c) (c := .slice x5.D x5.ys.length x5.d) (by omega)
  try have b10 := a10.far a2 (a := .bool x5.b) (b := .slice x5.A x5.xs.length x5.c) (c := .slice x5.D x5.ys.length x5.d) (by omega)
  try have b11 := a11.far a2 (a := .bool x5.b) (b := .slice x5.A x5.xs.length x5.c) (c := .slice x5.D x5.ys.length x5.d) (by omega)
  try have b12 := a12.far a2 (a := .bool x5.b) (b := .slice x5.A x5.xs.length x5.c) (c := .slice x5.D x5.ys.length x5.d) (by omega)
  try have b13 := a13.far a2 (a := .bool x5.b) (b := .slice x5.A x5.xs.length x5.c) (c := .slice x5.D x5.ys.length x5.d) (by omega)
  try have b14 := a14.far a2 (a := .bool x5.b) (b := .slice x5.A x5.xs.length x5.c) (c := .slice x5.D x5.ys.length x5.d) (by omega)
  have b5 := a2.put ok5
  have bz := set3g (G := (w.heap.size + 1)) (a := .bool x5.b) (b := .slice x5.A x5.xs.length x5.c) (c := .slice x5.D x5.ys.length x5.d) bw (by omega)
  clear a2 bw ok5
  generalize (((wn.setCell ⟨(w.heap.size + 1), 0, none⟩ (.bool x5.b)).setCell ⟨(w.heap.size + 1), 1, none⟩ (.slice x5.A x5.xs.length x5.c)).setCell ⟨(w.heap.size + 1), 2, none⟩ (.slice x5.D x5.ys.length x5.d)) = wm at *
  try replace a1 := b1
  try clear b1
  try replace a2 := b2
  try clear b2
  try replace a3 := b3
  try clear b3
  try replace a4 := b4
  try clear b4
  try replace a5 := b5
  try clear b5
  try replace a6 := b6
  try clear b6
  try replace a7 := b7
  try clear b7
  try replace a8 := b8
  try clear b8
  try replace a9 := b9
  try clear b9
  try replace a10 := b10
  try clear b10
  try replace a11 := b11
  try clear b11
  try replace a12 := b12
  try clear b12
  try replace a13 := b13
  try clear b13
  try replace a14 := b14
  try clear b14
  try have a5 := b5
  try clear b5
  have bw := bz
  clear bz
  have ci0 := a3.c0
  have ci1 := a3.c1
  have ci2 := a3.c2
  go_wp2_with fail
  clear ci0 ci1 ci2
  refine (rfreduce_any _ x3 (okS r) a3.ok l3 m3 HW3.out).mono ?_
  rintro e wn ⟨x6, rfl, hs6, ok6, bb⟩
  have HS6 := Lib.hid hs6
  clear hs6
  try replace a1 := a1.below bb
  try replace a2 := a2.below bb
  try replace a3 := a3.below bb
  try replace a4 := a4.below bb
  try replace a5 := a5.below bb
  try replace a6 := a6.below bb
  try replace a7 := a7.below bb
  try replace a8 := a8.below bb
  try replace a9 := a9.below bb
  try replace a10 := a10.below bb
  try replace a11 := a11.below bb
  try replace a12 := a12.below bb
  try replace a13 := a13.below bb
  try replace a14 := a14.below bb
  try replace a15 := a15.below bb
  try replace a16 := a16.below bb
  try replace a17 := a17.below bb
  try replace a18 := a18.below bb
  try replace a19 := a19.below bb
  try replace a20 := a20.below bb
  replace bw := below_on bw bb bw.size
  clear bb
  have tk := a3.bk
  obtain ⟨k0, k1, k2, kf0, kf1, kf2, klt, kb⟩ := tk
  clear kb
  go_upto_region 6 with fail
  clear k0 k1 k2 kf0 kf1 kf2 klt
  try have b1 := a1.far a3 (a := .bool x6.b) (b := .slice x6.A x6.xs.length x6.c) (c := .slice x6.D x6.ys.length x6.d) (by omega)
  try have b2 := a2.far a3 (a := .bool x6.b) (b := .slice x6.A x6.xs.length x6.c) (c := .slice x6.D x6.ys.length x6.d) (by omega)
  try have b3 := a3.far a3 (a := .bool x6.b) (b := .slice x6.A x6.xs.length x6.c) (c := .slice x6.D x6.ys.length x6.d) (by omega)
  try have b4 := a4.far a3 (a := .bool x6.b) (b := .slice x6.A x6.xs.length x6.c) (c := .slice x6.D x6.ys.length x6.d) (by omega)
  try have b5 := a5.far a3 (a := .bool x6.b) (b := .slice x6.A x6.xs.length x6.c) (c := .slice x6.D x6.ys.length x6.d) (by omega)
  try have b6 := a6.far a3 (a := .bool x6.b) (b := .slice x6.A x6.xs.length x6.c) (c := .slice x6.D x6.ys.length x6.d) (by omega)
  try have b7 := a7.far a3 (a := .bool x6.b) (b := .slice x6.A x6.xs.length x6.c) (c := .slice x6.D x6.ys.length x6.d) (by omega)
  try have b8 := a8.far a3 (a := .bool x6.b) (b := .slice x6.A x6.xs.length x6.c) (c := .slice x6.D x6.ys.length x6.d) (by omega)
  try have b9 := a9.far a3 (a := .bool x6.b) (b := .slice x6.A x6.xs.length x6.c) (c := .slice x6.D x6.ys.length x6.d) (by omega)
  try have b10 := a10.far a3 (a := .bool x6.b) (b := .slice x6.A x6.xs.length x6.c) (c := .slice x6.D x6.ys.length x6.d) (by omega)
  try have b11 := a11.far a3 (a := .bool x6.b) (b := .slice x6.A x6.xs.length x6.c) (c := .slice x6.D x6.ys.length x6.d) (by omega)
  try have b12 := a12.far a3 (a := .bool x6.b) (b := .slice x6.A x6.xs.length x6.c) (c := .slice x6.D x6.ys.length x6.d) (by omega)
  try have b13 := a13.far a3 (a := .bool x6.b) (b := .slice x6.A x6.xs.length x6.c) (c := .slice x6.D x6.ys.length x6.d) (by omega)
  try have b14 := a14.far a3 (a := .bool x6.b) (b := .slice x6.A x6.xs.length x6.c) (c := .slice x6.D x6.ys.length x6.d) (by omega)
  have b6 := a3.put ok6
  have bz := set3g (G := (w.heap.size + 1 + 1)) (a := .bool x6.b) (b := .slice x6.A x6.xs.length x6.c) (c := .slice x6.D x6.ys.length x6.d) bw (by omega)
  clear a3 bw ok6
  generalize (((wn.setCell ⟨(w.heap.size + 1 + 1), 0, none⟩ (.bool x6.b)).setCell ⟨(w.heap.size + 1 + 1), 1, none⟩ (.slice x6.A x6.xs.length x6.c)).setCell ⟨(w.heap.size + 1 + 1), 2, none⟩ (.slice x6.D x6.ys.length x6.d)) = wm at *
  try replace a1 := b1
  try clear b1
  try replace a2 := b2
  try clear b2
  try replace a3 := b3
  try clear b3
  try replace a4 := b4
  try clear b4
  try replace a5 := b5
  try clear b5
  try replace a6 := b6
  try clear b6
  try replace a7 := b7
  try clear b7
  try replace a8 := b8
  try clear b8
  try replace a9 := b9
  try clear b9
  try replace a10 := b10
  try clear b10
  try replace a11 := b11
  try clear b11
  try replace a12 := b12
  try clear b12
  try replace a13 := b13
  try clear b13
  try replace a14 := b14
  try clear b14
  try have a6 := b6
  try clear b6
  have bw := bz
  clear bz
  have R4 := Rp.of HS4.out
  have l4 := R4.l1 Z4.out
  have m4 := R4.l2 Z4.out
  have R5 := Rp.of HS5.out
  have l5 := R5.l1 Z5.out
  have m5 := R5.l2 Z5.out
  have R6 := Rp.of HS6.out
  have l6 := R6.l1 Z6.out
  have m6 := R6.l2 Z6.out
  have V4 := Lib.hid (R4.v Z4.out)
  have V5 := Lib.hid (R5.v Z5.out)
  have V6 := Lib.hid (R6.v Z6.out)
  have ci0 := a4.c0
  have ci1 := a4.c1
  have ci2 := a4.c2
  have cj0 := a5.c0
  have cj1 := a5.c1
  have cj2 := a5.c2
  go_wp2_with fail
  clear ci0 ci1 ci2 cj0 cj1 cj2
  refine (fadd_any _ x4 x5 (okS (p + q)) a4.ok a5.ok l4 m4 l5 m5 (addF_ok V4.out V5.out R4.q R5.q Z7.out)).mono ?_
  rintro e wn ⟨x7, rfl, hs7, ok7, bb⟩
  have HS7 := Lib.hid hs7
  clear hs7
  try replace a1 := a1.below bb
  try replace a2 := a2.below bb
  try replace a3 := a3.below bb
  try replace a4 := a4.below bb
  try replace a5 := a5.below bb
  try replace a6 := a6.below bb
  try replace a7 := a7.below bb
  try replace a8 := a8.below bb
  try replace a9 := a9.below bb
  try replace a10 := a10.below bb
  try replace a11 := a11.below bb
  try replace a12 := a12.below bb
  try replace a13 := a13.below bb
  try replace a14 := a14.below bb
  try replace a15 := a15.below bb
  try replace a16 := a16.below bb
  try replace a17 := a17.below bb
  try replace a18 := a18.below bb
  try replace a19 := a19.below bb
  try replace a20 := a20.below bb
  replace bw := below_on bw bb bw.size
  clear bb
  go_upto_region 7 with fail
  have a7 := (fa_alloc ok7).1
  have bb := (fa_alloc ok7).2
  clear ok7
  generalize (wn.alloc (.cells #[.bool x7.b, .slice x7.A x7.xs.length x7.c, .slice x7.D x7.ys.length x7.d] 25)) = wm at a7 bb ⊢
  try replace a1 := a1.below bb
  try replace a2 := a2.below bb
  try replace a3 := a3.below bb
  try replace a4 := a4.below bb
  try replace a5 := a5.below bb
  try replace a6 := a6.below bb
  try replace a7 := a7.below bb
  try replace a8 := a8.below bb
  try replace a9 := a9.below bb
  try replace a10 := a10.below bb
  try replace a11 := a11.below bb
  try replace a12 := a12.below bb
  try replace a13 := a13.below bb
  try replace a14 := a14.below bb
  try replace a15 := a15.below bb
  try replace a16 := a16.below bb
  try replace a17 := a17.below bb
  try replace a18 := a18.below bb
  try replace a19 := a19.below bb
  try replace a20 := a20.below bb
  replace bw := below_on bw bb bw.size
  clear bb
  generalize wn.heap.size = g7 at a7 ⊢
  have R7 := Rp.of HS7.out
  have l7 := R7.l1 Z7.out
  have m7 := R7.l2 Z7.out
  have V7 := Lib.hid (R7.v Z7.out)
  have ci0 := a5.c0
  have ci1 := a5.c1
  have ci2 := a5.c2
  have cj0 := a4.c0
  have cj1 := a4.c1
  have cj2 := a4.c2
  go_wp2_with fail
  clear ci0 ci1 ci2 cj0 cj1 cj2
  refine (fadd_any _ x5 x4 (okS (p + q)) a5.ok a4.ok l5 m5 l4 m4 (by rw [Rat.add_comm p q]; exact addF_ok V5.out V4.out R5.q R4.q (by rw [Rat.add_comm]; exact Z7.out))).mono ?_
  rintro e wn ⟨x8, rfl, hs8, ok8, bb⟩
  have HS8 := Lib.hid hs8
  clear hs8
  try replace a1 := a1.below bb
  try replace a2 := a2.below bb
  try replace a3 := a3.below bb
  try replace a4 := a4.below bb
  try replace a5 := a5.below bb
  try replace a6 := a6.below bb
  try replace a7 := a7.below bb
  try replace a8 := a8.below bb
  try replace a9 := a9.below bb
  try replace a10 := a10.below bb
  try replace a11 := a11.below bb
  try replace a12 := a12.below bb
  try replace a13 := a13.below bb
  try replace a14 := a14.below bb
  try replace a15 := a15.below bb
  try replace a16 := a16.below bb
  try replace a17 := a17.below bb
  try replace a18 := a18.below bb
  try replace a19 := a19.below bb
  try replace a20 := a20.below bb
  replace bw := below_on bw bb bw.size
  clear bb
  go_upto_region 8 with fail
  have a8 := (fa_alloc ok8).1
  have bb := (fa_alloc ok8).2
  clear ok8
  generalize (wn.alloc (.cells #[.bool x8.b, .slice x8.A x8.xs.length x8.c, .slice x8.D x8.ys.length x8.d] 25)) = wm at a8 bb ⊢
  try replace a1 := a1.below bb
  try replace a2 := a2.below bb
  try replace a3 := a3.below bb
  try replace a4 := a4.below bb
  try replace a5 := a5.below bb
  try replace a6 := a6.below bb
  try replace a7 := a7.below bb
  try replace a8 := a8.below bb
  try replace a9 := a9.below bb
  try replace a10 := a10.below bb
  try replace a11 := a11.below bb
  try replace a12 := a12.below bb
  try replace a13 := a13.below bb
  try replace a14 := a14.below bb
  try replace a15 := a15.below bb
  try replace a16 := a16.below bb
  try replace a17 := a17.below bb
  try replace a18 := a18.below bb
  try replace a19 := a19.below bb
  try replace a20 := a20.below bb
  replace bw := below_on bw bb bw.size
  clear bb
  generalize wn.heap.size = g8 at a8 ⊢
  have ci0 := a7.c0
  have ci1 := a7.c1
  have ci2 := a7.c2
  have cj0 := a6.c0
  have cj1 := a6.c1
  have cj2 := a6.c2
  go_wp2_with fail
  clear ci0 ci1 ci2 cj0 cj1 cj2
  refine (fadd_any _ x7 x6 (okS (p + q + r)) a7.ok a6.ok l7 m7 l6 m6 (addF_ok V7.out V6.out R7.q R6.q Z9.out)).mono ?_
  rintro e wn ⟨x9, rfl, hs9, ok9, bb⟩
  have HS9 := Lib.hid hs9
  clear hs9
  try replace a1 := a1.below bb
  try replace a2 := a2.below bb
  try replace a3 := a3.below bb
  try replace a4 := a4.below bb
  try replace a5 := a5.below bb
  try replace a6 := a6.below bb
  try replace a7 := a7.below bb
  try replace a8 := a8.below bb
  try replace a9 := a9.below bb
  try replace a10 := a10.below bb
  try replace a11 := a11.below bb
  try replace a12 := a12.below bb
  try replace a13 := a13.below bb
  try replace a14 := a14.below bb
  try replace a15 := a15.below bb
  try replace a16 := a16.below bb
  try replace a17 := a17.below bb
  try replace a18 := a18.below bb
  try replace a19 := a19.below bb
  try replace a20 := a20.below bb
  replace bw := below_on bw bb bw.size
  clear bb
  go_upto_region 9 with fail
  have a9 := (fa_alloc ok9).1
  have bb := (fa_alloc ok9).2
  clear ok9
  generalize (wn.alloc (.cells #[.bool x9.b, .slice x9.A x9.xs.length x9.c, .slice x9.D x9.ys.length x9.d] 25)) = wm at a9 bb ⊢
  try replace a1 := a1.below bb
  try replace a2 := a2.below bb
  try replace a3 := a3.below bb
  try replace a4 := a4.below bb
  try replace a5 := a5.below bb
  try replace a6 := a6.below bb
  try replace a7 := a7.below bb
  try replace a8 := a8.below bb
  try replace a9 := a9.below bb
  try replace a10 := a10.below bb
  try replace a11 := a11.below bb
  try replace a12 := a12.below bb
  try replace a13 := a13.below bb
  try replace a14 := a14.below bb
  try replace a15 := a15.below bb
  try replace a16 := a16.below bb
  try replace a17 := a17.below bb
  try replace a18 := a18.below bb
  try replace a19 := a19.below bb
  try replace a20 := a20.below bb
  replace bw := below_on bw bb bw.size
  clear bb
  generalize wn.heap.size = g9 at a9 ⊢
  have ci0 := a5.c0
  have ci1 := a5.c1
  have ci2 := a5.c2
  have cj0 := a6.c0
  have cj1 := a6.c1
  have cj2 := a6.c2
  go_wp2_with fail
  clear ci0 ci1 ci2 cj0 cj1 cj2
  refine (fadd_any _ x5 x6 (okS (q + r)) a5.ok a6.ok l5 m5 l6 m6 (addF_ok V5.out V6.out R5.q R6.q Z10.out)).mono ?_
  rintro e wn ⟨x10, rfl, hs10, ok10, bb⟩
  have HS10 := Lib.hid hs10
  clear hs10
  try replace a1 := a1.below bb
  try replace a2 := a2.below bb
  try replace a3 := a3.below bb
  try replace a4 := a4.below bb
  try replace a5 := a5.below bb
  try replace a6 := a6.below bb
  try replace a7 := a7.below bb
  try replace a8 := a8.below bb
  try replace a9 := a9.below bb
  try replace a10 := a10.below bb
  try replace a11 := a11.below bb
  try replace a12 := a12.below bb
  try replace a13 := a13.below bb
  try replace a14 := a14.below bb
  try replace a15 := a15.below bb
  try replace a16 := a16.below bb
  try replace a17 := a17.below bb
  try replace a18 := a18.below bb
  try replace a19 := a19.below bb
  try replace a20 := a20.below bb
  replace bw := below_on bw bb bw.size
  clear bb
  go_upto_region 10 with fail
  have a10 := (fa_alloc ok10).1
  have bb := (fa_alloc ok10).2
  clear ok10
  generalize (wn.alloc (.cells #[.bool x10.b, .slice x10.A x10.xs.length x10.c, .slice x10.D x10.ys.length x10.d] 25)) = wm at a10 bb ⊢
  try replace a1 := a1.below bb
  try replace a2 := a2.below bb
  try replace a3 := a3.below bb
  try replace a4 := a4.below bb
  try replace a5 := a5.below bb
  try replace a6 := a6.below bb
  try replace a7 := a7.below bb
  try replace a8 := a8.below bb
  try replace a9 := a9.below bb
  try replace a10 := a10.below bb
  try replace a11 := a11.below bb
  try replace a12 := a12.below bb
  try replace a13 := a13.below bb
  try replace a14 := a14.below bb
  try replace a15 := a15.below bb
  try replace a16 := a16.below bb
  try replace a17 := a17.below bb
  try replace a18 := a18.below bb
  try replace a19 := a19.below bb
  try replace a20 := a20.below bb
  replace bw := below_on bw bb bw.size
  clear bb
  generalize wn.heap.size = g10 at a10 ⊢
  have R10 := Rp.of HS10.out
  have l10 := R10.l1 Z10.out
  have m10 := R10.l2 Z10.out
  have V10 := Lib.hid (R10.v Z10.out)
  have ci0 := a4.c0
  have ci1 := a4.c1
  have ci2 := a4.c2
  have cj0 := a10.c0
  have cj1 := a10.c1
  have cj2 := a10.c2
  go_wp2_with fail
  clear ci0 ci1 ci2 cj0 cj1 cj2
  refine (fadd_any _ x4 x10 (okS (p + q + r)) a4.ok a10.ok l4 m4 l10 m10 (by rw [Rat.add_assoc]; exact addF_ok V4.out V10.out R4.q R10.q (by rw [← Rat.add_assoc]; exact Z9.out))).mono ?_
  rintro e wn ⟨x11, rfl, hs11, ok11, bb⟩
  have HS11 := Lib.hid hs11
  clear hs11
  try replace a1 := a1.below bb
  try replace a2 := a2.below bb
  try replace a3 := a3.below bb
  try replace a4 := a4.below bb
  try replace a5 := a5.below bb
  try replace a6 := a6.below bb
  try replace a7 := a7.below bb
  try replace a8 := a8.below bb
  try replace a9 := a9.below bb
  try replace a10 := a10.below bb
  try replace a11 := a11.below bb
  try replace a12 := a12.below bb
  try replace a13 := a13.below bb
  try replace a14 := a14.below bb
  try replace a15 := a15.below bb
  try replace a16 := a16.below bb
  try replace a17 := a17.below bb
  try replace a18 := a18.below bb
  try replace a19 := a19.below bb
  try replace a20 := a20.below bb
  replace bw := below_on bw bb bw.size
  clear bb
  go_upto_region 11 with fail
  have a11 := (fa_alloc ok11).1
  have bb := (fa_alloc ok11).2
  clear ok11
  generalize (wn.alloc (.cells #[.bool x11.b, .slice x11.A x11.xs.length x11.c, .slice x11.D x11.ys.length x11.d] 25)) = wm at a11 bb ⊢
  try replace a1 := a1.below bb
  try replace a2 := a2.below bb
  try replace a3 := a3.below bb
  try replace a4 := a4.below bb
  try replace a5 := a5.below bb
  try replace a6 := a6.below bb
  try replace a7 := a7.below bb
  try replace a8 := a8.below bb
  try replace a9 := a9.below bb
  try replace a10 := a10.below bb
  try replace a11 := a11.below bb
  try replace a12 := a12.below bb
  try replace a13 := a13.below bb
  try replace a14 := a14.below bb
  try replace a15 := a15.below bb
  try replace a16 := a16.below bb
  try replace a17 := a17.below bb
  try replace a18 := a18.below bb
  try replace a19 := a19.below bb
  try replace a20 := a20.below bb
  replace bw := below_on bw bb bw.size
  clear bb
  generalize wn.heap.size = g11 at a11 ⊢
  have ci0 := a7.c0
  have ci1 := a7.c1
  have ci2 := a7.c2
  have cj0 := a5.c0
  have cj1 := a5.c1
  have cj2 := a5.c2
  go_wp2_with fail
  clear ci0 ci1 ci2 cj0 cj1 cj2
  refine (fsub_any _ x7 x5 (okS p) a7.ok a5.ok l7 m7 l5 m5 (by have e : p = p + q - q := (by grind); rw [e]; exact subF_ok V7.out V5.out R7.q R5.q (by rw [← e]; exact Z4.out))).mono ?_
  rintro e wn ⟨x12, rfl, hs12, ok12, bb⟩
  have HS12 := Lib.hid hs12
  clear hs12
  try replace a1 := a1.below bb
  try replace a2 := a2.below bb
  try replace a3 := a3.below bb
  try replace a4 := a4.below bb
  try replace a5 := a5.below bb
  try replace a6 := a6.below bb
  try replace a7 := a7.below bb
  try replace a8 := a8.below bb
  try replace a9 := a9.below bb
  try replace a10 := a10.below bb
  try replace a11 := a11.below bb
  try replace a12 := a12.below bb
  try replace a13 := a13.below bb
  try replace a14 := a14.below bb
  try replace a15 := a15.below bb
  try replace a16 := a16.below bb
  try replace a17 := a17.below bb
  try replace a18 := a18.below bb
  try replace a19 := a19.below bb
  try replace a20 := a20.below bb
  replace bw := below_on bw bb bw.size
  clear bb
  go_upto_region 12 with fail
  have a12 := (fa_alloc ok12).1
  have bb := (fa_alloc ok12).2
  clear ok12
  generalize (wn.alloc (.cells #[.bool x12.b, .slice x12.A x12.xs.length x12.c, .slice x12.D x12.ys.length x12.d] 25)) = wm at a12 bb ⊢
  try replace a1 := a1.below bb
  try replace a2 := a2.below bb
  try replace a3 := a3.below bb
  try replace a4 := a4.below bb
  try replace a5 := a5.below bb
  try replace a6 := a6.below bb
  try replace a7 := a7.below bb
  try replace a8 := a8.below bb
  try replace a9 := a9.below bb
  try replace a10 := a10.below bb
  try replace a11 := a11.below bb
  try replace a12 := a12.below bb
  try replace a13 := a13.below bb
  try replace a14 := a14.below bb
  try replace a15 := a15.below bb
  try replace a16 := a16.below bb
  try replace a17 := a17.below bb
  try replace a18 := a18.below bb
  try replace a19 := a19.below bb
  try replace a20 := a20.below bb
  replace bw := below_on bw bb bw.size
  clear bb
  generalize wn.heap.size = g12 at a12 ⊢
  have ci0 := a7.c0
  have ci1 := a7.c1
  have ci2 := a7.c2
  have cj0 := a8.c0
  have cj1 := a8.c1
  have cj2 := a8.c2
  go_wp2_with fail
  clear ci0 ci1 ci2 cj0 cj1 cj2
  refine (samef_any _ x7 x8 true a7.ok a8.ok (sm HS7.out HS8.out)).mono ?_
  rintro e wn ⟨rfl, bb⟩
  try replace a1 := a1.below bb
  try replace a2 := a2.below bb
  try replace a3 := a3.below bb
  try replace a4 := a4.below bb
  try replace a5 := a5.below bb
  try replace a6 := a6.below bb
  try replace a7 := a7.below bb
  try replace a8 := a8.below bb
  try replace a9 := a9.below bb
  try replace a10 := a10.below bb
  try replace a11 := a11.below bb
  try replace a12 := a12.below bb
  try replace a13 := a13.below bb
  try replace a14 := a14.below bb
  try replace a15 := a15.below bb
  try replace a16 := a16.below bb
  try replace a17 := a17.below bb
  try replace a18 := a18.below bb
  try replace a19 := a19.below bb
  try replace a20 := a20.below bb
  replace bw := below_on bw bb bw.size
  clear bb
  have ci0 := a9.c0
  have ci1 := a9.c1
  have ci2 := a9.c2
  have cj0 := a11.c0
  have cj1 := a11.c1
  have cj2 := a11.c2
  go_wp2_with fail
  clear ci0 ci1 ci2 cj0 cj1 cj2
  refine (samef_any _ x9 x11 true a9.ok a11.ok (sm HS9.out HS11.out)).mono ?_
  rintro e wn ⟨rfl, bb⟩
  try replace a1 := a1.below bb
  try replace a2 := a2.below bb
  try replace a3 := a3.below bb
  try replace a4 := a4.below bb
  try replace a5 := a5.below bb
  try replace a6 := a6.below bb
  try replace a7 := a7.below bb
  try replace a8 := a8.below bb
  try replace a9 := a9.below bb
  try replace a10 := a10.below bb
  try replace a11 := a11.below bb
  try replace a12 := a12.below bb
  try replace a13 := a13.below bb
  try replace a14 := a14.below bb
  try replace a15 := a15.below bb
  try replace a16 := a16.below bb
  try replace a17 := a17.below bb
  try replace a18 := a18.below bb
  try replace a19 := a19.below bb
  try replace a20 := a20.below bb
  replace bw := below_on bw bb bw.size
  clear bb
  have ci0 := a12.c0
  have ci1 := a12.c1
  have ci2 := a12.c2
  have cj0 := a4.c0
  have cj1 := a4.c1
  have cj2 := a4.c2
  go_wp2_with fail
  clear ci0 ci1 ci2 cj0 cj1 cj2
  refine (samef_any _ x12 x4 true a12.ok a4.ok (sm HS12.out HS4.out)).mono ?_
  rintro e wn ⟨rfl, bb⟩
  try replace a1 := a1.below bb
  try replace a2 := a2.below bb
  try replace a3 := a3.below bb
  try replace a4 := a4.below bb
  try replace a5 := a5.below bb
  try replace a6 := a6.below bb
  try replace a7 := a7.below bb
  try replace a8 := a8.below bb
  try replace a9 := a9.below bb
  try replace a10 := a10.below bb
  try replace a11 := a11.below bb
  try replace a12 := a12.below bb
  try replace a13 := a13.below bb
  try replace a14 := a14.below bb
  try replace a15 := a15.below bb
  try replace a16 := a16.below bb
  try replace a17 := a17.below bb
  try replace a18 := a18.below bb
  try replace a19 := a19.below bb
  try replace a20 := a20.below bb
  replace bw := below_on bw bb bw.size
  clear bb
  go_upto_region 14 with fail
  clear a8 a9 a11 a12
  have ci0 := a4.c0
  have ci1 := a4.c1
  have ci2 := a4.c2
  have cj0 := a5.c0
  have cj1 := a5.c1
  have cj2 := a5.c2
  go_wp2_with fail
  clear ci0 ci1 ci2 cj0 cj1 cj2
  refine (fmul_any _ x4 x5 (okS (p * q)) a4.ok a5.ok l4 m4 l5 m5 (mulF_ok V4.out V5.out R4.q R5.q Z13.out)).mono ?_
  rintro e wn ⟨x13, rfl, hs13, ok13, bb⟩
  have HS13 := Lib.hid hs13
  clear hs13
  try replace a1 := a1.below bb
  try replace a2 := a2.below bb
  try replace a3 := a3.below bb
  try replace a4 := a4.below bb
  try replace a5 := a5.below bb
  try replace a6 := a6.below bb
  try replace a7 := a7.below bb
  try replace a8 := a8.below bb
  try replace a9 := a9.below bb
  try replace a10 := a10.below bb
  try replace a11 := a11.below bb
  try replace a12 := a12.below bb
  try replace a13 := a13.below bb
  try replace a14 := a14.below bb
  try replace a15 := a15.below bb
  try replace a16 := a16.below bb
  try replace a17 := a17.below bb
  try replace a18 := a18.below bb
  try replace a19 := a19.below bb
  try replace a20 := a20.below bb
  replace bw := below_on bw bb bw.size
  clear bb
  go_upto_region 15 with fail
  have a13 := (fa_alloc ok13).1
  have bb := (fa_alloc ok13).2
  clear ok13
  generalize (wn.alloc (.cells #[.bool x13.b, .slice x13.A x13.xs.length x13.c, .slice x13.D x13.ys.length x13.d] 25)) = wm at a13 bb ⊢
  try replace a1 := a1.below bb
  try replace a2 := a2.below bb
  try replace a3 := a3.below bb
  try replace a4 := a4.below bb
  try replace a5 := a5.below bb
  try replace a6 := a6.below bb
  try replace a7 := a7.below bb
  try replace a8 := a8.below bb
  try replace a9 := a9.below bb
  try replace a10 := a10.below bb
  try replace a11 := a11.below bb
  try replace a12 := a12.below bb
  try replace a13 := a13.below bb
  try replace a14 := a14.below bb
  try replace a15 := a15.below bb
  try replace a16 := a16.below bb
  try replace a17 := a17.below bb
  try replace a18 := a18.below bb
  try replace a19 := a19.below bb
  try replace a20 := a20.below bb
  replace bw := below_on bw bb bw.size
  clear bb
  generalize wn.heap.size = g13 at a13 ⊢
  have R13 := Rp.of HS13.out
  have l13 := R13.l1 Z13.out
  have m13 := R13.l2 Z13.out
  have V13 := Lib.hid (R13.v Z13.out)
  have ci0 := a5.c0
  have ci1 := a5.c1
  have ci2 := a5.c2
  have cj0 := a4.c0
  have cj1 := a4.c1
  have cj2 := a4.c2
  go_wp2_with fail
  clear ci0 ci1 ci2 cj0 cj1 cj2
  refine (fmul_any _ x5 x4 (okS (p * q)) a5.ok a4.ok l5 m5 l4 m4 (by rw [Rat.mul_comm p q]; exact mulF_ok V5.out V4.out R5.q R4.q (by rw [Rat.mul_comm]; exact Z13.out))).mono ?_
  rintro e wn ⟨x14, rfl, hs14, ok14, bb⟩
  have HS14 := Lib.hid hs14
  clear hs14
  try replace a1 := a1.below bb
  try replace a2 := a2.below bb
  try replace a3 := a3.below bb
  try replace a4 := a4.below bb
  try replace a5 := a5.below bb
  try replace a6 := a6.below bb
  try replace a7 := a7.below bb
  try replace a8 := a8.below bb
  try replace a9 := a9.below bb
  try replace a10 := a10.below bb
  try replace a11 := a11.below bb
  try replace a12 := a12.below bb
  try replace a13 := a13.below bb
  try replace a14 := a14.below bb
  try replace a15 := a15.below bb
  try replace a16 := a16.below bb
  try replace a17 := a17.below bb
  try replace a18 := a18.below bb
  try replace a19 := a19.below bb
  try replace a20 := a20.below bb
  replace bw := below_on bw bb bw.size
  clear bb
  go_upto_region 16 with fail
  have a14 := (fa_alloc ok14).1
  have bb := (fa_alloc ok14).2
  clear ok14
  generalize (wn.alloc (.cells #[.bool x14.b, .slice x14.A x14.xs.length x14.c, .slice x14.D x14.ys.length x14.d] 25)) = wm at a14 bb ⊢
  try replace a1 := a1.below bb
  try replace a2 := a2.below bb
  try replace a3 := a3.below bb
  try replace a4 := a4.below bb
  try replace a5 := a5.below bb
  try replace a6 := a6.below bb
  try replace a7 := a7.below bb
  try replace a8 := a8.below bb
  try replace a9 := a9.below bb
  try replace a10 := a10.below bb
  try replace a11 := a11.below bb
  try replace a12 := a12.below bb
  try replace a13 := a13.below bb
  try replace a14 := a14.below bb
  try replace a15 := a15.below bb
  try replace a16 := a16.below bb
  try replace a17 := a17.below bb
  try replace a18 := a18.below bb
  try replace a19 := a19.below bb
  try replace a20 := a20.below bb
  replace bw := below_on bw bb bw.size
  clear bb
  generalize wn.heap.size = g14 at a14 ⊢
  have ci0 := a13.c0
  have ci1 := a13.c1
  have ci2 := a13.c2
  have cj0 := a6.c0
  have cj1 := a6.c1
  have cj2 := a6.c2
  go_wp2_with fail
  clear ci0 ci1 ci2 cj0 cj1 cj2
  refine (fmul_any _ x13 x6 (okS (p * q * r)) a13.ok a6.ok l13 m13 l6 m6 (mulF_ok V13.out V6.out R13.q R6.q Z15.out)).mono ?_
  rintro e wn ⟨x15, rfl, hs15, ok15, bb⟩
  have HS15 := Lib.hid hs15
  clear hs15
  try replace a1 := a1.below bb
  try replace a2 := a2.below bb
  try replace a3 := a3.below bb
  try replace a4 := a4.below bb
  try replace a5 := a5.below bb
  try replace a6 := a6.below bb
  try replace a7 := a7.below bb
  try replace a8 := a8.below bb
  try replace a9 := a9.below bb
  try replace a10 := a10.below bb
  try replace a11 := a11.below bb
  try replace a12 := a12.below bb
  try replace a13 := a13.below bb
  try replace a14 := a14.below bb
  try replace a15 := a15.below bb
  try replace a16 := a16.below bb
  try replace a17 := a17.below bb
  try replace a18 := a18.below bb
  try replace a19 := a19.below bb
  try replace a20 := a20.below bb
  replace bw := below_on bw bb bw.size
  clear bb
  go_upto_region 17 with fail
  have a15 := (fa_alloc ok15).1
  have bb := (fa_alloc ok15).2
  clear ok15
  generalize (wn.alloc (.cells #[.bool x15.b, .slice x15.A x15.xs.length x15.c, .slice x15.D x15.ys.length x15.d] 25)) = wm at a15 bb ⊢
  try replace a1 := a1.below bb
  try replace a2 := a2.below bb
  try replace a3 := a3.below bb
  try replace a4 := a4.below bb
  try replace a5 := a5.below bb
  try replace a6 := a6.below bb
  try replace a7 := a7.below bb
  try replace a8 := a8.below bb
  try replace a9 := a9.below bb
  try replace a10 := a10.below bb
  try replace a11 := a11.below bb
  try replace a12 := a12.below bb
  try replace a13 := a13.below bb
  try replace a14 := a14.below bb
  try replace a15 := a15.below bb
  try replace a16 := a16.below bb
  try replace a17 := a17.below bb
  try replace a18 := a18.below bb
  try replace a19 := a19.below bb
  try replace a20 := a20.below bb
  replace bw := below_on bw bb bw.size
  clear bb
  generalize wn.heap.size = g15 at a15 ⊢
  have ci0 := a5.c0
  have ci1 := a5.c1
  have ci2 := a5.c2
  have cj0 := a6.c0
  have cj1 := a6.c1
  have cj2 := a6.c2
  go_wp2_with fail
  clear ci0 ci1 ci2 cj0 cj1 cj2
  refine (fmul_any _ x5 x6 (okS (q * r)) a5.ok a6.ok l5 m5 l6 m6 (mulF_ok V5.out V6.out R5.q R6.q Z16.out)).mono ?_
  rintro e wn ⟨x16, rfl, hs16, ok16, bb⟩
  have HS16 := Lib.hid hs16
  clear hs16
  try replace a1 := a1.below bb
  try replace a2 := a2.below bb
  try replace a3 := a3.below bb
  try replace a4 := a4.below bb
  try replace a5 := a5.below bb
  try replace a6 := a6.below bb
  try replace a7 := a7.below bb
  try replace a8 := a8.below bb
  try replace a9 := a9.below bb
  try replace a10 := a10.below bb
  try replace a11 := a11.below bb
  try replace a12 := a12.below bb
  try replace a13 := a13.below bb
  try replace a14 := a14.below bb
  try replace a15 := a15.below bb
  try replace a16 := a16.below bb
  try replace a17 := a17.below bb
  try replace a18 := a18.below bb
  try replace a19 := a19.below bb
  try replace a20 := a20.below bb
  replace bw := below_on bw bb bw.size
  clear bb
  go_upto_region 18 with fail
  have a16 := (fa_alloc ok16).1
  have bb := (fa_alloc ok16).2
  clear ok16
  generalize (wn.alloc (.cells #[.bool x16.b, .slice x16.A x16.xs.length x16.c, .slice x16.D x16.ys.length x16.d] 25)) = wm at a16 bb ⊢
  try replace a1 := a1.below bb
  try replace a2 := a2.below bb
  try replace a3 := a3.below bb
  try replace a4 := a4.below bb
  try replace a5 := a5.below bb
  try replace a6 := a6.below bb
  try replace a7 := a7.below bb
  try replace a8 := a8.below bb
  try replace a9 := a9.below bb
  try replace a10 := a10.below bb
  try replace a11 := a11.below bb
  try replace a12 := a12.below bb
  try replace a13 := a13.below bb
  try replace a14 := a14.below bb
  try replace a15 := a15.below bb
  try replace a16 := a16.below bb
  try replace a17 := a17.below bb
  try replace a18 := a18.below bb
  try replace a19 := a19.below bb
  try replace a20 := a20.below bb
  replace bw := below_on bw bb bw.size
  clear bb
  generalize wn.heap.size = g16 at a16 ⊢
  have R16 := Rp.of HS16.out
  have l16 := R16.l1 Z16.out
  have m16 := R16.l2 Z16.out
  have V16 := Lib.hid (R16.v Z16.out)
  have ci0 := a4.c0
  have ci1 := a4.c1
  have ci2 := a4.c2
  have cj0 := a16.c0
  have cj1 := a16.c1
  have cj2 := a16.c2
  go_wp2_with fail
  clear ci0 ci1 ci2 cj0 cj1 cj2
  refine (fmul_any _ x4 x16 (okS (p * q * r)) a4.ok a16.ok l4 m4 l16 m16 (by rw [Rat.mul_assoc]; exact mulF_ok V4.out V16.out R4.q R16.q (by rw [← Rat.mul_assoc]; exact Z15.out))).mono ?_
  rintro e wn ⟨x17, rfl, hs17, ok17, bb⟩
  have HS17 := Lib.hid hs17
  clear hs17
  try replace a1 := a1.below bb
  try replace a2 := a2.below bb
  try replace a3 := a3.below bb
  try replace a4 := a4.below bb
  try replace a5 := a5.below bb
  try replace a6 := a6.below bb
  try replace a7 := a7.below bb
  try replace a8 := a8.below bb
  try replace a9 := a9.below bb
  try replace a10 := a10.below bb
  try replace a11 := a11.below bb
  try replace a12 := a12.below bb
  try replace a13 := a13.below bb
  try replace a14 := a14.below bb
  try replace a15 := a15.below bb
  try replace a16 := a16.below bb
  try replace a17 := a17.below bb
  try replace a18 := a18.below bb
  try replace a19 := a19.below bb
  try replace a20 := a20.below bb
  replace bw := below_on bw bb bw.size
  clear bb
  go_upto_region 19 with fail
  have a17 := (fa_alloc ok17).1
  have bb := (fa_alloc ok17).2
  clear ok17
  generalize (wn.alloc (.cells #[.bool x17.b, .slice x17.A x17.xs.length x17.c, .slice x17.D x17.ys.length x17.d] 25)) = wm at a17 bb ⊢
  try replace a1 := a1.below bb
  try replace a2 := a2.below bb
  try replace a3 := a3.below bb
  try replace a4 := a4.below bb
  try replace a5 := a5.below bb
  try replace a6 := a6.below bb
  try replace a7 := a7.below bb
  try replace a8 := a8.below bb
  try replace a9 := a9.below bb
  try replace a10 := a10.below bb
  try replace a11 := a11.below bb
  try replace a12 := a12.below bb
  try replace a13 := a13.below bb
  try replace a14 := a14.below bb
  try replace a15 := a15.below bb
  try replace a16 := a16.below bb
  try replace a17 := a17.below bb
  try replace a18 := a18.below bb
  try replace a19 := a19.below bb
  try replace a20 := a20.below bb
  replace bw := below_on bw bb bw.size
  clear bb
  generalize wn.heap.size = g17 at a17 ⊢
  have ci0 := a4.c0
  have ci1 := a4.c1
  have ci2 := a4.c2
  have cj0 := a10.c0
  have cj1 := a10.c1
  have cj2 := a10.c2
  go_wp2_with fail
  clear ci0 ci1 ci2 cj0 cj1 cj2
  refine (fmul_any _ x4 x10 (okS (p * (q + r))) a4.ok a10.ok l4 m4 l10 m10 (mulF_ok V4.out V10.out R4.q R10.q Z18.out)).mono ?_
  rintro e wn ⟨x18, rfl, hs18, ok18, bb⟩
  have HS18 := Lib.hid hs18
  clear hs18
  try replace a1 := a1.below bb
  try replace a2 := a2.below bb
  try replace a3 := a3.below bb
  try replace a4 := a4.below bb
  try replace a5 := a5.below bb
  try replace a6 := a6.below bb
  try replace a7 := a7.below bb
  try replace a8 := a8.below bb
  try replace a9 := a9.below bb
  try replace a10 := a10.below bb
  try replace a11 := a11.below bb
  try replace a12 := a12.below bb
  try replace a13 := a13.below bb
  try replace a14 := a14.below bb
  try replace a15 := a15.below bb
  try replace a16 := a16.below bb
  try replace a17 := a17.below bb
  try replace a18 := a18.below bb
  try replace a19 := a19.below bb
  try replace a20 := a20.below bb
  replace bw := below_on bw bb bw.size
  clear bb
  go_upto_region 20 with fail
  have a18 := (fa_alloc ok18).1
  have bb := (fa_alloc ok18).2
  clear ok18
  generalize (wn.alloc (.cells #[.bool x18.b, .slice x18.A x18.xs.length x18.c, .slice x18.D x18.ys.length x18.d] 25)) = wm at a18 bb ⊢
  try replace a1 := a1.below bb
  try replace a2 := a2.below bb
  try replace a3 := a3.below bb
  try replace a4 := a4.below bb
  try replace a5 := a5.below bb
  try replace a6 := a6.below bb
  try replace a7 := a7.below bb
  try replace a8 := a8.below bb
  try replace a9 := a9.below bb
  try replace a10 := a10.below bb
  try replace a11 := a11.below bb
  try replace a12 := a12.below bb
  try replace a13 := a13.below bb
  try replace a14 := a14.below bb
  try replace a15 := a15.below bb
  try replace a16 := a16.below bb
  try replace a17 := a17.below bb
  try replace a18 := a18.below bb
  try replace a19 := a19.below bb
  try replace a20 := a20.below bb
  replace bw := below_on bw bb bw.size
  clear bb
  generalize wn.heap.size = g18 at a18 ⊢
  have ci0 := a4.c0
  have ci1 := a4.c1
  have ci2 := a4.c2
  have cj0 := a6.c0
  have cj1 := a6.c1
  have cj2 := a6.c2
  go_wp2_with fail
  clear ci0 ci1 ci2 cj0 cj1 cj2
  refine (fmul_any _ x4 x6 (okS (p * r)) a4.ok a6.ok l4 m4 l6 m6 (mulF_ok V4.out V6.out R4.q R6.q Z19.out)).mono ?_
  rintro e wn ⟨x19, rfl, hs19, ok19, bb⟩
  have HS19 := Lib.hid hs19
  clear hs19
  try replace a1 := a1.below bb
  try replace a2 := a2.below bb
  try replace a3 := a3.below bb
  try replace a4 := a4.below bb
  try replace a5 := a5.below bb
  try replace a6 := a6.below bb
  try replace a7 := a7.below bb
  try replace a8 := a8.below bb
  try replace a9 := a9.below bb
  try replace a10 := a10.below bb
  try replace a11 := a11.below bb
  try replace a12 := a12.below bb
  try replace a13 := a13.below bb
  try replace a14 := a14.below bb
  try replace a15 := a15.below bb
  try replace a16 := a16.below bb
  try replace a17 := a17.below bb
  try replace a18 := a18.below bb
  try replace a19 := a19.below bb
  try replace a20 := a20.below bb
  replace bw := below_on bw bb bw.size
  clear bb
  go_upto_region 21 with fail
  have a19 := (fa_alloc ok19).1
  have bb := (fa_alloc ok19).2
  clear ok19
  generalize (wn.alloc (.cells #[.bool x19.b, .slice x19.A x19.xs.length x19.c, .slice x19.D x19.ys.length x19.d] 25)) = wm at a19 bb ⊢
  try replace a1 := a1.below bb
  try replace a2 := a2.below bb
  try replace a3 := a3.below bb
  try replace a4 := a4.below bb
  try replace a5 := a5.below bb
  try replace a6 := a6.below bb
  try replace a7 := a7.below bb
  try replace a8 := a8.below bb
  try replace a9 := a9.below bb
  try replace a10 := a10.below bb
  try replace a11 := a11.below bb
  try replace a12 := a12.below bb
  try replace a13 := a13.below bb
  try replace a14 := a14.below bb
  try replace a15 := a15.below bb
  try replace a16 := a16.below bb
  try replace a17 := a17.below bb
  try replace a18 := a18.below bb
  try replace a19 := a19.below bb
  try replace a20 := a20.below bb
  replace bw := below_on bw bb bw.size
  clear bb
  generalize wn.heap.size = g19 at a19 ⊢
  have R19 := Rp.of HS19.out
  have l19 := R19.l1 Z19.out
  have m19 := R19.l2 Z19.out
  have V19 := Lib.hid (R19.v Z19.out)
  have ci0 := a13.c0
  have ci1 := a13.c1
  have ci2 := a13.c2
  have cj0 := a19.c0
  have cj1 := a19.c1
  have cj2 := a19.c2
  go_wp2_with fail
  clear ci0 ci1 ci2 cj0 cj1 cj2
  refine (fadd_any _ x13 x19 (okS (p * (q + r))) a13.ok a19.ok l13 m13 l19 m19 (by rw [Rat.mul_add]; exact addF_ok V13.out V19.out R13.q R19.q (by rw [← Rat.mul_add]; exact Z18.out))).mono ?_
  rintro e wn ⟨x20, rfl, hs20, ok20, bb⟩
  have HS20 := Lib.hid hs20
  clear hs20
  try replace a1 := a1.below bb
  try replace a2 := a2.below bb
  try replace a3 := a3.below bb
  try replace a4 := a4.below bb
  try replace a5 := a5.below bb
  try replace a6 := a6.below bb
  try replace a7 := a7.below bb
  try replace a8 := a8.below bb
  try replace a9 := a9.below bb
  try replace a10 := a10.below bb
  try replace a11 := a11.below bb
  try replace a12 := a12.below bb
  try replace a13 := a13.below bb
  try replace a14 := a14.below bb
  try replace a15 := a15.below bb
  try replace a16 := a16.below bb
  try replace a17 := a17.below bb
  try replace a18 := a18.below bb
  try replace a19 := a19.below bb
  try replace a20 := a20.below bb
  replace bw := below_on bw bb bw.size
  clear bb
  go_upto_region 22 with fail
  have a20 := (fa_alloc ok20).1
  have bb := (fa_alloc ok20).2
  clear ok20
  generalize (wn.alloc (.cells #[.bool x20.b, .slice x20.A x20.xs.length x20.c, .slice x20.D x20.ys.length x20.d] 25)) = wm at a20 bb ⊢
  try replace a1 := a1.below bb
  try replace a2 := a2.below bb
  try replace a3 := a3.below bb
  try replace a4 := a4.below bb
  try replace a5 := a5.below bb
  try replace a6 := a6.below bb
  try replace a7 := a7.below bb
  try replace a8 := a8.below bb
  try replace a9 := a9.below bb
  try replace a10 := a10.below bb
  try replace a11 := a11.below bb
  try replace a12 := a12.below bb
  try replace a13 := a13.below bb
  try replace a14 := a14.below bb
  try replace a15 := a15.below bb
  try replace a16 := a16.below bb
  try replace a17 := a17.below bb
  try replace a18 := a18.below bb
  try replace a19 := a19.below bb
  try replace a20 := a20.below bb
  replace bw := below_on bw bb bw.size
  clear bb
  generalize wn.heap.size = g20 at a20 ⊢
  have ci0 := a13.c0
  have ci1 := a13.c1
  have ci2 := a13.c2
  have cj0 := a14.c0
  have cj1 := a14.c1
  have cj2 := a14.c2
  go_wp2_with fail
  clear ci0 ci1 ci2 cj0 cj1 cj2
  refine (samef_any _ x13 x14 true a13.ok a14.ok (sm HS13.out HS14.out)).mono ?_
  rintro e wn ⟨rfl, bb⟩
  try replace a1 := a1.below bb
  try replace a2 := a2.below bb
  try replace a3 := a3.below bb
  try replace a4 := a4.below bb
  try replace a5 := a5.below bb
  try replace a6 := a6.below bb
  try replace a7 := a7.below bb
  try replace a8 := a8.below bb
  try replace a9 := a9.below bb
  try replace a10 := a10.below bb
  try replace a11 := a11.below bb
  try replace a12 := a12.below bb
  try replace a13 := a13.below bb
  try replace a14 := a14.below bb
  try replace a15 := a15.below bb
  try replace a16 := a16.below bb
  try replace a17 := a17.below bb
  try replace a18 := a18.below bb
  try replace a19 := a19.below bb
  try replace a20 := a20.below bb
  replace bw := below_on bw bb bw.size
  clear bb
  have ci0 := a15.c0
  have ci1 := a15.c1
  have ci2 := a15.c2
  have cj0 := a17.c0
  have cj1 := a17.c1
  have cj2 := a17.c2
  go_wp2_with fail
  clear ci0 ci1 ci2 cj0 cj1 cj2
  refine (samef_any _ x15 x17 true a15.ok a17.ok (sm HS15.out HS17.out)).mono ?_
  rintro e wn ⟨rfl, bb⟩
  try replace a1 := a1.below bb
  try replace a2 := a2.below bb
  try replace a3 := a3.below bb
  try replace a4 := a4.below bb
  try replace a5 := a5.below bb
  try replace a6 := a6.below bb
  try replace a7 := a7.below bb
  try replace a8 := a8.below bb
  try replace a9 := a9.below bb
  try replace a10 := a10.below bb
  try replace a11 := a11.below bb
  try replace a12 := a12.below bb
  try replace a13 := a13.below bb
  try replace a14 := a14.below bb
  try replace a15 := a15.below bb
  try replace a16 := a16.below bb
  try replace a17 := a17.below bb
  try replace a18 := a18.below bb
  try replace a19 := a19.below bb
  try replace a20 := a20.below bb
  replace bw := below_on bw bb bw.size
  clear bb
  have ci0 := a18.c0
  have ci1 := a18.c1
  have ci2 := a18.c2
  have cj0 := a20.c0
  have cj1 := a20.c1
  have cj2 := a20.c2
  go_wp2_with fail
  clear ci0 ci1 ci2 cj0 cj1 cj2
  refine (samef_any _ x18 x20 true a18.ok a20.ok (sm HS18.out HS20.out)).mono ?_
  rintro e wn ⟨rfl, bb⟩
  try replace a1 := a1.below bb
  try replace a2 := a2.below bb
  try replace a3 := a3.below bb
  try replace a4 := a4.below bb
  try replace a5 := a5.below bb
  try replace a6 := a6.below bb
  try replace a7 := a7.below bb
  try replace a8 := a8.below bb
  try replace a9 := a9.below bb
  try replace a10 := a10.below bb
  try replace a11 := a11.below bb
  try replace a12 := a12.below bb
  try replace a13 := a13.below bb
  try replace a14 := a14.below bb
  try replace a15 := a15.below bb
  try replace a16 := a16.below bb
  try replace a17 := a17.below bb
  try replace a18 := a18.below bb
  try replace a19 := a19.below bb
  try replace a20 := a20.below bb
  replace bw := below_on bw bb bw.size
  clear bb
  go_upto_region 24 with fail
  clear a14 a15 a16 a17 a18 a19 a20
  have ci0 := a5.c0
  have ci1 := a5.c1
  have ci2 := a5.c2
  go_wp2_with fail
  clear ci0 ci1 ci2
  by_cases hq : q = 0
  · refine (rfsign_any _ x5 0 a5.ok V5.out l5 m5 (by rw [R5.q]; exact cmpQ_eq hq)).mono ?_
    rintro e wn ⟨rfl, bb⟩
    try replace a1 := a1.below bb
    try replace a2 := a2.below bb
    try replace a3 := a3.below bb
    try replace a4 := a4.below bb
    try replace a5 := a5.below bb
    try replace a6 := a6.below bb
    try replace a7 := a7.below bb
    try replace a8 := a8.below bb
    try replace a9 := a9.below bb
    try replace a10 := a10.below bb
    try replace a11 := a11.below bb
    try replace a12 := a12.below bb
    try replace a13 := a13.below bb
    try replace a14 := a14.below bb
    try replace a15 := a15.below bb
    try replace a16 := a16.below bb
    try replace a17 := a17.below bb
    try replace a18 := a18.below bb
    try replace a19 := a19.below bb
    try replace a20 := a20.below bb
    replace bw := below_on bw bb bw.size
    clear bb
    go_wp2_with fail
    refine (awakef_any _).mono ?_
    rintro e wn ⟨rfl, bb⟩
    try replace a1 := a1.below bb
    try replace a2 := a2.below bb
    try replace a3 := a3.below bb
    try replace a4 := a4.below bb
    try replace a5 := a5.below bb
    try replace a6 := a6.below bb
    try replace a7 := a7.below bb
    try replace a8 := a8.below bb
    try replace a9 := a9.below bb
    try replace a10 := a10.below bb
    try replace a11 := a11.below bb
    try replace a12 := a12.below bb
    try replace a13 := a13.below bb
    try replace a14 := a14.below bb
    try replace a15 := a15.below bb
    try replace a16 := a16.below bb
    try replace a17 := a17.below bb
    try replace a18 := a18.below bb
    try replace a19 := a19.below bb
    try replace a20 := a20.below bb
    replace bw := below_on bw bb bw.size
    clear bb
    go_wp2_with fail
    go_ret
    exact ⟨rfl, bw⟩
  · obtain ⟨z, hz, hz0⟩ : ∃ z, cmpQ x5.q 0 = z ∧ (z == 0) = false := by
      refine ⟨_, rfl, ?_⟩
      rw [R5.q]
      rcases cmpQ_cases q 0 with ⟨_, e⟩ | ⟨e, _⟩ | ⟨_, e⟩
      · rw [e]; rfl
      · exact absurd e hq
      · rw [e]; rfl
    have HZ := Lib.hid hz
    have HQ : Hid (q ≠ 0) := hq
    clear hz hq
    refine (rfsign_any _ x5 z a5.ok V5.out l5 m5 HZ.out).mono ?_
    rintro e wn ⟨rfl, bb⟩
    try replace a1 := a1.below bb
    try replace a2 := a2.below bb
    try replace a3 := a3.below bb
    try replace a4 := a4.below bb
    try replace a5 := a5.below bb
    try replace a6 := a6.below bb
    try replace a7 := a7.below bb
    try replace a8 := a8.below bb
    try replace a9 := a9.below bb
    try replace a10 := a10.below bb
    try replace a11 := a11.below bb
    try replace a12 := a12.below bb
    try replace a13 := a13.below bb
    try replace a14 := a14.below bb
    try replace a15 := a15.below bb
    try replace a16 := a16.below bb
    try replace a17 := a17.below bb
    try replace a18 := a18.below bb
    try replace a19 := a19.below bb
    try replace a20 := a20.below bb
    replace bw := below_on bw bb bw.size
    clear bb
    go_upto_region 26 with fail
    have ci0 := a13.c0
    have ci1 := a13.c1
    have ci2 := a13.c2
    have cj0 := a5.c0
    have cj1 := a5.c1
    have cj2 := a5.c2
    go_wp2_with fail
    clear ci0 ci1 ci2 cj0 cj1 cj2
    refine (fquo_any _ x13 x5 (okS p) a13.ok a5.ok l13 m13 l5 m5 (by have e : p = p * q / q := (by have := HQ.out; grind); rw [e]; exact quoF_ok V13.out R5 R13.q V5.out HQ.out (by rw [← e]; exact Z4.out))).mono ?_
    rintro e wn ⟨x8, rfl, hs8, ok8, bb⟩
    have HS8 := Lib.hid hs8
    clear hs8
    try replace a1 := a1.below bb
    try replace a2 := a2.below bb
    try replace a3 := a3.below bb
    try replace a4 := a4.below bb
    try replace a5 := a5.below bb
    try replace a6 := a6.below bb
    try replace a7 := a7.below bb
    try replace a8 := a8.below bb
    try replace a9 := a9.below bb
    try replace a10 := a10.below bb
    try replace a11 := a11.below bb
    try replace a12 := a12.below bb
    try replace a13 := a13.below bb
    try replace a14 := a14.below bb
    try replace a15 := a15.below bb
    try replace a16 := a16.below bb
    try replace a17 := a17.below bb
    try replace a18 := a18.below bb
    try replace a19 := a19.below bb
    try replace a20 := a20.below bb
    replace bw := below_on bw bb bw.size
    clear bb
    go_upto_region 27 with fail
    have a8 := (fa_alloc ok8).1
    have bb := (fa_alloc ok8).2
    clear ok8
    generalize (wn.alloc (.cells #[.bool x8.b, .slice x8.A x8.xs.length x8.c, .slice x8.D x8.ys.length x8.d] 25)) = wm at a8 bb ⊢
    try replace a1 := a1.below bb
    try replace a2 := a2.below bb
    try replace a3 := a3.below bb
    try replace a4 := a4.below bb
    try replace a5 := a5.below bb
    try replace a6 := a6.below bb
    try replace a7 := a7.below bb
    try replace a8 := a8.below bb
    try replace a9 := a9.below bb
    try replace a10 := a10.below bb
    try replace a11 := a11.below bb
    try replace a12 := a12.below bb
    try replace a13 := a13.below bb
    try replace a14 := a14.below bb
    try replace a15 := a15.below bb
    try replace a16 := a16.below bb
    try replace a17 := a17.below bb
    try replace a18 := a18.below bb
    try replace a19 := a19.below bb
    try replace a20 := a20.below bb
    replace bw := below_on bw bb bw.size
    clear bb
    generalize wn.heap.size = g8 at a8 ⊢
    have ci0 := a8.c0
    have ci1 := a8.c1
    have ci2 := a8.c2
    have cj0 := a4.c0
    have cj1 := a4.c1
    have cj2 := a4.c2
    go_wp2_with fail
    clear ci0 ci1 ci2 cj0 cj1 cj2
    refine (samef_any _ x8 x4 true a8.ok a4.ok (sm HS8.out HS4.out)).mono ?_
    rintro e wn ⟨rfl, bb⟩
    try replace a1 := a1.below bb
    try replace a2 := a2.below bb
    try replace a3 := a3.below bb
    try replace a4 := a4.below bb
    try replace a5 := a5.below bb
    try replace a6 := a6.below bb
    try replace a7 := a7.below bb
    try replace a8 := a8.below bb
    try replace a9 := a9.below bb
    try replace a10 := a10.below bb
    try replace a11 := a11.below bb
    try replace a12 := a12.below bb
    try replace a13 := a13.below bb
    try replace a14 := a14.below bb
    try replace a15 := a15.below bb
    try replace a16 := a16.below bb
    try replace a17 := a17.below bb
    try replace a18 := a18.below bb
    try replace a19 := a19.below bb
    try replace a20 := a20.below bb
    replace bw := below_on bw bb bw.size
    clear bb
    go_wp2_with fail
    refine (awakef_any _).mono ?_
    rintro e wn ⟨rfl, bb⟩
    try replace a1 := a1.below bb
    try replace a2 := a2.below bb
    try replace a3 := a3.below bb
    try replace a4 := a4.below bb
    try replace a5 := a5.below bb
    try replace a6 := a6.below bb
    try replace a7 := a7.below bb
    try replace a8 := a8.below bb
    try replace a9 := a9.below bb
    try replace a10 := a10.below bb
    try replace a11 := a11.below bb
    try replace a12 := a12.below bb
    try replace a13 := a13.below bb
    try replace a14 := a14.below bb
    try replace a15 := a15.below bb
    try replace a16 := a16.below bb
    try replace a17 := a17.below bb
    try replace a18 := a18.below bb
    try replace a19 := a19.below bb
    try replace a20 := a20.below bb
    replace bw := below_on bw bb bw.size
    clear bb
    go_wp2_with fail
    go_ret
    exact ⟨rfl, bw⟩
theorem field_walk (w : World) (x1 x2 x3 : Fx) (ok1 : x1.ok w) (ok2 : x2.ok w) (ok3 : x3.ok w) :
    Calls Try.prog 6 #[x1.val, x2.val, x3.val] w fun e w' => e = .returned (.bool true) ∧ Below w.heap.size w w' := by
  have hL : lensB [x1, x2, x3] := by
    intro v hv
    simp only [List.mem_cons, List.not_mem_nil, or_false] at hv
    rcases hv with rfl | rfl | rfl
    · exact lens_ok ok1
    · exact lens_ok ok2
    · exact lens_ok ok3
  cases h : longB [x1, x2, x3]
  · have h1 := longB_no h x1 (by simp)
    have h2 := longB_no h x2 (by simp)
    have h3 := longB_no h x3 (by simp)
    by_cases hv : x1.v ∧ x2.v ∧ x3.v
    · exact field_main w x1 x2 x3 ok1 ok2 ok3 hL h (by omega) (by omega) (by omega) (by omega) (by omega) (by omega) hv (Sz.of_v hv.1 h1.1 h1.2 ok1.num.u ok1.den.u) (Sz.of_v hv.2.1 h2.1 h2.2 ok2.num.u ok2.den.u) (Sz.of_v hv.2.2 h3.1 h3.2 ok3.num.u ok3.den.u)
    · exact field_bad w x1 x2 x3 ok1 ok2 ok3 hL h (by omega) (by omega) (by omega) (by omega) (by omega) (by omega) hv
  · exact field_long w x1 x2 x3 ok1 ok2 ok3 hL h
end Go.Proofs.Ytodopppoikdglaa
