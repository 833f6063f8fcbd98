/- The walk of FractionOrder. -/
import Derived.Test.YtodopppoikdglaaLwD
namespace Go.Proofs.Ytodopppoikdglaa
open Go.RowKit

set_option maxRecDepth 100000 in
set_option maxHeartbeats 1600000 in
theorem order_long (w : World) (x1 x2 x3 : Fx) (ok1 : x1.ok w) (ok2 : x2.ok w) (ok3 : x3.ok w) (hL : lensB [x1, x2, x3]) (h : longB [x1, x2, x3] = true) :
    Calls Try.prog 7 #[x1.val, x2.val, x3.val] w fun e w' => e = .returned (.bool true) ∧ Below w.heap.size w w' := by
  have HL := Lib.hid hL
  have H := Lib.hid h
  clear hL h
  go_enter Try.func7, Try.ntmps7
  go_upto_region 1 with fail
  have bw := Below.refl w.heap.size w
  have a1 := (fa_alloc ok1).1
  have bb := (fa_alloc ok1).2
  have sz1 := size_box w (.cells #[.bool x1.b, .slice x1.A x1.xs.length x1.c, .slice x1.D x1.ys.length x1.d] 25)
  clear ok1
  generalize (w.alloc (.cells #[.bool x1.b, .slice x1.A x1.xs.length x1.c, .slice x1.D x1.ys.length x1.d] 25)) = wA at a1 bb sz1 ⊢
  try replace ok1 := ok1.below bb
  try replace ok2 := ok2.below bb
  try replace ok3 := ok3.below bb
  try replace a1 := a1.below bb
  try replace a2 := a2.below bb
  try replace a3 := a3.below bb
  try replace a4 := a4.below bb
  try replace a5 := a5.below bb
  try replace a6 := a6.below bb
  try replace a7 := a7.below bb
  try replace a8 := a8.below bb
  try replace a9 := a9.below bb
  try replace a10 := a10.below bb
  try replace a11 := a11.below bb
  try replace a12 := a12.below bb
  try replace a13 := a13.below bb
  try replace a14 := a14.below bb
  try replace a15 := a15.below bb
  try replace a16 := a16.below bb
  try replace a17 := a17.below bb
  try replace a18 := a18.below bb
  try replace a19 := a19.below bb
  try replace a20 := a20.below bb
  replace bw := below_on bw bb bw.size
  clear bb
  have a2 := (fa_alloc ok2).1
  have bb := (fa_alloc ok2).2
  have sz2 := size_box wA (.cells #[.bool x2.b, .slice x2.A x2.xs.length x2.c, .slice x2.D x2.ys.length x2.d] 25)
  rw [sz1] at a2 sz2
  clear ok2 sz1
  generalize (wA.alloc (.cells #[.bool x2.b, .slice x2.A x2.xs.length x2.c, .slice x2.D x2.ys.length x2.d] 25)) = wB at a2 bb sz2 ⊢
  try replace ok1 := ok1.below bb
  try replace ok2 := ok2.below bb
  try replace ok3 := ok3.below bb
  try replace a1 := a1.below bb
  try replace a2 := a2.below bb
  try replace a3 := a3.below bb
  try replace a4 := a4.below bb
  try replace a5 := a5.below bb
  try replace a6 := a6.below bb
  try replace a7 := a7.below bb
  try replace a8 := a8.below bb
  try replace a9 := a9.below bb
  try replace a10 := a10.below bb
  try replace a11 := a11.below bb
  try replace a12 := a12.below bb
  try replace a13 := a13.below bb
  try replace a14 := a14.below bb
  try replace a15 := a15.below bb
  try replace a16 := a16.below bb
  try replace a17 := a17.below bb
  try replace a18 := a18.below bb
  try replace a19 := a19.below bb
  try replace a20 := a20.below bb
  replace bw := below_on bw bb bw.size
  clear bb
  have a3 := (fa_alloc ok3).1
  have bb := (fa_alloc ok3).2
  have sz3 := size_box wB (.cells #[.bool x3.b, .slice x3.A x3.xs.length x3.c, .slice x3.D x3.ys.length x3.d] 25)
  rw [sz2] at a3 sz3
  clear ok3 sz2
  generalize (wB.alloc (.cells #[.bool x3.b, .slice x3.A x3.xs.length x3.c, .slice x3.D x3.ys.length x3.d] 25)) = wm at a3 bb sz3 ⊢
  try replace ok1 := ok1.below bb
  try replace ok2 := ok2.below bb
  try replace ok3 := ok3.below bb
  try replace a1 := a1.below bb
  try replace a2 := a2.below bb
  try replace a3 := a3.below bb
  try replace a4 := a4.below bb
  try replace a5 := a5.below bb
  try replace a6 := a6.below bb
  try replace a7 := a7.below bb
  try replace a8 := a8.below bb
  try replace a9 := a9.below bb
  try replace a10 := a10.below bb
  try replace a11 := a11.below bb
  try replace a12 := a12.below bb
  try replace a13 := a13.below bb
  try replace a14 := a14.below bb
  try replace a15 := a15.below bb
  try replace a16 := a16.below bb
  try replace a17 := a17.below bb
  try replace a18 := a18.below bb
  try replace a19 := a19.below bb
  try replace a20 := a20.below bb
  replace bw := below_on bw bb bw.size
  clear bb
  clear sz3
  have ci0 := a1.c0
  have ci1 := a1.c1
  have ci2 := a1.c2
  have cj0 := a2.c0
  have cj1 := a2.c1
  have cj2 := a2.c2
  have ck0 := a3.c0
  have ck1 := a3.c1
  have ck2 := a3.c2
  go_wp2_with fail
  clear ci0 ci1 ci2 cj0 cj1 cj2
  clear ck0 ck1 ck2
  have hr := rdf3 wm x1 x2 x3
  have bb := (Below.refl wm.heap.size wm).alloc (Nat.le_refl _) (.cells #[.bool x1.b, .slice x1.A x1.xs.length x1.c, .slice x1.D x1.ys.length x1.d, .bool x2.b, .slice x2.A x2.xs.length x2.c, .slice x2.D x2.ys.length x2.d, .bool x3.b, .slice x3.A x3.xs.length x3.c, .slice x3.D x3.ys.length x3.d] 25)
  generalize (wm.alloc (.cells #[.bool x1.b, .slice x1.A x1.xs.length x1.c, .slice x1.D x1.ys.length x1.d, .bool x2.b, .slice x2.A x2.xs.length x2.c, .slice x2.D x2.ys.length x2.d, .bool x3.b, .slice x3.A x3.xs.length x3.c, .slice x3.D x3.ys.length x3.d] 25)) = wn at hr bb ⊢
  try replace a1 := a1.below bb
  try replace a2 := a2.below bb
  try replace a3 := a3.below bb
  try replace a4 := a4.below bb
  try replace a5 := a5.below bb
  try replace a6 := a6.below bb
  try replace a7 := a7.below bb
  try replace a8 := a8.below bb
  try replace a9 := a9.below bb
  try replace a10 := a10.below bb
  try replace a11 := a11.below bb
  try replace a12 := a12.below bb
  try replace a13 := a13.below bb
  try replace a14 := a14.below bb
  try replace a15 := a15.below bb
  try replace a16 := a16.below bb
  try replace a17 := a17.below bb
  try replace a18 := a18.below bb
  try replace a19 := a19.below bb
  try replace a20 := a20.below bb
  replace bw := below_on bw bb bw.size
  clear bb
  refine (flong_any wn _ _ _ _ true hr rfl (by simp) (by intro v hv; simp only [List.mem_cons, List.not_mem_nil, or_false] at hv; rcases hv with rfl | rfl | rfl <;> exact HL.out _ (by simp)) H.out).mono ?_
  rintro e wl ⟨rfl, rfl⟩
  clear hr
  go_wp2_with fail
  refine (awakef_any _).mono ?_
  rintro e wn ⟨rfl, bb⟩
  try replace a1 := a1.below bb
  try replace a2 := a2.below bb
  try replace a3 := a3.below bb
  try replace a4 := a4.below bb
  try replace a5 := a5.below bb
  try replace a6 := a6.below bb
  try replace a7 := a7.below bb
  try replace a8 := a8.below bb
  try replace a9 := a9.below bb
  try replace a10 := a10.below bb
  try replace a11 := a11.below bb
  try replace a12 := a12.below bb
  try replace a13 := a13.below bb
  try replace a14 := a14.below bb
  try replace a15 := a15.below bb
  try replace a16 := a16.below bb
  try replace a17 := a17.below bb
  try replace a18 := a18.below bb
  try replace a19 := a19.below bb
  try replace a20 := a20.below bb
  replace bw := below_on bw bb bw.size
  clear bb
  go_wp2_with fail
  go_ret
  exact ⟨rfl, bw⟩
set_option maxRecDepth 100000 in
set_option maxHeartbeats 1600000 in
theorem order_bad (w : World) (x1 x2 x3 : Fx) (ok1 : x1.ok w) (ok2 : x2.ok w) (ok3 : x3.ok w) (hL : lensB [x1, x2, x3]) (h : longB [x1, x2, x3] = false) (l1 : x1.xs.length ≤ 10000) (m1 : x1.ys.length ≤ 10000) (l2 : x2.xs.length ≤ 10000) (m2 : x2.ys.length ≤ 10000) (l3 : x3.xs.length ≤ 10000) (m3 : x3.ys.length ≤ 10000) (hv : ¬ (x1.v ∧ x2.v ∧ x3.v)) :
    Calls Try.prog 7 #[x1.val, x2.val, x3.val] w fun e w' => e = .returned (.bool true) ∧ Below w.heap.size w w' := by
  have HL := Lib.hid hL
  have H := Lib.hid h
  clear hL h
  by_cases hv1 : x1.v
  · have HV1 := Lib.hid hv1
    by_cases hv2 : x2.v
    · have HV2 := Lib.hid hv2
      have HV3 : Hid (¬ x3.v) := fun h => hv ⟨hv1, hv2, h⟩
      clear hv1 hv2 hv
      go_enter Try.func7, Try.ntmps7
      go_upto_region 1 with fail
      have bw := Below.refl w.heap.size w
      have a1 := (fa_alloc ok1).1
      have bb := (fa_alloc ok1).2
      have sz1 := size_box w (.cells #[.bool x1.b, .slice x1.A x1.xs.length x1.c, .slice x1.D x1.ys.length x1.d] 25)
      clear ok1
      generalize (w.alloc (.cells #[.bool x1.b, .slice x1.A x1.xs.length x1.c, .slice x1.D x1.ys.length x1.d] 25)) = wA at a1 bb sz1 ⊢
      try replace ok1 := ok1.below bb
      try replace ok2 := ok2.below bb
      try replace ok3 := ok3.below bb
      try replace a1 := a1.below bb
      try replace a2 := a2.below bb
      try replace a3 := a3.below bb
      try replace a4 := a4.below bb
      try replace a5 := a5.below bb
      try replace a6 := a6.below bb
      try replace a7 := a7.below bb
      try replace a8 := a8.below bb
      try replace a9 := a9.below bb
      try replace a10 := a10.below bb
      try replace a11 := a11.below bb
      try replace a12 := a12.below bb
      try replace a13 := a13.below bb
      try replace a14 := a14.below bb
      try replace a15 := a15.below bb
      try replace a16 := a16.below bb
      try replace a17 := a17.below bb
      try replace a18 := a18.below bb
      try replace a19 := a19.below bb
      try replace a20 := a20.below bb
      replace bw := below_on bw bb bw.size
      clear bb
      have a2 := (fa_alloc ok2).1
      have bb := (fa_alloc ok2).2
      have sz2 := size_box wA (.cells #[.bool x2.b, .slice x2.A x2.xs.length x2.c, .slice x2.D x2.ys.length x2.d] 25)
      rw [sz1] at a2 sz2
      clear ok2 sz1
      generalize (wA.alloc (.cells #[.bool x2.b, .slice x2.A x2.xs.length x2.c, .slice x2.D x2.ys.length x2.d] 25)) = wB at a2 bb sz2 ⊢
      try replace ok1 := ok1.below bb
      try replace ok2 := ok2.below bb
      try replace ok3 := ok3.below bb
      try replace a1 := a1.below bb
      try replace a2 := a2.below bb
      try replace a3 := a3.below bb
      try replace a4 := a4.below bb
      try replace a5 := a5.below bb
      try replace a6 := a6.below bb
      try replace a7 := a7.below bb
      try replace a8 := a8.below bb
      try replace a9 := a9.below bb
      try replace a10 := a10.below bb
      try replace a11 := a11.below bb
      try replace a12 := a12.below bb
      try replace a13 := a13.below bb
      try replace a14 := a14.below bb
      try replace a15 := a15.below bb
      try replace a16 := a16.below bb
      try replace a17 := a17.below bb
      try replace a18 := a18.below bb
      try replace a19 := a19.below bb
      try replace a20 := a20.below bb
      replace bw := below_on bw bb bw.size
      clear bb
      have a3 := (fa_alloc ok3).1
      have bb := (fa_alloc ok3).2
      have sz3 := size_box wB (.cells #[.bool x3.b, .slice x3.A x3.xs.length x3.c, .slice x3.D x3.ys.length x3.d] 25)
      rw [sz2] at a3 sz3
      clear ok3 sz2
      generalize (wB.alloc (.cells #[.bool x3.b, .slice x3.A x3.xs.length x3.c, .slice x3.D x3.ys.length x3.d] 25)) = wm at a3 bb sz3 ⊢
      try replace ok1 := ok1.below bb
      try replace ok2 := ok2.below bb
      try replace ok3 := ok3.below bb
      try replace a1 := a1.below bb
      try replace a2 := a2.below bb
      try replace a3 := a3.below bb
      try replace a4 := a4.below bb
      try replace a5 := a5.below bb
      try replace a6 := a6.below bb
      try replace a7 := a7.below bb
      try replace a8 := a8.below bb
      try replace a9 := a9.below bb
      try replace a10 := a10.below bb
      try replace a11 := a11.below bb
      try replace a12 := a12.below bb
      try replace a13 := a13.below bb
      try replace a14 := a14.below bb
      try replace a15 := a15.below bb
      try replace a16 := a16.below bb
      try replace a17 := a17.below bb
      try replace a18 := a18.below bb
      try replace a19 := a19.below bb
      try replace a20 := a20.below bb
      replace bw := below_on bw bb bw.size
      clear bb
      clear sz3
      have ci0 := a1.c0
      have ci1 := a1.c1
      have ci2 := a1.c2
      have cj0 := a2.c0
      have cj1 := a2.c1
      have cj2 := a2.c2
      have ck0 := a3.c0
      have ck1 := a3.c1
      have ck2 := a3.c2
      go_wp2_with fail
      clear ci0 ci1 ci2 cj0 cj1 cj2
      clear ck0 ck1 ck2
      have hr := rdf3 wm x1 x2 x3
      have bb := (Below.refl wm.heap.size wm).alloc (Nat.le_refl _) (.cells #[.bool x1.b, .slice x1.A x1.xs.length x1.c, .slice x1.D x1.ys.length x1.d, .bool x2.b, .slice x2.A x2.xs.length x2.c, .slice x2.D x2.ys.length x2.d, .bool x3.b, .slice x3.A x3.xs.length x3.c, .slice x3.D x3.ys.length x3.d] 25)
      generalize (wm.alloc (.cells #[.bool x1.b, .slice x1.A x1.xs.length x1.c, .slice x1.D x1.ys.length x1.d, .bool x2.b, .slice x2.A x2.xs.length x2.c, .slice x2.D x2.ys.length x2.d, .bool x3.b, .slice x3.A x3.xs.length x3.c, .slice x3.D x3.ys.length x3.d] 25)) = wn at hr bb ⊢
      try replace a1 := a1.below bb
      try replace a2 := a2.below bb
      try replace a3 := a3.below bb
      try replace a4 := a4.below bb
      try replace a5 := a5.below bb
      try replace a6 := a6.below bb
      try replace a7 := a7.below bb
      try replace a8 := a8.below bb
      try replace a9 := a9.below bb
      try replace a10 := a10.below bb
      try replace a11 := a11.below bb
      try replace a12 := a12.below bb
      try replace a13 := a13.below bb
      try replace a14 := a14.below bb
      try replace a15 := a15.below bb
      try replace a16 := a16.below bb
      try replace a17 := a17.below bb
      try replace a18 := a18.below bb
      try replace a19 := a19.below bb
      try replace a20 := a20.below bb
      replace bw := below_on bw bb bw.size
      clear bb
      refine (flong_any wn _ _ _ _ false hr rfl (by simp) (by intro v hv; simp only [List.mem_cons, List.not_mem_nil, or_false] at hv; rcases hv with rfl | rfl | rfl <;> exact HL.out _ (by simp)) H.out).mono ?_
      rintro e wl ⟨rfl, rfl⟩
      clear hr
      have ci0 := a1.c0
      have ci1 := a1.c1
      have ci2 := a1.c2
      go_wp2_with fail
      clear ci0 ci1 ci2
      refine (rfvalid_any _ x1 true a1.ok l1 m1 (decide_eq_true HV1.out)).mono ?_
      rintro e wn ⟨rfl, bb⟩
      try replace a1 := a1.below bb
      try replace a2 := a2.below bb
      try replace a3 := a3.below bb
      try replace a4 := a4.below bb
      try replace a5 := a5.below bb
      try replace a6 := a6.below bb
      try replace a7 := a7.below bb
      try replace a8 := a8.below bb
      try replace a9 := a9.below bb
      try replace a10 := a10.below bb
      try replace a11 := a11.below bb
      try replace a12 := a12.below bb
      try replace a13 := a13.below bb
      try replace a14 := a14.below bb
      try replace a15 := a15.below bb
      try replace a16 := a16.below bb
      try replace a17 := a17.below bb
      try replace a18 := a18.below bb
      try replace a19 := a19.below bb
      try replace a20 := a20.below bb
      replace bw := below_on bw bb bw.size
      clear bb
      have ci0 := a2.c0
      have ci1 := a2.c1
      have ci2 := a2.c2
      go_wp2_with fail
      clear ci0 ci1 ci2
      refine (rfvalid_any _ x2 true a2.ok l2 m2 (decide_eq_true HV2.out)).mono ?_
      rintro e wn ⟨rfl, bb⟩
      try replace a1 := a1.below bb
      try replace a2 := a2.below bb
      try replace a3 := a3.below bb
      try replace a4 := a4.below bb
      try replace a5 := a5.below bb
      try replace a6 := a6.below bb
      try replace a7 := a7.below bb
      try replace a8 := a8.below bb
      try replace a9 := a9.below bb
      try replace a10 := a10.below bb
      try replace a11 := a11.below bb
      try replace a12 := a12.below bb
      try replace a13 := a13.below bb
      try replace a14 := a14.below bb
      try replace a15 := a15.below bb
      try replace a16 := a16.below bb
      try replace a17 := a17.below bb
      try replace a18 := a18.below bb
      try replace a19 := a19.below bb
      try replace a20 := a20.below bb
      replace bw := below_on bw bb bw.size
      clear bb
      have ci0 := a3.c0
      have ci1 := a3.c1
      have ci2 := a3.c2
      go_wp2_with fail
      clear ci0 ci1 ci2
      refine (rfvalid_any _ x3 false a3.ok l3 m3 (decide_eq_false HV3.out)).mono ?_
      rintro e wn ⟨rfl, bb⟩
      try replace a1 := a1.below bb
      try replace a2 := a2.below bb
      try replace a3 := a3.below bb
      try replace a4 := a4.below bb
      try replace a5 := a5.below bb
      try replace a6 := a6.below bb
      try replace a7 := a7.below bb
      try replace a8 := a8.below bb
      try replace a9 := a9.below bb
      try replace a10 := a10.below bb
      try replace a11 := a11.below bb
      try replace a12 := a12.below bb
      try replace a13 := a13.below bb
      try replace a14 := a14.below bb
      try replace a15 := a15.below bb
      try replace a16 := a16.below bb
      try replace a17 := a17.below bb
      try replace a18 := a18.below bb
      try replace a19 := a19.below bb
      try replace a20 := a20.below bb
      replace bw := below_on bw bb bw.size
      clear bb
      go_wp2_with fail
      refine (awakef_any _).mono ?_
      rintro e wn ⟨rfl, bb⟩
      try replace a1 := a1.below bb
      try replace a2 := a2.below bb
      try replace a3 := a3.below bb
      try replace a4 := a4.below bb
      try replace a5 := a5.below bb
      try replace a6 := a6.below bb
      try replace a7 := a7.below bb
      try replace a8 := a8.below bb
      try replace a9 := a9.below bb
      try replace a10 := a10.below bb
      try replace a11 := a11.below bb
      try replace a12 := a12.below bb
      try replace a13 := a13.below bb
      try replace a14 := a14.below bb
      try replace a15 := a15.below bb
      try replace a16 := a16.below bb
      try replace a17 := a17.below bb
      try replace a18 := a18.below bb
      try replace a19 := a19.below bb
      try replace a20 := a20.below bb
      replace bw := below_on bw bb bw.size
      clear bb
      go_wp2_with fail
      go_ret
      exact ⟨rfl, bw⟩
    · have HV2 : Hid (¬ x2.v) := hv2
      clear hv1 hv2 hv
      go_enter Try.func7, Try.ntmps7
      go_upto_region 1 with fail
      have bw := Below.refl w.heap.size w
      have a1 := (fa_alloc ok1).1
      have bb := (fa_alloc ok1).2
      have sz1 := size_box w (.cells #[.bool x1.b, .slice x1.A x1.xs.length x1.c, .slice x1.D x1.ys.length x1.d] 25)
      clear ok1
      generalize (w.alloc (.cells #[.bool x1.b, .slice x1.A x1.xs.length x1.c, .slice x1.D x1.ys.length x1.d] 25)) = wA at a1 bb sz1 ⊢
      try replace ok1 := ok1.below bb
      try replace ok2 := ok2.below bb
      try replace ok3 := ok3.below bb
      try replace a1 := a1.below bb
      try replace a2 := a2.below bb
      try replace a3 := a3.below bb
      try replace a4 := a4.below bb
      try replace a5 := a5.below bb
      try replace a6 := a6.below bb
      try replace a7 := a7.below bb
      try replace a8 := a8.below bb
      try replace a9 := a9.below bb
      try replace a10 := a10.below bb
      try replace a11 := a11.below bb
      try replace a12 := a12.below bb
      try replace a13 := a13.below bb
      try replace a14 := a14.below bb
      try replace a15 := a15.below bb
      try replace a16 := a16.below bb
      try replace a17 := a17.below bb
      try replace a18 := a18.below bb
      try replace a19 := a19.below bb
      try replace a20 := a20.below bb
      replace bw := below_on bw bb bw.size
      clear bb
      have a2 := (fa_alloc ok2).1
      have bb := (fa_alloc ok2).2
      have sz2 := size_box wA (.cells #[.bool x2.b, .slice x2.A x2.xs.length x2.c, .slice x2.D x2.ys.length x2.d] 25)
      rw [sz1] at a2 sz2
      clear ok2 sz1
      generalize (wA.alloc (.cells #[.bool x2.b, .slice x2.A x2.xs.length x2.c, .slice x2.D x2.ys.length x2.d] 25)) = wB at a2 bb sz2 ⊢
      try replace ok1 := ok1.below bb
      try replace ok2 := ok2.below bb
      try replace ok3 := ok3.below bb
      try replace a1 := a1.below bb
      try replace a2 := a2.below bb
      try replace a3 := a3.below bb
      try replace a4 := a4.below bb
      try replace a5 := a5.below bb
      try replace a6 := a6.below bb
      try replace a7 := a7.below bb
      try replace a8 := a8.below bb
      try replace a9 := a9.below bb
      try replace a10 := a10.below bb
      try replace a11 := a11.below bb
      try replace a12 := a12.below bb
      try replace a13 := a13.below bb
      try replace a14 := a14.below bb
      try replace a15 := a15.below bb
      try replace a16 := a16.below bb
      try replace a17 := a17.below bb
      try replace a18 := a18.below bb
      try replace a19 := a19.below bb
      try replace a20 := a20.below bb
      replace bw := below_on bw bb bw.size
      clear bb
      have a3 := (fa_alloc ok3).1
      have bb := (fa_alloc ok3).2
      have sz3 := size_box wB (.cells #[.bool x3.b, .slice x3.A x3.xs.length x3.c, .slice x3.D x3.ys.length x3.d] 25)
      rw [sz2] at a3 sz3
      clear ok3 sz2
      generalize (wB.alloc (.cells #[.bool x3.b, .slice x3.A x3.xs.length x3.c, .slice x3.D x3.ys.length x3.d] 25)) = wm at a3 bb sz3 ⊢
      try replace ok1 := ok1.below bb
      try replace ok2 := ok2.below bb
      try replace ok3 := ok3.below bb
      try replace a1 := a1.below bb
      try replace a2 := a2.below bb
      try replace a3 := a3.below bb
      try replace a4 := a4.below bb
      try replace a5 := a5.below bb
      try replace a6 := a6.below bb
      try replace a7 := a7.below bb
      try replace a8 := a8.below bb
      try replace a9 := a9.below bb
      try replace a10 := a10.below bb
      try replace a11 := a11.below bb
      try replace a12 := a12.below bb
      try replace a13 := a13.below bb
      try replace a14 := a14.below bb
      try replace a15 := a15.below bb
      try replace a16 := a16.below bb
      try replace a17 := a17.below bb
      try replace a18 := a18.below bb
      try replace a19 := a19.below bb
      try replace a20 := a20.below bb
      replace bw := below_on bw bb bw.size
      clear bb
      clear sz3
      have ci0 := a1.c0
      have ci1 := a1.c1
      have ci2 := a1.c2
      have cj0 := a2.c0
      have cj1 := a2.c1
      have cj2 := a2.c2
      have ck0 := a3.c0
      have ck1 := a3.c1
      have ck2 := a3.c2
      go_wp2_with fail
      clear ci0 ci1 ci2 cj0 cj1 cj2
      clear ck0 ck1 ck2
      have hr := rdf3 wm x1 x2 x3
      have bb := (Below.refl wm.heap.size wm).alloc (Nat.le_refl _) (.cells #[.bool x1.b, .slice x1.A x1.xs.length x1.c, .slice x1.D x1.ys.length x1.d, .bool x2.b, .slice x2.A x2.xs.length x2.c, .slice x2.D x2.ys.length x2.d, .bool x3.b, .slice x3.A x3.xs.length x3.c, .slice x3.D x3.ys.length x3.d] 25)
      generalize (wm.alloc (.cells #[.bool x1.b, .slice x1.A x1.xs.length x1.c, .slice x1.D x1.ys.length x1.d, .bool x2.b, .slice x2.A x2.xs.length x2.c, .slice x2.D x2.ys.length x2.d, .bool x3.b, .slice x3.A x3.xs.length x3.c, .slice x3.D x3.ys.length x3.d] 25)) = wn at hr bb ⊢
      try replace a1 := a1.below bb
      try replace a2 := a2.below bb
      try replace a3 := a3.below bb
      try replace a4 := a4.below bb
      try replace a5 := a5.below bb
      try replace a6 := a6.below bb
      try replace a7 := a7.below bb
      try replace a8 := a8.below bb
      try replace a9 := a9.below bb
      try replace a10 := a10.below bb
      try replace a11 := a11.below bb
      try replace a12 := a12.below bb
      try replace a13 := a13.below bb
      try replace a14 := a14.below bb
      try replace a15 := a15.below bb
      try replace a16 := a16.below bb
      try replace a17 := a17.below bb
      try replace a18 := a18.below bb
      try replace a19 := a19.below bb
      try replace a20 := a20.below bb
      replace bw := below_on bw bb bw.size
      clear bb
      refine (flong_any wn _ _ _ _ false hr rfl (by simp) (by intro v hv; simp only [List.mem_cons, List.not_mem_nil, or_false] at hv; rcases hv with rfl | rfl | rfl <;> exact HL.out _ (by simp)) H.out).mono ?_
      rintro e wl ⟨rfl, rfl⟩
      clear hr
      have ci0 := a1.c0
      have ci1 := a1.c1
      have ci2 := a1.c2
      go_wp2_with fail
      clear ci0 ci1 ci2
      refine (rfvalid_any _ x1 true a1.ok l1 m1 (decide_eq_true HV1.out)).mono ?_
      rintro e wn ⟨rfl, bb⟩
      try replace a1 := a1.below bb
      try replace a2 := a2.below bb
      try replace a3 := a3.below bb
      try replace a4 := a4.below bb
      try replace a5 := a5.below bb
      try replace a6 := a6.below bb
      try replace a7 := a7.below bb
      try replace a8 := a8.below bb
      try replace a9 := a9.below bb
      try replace a10 := a10.below bb
      try replace a11 := a11.below bb
      try replace a12 := a12.below bb
      try replace a13 := a13.below bb
      try replace a14 := a14.below bb
      try replace a15 := a15.below bb
      try replace a16 := a16.below bb
      try replace a17 := a17.below bb
      try replace a18 := a18.below bb
      try replace a19 := a19.below bb
      try replace a20 := a20.below bb
      replace bw := below_on bw bb bw.size
      clear bb
      have ci0 := a2.c0
      have ci1 := a2.c1
      have ci2 := a2.c2
      go_wp2_with fail
      clear ci0 ci1 ci2
      refine (rfvalid_any _ x2 false a2.ok l2 m2 (decide_eq_false HV2.out)).mono ?_
      rintro e wn ⟨rfl, bb⟩
      try replace a1 := a1.below bb
      try replace a2 := a2.below bb
      try replace a3 := a3.below bb
      try replace a4 := a4.below bb
      try replace a5 := a5.below bb
      try replace a6 := a6.below bb
      try replace a7 := a7.below bb
      try replace a8 := a8.below bb
      try replace a9 := a9.below bb
      try replace a10 := a10.below bb
      try replace a11 := a11.below bb
      try replace a12 := a12.below bb
      try replace a13 := a13.below bb
      try replace a14 := a14.below bb
      try replace a15 := a15.below bb
      try replace a16 := a16.below bb
      try replace a17 := a17.below bb
      try replace a18 := a18.below bb
      try replace a19 := a19.below bb
      try replace a20 := a20.below bb
      replace bw := below_on bw bb bw.size
      clear bb
      go_wp2_with fail
      refine (awakef_any _).mono ?_
      rintro e wn ⟨rfl, bb⟩
      try replace a1 := a1.below bb
      try replace a2 := a2.below bb
      try replace a3 := a3.below bb
      try replace a4 := a4.below bb
      try replace a5 := a5.below bb
      try replace a6 := a6.below bb
      try replace a7 := a7.below bb
      try replace a8 := a8.below bb
      try replace a9 := a9.below bb
      try replace a10 := a10.below bb
      try replace a11 := a11.below bb
      try replace a12 := a12.below bb
      try replace a13 := a13.below bb
      try replace a14 := a14.below bb
      try replace a15 := a15.below bb
      try replace a16 := a16.below bb
      try replace a17 := a17.below bb
      try replace a18 := a18.below bb
      try replace a19 := a19.below bb
      try replace a20 := a20.below bb
      replace bw := below_on bw bb bw.size
      clear bb
      go_wp2_with fail
      go_ret
      exact ⟨rfl, bw⟩
  · have HV1 : Hid (¬ x1.v) := hv1
    clear hv1 hv
    go_enter Try.func7, Try.ntmps7
    go_upto_region 1 with fail
    have bw := Below.refl w.heap.size w
    have a1 := (fa_alloc ok1).1
    have bb := (fa_alloc ok1).2
    have sz1 := size_box w (.cells #[.bool x1.b, .slice x1.A x1.xs.length x1.c, .slice x1.D x1.ys.length x1.d] 25)
    clear ok1
    generalize (w.alloc (.cells #[.bool x1.b, .slice x1.A x1.xs.length x1.c, .slice x1.D x1.ys.length x1.d] 25)) = wA at a1 bb sz1 ⊢
    try replace ok1 := ok1.below bb
    try replace ok2 := ok2.below bb
    try replace ok3 := ok3.below bb
    try replace a1 := a1.below bb
    try replace a2 := a2.below bb
    try replace a3 := a3.below bb
    try replace a4 := a4.below bb
    try replace a5 := a5.below bb
    try replace a6 := a6.below bb
    try replace a7 := a7.below bb
    try replace a8 := a8.below bb
    try replace a9 := a9.below bb
    try replace a10 := a10.below bb
    try replace a11 := a11.below bb
    try replace a12 := a12.below bb
    try replace a13 := a13.below bb
    try replace a14 := a14.below bb
    try replace a15 := a15.below bb
    try replace a16 := a16.below bb
    try replace a17 := a17.below bb
    try replace a18 := a18.below bb
    try replace a19 := a19.below bb
    try replace a20 := a20.below bb
    replace bw := below_on bw bb bw.size
    clear bb
    have a2 := (fa_alloc ok2).1
    have bb := (fa_alloc ok2).2
    have sz2 := size_box wA (.cells #[.bool x2.b, .slice x2.A x2.xs.length x2.c, .slice x2.D x2.ys.length x2.d] 25)
    rw [sz1] at a2 sz2
    clear ok2 sz1
    generalize (wA.alloc (.cells #[.bool x2.b, .slice x2.A x2.xs.length x2.c, .slice x2.D x2.ys.length x2.d] 25)) = wB at a2 bb sz2 ⊢
    try replace ok1 := ok1.below bb
    try replace ok2 := ok2.below bb
    try replace ok3 := ok3.below bb
    try replace a1 := a1.below bb
    try replace a2 := a2.below bb
    try replace a3 := a3.below bb
    try replace a4 := a4.below bb
    try replace a5 := a5.below bb
    try replace a6 := a6.below bb
    try replace a7 := a7.below bb
    try replace a8 := a8.below bb
    try replace a9 := a9.below bb
    try replace a10 := a10.below bb
    try replace a11 := a11.below bb
    try replace a12 := a12.below bb
    try replace a13 := a13.below bb
    try replace a14 := a14.below bb
    try replace a15 := a15.below bb
    try replace a16 := a16.below bb
    try replace a17 := a17.below bb
    try replace a18 := a18.below bb
    try replace a19 := a19.below bb
    try replace a20 := a20.below bb
    replace bw := below_on bw bb bw.size
    clear bb
    have a3 := (fa_alloc ok3).1
    have bb := (fa_alloc ok3).2
    have sz3 := size_box wB (.cells #[.bool x3.b, .slice x3.A x3.xs.length x3.c, .slice x3.D x3.ys.length x3.d] 25)
    rw [sz2] at a3 sz3
    clear ok3 sz2
    generalize (wB.alloc (.cells #[.bool x3.b, .slice x3.A x3.xs.length x3.c, .slice x3.D x3.ys.length x3.d] 25)) = wm at a3 bb sz3 ⊢
    try replace ok1 := ok1.below bb
    try replace ok2 := ok2.below bb
    try replace ok3 := ok3.below bb
    try replace a1 := a1.below bb
    try replace a2 := a2.below bb
    try replace a3 := a3.below bb
    try replace a4 := a4.below bb
    try replace a5 := a5.below bb
    try replace a6 := a6.below bb
    try replace a7 := a7.below bb
    try replace a8 := a8.below bb
    try replace a9 := a9.below bb
    try replace a10 := a10.below bb
    try replace a11 := a11.below bb
    try replace a12 := a12.below bb
    try replace a13 := a13.below bb
    try replace a14 := a14.below bb
    try replace a15 := a15.below bb
    try replace a16 := a16.below bb
    try replace a17 := a17.below bb
    try replace a18 := a18.below bb
    try replace a19 := a19.below bb
    try replace a20 := a20.below bb
    replace bw := below_on bw bb bw.size
    clear bb
    clear sz3
    have ci0 := a1.c0
    have ci1 := a1.c1
    have ci2 := a1.c2
    have cj0 := a2.c0
    have cj1 := a2.c1
    have cj2 := a2.c2
    have ck0 := a3.c0
    have ck1 := a3.c1
    have ck2 := a3.c2
    go_wp2_with fail
    clear ci0 ci1 ci2 cj0 cj1 cj2
    clear ck0 ck1 ck2
    have hr := rdf3 wm x1 x2 x3
    have bb := (Below.refl wm.heap.size wm).alloc (Nat.le_refl _) (.cells #[.bool x1.b, .slice x1.A x1.xs.length x1.c, .slice x1.D x1.ys.length x1.d, .bool x2.b, .slice x2.A x2.xs.length x2.c, .slice x2.D x2.ys.length x2.d, .bool x3.b, .slice x3.A x3.xs.length x3.c, .slice x3.D x3.ys.length x3.d] 25)
    generalize (wm.alloc (.cells #[.bool x1.b, .slice x1.A x1.xs.length x1.c, .slice x1.D x1.ys.length x1.d, .bool x2.b, .slice x2.A x2.xs.length x2.c, .slice x2.D x2.ys.length x2.d, .bool x3.b, .slice x3.A x3.xs.length x3.c, .slice x3.D x3.ys.length x3.d] 25)) = wn at hr bb ⊢
    try replace a1 := a1.below bb
    try replace a2 := a2.below bb
    try replace a3 := a3.below bb
    try replace a4 := a4.below bb
    try replace a5 := a5.below bb
    try replace a6 := a6.below bb
    try replace a7 := a7.below bb
    try replace a8 := a8.below bb
    try replace a9 := a9.below bb
    try replace a10 := a10.below bb
    try replace a11 := a11.below bb
    try replace a12 := a12.below bb
    try replace a13 := a13.below bb
    try replace a14 := a14.below bb
    try replace a15 := a15.below bb
    try replace a16 := a16.below bb
    try replace a17 := a17.below bb
    try replace a18 := a18.below bb
    try replace a19 := a19.below bb
    try replace a20 := a20.below bb
    replace bw := below_on bw bb bw.size
    clear bb
    refine (flong_any wn _ _ _ _ false hr rfl (by simp) (by intro v hv; simp only [List.mem_cons, List.not_mem_nil, or_false] at hv; rcases hv with rfl | rfl | rfl <;> exact HL.out _ (by simp)) H.out).mono ?_
    rintro e wl ⟨rfl, rfl⟩
    clear hr
    have ci0 := a1.c0
    have ci1 := a1.c1
    have ci2 := a1.c2
    go_wp2_with fail
    clear ci0 ci1 ci2
    refine (rfvalid_any _ x1 false a1.ok l1 m1 (decide_eq_false HV1.out)).mono ?_
    rintro e wn ⟨rfl, bb⟩
    try replace a1 := a1.below bb
    try replace a2 := a2.below bb
    try replace a3 := a3.below bb
    try replace a4 := a4.below bb
    try replace a5 := a5.below bb
    try replace a6 := a6.below bb
    try replace a7 := a7.below bb
    try replace a8 := a8.below bb
    try replace a9 := a9.below bb
    try replace a10 := a10.below bb
    try replace a11 := a11.below bb
    try replace a12 := a12.below bb
    try replace a13 := a13.below bb
    try replace a14 := a14.below bb
    try replace a15 := a15.below bb
    try replace a16 := a16.below bb
    try replace a17 := a17.below bb
    try replace a18 := a18.below bb
    try replace a19 := a19.below bb
    try replace a20 := a20.below bb
    replace bw := below_on bw bb bw.size
    clear bb
    go_wp2_with fail
    refine (awakef_any _).mono ?_
    rintro e wn ⟨rfl, bb⟩
    try replace a1 := a1.below bb
    try replace a2 := a2.below bb
    try replace a3 := a3.below bb
    try replace a4 := a4.below bb
    try replace a5 := a5.below bb
    try replace a6 := a6.below bb
    try replace a7 := a7.below bb
    try replace a8 := a8.below bb
    try replace a9 := a9.below bb
    try replace a10 := a10.below bb
    try replace a11 := a11.below bb
    try replace a12 := a12.below bb
    try replace a13 := a13.below bb
    try replace a14 := a14.below bb
    try replace a15 := a15.below bb
    try replace a16 := a16.below bb
    try replace a17 := a17.below bb
    try replace a18 := a18.below bb
    try replace a19 := a19.below bb
    try replace a20 := a20.below bb
    replace bw := below_on bw bb bw.size
    clear bb
    go_wp2_with fail
    go_ret
    exact ⟨rfl, bw⟩
set_option maxRecDepth 100000 in
set_option maxHeartbeats 4000000 in
theorem order_main (w : World) (x1 x2 x3 : Fx) (ok1 : x1.ok w) (ok2 : x2.ok w) (ok3 : x3.ok w) (hL : lensB [x1, x2, x3]) (h : longB [x1, x2, x3] = false) (l1 : x1.xs.length ≤ 10000) (m1 : x1.ys.length ≤ 10000) (l2 : x2.xs.length ≤ 10000) (m2 : x2.ys.length ≤ 10000) (l3 : x3.xs.length ≤ 10000) (m3 : x3.ys.length ≤ 10000) (hv : x1.v ∧ x2.v ∧ x3.v)
    (z1 : Sz x1.q 24 24) (z2 : Sz x2.q 24 24) (z3 : Sz x3.q 24 24) :
    Calls Try.prog 7 #[x1.val, x2.val, x3.val] w fun e w' => e = .returned (.bool true) ∧ Below w.heap.size w w' := by
  have HL := Lib.hid hL
  have H := Lib.hid h
  have HV1 := Lib.hid hv.1
  have HV2 := Lib.hid hv.2.1
  have HV3 := Lib.hid hv.2.2
  have ZA := Lib.hid ((z1.add z3).mono (n' := 128) (d' := 128) (by omega) (by omega))
  have ZB := Lib.hid ((z2.add z3).mono (n' := 128) (d' := 128) (by omega) (by omega))
  have ZC := Lib.hid ((z1.mul z3).mono (n' := 128) (d' := 128) (by omega) (by omega))
  have ZD := Lib.hid ((z2.mul z3).mono (n' := 128) (d' := 128) (by omega) (by omega))
  obtain ⟨T1, T2, T3, T4, T5⟩ := cmpQ_three x1.q x2.q x3.q
  obtain ⟨ca, hca⟩ : ∃ ca, cmpQ x1.q x2.q = ca := ⟨_, rfl⟩
  obtain ⟨cb, hcb⟩ : ∃ cb, cmpQ x2.q x3.q = cb := ⟨_, rfl⟩
  obtain ⟨cc, hcc⟩ : ∃ cc, cmpQ x1.q x3.q = cc := ⟨_, rfl⟩
  obtain ⟨cs, hcs⟩ : ∃ cs, cmpQ x3.q 0 = cs := ⟨_, rfl⟩
  rw [hca] at T1 T4 T5
  rw [hcb] at T2 T4 T5
  rw [hcc] at T3 T4 T5
  have HA := Lib.hid hca
  have HB := Lib.hid hcb
  have HC := Lib.hid hcc
  have HCS := Lib.hid hcs
  have hD : cmpQ x2.q x1.q = -ca := by rw [cmpQ_swap, HA.out]
  have HD := Lib.hid hD
  have hs3 : cs = -1 ∨ cs = 0 ∨ cs = 1 := by rcases cmpQ_cases x3.q 0 with ⟨_, e⟩ | ⟨_, e⟩ | ⟨_, e⟩ <;> omega
  have HM : ∀ z, cmpQ x1.q x2.q = z → cmpQ (x1.q * x3.q) (x2.q * x3.q) = IntKind.i64.wrap (z * cs) := by
    intro z hz
    have hz2 := hca.symm.trans hz
    rw [cmpQ_mul, hz, HCS.out]
    rcases T1 with e | e | e <;> rcases hs3 with e' | e' | e' <;> rw [← hz2, e, e'] <;> decide
  have hw : IntKind.i64.wrap (-ca) = -ca := IntWalk.i64_in _ (by omega)
  clear hL h hv z1 z2 z3 hca hcb hcc hcs hD hs3
  go_enter Try.func7, Try.ntmps7
  go_upto_region 1 with fail
  have bw := Below.refl w.heap.size w
  have a1 := (fa_alloc ok1).1
  have bb := (fa_alloc ok1).2
  have sz1 := size_box w (.cells #[.bool x1.b, .slice x1.A x1.xs.length x1.c, .slice x1.D x1.ys.length x1.d] 25)
  clear ok1
  generalize (w.alloc (.cells #[.bool x1.b, .slice x1.A x1.xs.length x1.c, .slice x1.D x1.ys.length x1.d] 25)) = wA at a1 bb sz1 ⊢
  try replace ok1 := ok1.below bb
  try replace ok2 := ok2.below bb
  try replace ok3 := ok3.below bb
  try replace a1 := a1.below bb
  try replace a2 := a2.below bb
  try replace a3 := a3.below bb
  try replace a4 := a4.below bb
  try replace a5 := a5.below bb
  try replace a6 := a6.below bb
  try replace a7 := a7.below bb
  try replace a8 := a8.below bb
  try replace a9 := a9.below bb
  try replace a10 := a10.below bb
  try replace a11 := a11.below bb
  try replace a12 := a12.below bb
  try replace a13 := a13.below bb
  try replace a14 := a14.below bb
  try replace a15 := a15.below bb
  try replace a16 := a16.below bb
  try replace a17 := a17.below bb
  try replace a18 := a18.below bb
  try replace a19 := a19.below bb
  try replace a20 := a20.below bb
  replace bw := below_on bw bb bw.size
  clear bb
  have a2 := (fa_alloc ok2).1
  have bb := (fa_alloc ok2).2
  have sz2 := size_box wA (.cells #[.bool x2.b, .slice x2.A x2.xs.length x2.c, .slice x2.D x2.ys.length x2.d] 25)
  rw [sz1] at a2 sz2
  clear ok2 sz1
  generalize (wA.alloc (.cells #[.bool x2.b, .slice x2.A x2.xs.length x2.c, .slice x2.D x2.ys.length x2.d] 25)) = wB at a2 bb sz2 ⊢
  try replace ok1 := ok1.below bb
  try replace ok2 := ok2.below bb
  try replace ok3 := ok3.below bb
  try replace a1 := a1.below bb
  try replace a2 := a2.below bb
  try replace a3 := a3.below bb
  try replace a4 := a4.below bb
  try replace a5 := a5.below bb
  try replace a6 := a6.below bb
  try replace a7 := a7.below bb
  try replace a8 := a8.below bb
  try replace a9 := a9.below bb
  try replace a10 := a10.below bb
  try replace a11 := a11.below bb
  try replace a12 := a12.below bb
  try replace a13 := a13.below bb
  try replace a14 := a14.below bb
  try replace a15 := a15.below bb
  try replace a16 := a16.below bb
  try replace a17 := a17.below bb
  try replace a18 := a18.below bb
  try replace a19 := a19.below bb
  try replace a20 := a20.below bb
  replace bw := below_on bw bb bw.size
  clear bb
  have a3 := (fa_alloc ok3).1
  have bb := (fa_alloc ok3).2
  have sz3 := size_box wB (.cells #[.bool x3.b, .slice x3.A x3.xs.length x3.c, .slice x3.D x3.ys.length x3.d] 25)
  rw [sz2] at a3 sz3
  clear ok3 sz2
  generalize (wB.alloc (.cells #[.bool x3.b, .slice x3.A x3.xs.length x3.c, .slice x3.D x3.ys.length x3.d] 25)) = wm at a3 bb sz3 ⊢
  try replace ok1 := ok1.below bb
  try replace ok2 := ok2.below bb
  try replace ok3 := ok3.below bb
  try replace a1 := a1.below bb
  try replace a2 := a2.below bb
  try replace a3 := a3.below bb
  try replace a4 := a4.below bb
  try replace a5 := a5.below bb
  try replace a6 := a6.below bb
  try replace a7 := a7.below bb
  try replace a8 := a8.below bb
  try replace a9 := a9.below bb
  try replace a10 := a10.below bb
  try replace a11 := a11.below bb
  try replace a12 := a12.below bb
  try replace a13 := a13.below bb
  try replace a14 := a14.below bb
  try replace a15 := a15.below bb
  try replace a16 := a16.below bb
  try replace a17 := a17.below bb
  try replace a18 := a18.below bb
  try replace a19 := a19.below bb
  try replace a20 := a20.below bb
  replace bw := below_on bw bb bw.size
  clear bb
  clear sz3
  have ci0 := a1.c0
  have ci1 := a1.c1
  have ci2 := a1.c2
  have cj0 := a2.c0
  have cj1 := a2.c1
  have cj2 := a2.c2
  have ck0 := a3.c0
  have ck1 := a3.c1
  have ck2 := a3.c2
  go_wp2_with fail
  clear ci0 ci1 ci2 cj0 cj1 cj2
  clear ck0 ck1 ck2
  have hr := rdf3 wm x1 x2 x3
  have bb := (Below.refl wm.heap.size wm).alloc (Nat.le_refl _) (.cells #[.bool x1.b, .slice x1.A x1.xs.length x1.c, .slice x1.D x1.ys.length x1.d, .bool x2.b, .slice x2.A x2.xs.length x2.c, .slice x2.D x2.ys.length x2.d, .bool x3.b, .slice x3.A x3.xs.length x3.c, .slice x3.D x3.ys.length x3.d] 25)
  generalize (wm.alloc (.cells #[.bool x1.b, .slice x1.A x1.xs.length x1.c, .slice x1.D x1.ys.length x1.d, .bool x2.b, .slice x2.A x2.xs.length x2.c, .slice x2.D x2.ys.length x2.d, .bool x3.b, .slice x3.A x3.xs.length x3.c, .slice x3.D x3.ys.length x3.d] 25)) = wn at hr bb ⊢
  try replace a1 := a1.below bb
  try replace a2 := a2.below bb
  try replace a3 := a3.below bb
  try replace a4 := a4.below bb
  try replace a5 := a5.below bb
  try replace a6 := a6.below bb
  try replace a7 := a7.below bb
  try replace a8 := a8.below bb
  try replace a9 := a9.below bb
  try replace a10 := a10.below bb
  try replace a11 := a11.below bb
  try replace a12 := a12.below bb
  try replace a13 := a13.below bb
  try replace a14 := a14.below bb
  try replace a15 := a15.below bb
  try replace a16 := a16.below bb
  try replace a17 := a17.below bb
  try replace a18 := a18.below bb
  try replace a19 := a19.below bb
  try replace a20 := a20.below bb
  replace bw := below_on bw bb bw.size
  clear bb
  refine (flong_any wn _ _ _ _ false hr rfl (by simp) (by intro v hv; simp only [List.mem_cons, List.not_mem_nil, or_false] at hv; rcases hv with rfl | rfl | rfl <;> exact HL.out _ (by simp)) H.out).mono ?_
  rintro e wl ⟨rfl, rfl⟩
  clear hr
  have ci0 := a1.c0
  have ci1 := a1.c1
  have ci2 := a1.c2
  go_wp2_with fail
  clear ci0 ci1 ci2
  refine (rfvalid_any _ x1 true a1.ok l1 m1 (decide_eq_true HV1.out)).mono ?_
  rintro e wn ⟨rfl, bb⟩
  try replace a1 := a1.below bb
  try replace a2 := a2.below bb
  try replace a3 := a3.below bb
  try replace a4 := a4.below bb
  try replace a5 := a5.below bb
  try replace a6 := a6.below bb
  try replace a7 := a7.below bb
  try replace a8 := a8.below bb
  try replace a9 := a9.below bb
  try replace a10 := a10.below bb
  try replace a11 := a11.below bb
  try replace a12 := a12.below bb
  try replace a13 := a13.below bb
  try replace a14 := a14.below bb
  try replace a15 := a15.below bb
  try replace a16 := a16.below bb
  try replace a17 := a17.below bb
  try replace a18 := a18.below bb
  try replace a19 := a19.below bb
  try replace a20 := a20.below bb
  replace bw := below_on bw bb bw.size
  clear bb
  have ci0 := a2.c0
  have ci1 := a2.c1
  have ci2 := a2.c2
  go_wp2_with fail
  clear ci0 ci1 ci2
  refine (rfvalid_any _ x2 true a2.ok l2 m2 (decide_eq_true HV2.out)).mono ?_
  rintro e wn ⟨rfl, bb⟩
  try replace a1 := a1.below bb
  try replace a2 := a2.below bb
  try replace a3 := a3.below bb
  try replace a4 := a4.below bb
  try replace a5 := a5.below bb
  try replace a6 := a6.below bb
  try replace a7 := a7.below bb
  try replace a8 := a8.below bb
  try replace a9 := a9.below bb
  try replace a10 := a10.below bb
  try replace a11 := a11.below bb
  try replace a12 := a12.below bb
  try replace a13 := a13.below bb
  try replace a14 := a14.below bb
  try replace a15 := a15.below bb
  try replace a16 := a16.below bb
  try replace a17 := a17.below bb
  try replace a18 := a18.below bb
  try replace a19 := a19.below bb
  try replace a20 := a20.below bb
  replace bw := below_on bw bb bw.size
  clear bb
  have ci0 := a3.c0
  have ci1 := a3.c1
  have ci2 := a3.c2
  go_wp2_with fail
  clear ci0 ci1 ci2
  refine (rfvalid_any _ x3 true a3.ok l3 m3 (decide_eq_true HV3.out)).mono ?_
  rintro e wn ⟨rfl, bb⟩
  try replace a1 := a1.below bb
  try replace a2 := a2.below bb
  try replace a3 := a3.below bb
  try replace a4 := a4.below bb
  try replace a5 := a5.below bb
  try replace a6 := a6.below bb
  try replace a7 := a7.below bb
  try replace a8 := a8.below bb
  try replace a9 := a9.below bb
  try replace a10 := a10.below bb
  try replace a11 := a11.below bb
  try replace a12 := a12.below bb
  try replace a13 := a13.below bb
  try replace a14 := a14.below bb
  try replace a15 := a15.below bb
  try replace a16 := a16.below bb
  try replace a17 := a17.below bb
  try replace a18 := a18.below bb
  try replace a19 := a19.below bb
  try replace a20 := a20.below bb
  replace bw := below_on bw bb bw.size
  clear bb
  have ci0 := a1.c0
  have ci1 := a1.c1
  have ci2 := a1.c2
  have cj0 := a2.c0
  have cj1 := a2.c1
  have cj2 := a2.c2
  go_wp2_with fail
  clear ci0 ci1 ci2 cj0 cj1 cj2
  refine (fcmp_any _ x1 x2 ((ca, (0 : Int))) a1.ok a2.ok l1 m1 l2 m2 (cmpF_ok HV1.out HV2.out rfl rfl HA.out)).mono ?_
  rintro e wn ⟨rfl, bb⟩
  try replace a1 := a1.below bb
  try replace a2 := a2.below bb
  try replace a3 := a3.below bb
  try replace a4 := a4.below bb
  try replace a5 := a5.below bb
  try replace a6 := a6.below bb
  try replace a7 := a7.below bb
  try replace a8 := a8.below bb
  try replace a9 := a9.below bb
  try replace a10 := a10.below bb
  try replace a11 := a11.below bb
  try replace a12 := a12.below bb
  try replace a13 := a13.below bb
  try replace a14 := a14.below bb
  try replace a15 := a15.below bb
  try replace a16 := a16.below bb
  try replace a17 := a17.below bb
  try replace a18 := a18.below bb
  try replace a19 := a19.below bb
  try replace a20 := a20.below bb
  replace bw := below_on bw bb bw.size
  clear bb
  go_upto_region 4 with fail
  have ci0 := a2.c0
  have ci1 := a2.c1
  have ci2 := a2.c2
  have cj0 := a3.c0
  have cj1 := a3.c1
  have cj2 := a3.c2
  go_wp2_with fail
  clear ci0 ci1 ci2 cj0 cj1 cj2
  refine (fcmp_any _ x2 x3 ((cb, (0 : Int))) a2.ok a3.ok l2 m2 l3 m3 (cmpF_ok HV2.out HV3.out rfl rfl HB.out)).mono ?_
  rintro e wn ⟨rfl, bb⟩
  try replace a1 := a1.below bb
  try replace a2 := a2.below bb
  try replace a3 := a3.below bb
  try replace a4 := a4.below bb
  try replace a5 := a5.below bb
  try replace a6 := a6.below bb
  try replace a7 := a7.below bb
  try replace a8 := a8.below bb
  try replace a9 := a9.below bb
  try replace a10 := a10.below bb
  try replace a11 := a11.below bb
  try replace a12 := a12.below bb
  try replace a13 := a13.below bb
  try replace a14 := a14.below bb
  try replace a15 := a15.below bb
  try replace a16 := a16.below bb
  try replace a17 := a17.below bb
  try replace a18 := a18.below bb
  try replace a19 := a19.below bb
  try replace a20 := a20.below bb
  replace bw := below_on bw bb bw.size
  clear bb
  go_upto_region 5 with fail
  have ci0 := a1.c0
  have ci1 := a1.c1
  have ci2 := a1.c2
  have cj0 := a3.c0
  have cj1 := a3.c1
  have cj2 := a3.c2
  go_wp2_with fail
  clear ci0 ci1 ci2 cj0 cj1 cj2
  refine (fcmp_any _ x1 x3 ((cc, (0 : Int))) a1.ok a3.ok l1 m1 l3 m3 (cmpF_ok HV1.out HV3.out rfl rfl HC.out)).mono ?_
  rintro e wn ⟨rfl, bb⟩
  try replace a1 := a1.below bb
  try replace a2 := a2.below bb
  try replace a3 := a3.below bb
  try replace a4 := a4.below bb
  try replace a5 := a5.below bb
  try replace a6 := a6.below bb
  try replace a7 := a7.below bb
  try replace a8 := a8.below bb
  try replace a9 := a9.below bb
  try replace a10 := a10.below bb
  try replace a11 := a11.below bb
  try replace a12 := a12.below bb
  try replace a13 := a13.below bb
  try replace a14 := a14.below bb
  try replace a15 := a15.below bb
  try replace a16 := a16.below bb
  try replace a17 := a17.below bb
  try replace a18 := a18.below bb
  try replace a19 := a19.below bb
  try replace a20 := a20.below bb
  replace bw := below_on bw bb bw.size
  clear bb
  go_upto_region 6 with fail
  have ci0 := a2.c0
  have ci1 := a2.c1
  have ci2 := a2.c2
  have cj0 := a1.c0
  have cj1 := a1.c1
  have cj2 := a1.c2
  go_wp2_with fail
  clear ci0 ci1 ci2 cj0 cj1 cj2
  refine (fcmp_any _ x2 x1 ((-ca, (0 : Int))) a2.ok a1.ok l2 m2 l1 m1 (cmpF_ok HV2.out HV1.out rfl rfl HD.out)).mono ?_
  rintro e wn ⟨rfl, bb⟩
  try replace a1 := a1.below bb
  try replace a2 := a2.below bb
  try replace a3 := a3.below bb
  try replace a4 := a4.below bb
  try replace a5 := a5.below bb
  try replace a6 := a6.below bb
  try replace a7 := a7.below bb
  try replace a8 := a8.below bb
  try replace a9 := a9.below bb
  try replace a10 := a10.below bb
  try replace a11 := a11.below bb
  try replace a12 := a12.below bb
  try replace a13 := a13.below bb
  try replace a14 := a14.below bb
  try replace a15 := a15.below bb
  try replace a16 := a16.below bb
  try replace a17 := a17.below bb
  try replace a18 := a18.below bb
  try replace a19 := a19.below bb
  try replace a20 := a20.below bb
  replace bw := below_on bw bb bw.size
  clear bb
  go_upto_region 7 with fail
  rcases T1 with e | e | e <;> rcases T2 with e' | e' | e' <;> rcases T3 with e'' | e'' | e'' <;> first | (exfalso; omega) | (
    subst e e' e''
    clear T4 T5
    go_upto_region 9 with fail
    have ci0 := a1.c0
    have ci1 := a1.c1
    have ci2 := a1.c2
    have cj0 := a3.c0
    have cj1 := a3.c1
    have cj2 := a3.c2
    go_wp2_with fail
    clear ci0 ci1 ci2 cj0 cj1 cj2
    refine (fadd_any _ x1 x3 (okS (x1.q + x3.q)) a1.ok a3.ok l1 m1 l3 m3 (addF_ok HV1.out HV3.out rfl rfl ZA.out)).mono ?_
    rintro e wn ⟨x4, rfl, hs4, ok4, bb⟩
    have HS4 := Lib.hid hs4
    clear hs4
    try replace a1 := a1.below bb
    try replace a2 := a2.below bb
    try replace a3 := a3.below bb
    try replace a4 := a4.below bb
    try replace a5 := a5.below bb
    try replace a6 := a6.below bb
    try replace a7 := a7.below bb
    try replace a8 := a8.below bb
    try replace a9 := a9.below bb
    try replace a10 := a10.below bb
    try replace a11 := a11.below bb
    try replace a12 := a12.below bb
    try replace a13 := a13.below bb
    try replace a14 := a14.below bb
    try replace a15 := a15.below bb
    try replace a16 := a16.below bb
    try replace a17 := a17.below bb
    try replace a18 := a18.below bb
    try replace a19 := a19.below bb
    try replace a20 := a20.below bb
    replace bw := below_on bw bb bw.size
    clear bb
    go_upto_region 10 with fail
    have a4 := (fa_alloc ok4).1
    have bb := (fa_alloc ok4).2
    clear ok4
    generalize (wn.alloc (.cells #[.bool x4.b, .slice x4.A x4.xs.length x4.c, .slice x4.D x4.ys.length x4.d] 25)) = wm at a4 bb ⊢
    try replace a1 := a1.below bb
    try replace a2 := a2.below bb
    try replace a3 := a3.below bb
    try replace a4 := a4.below bb
    try replace a5 := a5.below bb
    try replace a6 := a6.below bb
    try replace a7 := a7.below bb
    try replace a8 := a8.below bb
    try replace a9 := a9.below bb
    try replace a10 := a10.below bb
    try replace a11 := a11.below bb
    try replace a12 := a12.below bb
    try replace a13 := a13.below bb
    try replace a14 := a14.below bb
    try replace a15 := a15.below bb
    try replace a16 := a16.below bb
    try replace a17 := a17.below bb
    try replace a18 := a18.below bb
    try replace a19 := a19.below bb
    try replace a20 := a20.below bb
    replace bw := below_on bw bb bw.size
    clear bb
    generalize wn.heap.size = g4 at a4 ⊢
    have ci0 := a2.c0
    have ci1 := a2.c1
    have ci2 := a2.c2
    have cj0 := a3.c0
    have cj1 := a3.c1
    have cj2 := a3.c2
    go_wp2_with fail
    clear ci0 ci1 ci2 cj0 cj1 cj2
    refine (fadd_any _ x2 x3 (okS (x2.q + x3.q)) a2.ok a3.ok l2 m2 l3 m3 (addF_ok HV2.out HV3.out rfl rfl ZB.out)).mono ?_
    rintro e wn ⟨x5, rfl, hs5, ok5, bb⟩
    have HS5 := Lib.hid hs5
    clear hs5
    try replace a1 := a1.below bb
    try replace a2 := a2.below bb
    try replace a3 := a3.below bb
    try replace a4 := a4.below bb
    try replace a5 := a5.below bb
    try replace a6 := a6.below bb
    try replace a7 := a7.below bb
    try replace a8 := a8.below bb
    try replace a9 := a9.below bb
    try replace a10 := a10.below bb
    try replace a11 := a11.below bb
    try replace a12 := a12.below bb
    try replace a13 := a13.below bb
    try replace a14 := a14.below bb
    try replace a15 := a15.below bb
    try replace a16 := a16.below bb
    try replace a17 := a17.below bb
    try replace a18 := a18.below bb
    try replace a19 := a19.below bb
    try replace a20 := a20.below bb
    replace bw := below_on bw bb bw.size
    clear bb
    go_upto_region 11 with fail
    have a5 := (fa_alloc ok5).1
    have bb := (fa_alloc ok5).2
    clear ok5
    generalize (wn.alloc (.cells #[.bool x5.b, .slice x5.A x5.xs.length x5.c, .slice x5.D x5.ys.length x5.d] 25)) = wm at a5 bb ⊢
    try replace a1 := a1.below bb
    try replace a2 := a2.below bb
    try replace a3 := a3.below bb
    try replace a4 := a4.below bb
    try replace a5 := a5.below bb
    try replace a6 := a6.below bb
    try replace a7 := a7.below bb
    try replace a8 := a8.below bb
    try replace a9 := a9.below bb
    try replace a10 := a10.below bb
    try replace a11 := a11.below bb
    try replace a12 := a12.below bb
    try replace a13 := a13.below bb
    try replace a14 := a14.below bb
    try replace a15 := a15.below bb
    try replace a16 := a16.below bb
    try replace a17 := a17.below bb
    try replace a18 := a18.below bb
    try replace a19 := a19.below bb
    try replace a20 := a20.below bb
    replace bw := below_on bw bb bw.size
    clear bb
    generalize wn.heap.size = g5 at a5 ⊢
    have R4 := Rp.of HS4.out
    have l4 := R4.l1 ZA.out
    have m4 := R4.l2 ZA.out
    have R5 := Rp.of HS5.out
    have l5 := R5.l1 ZB.out
    have m5 := R5.l2 ZB.out
    have ci0 := a4.c0
    have ci1 := a4.c1
    have ci2 := a4.c2
    have cj0 := a5.c0
    have cj1 := a5.c1
    have cj2 := a5.c2
    go_wp2_with fail
    clear ci0 ci1 ci2 cj0 cj1 cj2
    refine (fcmp_any _ x4 x5 ((_, (0 : Int))) a4.ok a5.ok l4 m4 l5 m5 (cmpF_ok (R4.v ZA.out) (R5.v ZB.out) R4.q R5.q ((cmpQ_add _ _ _).trans HA.out))).mono ?_
    rintro e wn ⟨rfl, bb⟩
    try replace a1 := a1.below bb
    try replace a2 := a2.below bb
    try replace a3 := a3.below bb
    try replace a4 := a4.below bb
    try replace a5 := a5.below bb
    try replace a6 := a6.below bb
    try replace a7 := a7.below bb
    try replace a8 := a8.below bb
    try replace a9 := a9.below bb
    try replace a10 := a10.below bb
    try replace a11 := a11.below bb
    try replace a12 := a12.below bb
    try replace a13 := a13.below bb
    try replace a14 := a14.below bb
    try replace a15 := a15.below bb
    try replace a16 := a16.below bb
    try replace a17 := a17.below bb
    try replace a18 := a18.below bb
    try replace a19 := a19.below bb
    try replace a20 := a20.below bb
    replace bw := below_on bw bb bw.size
    clear bb
    go_upto_region 12 with fail
    have ci0 := a1.c0
    have ci1 := a1.c1
    have ci2 := a1.c2
    have cj0 := a3.c0
    have cj1 := a3.c1
    have cj2 := a3.c2
    go_wp2_with fail
    clear ci0 ci1 ci2 cj0 cj1 cj2
    refine (fmul_any _ x1 x3 (okS (x1.q * x3.q)) a1.ok a3.ok l1 m1 l3 m3 (mulF_ok HV1.out HV3.out rfl rfl ZC.out)).mono ?_
    rintro e wn ⟨x6, rfl, hs6, ok6, bb⟩
    have HS6 := Lib.hid hs6
    clear hs6
    try replace a1 := a1.below bb
    try replace a2 := a2.below bb
    try replace a3 := a3.below bb
    try replace a4 := a4.below bb
    try replace a5 := a5.below bb
    try replace a6 := a6.below bb
    try replace a7 := a7.below bb
    try replace a8 := a8.below bb
    try replace a9 := a9.below bb
    try replace a10 := a10.below bb
    try replace a11 := a11.below bb
    try replace a12 := a12.below bb
    try replace a13 := a13.below bb
    try replace a14 := a14.below bb
    try replace a15 := a15.below bb
    try replace a16 := a16.below bb
    try replace a17 := a17.below bb
    try replace a18 := a18.below bb
    try replace a19 := a19.below bb
    try replace a20 := a20.below bb
    replace bw := below_on bw bb bw.size
    clear bb
    go_upto_region 13 with fail
    have a6 := (fa_alloc ok6).1
    have bb := (fa_alloc ok6).2
    clear ok6
    generalize (wn.alloc (.cells #[.bool x6.b, .slice x6.A x6.xs.length x6.c, .slice x6.D x6.ys.length x6.d] 25)) = wm at a6 bb ⊢
    try replace a1 := a1.below bb
    try replace a2 := a2.below bb
    try replace a3 := a3.below bb
    try replace a4 := a4.below bb
    try replace a5 := a5.below bb
    try replace a6 := a6.below bb
    try replace a7 := a7.below bb
    try replace a8 := a8.below bb
    try replace a9 := a9.below bb
    try replace a10 := a10.below bb
    try replace a11 := a11.below bb
    try replace a12 := a12.below bb
    try replace a13 := a13.below bb
    try replace a14 := a14.below bb
    try replace a15 := a15.below bb
    try replace a16 := a16.below bb
    try replace a17 := a17.below bb
    try replace a18 := a18.below bb
    try replace a19 := a19.below bb
    try replace a20 := a20.below bb
    replace bw := below_on bw bb bw.size
    clear bb
    generalize wn.heap.size = g6 at a6 ⊢
    have ci0 := a2.c0
    have ci1 := a2.c1
    have ci2 := a2.c2
    have cj0 := a3.c0
    have cj1 := a3.c1
    have cj2 := a3.c2
    go_wp2_with fail
    clear ci0 ci1 ci2 cj0 cj1 cj2
    refine (fmul_any _ x2 x3 (okS (x2.q * x3.q)) a2.ok a3.ok l2 m2 l3 m3 (mulF_ok HV2.out HV3.out rfl rfl ZD.out)).mono ?_
    rintro e wn ⟨x7, rfl, hs7, ok7, bb⟩
    have HS7 := Lib.hid hs7
    clear hs7
    try replace a1 := a1.below bb
    try replace a2 := a2.below bb
    try replace a3 := a3.below bb
    try replace a4 := a4.below bb
    try replace a5 := a5.below bb
    try replace a6 := a6.below bb
    try replace a7 := a7.below bb
    try replace a8 := a8.below bb
    try replace a9 := a9.below bb
    try replace a10 := a10.below bb
    try replace a11 := a11.below bb
    try replace a12 := a12.below bb
    try replace a13 := a13.below bb
    try replace a14 := a14.below bb
    try replace a15 := a15.below bb
    try replace a16 := a16.below bb
    try replace a17 := a17.below bb
    try replace a18 := a18.below bb
    try replace a19 := a19.below bb
    try replace a20 := a20.below bb
    replace bw := below_on bw bb bw.size
    clear bb
    go_upto_region 14 with fail
    have a7 := (fa_alloc ok7).1
    have bb := (fa_alloc ok7).2
    clear ok7
    generalize (wn.alloc (.cells #[.bool x7.b, .slice x7.A x7.xs.length x7.c, .slice x7.D x7.ys.length x7.d] 25)) = wm at a7 bb ⊢
    try replace a1 := a1.below bb
    try replace a2 := a2.below bb
    try replace a3 := a3.below bb
    try replace a4 := a4.below bb
    try replace a5 := a5.below bb
    try replace a6 := a6.below bb
    try replace a7 := a7.below bb
    try replace a8 := a8.below bb
    try replace a9 := a9.below bb
    try replace a10 := a10.below bb
    try replace a11 := a11.below bb
    try replace a12 := a12.below bb
    try replace a13 := a13.below bb
    try replace a14 := a14.below bb
    try replace a15 := a15.below bb
    try replace a16 := a16.below bb
    try replace a17 := a17.below bb
    try replace a18 := a18.below bb
    try replace a19 := a19.below bb
    try replace a20 := a20.below bb
    replace bw := below_on bw bb bw.size
    clear bb
    generalize wn.heap.size = g7 at a7 ⊢
    have R6 := Rp.of HS6.out
    have l6 := R6.l1 ZC.out
    have m6 := R6.l2 ZC.out
    have R7 := Rp.of HS7.out
    have l7 := R7.l1 ZD.out
    have m7 := R7.l2 ZD.out
    have ci0 := a6.c0
    have ci1 := a6.c1
    have ci2 := a6.c2
    have cj0 := a7.c0
    have cj1 := a7.c1
    have cj2 := a7.c2
    go_wp2_with fail
    clear ci0 ci1 ci2 cj0 cj1 cj2
    refine (fcmp_any _ x6 x7 ((_, (0 : Int))) a6.ok a7.ok l6 m6 l7 m7 (cmpF_ok (R6.v ZC.out) (R7.v ZD.out) R6.q R7.q (HM _ HA.out))).mono ?_
    rintro e wn ⟨rfl, bb⟩
    try replace a1 := a1.below bb
    try replace a2 := a2.below bb
    try replace a3 := a3.below bb
    try replace a4 := a4.below bb
    try replace a5 := a5.below bb
    try replace a6 := a6.below bb
    try replace a7 := a7.below bb
    try replace a8 := a8.below bb
    try replace a9 := a9.below bb
    try replace a10 := a10.below bb
    try replace a11 := a11.below bb
    try replace a12 := a12.below bb
    try replace a13 := a13.below bb
    try replace a14 := a14.below bb
    try replace a15 := a15.below bb
    try replace a16 := a16.below bb
    try replace a17 := a17.below bb
    try replace a18 := a18.below bb
    try replace a19 := a19.below bb
    try replace a20 := a20.below bb
    replace bw := below_on bw bb bw.size
    clear bb
    go_upto_region 15 with fail
    have ci0 := a3.c0
    have ci1 := a3.c1
    have ci2 := a3.c2
    go_wp2_with fail
    clear ci0 ci1 ci2
    refine (rfsign_any _ x3 cs a3.ok HV3.out l3 m3 HCS.out).mono ?_
    rintro e wn ⟨rfl, bb⟩
    try replace a1 := a1.below bb
    try replace a2 := a2.below bb
    try replace a3 := a3.below bb
    try replace a4 := a4.below bb
    try replace a5 := a5.below bb
    try replace a6 := a6.below bb
    try replace a7 := a7.below bb
    try replace a8 := a8.below bb
    try replace a9 := a9.below bb
    try replace a10 := a10.below bb
    try replace a11 := a11.below bb
    try replace a12 := a12.below bb
    try replace a13 := a13.below bb
    try replace a14 := a14.below bb
    try replace a15 := a15.below bb
    try replace a16 := a16.below bb
    try replace a17 := a17.below bb
    try replace a18 := a18.below bb
    try replace a19 := a19.below bb
    try replace a20 := a20.below bb
    replace bw := below_on bw bb bw.size
    clear bb
    go_wp2_with fail
    refine (awakef_any _).mono ?_
    rintro e wn ⟨rfl, bb⟩
    try replace a1 := a1.below bb
    try replace a2 := a2.below bb
    try replace a3 := a3.below bb
    try replace a4 := a4.below bb
    try replace a5 := a5.below bb
    try replace a6 := a6.below bb
    try replace a7 := a7.below bb
    try replace a8 := a8.below bb
    try replace a9 := a9.below bb
    try replace a10 := a10.below bb
    try replace a11 := a11.below bb
    try replace a12 := a12.below bb
    try replace a13 := a13.below bb
    try replace a14 := a14.below bb
    try replace a15 := a15.below bb
    try replace a16 := a16.below bb
    try replace a17 := a17.below bb
    try replace a18 := a18.below bb
    try replace a19 := a19.below bb
    try replace a20 := a20.below bb
    replace bw := below_on bw bb bw.size
    clear bb
    go_wp2_with fail
    go_ret
    exact ⟨rfl, bw⟩
    skip)
theorem order_walk (w : World) (x1 x2 x3 : Fx) (ok1 : x1.ok w) (ok2 : x2.ok w) (ok3 : x3.ok w) :
    Calls Try.prog 7 #[x1.val, x2.val, x3.val] w fun e w' => e = .returned (.bool true) ∧ Below w.heap.size w w' := by
  have hL : lensB [x1, x2, x3] := by
    intro v hv
    simp only [List.mem_cons, List.not_mem_nil, or_false] at hv
    rcases hv with rfl | rfl | rfl
    · exact lens_ok ok1
    · exact lens_ok ok2
    · exact lens_ok ok3
  cases h : longB [x1, x2, x3]
  · have h1 := longB_no h x1 (by simp)
    have h2 := longB_no h x2 (by simp)
    have h3 := longB_no h x3 (by simp)
    by_cases hv : x1.v ∧ x2.v ∧ x3.v
    · exact order_main w x1 x2 x3 ok1 ok2 ok3 hL h (by omega) (by omega) (by omega) (by omega) (by omega) (by omega) hv (Sz.of_v hv.1 h1.1 h1.2 ok1.num.u ok1.den.u) (Sz.of_v hv.2.1 h2.1 h2.2 ok2.num.u ok2.den.u) (Sz.of_v hv.2.2 h3.1 h3.2 ok3.num.u ok3.den.u)
    · exact order_bad w x1 x2 x3 ok1 ok2 ok3 hL h (by omega) (by omega) (by omega) (by omega) (by omega) (by omega) hv
  · exact order_long w x1 x2 x3 ok1 ok2 ok3 hL h
end Go.Proofs.Ytodopppoikdglaa
