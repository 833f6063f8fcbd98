/- The walk of FractionExact. -/
import Derived.Test.YtodopppoikdglaaLwD
import Derived.Test.YtodopppoikdglaaRfE
namespace Go.Proofs.Ytodopppoikdglaa
open Go.RowKit

set_option maxRecDepth 100000 in
set_option maxHeartbeats 1600000 in
theorem exact_long (w : World) (x1 x2 : Fx) (ok1 : x1.ok w) (ok2 : x2.ok w) (hL : lensB [x1, x2]) (h : longB [x1, x2] = true) :
    Calls Try.prog 9 #[x1.val, x2.val] w fun e w' => e = .returned (.bool true) ∧ Below w.heap.size w w' := by
  have HL := Lib.hid hL
  have H := Lib.hid h
  clear hL h
  go_enter Try.func9, Try.ntmps9
  go_upto_region 1 with fail
  have bw := Below.refl w.heap.size w
  have a1 := (fa_alloc ok1).1
  have bb := (fa_alloc ok1).2
  have sz1 := size_box w (.cells #[.bool x1.b, .slice x1.A x1.xs.length x1.c, .slice x1.D x1.ys.length x1.d] 25)
  clear ok1
  generalize (w.alloc (.cells #[.bool x1.b, .slice x1.A x1.xs.length x1.c, .slice x1.D x1.ys.length x1.d] 25)) = wA at a1 bb sz1 ⊢
  try replace ok1 := ok1.below bb
  try replace ok2 := ok2.below bb
  try replace ok3 := ok3.below bb
  try replace a1 := a1.below bb
  try replace a2 := a2.below bb
  try replace a3 := a3.below bb
  try replace a4 := a4.below bb
  try replace a5 := a5.below bb
  try replace a6 := a6.below bb
  try replace a7 := a7.below bb
  try replace a8 := a8.below bb
  try replace a9 := a9.below bb
  try replace a10 := a10.below bb
  try replace a11 := a11.below bb
  try replace a12 := a12.below bb
  try replace a13 := a13.below bb
  try replace a14 := a14.below bb
  try replace a15 := a15.below bb
  try replace a16 := a16.below bb
  try replace a17 := a17.below bb
  try replace a18 := a18.below bb
  try replace a19 := a19.below bb
  try replace a20 := a20.below bb
  replace bw := below_on bw bb bw.size
  clear bb
  have a2 := (fa_alloc ok2).1
  have bb := (fa_alloc ok2).2
  have sz2 := size_box wA (.cells #[.bool x2.b, .slice x2.A x2.xs.length x2.c, .slice x2.D x2.ys.length x2.d] 25)
  rw [sz1] at a2 sz2
  clear ok2 sz1
  generalize (wA.alloc (.cells #[.bool x2.b, .slice x2.A x2.xs.length x2.c, .slice x2.D x2.ys.length x2.d] 25)) = wm at a2 bb sz2 ⊢
  try replace ok1 := ok1.below bb
  try replace ok2 := ok2.below bb
  try replace ok3 := ok3.below bb
  try replace a1 := a1.below bb
  try replace a2 := a2.below bb
  try replace a3 := a3.below bb
  try replace a4 := a4.below bb
  try replace a5 := a5.below bb
  try replace a6 := a6.below bb
  try replace a7 := a7.below bb
  try replace a8 := a8.below bb
  try replace a9 := a9.below bb
  try replace a10 := a10.below bb
  try replace a11 := a11.below bb
  try replace a12 := a12.below bb
  try replace a13 := a13.below bb
  try replace a14 := a14.below bb
  try replace a15 := a15.below bb
  try replace a16 := a16.below bb
  try replace a17 := a17.below bb
  try replace a18 := a18.below bb
  try replace a19 := a19.below bb
  try replace a20 := a20.below bb
  replace bw := below_on bw bb bw.size
  clear bb
  clear sz2
  have ci0 := a1.c0
  have ci1 := a1.c1
  have ci2 := a1.c2
  have cj0 := a2.c0
  have cj1 := a2.c1
  have cj2 := a2.c2
  go_wp2_with fail
  clear ci0 ci1 ci2 cj0 cj1 cj2
  have hr := rdf2 wm x1 x2
  have bb := (Below.refl wm.heap.size wm).alloc (Nat.le_refl _) (.cells #[.bool x1.b, .slice x1.A x1.xs.length x1.c, .slice x1.D x1.ys.length x1.d, .bool x2.b, .slice x2.A x2.xs.length x2.c, .slice x2.D x2.ys.length x2.d] 25)
  generalize (wm.alloc (.cells #[.bool x1.b, .slice x1.A x1.xs.length x1.c, .slice x1.D x1.ys.length x1.d, .bool x2.b, .slice x2.A x2.xs.length x2.c, .slice x2.D x2.ys.length x2.d] 25)) = wn at hr bb ⊢
  try replace a1 := a1.below bb
  try replace a2 := a2.below bb
  try replace a3 := a3.below bb
  try replace a4 := a4.below bb
  try replace a5 := a5.below bb
  try replace a6 := a6.below bb
  try replace a7 := a7.below bb
  try replace a8 := a8.below bb
  try replace a9 := a9.below bb
  try replace a10 := a10.below bb
  try replace a11 := a11.below bb
  try replace a12 := a12.below bb
  try replace a13 := a13.below bb
  try replace a14 := a14.below bb
  try replace a15 := a15.below bb
  try replace a16 := a16.below bb
  try replace a17 := a17.below bb
  try replace a18 := a18.below bb
  try replace a19 := a19.below bb
  try replace a20 := a20.below bb
  replace bw := below_on bw bb bw.size
  clear bb
  refine (flong_any wn _ _ _ _ true hr rfl (by simp) (by intro v hv; simp only [List.mem_cons, List.not_mem_nil, or_false] at hv; rcases hv with rfl | rfl <;> exact HL.out _ (by simp)) H.out).mono ?_
  rintro e wl ⟨rfl, rfl⟩
  clear hr
  go_wp2_with fail
  refine (awakef_any _).mono ?_
  rintro e wn ⟨rfl, bb⟩
  try replace a1 := a1.below bb
  try replace a2 := a2.below bb
  try replace a3 := a3.below bb
  try replace a4 := a4.below bb
  try replace a5 := a5.below bb
  try replace a6 := a6.below bb
  try replace a7 := a7.below bb
  try replace a8 := a8.below bb
  try replace a9 := a9.below bb
  try replace a10 := a10.below bb
  try replace a11 := a11.below bb
  try replace a12 := a12.below bb
  try replace a13 := a13.below bb
  try replace a14 := a14.below bb
  try replace a15 := a15.below bb
  try replace a16 := a16.below bb
  try replace a17 := a17.below bb
  try replace a18 := a18.below bb
  try replace a19 := a19.below bb
  try replace a20 := a20.below bb
  replace bw := below_on bw bb bw.size
  clear bb
  go_wp2_with fail
  go_ret
  exact ⟨rfl, bw⟩
set_option maxRecDepth 100000 in
set_option maxHeartbeats 4000000 in
theorem exact_short (w : World) (x1 x2 : Fx) (ok1 : x1.ok w) (ok2 : x2.ok w) (hL : lensB [x1, x2]) (h : longB [x1, x2] = false) (l1 : x1.xs.length ≤ 10000) (m1 : x1.ys.length ≤ 10000) (l2 : x2.xs.length ≤ 10000) (m2 : x2.ys.length ≤ 10000) :
    Calls Try.prog 9 #[x1.val, x2.val] w fun e w' => e = .returned (.bool true) ∧ Below w.heap.size w w' := by
  have HL := Lib.hid hL
  have H := Lib.hid h
  clear hL h
  obtain ⟨SA, hSA⟩ : ∃ S, addF x1 x2 = S := ⟨_, rfl⟩
  obtain ⟨SB, hSB⟩ : ∃ S, subF x1 x2 = S := ⟨_, rfl⟩
  obtain ⟨SC, hSC⟩ : ∃ S, mulF x1 x2 = S := ⟨_, rfl⟩
  obtain ⟨SD, hSD⟩ : ∃ S, quoF x1 x2 = S := ⟨_, rfl⟩
  obtain ⟨SE, hSE⟩ : ∃ S, cmpF x1 x2 = S := ⟨_, rfl⟩
  obtain ⟨SF, hSF⟩ : ∃ S, redS x1 = S := ⟨_, rfl⟩
  have HA := Lib.hid hSA
  have HB := Lib.hid hSB
  have HC := Lib.hid hSC
  have HD := Lib.hid hSD
  have HE := Lib.hid hSE
  have HF := Lib.hid hSF
  clear hSA hSB hSC hSD hSE hSF
  go_enter Try.func9, Try.ntmps9
  go_upto_region 1 with fail
  have bw := Below.refl w.heap.size w
  have a1 := (fa_alloc ok1).1
  have bb := (fa_alloc ok1).2
  have sz1 := size_box w (.cells #[.bool x1.b, .slice x1.A x1.xs.length x1.c, .slice x1.D x1.ys.length x1.d] 25)
  clear ok1
  generalize (w.alloc (.cells #[.bool x1.b, .slice x1.A x1.xs.length x1.c, .slice x1.D x1.ys.length x1.d] 25)) = wA at a1 bb sz1 ⊢
  try replace ok1 := ok1.below bb
  try replace ok2 := ok2.below bb
  try replace ok3 := ok3.below bb
  try replace a1 := a1.below bb
  try replace a2 := a2.below bb
  try replace a3 := a3.below bb
  try replace a4 := a4.below bb
  try replace a5 := a5.below bb
  try replace a6 := a6.below bb
  try replace a7 := a7.below bb
  try replace a8 := a8.below bb
  try replace a9 := a9.below bb
  try replace a10 := a10.below bb
  try replace a11 := a11.below bb
  try replace a12 := a12.below bb
  try replace a13 := a13.below bb
  try replace a14 := a14.below bb
  try replace a15 := a15.below bb
  try replace a16 := a16.below bb
  try replace a17 := a17.below bb
  try replace a18 := a18.below bb
  try replace a19 := a19.below bb
  try replace a20 := a20.below bb
  replace bw := below_on bw bb bw.size
  clear bb
  have a2 := (fa_alloc ok2).1
  have bb := (fa_alloc ok2).2
  have sz2 := size_box wA (.cells #[.bool x2.b, .slice x2.A x2.xs.length x2.c, .slice x2.D x2.ys.length x2.d] 25)
  rw [sz1] at a2 sz2
  clear ok2 sz1
  generalize (wA.alloc (.cells #[.bool x2.b, .slice x2.A x2.xs.length x2.c, .slice x2.D x2.ys.length x2.d] 25)) = wm at a2 bb sz2 ⊢
  try replace ok1 := ok1.below bb
  try replace ok2 := ok2.below bb
  try replace ok3 := ok3.below bb
  try replace a1 := a1.below bb
  try replace a2 := a2.below bb
  try replace a3 := a3.below bb
  try replace a4 := a4.below bb
  try replace a5 := a5.below bb
  try replace a6 := a6.below bb
  try replace a7 := a7.below bb
  try replace a8 := a8.below bb
  try replace a9 := a9.below bb
  try replace a10 := a10.below bb
  try replace a11 := a11.below bb
  try replace a12 := a12.below bb
  try replace a13 := a13.below bb
  try replace a14 := a14.below bb
  try replace a15 := a15.below bb
  try replace a16 := a16.below bb
  try replace a17 := a17.below bb
  try replace a18 := a18.below bb
  try replace a19 := a19.below bb
  try replace a20 := a20.below bb
  replace bw := below_on bw bb bw.size
  clear bb
  clear sz2
  have ci0 := a1.c0
  have ci1 := a1.c1
  have ci2 := a1.c2
  have cj0 := a2.c0
  have cj1 := a2.c1
  have cj2 := a2.c2
  go_wp2_with fail
  clear ci0 ci1 ci2 cj0 cj1 cj2
  have hr := rdf2 wm x1 x2
  have bb := (Below.refl wm.heap.size wm).alloc (Nat.le_refl _) (.cells #[.bool x1.b, .slice x1.A x1.xs.length x1.c, .slice x1.D x1.ys.length x1.d, .bool x2.b, .slice x2.A x2.xs.length x2.c, .slice x2.D x2.ys.length x2.d] 25)
  generalize (wm.alloc (.cells #[.bool x1.b, .slice x1.A x1.xs.length x1.c, .slice x1.D x1.ys.length x1.d, .bool x2.b, .slice x2.A x2.xs.length x2.c, .slice x2.D x2.ys.length x2.d] 25)) = wn at hr bb ⊢
  try replace a1 := a1.below bb
  try replace a2 := a2.below bb
  try replace a3 := a3.below bb
  try replace a4 := a4.below bb
  try replace a5 := a5.below bb
  try replace a6 := a6.below bb
  try replace a7 := a7.below bb
  try replace a8 := a8.below bb
  try replace a9 := a9.below bb
  try replace a10 := a10.below bb
  try replace a11 := a11.below bb
  try replace a12 := a12.below bb
  try replace a13 := a13.below bb
  try replace a14 := a14.below bb
  try replace a15 := a15.below bb
  try replace a16 := a16.below bb
  try replace a17 := a17.below bb
  try replace a18 := a18.below bb
  try replace a19 := a19.below bb
  try replace a20 := a20.below bb
  replace bw := below_on bw bb bw.size
  clear bb
  refine (flong_any wn _ _ _ _ false hr rfl (by simp) (by intro v hv; simp only [List.mem_cons, List.not_mem_nil, or_false] at hv; rcases hv with rfl | rfl <;> exact HL.out _ (by simp)) H.out).mono ?_
  rintro e wl ⟨rfl, rfl⟩
  clear hr
  go_upto_region 3 with fail
  have ci0 := a1.c0
  have ci1 := a1.c1
  have ci2 := a1.c2
  have cj0 := a2.c0
  have cj1 := a2.c1
  have cj2 := a2.c2
  go_wp2_with fail
  clear ci0 ci1 ci2 cj0 cj1 cj2
  refine (fadd_any _ x1 x2 (SA) a1.ok a2.ok l1 m1 l2 m2 HA.out).mono ?_
  rintro e wn ⟨x3, rfl, hs3, ok3, bb⟩
  have HS3 := Lib.hid hs3
  clear hs3
  try replace a1 := a1.below bb
  try replace a2 := a2.below bb
  try replace a3 := a3.below bb
  try replace a4 := a4.below bb
  try replace a5 := a5.below bb
  try replace a6 := a6.below bb
  try replace a7 := a7.below bb
  try replace a8 := a8.below bb
  try replace a9 := a9.below bb
  try replace a10 := a10.below bb
  try replace a11 := a11.below bb
  try replace a12 := a12.below bb
  try replace a13 := a13.below bb
  try replace a14 := a14.below bb
  try replace a15 := a15.below bb
  try replace a16 := a16.below bb
  try replace a17 := a17.below bb
  try replace a18 := a18.below bb
  try replace a19 := a19.below bb
  try replace a20 := a20.below bb
  replace bw := below_on bw bb bw.size
  clear bb
  go_upto_region 4 with fail
  have a3 := (fa_alloc ok3).1
  have bb := (fa_alloc ok3).2
  have o3 := a2.lt
  clear ok3
  generalize (wn.alloc (.cells #[.bool x3.b, .slice x3.A x3.xs.length x3.c, .slice x3.D x3.ys.length x3.d] 25)) = wm at a3 bb ⊢
  try replace a1 := a1.below bb
  try replace a2 := a2.below bb
  try replace a3 := a3.below bb
  try replace a4 := a4.below bb
  try replace a5 := a5.below bb
  try replace a6 := a6.below bb
  try replace a7 := a7.below bb
  try replace a8 := a8.below bb
  try replace a9 := a9.below bb
  try replace a10 := a10.below bb
  try replace a11 := a11.below bb
  try replace a12 := a12.below bb
  try replace a13 := a13.below bb
  try replace a14 := a14.below bb
  try replace a15 := a15.below bb
  try replace a16 := a16.below bb
  try replace a17 := a17.below bb
  try replace a18 := a18.below bb
  try replace a19 := a19.below bb
  try replace a20 := a20.below bb
  replace bw := below_on bw bb bw.size
  clear bb
  generalize wn.heap.size = g3 at a3 o3 ⊢
  have ci0 := a1.c0
  have ci1 := a1.c1
  have ci2 := a1.c2
  have cj0 := a2.c0
  have cj1 := a2.c1
  have cj2 := a2.c2
  go_wp2_with fail
  clear ci0 ci1 ci2 cj0 cj1 cj2
  refine (rfadd_any _ x1 x2 (SA) a1.ok a2.ok l1 m1 l2 m2 HA.out).mono ?_
  rintro e wn ⟨x4, rfl, hs4, ok4, bb⟩
  have HS4 := Lib.hid hs4
  clear hs4
  try replace a1 := a1.below bb
  try replace a2 := a2.below bb
  try replace a3 := a3.below bb
  try replace a4 := a4.below bb
  try replace a5 := a5.below bb
  try replace a6 := a6.below bb
  try replace a7 := a7.below bb
  try replace a8 := a8.below bb
  try replace a9 := a9.below bb
  try replace a10 := a10.below bb
  try replace a11 := a11.below bb
  try replace a12 := a12.below bb
  try replace a13 := a13.below bb
  try replace a14 := a14.below bb
  try replace a15 := a15.below bb
  try replace a16 := a16.below bb
  try replace a17 := a17.below bb
  try replace a18 := a18.below bb
  try replace a19 := a19.below bb
  try replace a20 := a20.below bb
  replace bw := below_on bw bb bw.size
  clear bb
  go_upto_region 5 with fail
  have a4 := (fa_alloc ok4).1
  have bb := (fa_alloc ok4).2
  have o4 := a3.lt
  clear ok4
  generalize (wn.alloc (.cells #[.bool x4.b, .slice x4.A x4.xs.length x4.c, .slice x4.D x4.ys.length x4.d] 25)) = wm at a4 bb ⊢
  try replace a1 := a1.below bb
  try replace a2 := a2.below bb
  try replace a3 := a3.below bb
  try replace a4 := a4.below bb
  try replace a5 := a5.below bb
  try replace a6 := a6.below bb
  try replace a7 := a7.below bb
  try replace a8 := a8.below bb
  try replace a9 := a9.below bb
  try replace a10 := a10.below bb
  try replace a11 := a11.below bb
  try replace a12 := a12.below bb
  try replace a13 := a13.below bb
  try replace a14 := a14.below bb
  try replace a15 := a15.below bb
  try replace a16 := a16.below bb
  try replace a17 := a17.below bb
  try replace a18 := a18.below bb
  try replace a19 := a19.below bb
  try replace a20 := a20.below bb
  replace bw := below_on bw bb bw.size
  clear bb
  generalize wn.heap.size = g4 at a4 o4 ⊢
  have ci0 := a1.c0
  have ci1 := a1.c1
  have ci2 := a1.c2
  have cj0 := a2.c0
  have cj1 := a2.c1
  have cj2 := a2.c2
  go_wp2_with fail
  clear ci0 ci1 ci2 cj0 cj1 cj2
  refine (fsub_any _ x1 x2 (SB) a1.ok a2.ok l1 m1 l2 m2 HB.out).mono ?_
  rintro e wn ⟨x5, rfl, hs5, ok5, bb⟩
  have HS5 := Lib.hid hs5
  clear hs5
  try replace a1 := a1.below bb
  try replace a2 := a2.below bb
  try replace a3 := a3.below bb
  try replace a4 := a4.below bb
  try replace a5 := a5.below bb
  try replace a6 := a6.below bb
  try replace a7 := a7.below bb
  try replace a8 := a8.below bb
  try replace a9 := a9.below bb
  try replace a10 := a10.below bb
  try replace a11 := a11.below bb
  try replace a12 := a12.below bb
  try replace a13 := a13.below bb
  try replace a14 := a14.below bb
  try replace a15 := a15.below bb
  try replace a16 := a16.below bb
  try replace a17 := a17.below bb
  try replace a18 := a18.below bb
  try replace a19 := a19.below bb
  try replace a20 := a20.below bb
  replace bw := below_on bw bb bw.size
  clear bb
  go_upto_region 6 with fail
  have a5 := (fa_alloc ok5).1
  have bb := (fa_alloc ok5).2
  have o5 := a4.lt
  clear ok5
  generalize (wn.alloc (.cells #[.bool x5.b, .slice x5.A x5.xs.length x5.c, .slice x5.D x5.ys.length x5.d] 25)) = wm at a5 bb ⊢
  try replace a1 := a1.below bb
  try replace a2 := a2.below bb
  try replace a3 := a3.below bb
  try replace a4 := a4.below bb
  try replace a5 := a5.below bb
  try replace a6 := a6.below bb
  try replace a7 := a7.below bb
  try replace a8 := a8.below bb
  try replace a9 := a9.below bb
  try replace a10 := a10.below bb
  try replace a11 := a11.below bb
  try replace a12 := a12.below bb
  try replace a13 := a13.below bb
  try replace a14 := a14.below bb
  try replace a15 := a15.below bb
  try replace a16 := a16.below bb
  try replace a17 := a17.below bb
  try replace a18 := a18.below bb
  try replace a19 := a19.below bb
  try replace a20 := a20.below bb
  replace bw := below_on bw bb bw.size
  clear bb
  generalize wn.heap.size = g5 at a5 o5 ⊢
  have ci0 := a1.c0
  have ci1 := a1.c1
  have ci2 := a1.c2
  have cj0 := a2.c0
  have cj1 := a2.c1
  have cj2 := a2.c2
  go_wp2_with fail
  clear ci0 ci1 ci2 cj0 cj1 cj2
  refine (rfsub_any _ x1 x2 (SB) a1.ok a2.ok l1 m1 l2 m2 HB.out).mono ?_
  rintro e wn ⟨x6, rfl, hs6, ok6, bb⟩
  have HS6 := Lib.hid hs6
  clear hs6
  try replace a1 := a1.below bb
  try replace a2 := a2.below bb
  try replace a3 := a3.below bb
  try replace a4 := a4.below bb
  try replace a5 := a5.below bb
  try replace a6 := a6.below bb
  try replace a7 := a7.below bb
  try replace a8 := a8.below bb
  try replace a9 := a9.below bb
  try replace a10 := a10.below bb
  try replace a11 := a11.below bb
  try replace a12 := a12.below bb
  try replace a13 := a13.below bb
  try replace a14 := a14.below bb
  try replace a15 := a15.below bb
  try replace a16 := a16.below bb
  try replace a17 := a17.below bb
  try replace a18 := a18.below bb
  try replace a19 := a19.below bb
  try replace a20 := a20.below bb
  replace bw := below_on bw bb bw.size
  clear bb
  go_upto_region 7 with fail
  have a6 := (fa_alloc ok6).1
  have bb := (fa_alloc ok6).2
  have o6 := a5.lt
  clear ok6
  generalize (wn.alloc (.cells #[.bool x6.b, .slice x6.A x6.xs.length x6.c, .slice x6.D x6.ys.length x6.d] 25)) = wm at a6 bb ⊢
  try replace a1 := a1.below bb
  try replace a2 := a2.below bb
  try replace a3 := a3.below bb
  try replace a4 := a4.below bb
  try replace a5 := a5.below bb
  try replace a6 := a6.below bb
  try replace a7 := a7.below bb
  try replace a8 := a8.below bb
  try replace a9 := a9.below bb
  try replace a10 := a10.below bb
  try replace a11 := a11.below bb
  try replace a12 := a12.below bb
  try replace a13 := a13.below bb
  try replace a14 := a14.below bb
  try replace a15 := a15.below bb
  try replace a16 := a16.below bb
  try replace a17 := a17.below bb
  try replace a18 := a18.below bb
  try replace a19 := a19.below bb
  try replace a20 := a20.below bb
  replace bw := below_on bw bb bw.size
  clear bb
  generalize wn.heap.size = g6 at a6 o6 ⊢
  have ci0 := a3.c0
  have ci1 := a3.c1
  have ci2 := a3.c2
  have cj0 := a4.c0
  have cj1 := a4.c1
  have cj2 := a4.c2
  go_wp2_with fail
  clear ci0 ci1 ci2 cj0 cj1 cj2
  refine (samef_any _ x3 x4 true a3.ok a4.ok (sm HS3.out HS4.out)).mono ?_
  rintro e wn ⟨rfl, bb⟩
  try replace a1 := a1.below bb
  try replace a2 := a2.below bb
  try replace a3 := a3.below bb
  try replace a4 := a4.below bb
  try replace a5 := a5.below bb
  try replace a6 := a6.below bb
  try replace a7 := a7.below bb
  try replace a8 := a8.below bb
  try replace a9 := a9.below bb
  try replace a10 := a10.below bb
  try replace a11 := a11.below bb
  try replace a12 := a12.below bb
  try replace a13 := a13.below bb
  try replace a14 := a14.below bb
  try replace a15 := a15.below bb
  try replace a16 := a16.below bb
  try replace a17 := a17.below bb
  try replace a18 := a18.below bb
  try replace a19 := a19.below bb
  try replace a20 := a20.below bb
  replace bw := below_on bw bb bw.size
  clear bb
  have ci0 := a5.c0
  have ci1 := a5.c1
  have ci2 := a5.c2
  have cj0 := a6.c0
  have cj1 := a6.c1
  have cj2 := a6.c2
  go_wp2_with fail
  clear ci0 ci1 ci2 cj0 cj1 cj2
  refine (samef_any _ x5 x6 true a5.ok a6.ok (sm HS5.out HS6.out)).mono ?_
  rintro e wn ⟨rfl, bb⟩
  try replace a1 := a1.below bb
  try replace a2 := a2.below bb
  try replace a3 := a3.below bb
  try replace a4 := a4.below bb
  try replace a5 := a5.below bb
  try replace a6 := a6.below bb
  try replace a7 := a7.below bb
  try replace a8 := a8.below bb
  try replace a9 := a9.below bb
  try replace a10 := a10.below bb
  try replace a11 := a11.below bb
  try replace a12 := a12.below bb
  try replace a13 := a13.below bb
  try replace a14 := a14.below bb
  try replace a15 := a15.below bb
  try replace a16 := a16.below bb
  try replace a17 := a17.below bb
  try replace a18 := a18.below bb
  try replace a19 := a19.below bb
  try replace a20 := a20.below bb
  replace bw := below_on bw bb bw.size
  clear bb
  go_upto_region 9 with fail
  have ci0 := a1.c0
  have ci1 := a1.c1
  have ci2 := a1.c2
  have cj0 := a2.c0
  have cj1 := a2.c1
  have cj2 := a2.c2
  go_wp2_with fail
  clear ci0 ci1 ci2 cj0 cj1 cj2
  refine (fmul_any _ x1 x2 (SC) a1.ok a2.ok l1 m1 l2 m2 HC.out).mono ?_
  rintro e wn ⟨x7, rfl, hs7, ok7, bb⟩
  have HS7 := Lib.hid hs7
  clear hs7
  try replace a1 := a1.below bb
  try replace a2 := a2.below bb
  try replace a3 := a3.below bb
  try replace a4 := a4.below bb
  try replace a5 := a5.below bb
  try replace a6 := a6.below bb
  try replace a7 := a7.below bb
  try replace a8 := a8.below bb
  try replace a9 := a9.below bb
  try replace a10 := a10.below bb
  try replace a11 := a11.below bb
  try replace a12 := a12.below bb
  try replace a13 := a13.below bb
  try replace a14 := a14.below bb
  try replace a15 := a15.below bb
  try replace a16 := a16.below bb
  try replace a17 := a17.below bb
  try replace a18 := a18.below bb
  try replace a19 := a19.below bb
  try replace a20 := a20.below bb
  replace bw := below_on bw bb bw.size
  clear bb
  have tk := a3.bk
  obtain ⟨k0, k1, k2, kf0, kf1, kf2, klt, kb⟩ := tk
  clear kb
  go_upto_region 10 with fail
  clear k0 k1 k2 kf0 kf1 kf2 klt
  try have b1 := a1.far a3 (a := .bool x7.b) (b := .slice x7.A x7.xs.length x7.c) (c := .slice x7.D x7.ys.length x7.d) (by omega)
  try have b2 := a2.far a3 (a := .bool x7.b) (b := .slice x7.A x7.xs.length x7.c) (c := .slice x7.D x7.ys.length x7.d) (by omega)
  try have b3 := a3.far a3 (a := .bool x7.b) (b := .slice x7.A x7.xs.length x7.c) (c := .slice x7.D x7.ys.length x7.d) (by omega)
  try have b4 := a4.far a3 (a := .bool x7.b) (b := .slice x7.A x7.xs.length x7.c) (c := .slice x7.D x7.ys.length x7.d) (by omega)
  try have b5 := a5.far a3 (a := .bool x7.b) (b := .slice x7.A x7.xs.length x7.c) (c := .slice x7.D x7.ys.length x7.d) (by omega)
  try have b6 := a6.far a3 (a := .bool x7.b) (b := .slice x7.A x7.xs.length x7.c) (c := .slice x7.D x7.ys.length x7.d) (by omega)
  try have b7 := a7.far a3 (a := .bool x7.b) (b := .slice x7.A x7.xs.length x7.c) (c := .slice x7.D x7.ys.length x7.d) (by omega)
  try have b8 := a8.far a3 (a := .bool x7.b) (b := .slice x7.A x7.xs.length x7.c) (c := .slice x7.D x7.ys.length x7.d) (by omega)
  try have b9 := a9.far a3 (a := .bool x7.b) (b := .slice x7.A x7.xs.length x7.c) (c := .slice x7.D x7.ys.length x7.d) (by omega)
  try have b10 := a10.far a3 (a := .bool x7.b) (b := .slice x7.A x7.xs.length x7.c) (c := .slice x7.D x7.ys.length x7.d) (by omega)
  try have b11 := a11.far a3 (a := .bool x7.b) (b := .slice x7.A x7.xs.length x7.c) (c := .slice x7.D x7.ys.length x7.d) (by omega)
  try have b12 := a12.far a3 (a := .bool x7.b) (b := .slice x7.A x7.xs.length x7.c) (c := .slice x7.D x7.ys.length x7.d) (by omega)
  try have b13 := a13.far a3 (a := .bool x7.b) (b := .slice x7.A x7.xs.length x7.c) (c := .slice x7.D x7.ys.length x7.d) (by omega)
  try have b14 := a14.far a3 (a := .bool x7.b) (b := .slice x7.A x7.xs.length x7.c) (c := .slice x7.D x7.ys.length x7.d) (by omega)
  have b7 := a3.put ok7
  have bz := set3g (G := g3) (a := .bool x7.b) (b := .slice x7.A x7.xs.length x7.c) (c := .slice x7.D x7.ys.length x7.d) bw (by omega)
  clear a3 bw ok7
  generalize (((wn.setCell ⟨g3, 0, none⟩ (.bool x7.b)).setCell ⟨g3, 1, none⟩ (.slice x7.A x7.xs.length x7.c)).setCell ⟨g3, 2, none⟩ (.slice x7.D x7.ys.length x7.d)) = wm at *
  try replace a1 := b1
  try clear b1
  try replace a2 := b2
  try clear b2
  try replace a3 := b3
  try clear b3
  try replace a4 := b4
  try clear b4
  try replace a5 := b5
  try clear b5
  try replace a6 := b6
  try clear b6
  try replace a7 := b7
  try clear b7
  try replace a8 := b8
  try clear b8
  try replace a9 := b9
  try clear b9
  try replace a10 := b10
  try clear b10
  try replace a11 := b11
  try clear b11
  try replace a12 := b12
  try clear b12
  try replace a13 := b13
  try clear b13
  try replace a14 := b14
  try clear b14
  try have a7 := b7
  try clear b7
  have bw := bz
  clear bz
  have ci0 := a1.c0
  have ci1 := a1.c1
  have ci2 := a1.c2
  have cj0 := a2.c0
  have cj1 := a2.c1
  have cj2 := a2.c2
  go_wp2_with fail
  clear ci0 ci1 ci2 cj0 cj1 cj2
  refine (rfmul_any _ x1 x2 (SC) a1.ok a2.ok l1 m1 l2 m2 HC.out).mono ?_
  rintro e wn ⟨x8, rfl, hs8, ok8, bb⟩
  have HS8 := Lib.hid hs8
  clear hs8
  try replace a1 := a1.below bb
  try replace a2 := a2.below bb
  try replace a3 := a3.below bb
  try replace a4 := a4.below bb
  try replace a5 := a5.below bb
  try replace a6 := a6.below bb
  try replace a7 := a7.below bb
  try replace a8 := a8.below bb
  try replace a9 := a9.below bb
  try replace a10 := a10.below bb
  try replace a11 := a11.below bb
  try replace a12 := a12.below bb
  try replace a13 := a13.below bb
  try replace a14 := a14.below bb
  try replace a15 := a15.below bb
  try replace a16 := a16.below bb
  try replace a17 := a17.below bb
  try replace a18 := a18.below bb
  try replace a19 := a19.below bb
  try replace a20 := a20.below bb
  replace bw := below_on bw bb bw.size
  clear bb
  have tk := a4.bk
  obtain ⟨k0, k1, k2, kf0, kf1, kf2, klt, kb⟩ := tk
  clear kb
  go_upto_region 11 with fail
  clear k0 k1 k2 kf0 kf1 kf2 klt
  try have b1 := a1.far a4 (a := .bool x8.b) (b := .slice x8.A x8.xs.length x8.c) (c := .slice x8.D x8.ys.length x8.d) (by omega)
  try have b2 := a2.far a4 (a := .bool x8.b) (b := .slice x8.A x8.xs.length x8.c) (c := .slice x8.D x8.ys.length x8.d) (by omega)
  try have b3 := a3.far a4 (a := .bool x8.b) (b := .slice x8.A x8.xs.length x8.c) (c := .slice x8.D x8.ys.length x8.d) (by omega)
  try have b4 := a4.far a4 (a := .bool x8.b) (b := .slice x8.A x8.xs.length x8.c) (c := .slice x8.D x8.ys.length x8.d) (by omega)
  try have b5 := a5.far a4 (a := .bool x8.b) (b := .slice x8.A x8.xs.length x8.c) (c := .slice x8.D x8.ys.length x8.d) (by omega)
  try have b6 := a6.far a4 (a := .bool x8.b) (b := .slice x8.A x8.xs.length x8.c) (c := .slice x8.D x8.ys.length x8.d) (by omega)
  try have b7 := a7.far a4 (a := .bool x8.b) (b := .slice x8.A x8.xs.length x8.c) (c := .slice x8.D x8.ys.length x8.d) (by omega)
  try have b8 := a8.far a4 (a := .bool x8.b) (b := .slice x8.A x8.xs.length x8.c) (c := .slice x8.D x8.ys.length x8.d) (by omega)
  try have b9 := a9.far a4 (a := .bool x8.b) (b := .slice x8.A x8.xs.length x8.c) (c := .slice x8.D x8.ys.length x8.d) (by omega)
  try have b10 := a10.far a4 (a := .bool x8.b) (b := .slice x8.A x8.xs.length x8.c) (c := .slice x8.D x8.ys.length x8.d) (by omega)
  try have b11 := a11.far a4 (a := .bool x8.b) (b := .slice x8.A x8.xs.length x8.c) (c := .slice x8.D x8.ys.length x8.d) (by omega)
  try have b12 := a12.far a4 (a := .bool x8.b) (b := .slice x8.A x8.xs.length x8.c) (c := .slice x8.D x8.ys.length x8.d) (by omega)
  try have b13 := a13.far a4 (a := .bool x8.b) (b := .slice x8.A x8.xs.length x8.c) (c := .slice x8.D x8.ys.length x8.d) (by omega)
  try have b14 := a14.far a4 (a := .bool x8.b) (b := .slice x8.A x8.xs.length x8.c) (c := .slice x8.D x8.ys.length x8.d) (by omega)
  have b8 := a4.put ok8
  have bz := set3g (G := g4) (a := .bool x8.b) (b := .slice x8.A x8.xs.length x8.c) (c := .slice x8.D x8.ys.length x8.d) bw (by omega)
  clear a4 bw ok8
  generalize (((wn.setCell ⟨g4, 0, none⟩ (.bool x8.b)).setCell ⟨g4, 1, none⟩ (.slice x8.A x8.xs.length x8.c)).setCell ⟨g4, 2, none⟩ (.slice x8.D x8.ys.length x8.d)) = wm at *
  try replace a1 := b1
  try clear b1
  try replace a2 := b2
  try clear b2
  try replace a3 := b3
  try clear b3
  try replace a4 := b4
  try clear b4
  try replace a5 := b5
  try clear b5
  try replace a6 := b6
  try clear b6
  try replace a7 := b7
  try clear b7
  try replace a8 := b8
  try clear b8
  try replace a9 := b9
  try clear b9
  try replace a10 := b10
  try clear b10
  try replace a11 := b11
  try clear b11
  try replace a12 := b12
  try clear b12
  try replace a13 := b13
  try clear b13
  try replace a14 := b14
  try clear b14
  try have a8 := b8
  try clear b8
  have bw := bz
  clear bz
  have ci0 := a1.c0
  have ci1 := a1.c1
  have ci2 := a1.c2
  have cj0 := a2.c0
  have cj1 := a2.c1
  have cj2 := a2.c2
  go_wp2_with fail
  clear ci0 ci1 ci2 cj0 cj1 cj2
  refine (fquo_any _ x1 x2 (SD) a1.ok a2.ok l1 m1 l2 m2 HD.out).mono ?_
  rintro e wn ⟨x9, rfl, hs9, ok9, bb⟩
  have HS9 := Lib.hid hs9
  clear hs9
  try replace a1 := a1.below bb
  try replace a2 := a2.below bb
  try replace a3 := a3.below bb
  try replace a4 := a4.below bb
  try replace a5 := a5.below bb
  try replace a6 := a6.below bb
  try replace a7 := a7.below bb
  try replace a8 := a8.below bb
  try replace a9 := a9.below bb
  try replace a10 := a10.below bb
  try replace a11 := a11.below bb
  try replace a12 := a12.below bb
  try replace a13 := a13.below bb
  try replace a14 := a14.below bb
  try replace a15 := a15.below bb
  try replace a16 := a16.below bb
  try replace a17 := a17.below bb
  try replace a18 := a18.below bb
  try replace a19 := a19.below bb
  try replace a20 := a20.below bb
  replace bw := below_on bw bb bw.size
  clear bb
  have tk := a5.bk
  obtain ⟨k0, k1, k2, kf0, kf1, kf2, klt, kb⟩ := tk
  clear kb
  go_upto_region 12 with fail
  clear k0 k1 k2 kf0 kf1 kf2 klt
  try have b1 := a1.far a5 (a := .bool x9.b) (b := .slice x9.A x9.xs.length x9.c) (c := .slice x9.D x9.ys.length x9.d) (by omega)
  try have b2 := a2.far a5 (a := .bool x9.b) (b := .slice x9.A x9.xs.length x9.c) (c := .slice x9.D x9.ys.length x9.d) (by omega)
  try have b3 := a3.far a5 (a := .bool x9.b) (b := .slice x9.A x9.xs.length x9.c) (c := .slice x9.D x9.ys.length x9.d) (by omega)
  try have b4 := a4.far a5 (a := .bool x9.b) (b := .slice x9.A x9.xs.length x9.c) (c := .slice x9.D x9.ys.length x9.d) (by omega)
  try have b5 := a5.far a5 (a := .bool x9.b) (b := .slice x9.A x9.xs.length x9.c) (c := .slice x9.D x9.ys.length x9.d) (by omega)
  try have b6 := a6.far a5 (a := .bool x9.b) (b := .slice x9.A x9.xs.length x9.c) (c := .slice x9.D x9.ys.length x9.d) (by omega)
  try have b7 := a7.far a5 (a := .bool x9.b) (b := .slice x9.A x9.xs.length x9.c) (c := .slice x9.D x9.ys.length x9.d) (by omega)
  try have b8 := a8.far a5 (a := .bool x9.b) (b := .slice x9.A x9.xs.length x9.c) (c := .slice x9.D x9.ys.length x9.d) (by omega)
  try have b9 := a9.far a5 (a := .bool x9.b) (b := .slice x9.A x9.xs.length x9.c) (c := .slice x9.D x9.ys.length x9.d) (by omega)
  try have b10 := a10.far a5 (a := .bool x9.b) (b := .slice x9.A x9.xs.length x9.c) (c := .slice x9.D x9.ys.length x9.d) (by omega)
  try have b11 := a11.far a5 (a := .bool x9.b) (b := .slice x9.A x9.xs.length x9.c) (c := .slice x9.D x9.ys.length x9.d) (by omega)
  try have b12 := a12.far a5 (a := .bool x9.b) (b := .slice x9.A x9.xs.length x9.c) (c := .slice x9.D x9.ys.length x9.d) (by omega)
  try have b13 := a13.far a5 (a := .bool x9.b) (b := .slice x9.A x9.xs.length x9.c) (c := .slice x9.D x9.ys.length x9.d) (by omega)
  try have b14 := a14.far a5 (a := .bool x9.b) (b := .slice x9.A x9.xs.length x9.c) (c := .slice x9.D x9.ys.length x9.d) (by omega)
  have b9 := a5.put ok9
  have bz := set3g (G := g5) (a := .bool x9.b) (b := .slice x9.A x9.xs.length x9.c) (c := .slice x9.D x9.ys.length x9.d) bw (by omega)
  clear a5 bw ok9
  generalize (((wn.setCell ⟨g5, 0, none⟩ (.bool x9.b)).setCell ⟨g5, 1, none⟩ (.slice x9.A x9.xs.length x9.c)).setCell ⟨g5, 2, none⟩ (.slice x9.D x9.ys.length x9.d)) = wm at *
  try replace a1 := b1
  try clear b1
  try replace a2 := b2
  try clear b2
  try replace a3 := b3
  try clear b3
  try replace a4 := b4
  try clear b4
  try replace a5 := b5
  try clear b5
  try replace a6 := b6
  try clear b6
  try replace a7 := b7
  try clear b7
  try replace a8 := b8
  try clear b8
  try replace a9 := b9
  try clear b9
  try replace a10 := b10
  try clear b10
  try replace a11 := b11
  try clear b11
  try replace a12 := b12
  try clear b12
  try replace a13 := b13
  try clear b13
  try replace a14 := b14
  try clear b14
  try have a9 := b9
  try clear b9
  have bw := bz
  clear bz
  have ci0 := a1.c0
  have ci1 := a1.c1
  have ci2 := a1.c2
  have cj0 := a2.c0
  have cj1 := a2.c1
  have cj2 := a2.c2
  go_wp2_with fail
  clear ci0 ci1 ci2 cj0 cj1 cj2
  refine (rfquo_any _ x1 x2 (SD) a1.ok a2.ok l1 m1 l2 m2 HD.out).mono ?_
  rintro e wn ⟨x10, rfl, hs10, ok10, bb⟩
  have HS10 := Lib.hid hs10
  clear hs10
  try replace a1 := a1.below bb
  try replace a2 := a2.below bb
  try replace a3 := a3.below bb
  try replace a4 := a4.below bb
  try replace a5 := a5.below bb
  try replace a6 := a6.below bb
  try replace a7 := a7.below bb
  try replace a8 := a8.below bb
  try replace a9 := a9.below bb
  try replace a10 := a10.below bb
  try replace a11 := a11.below bb
  try replace a12 := a12.below bb
  try replace a13 := a13.below bb
  try replace a14 := a14.below bb
  try replace a15 := a15.below bb
  try replace a16 := a16.below bb
  try replace a17 := a17.below bb
  try replace a18 := a18.below bb
  try replace a19 := a19.below bb
  try replace a20 := a20.below bb
  replace bw := below_on bw bb bw.size
  clear bb
  have tk := a6.bk
  obtain ⟨k0, k1, k2, kf0, kf1, kf2, klt, kb⟩ := tk
  clear kb
  go_upto_region 13 with fail
  clear k0 k1 k2 kf0 kf1 kf2 klt
  try have b1 := a1.far a6 (a := .bool x10.b) (b := .slice x10.A x10.xs.length x10.c) (c := .slice x10.D x10.ys.length x10.d) (by omega)
  try have b2 := a2.far a6 (a := .bool x10.b) (b := .slice x10.A x10.xs.length x10.c) (c := .slice x10.D x10.ys.length x10.d) (by omega)
  try have b3 := a3.far a6 (a := .bool x10.b) (b := .slice x10.A x10.xs.length x10.c) (c := .slice x10.D x10.ys.length x10.d) (by omega)
  try have b4 := a4.far a6 (a := .bool x10.b) (b := .slice x10.A x10.xs.length x10.c) (c := .slice x10.D x10.ys.length x10.d) (by omega)
  try have b5 := a5.far a6 (a := .bool x10.b) (b := .slice x10.A x10.xs.length x10.c) (c := .slice x10.D x10.ys.length x10.d) (by omega)
  try have b6 := a6.far a6 (a := .bool x10.b) (b := .slice x10.A x10.xs.length x10.c) (c := .slice x10.D x10.ys.length x10.d) (by omega)
  try have b7 := a7.far a6 (a := .bool x10.b) (b := .slice x10.A x10.xs.length x10.c) (c := .slice x10.D x10.ys.length x10.d) (by omega)
  try have b8 := a8.far a6 (a := .bool x10.b) (b := .slice x10.A x10.xs.length x10.c) (c := .slice x10.D x10.ys.length x10.d) (by omega)
  try have b9 := a9.far a6 (a := .bool x10.b) (b := .slice x10.A x10.xs.length x10.c) (c := .slice x10.D x10.ys.length x10.d) (by omega)
  try have b10 := a10.far a6 (a := .bool x10.b) (b := .slice x10.A x10.xs.length x10.c) (c := .slice x10.D x10.ys.length x10.d) (by omega)
  try have b11 := a11.far a6 (a := .bool x10.b) (b := .slice x10.A x10.xs.length x10.c) (c := .slice x10.D x10.ys.length x10.d) (by omega)
  try have b12 := a12.far a6 (a := .bool x10.b) (b := .slice x10.A x10.xs.length x10.c) (c := .slice x10.D x10.ys.length x10.d) (by omega)
  try have b13 := a13.far a6 (a := .bool x10.b) (b := .slice x10.A x10.xs.length x10.c) (c := .slice x10.D x10.ys.length x10.d) (by omega)
  try have b14 := a14.far a6 (a := .bool x10.b) (b := .slice x10.A x10.xs.length x10.c) (c := .slice x10.D x10.ys.length x10.d) (by omega)
  have b10 := a6.put ok10
  have bz := set3g (G := g6) (a := .bool x10.b) (b := .slice x10.A x10.xs.length x10.c) (c := .slice x10.D x10.ys.length x10.d) bw (by omega)
  clear a6 bw ok10
  generalize (((wn.setCell ⟨g6, 0, none⟩ (.bool x10.b)).setCell ⟨g6, 1, none⟩ (.slice x10.A x10.xs.length x10.c)).setCell ⟨g6, 2, none⟩ (.slice x10.D x10.ys.length x10.d)) = wm at *
  try replace a1 := b1
  try clear b1
  try replace a2 := b2
  try clear b2
  try replace a3 := b3
  try clear b3
  try replace a4 := b4
  try clear b4
  try replace a5 := b5
  try clear b5
  try replace a6 := b6
  try clear b6
  try replace a7 := b7
  try clear b7
  try replace a8 := b8
  try clear b8
  try replace a9 := b9
  try clear b9
  try replace a10 := b10
  try clear b10
  try replace a11 := b11
  try clear b11
  try replace a12 := b12
  try clear b12
  try replace a13 := b13
  try clear b13
  try replace a14 := b14
  try clear b14
  try have a10 := b10
  try clear b10
  have bw := bz
  clear bz
  have ci0 := a7.c0
  have ci1 := a7.c1
  have ci2 := a7.c2
  have cj0 := a8.c0
  have cj1 := a8.c1
  have cj2 := a8.c2
  go_wp2_with fail
  clear ci0 ci1 ci2 cj0 cj1 cj2
  refine (samef_any _ x7 x8 true a7.ok a8.ok (sm HS7.out HS8.out)).mono ?_
  rintro e wn ⟨rfl, bb⟩
  try replace a1 := a1.below bb
  try replace a2 := a2.below bb
  try replace a3 := a3.below bb
  try replace a4 := a4.below bb
  try replace a5 := a5.below bb
  try replace a6 := a6.below bb
  try replace a7 := a7.below bb
  try replace a8 := a8.below bb
  try replace a9 := a9.below bb
  try replace a10 := a10.below bb
  try replace a11 := a11.below bb
  try replace a12 := a12.below bb
  try replace a13 := a13.below bb
  try replace a14 := a14.below bb
  try replace a15 := a15.below bb
  try replace a16 := a16.below bb
  try replace a17 := a17.below bb
  try replace a18 := a18.below bb
  try replace a19 := a19.below bb
  try replace a20 := a20.below bb
  replace bw := below_on bw bb bw.size
  clear bb
  have ci0 := a9.c0
  have ci1 := a9.c1
  have ci2 := a9.c2
  have cj0 := a10.c0
  have cj1 := a10.c1
  have cj2 := a10.c2
  go_wp2_with fail
  clear ci0 ci1 ci2 cj0 cj1 cj2
  refine (samef_any _ x9 x10 true a9.ok a10.ok (sm HS9.out HS10.out)).mono ?_
  rintro e wn ⟨rfl, bb⟩
  try replace a1 := a1.below bb
  try replace a2 := a2.below bb
  try replace a3 := a3.below bb
  try replace a4 := a4.below bb
  try replace a5 := a5.below bb
  try replace a6 := a6.below bb
  try replace a7 := a7.below bb
  try replace a8 := a8.below bb
  try replace a9 := a9.below bb
  try replace a10 := a10.below bb
  try replace a11 := a11.below bb
  try replace a12 := a12.below bb
  try replace a13 := a13.below bb
  try replace a14 := a14.below bb
  try replace a15 := a15.below bb
  try replace a16 := a16.below bb
  try replace a17 := a17.below bb
  try replace a18 := a18.below bb
  try replace a19 := a19.below bb
  try replace a20 := a20.below bb
  replace bw := below_on bw bb bw.size
  clear bb
  go_upto_region 15 with fail
  have ci0 := a1.c0
  have ci1 := a1.c1
  have ci2 := a1.c2
  have cj0 := a2.c0
  have cj1 := a2.c1
  have cj2 := a2.c2
  go_wp2_with fail
  clear ci0 ci1 ci2 cj0 cj1 cj2
  refine (fcmp_any _ x1 x2 (SE) a1.ok a2.ok l1 m1 l2 m2 HE.out).mono ?_
  rintro e wn ⟨rfl, bb⟩
  try replace a1 := a1.below bb
  try replace a2 := a2.below bb
  try replace a3 := a3.below bb
  try replace a4 := a4.below bb
  try replace a5 := a5.below bb
  try replace a6 := a6.below bb
  try replace a7 := a7.below bb
  try replace a8 := a8.below bb
  try replace a9 := a9.below bb
  try replace a10 := a10.below bb
  try replace a11 := a11.below bb
  try replace a12 := a12.below bb
  try replace a13 := a13.below bb
  try replace a14 := a14.below bb
  try replace a15 := a15.below bb
  try replace a16 := a16.below bb
  try replace a17 := a17.below bb
  try replace a18 := a18.below bb
  try replace a19 := a19.below bb
  try replace a20 := a20.below bb
  replace bw := below_on bw bb bw.size
  clear bb
  go_upto_region 16 with fail
  have ci0 := a1.c0
  have ci1 := a1.c1
  have ci2 := a1.c2
  have cj0 := a2.c0
  have cj1 := a2.c1
  have cj2 := a2.c2
  go_wp2_with fail
  clear ci0 ci1 ci2 cj0 cj1 cj2
  refine (rfcmp_any _ x1 x2 (SE) a1.ok a2.ok l1 m1 l2 m2 HE.out).mono ?_
  rintro e wn ⟨rfl, bb⟩
  try replace a1 := a1.below bb
  try replace a2 := a2.below bb
  try replace a3 := a3.below bb
  try replace a4 := a4.below bb
  try replace a5 := a5.below bb
  try replace a6 := a6.below bb
  try replace a7 := a7.below bb
  try replace a8 := a8.below bb
  try replace a9 := a9.below bb
  try replace a10 := a10.below bb
  try replace a11 := a11.below bb
  try replace a12 := a12.below bb
  try replace a13 := a13.below bb
  try replace a14 := a14.below bb
  try replace a15 := a15.below bb
  try replace a16 := a16.below bb
  try replace a17 := a17.below bb
  try replace a18 := a18.below bb
  try replace a19 := a19.below bb
  try replace a20 := a20.below bb
  replace bw := below_on bw bb bw.size
  clear bb
  go_upto_region 17 with fail
  have ci0 := a1.c0
  have ci1 := a1.c1
  have ci2 := a1.c2
  go_wp2_with fail
  clear ci0 ci1 ci2
  refine (freduce_any _ x1 (SF) a1.ok l1 m1 HF.out).mono ?_
  rintro e wn ⟨x11, rfl, hs11, ok11, bb⟩
  have HS11 := Lib.hid hs11
  clear hs11
  try replace a1 := a1.below bb
  try replace a2 := a2.below bb
  try replace a3 := a3.below bb
  try replace a4 := a4.below bb
  try replace a5 := a5.below bb
  try replace a6 := a6.below bb
  try replace a7 := a7.below bb
  try replace a8 := a8.below bb
  try replace a9 := a9.below bb
  try replace a10 := a10.below bb
  try replace a11 := a11.below bb
  try replace a12 := a12.below bb
  try replace a13 := a13.below bb
  try replace a14 := a14.below bb
  try replace a15 := a15.below bb
  try replace a16 := a16.below bb
  try replace a17 := a17.below bb
  try replace a18 := a18.below bb
  try replace a19 := a19.below bb
  try replace a20 := a20.below bb
  replace bw := below_on bw bb bw.size
  clear bb
  have tk := a7.bk
  obtain ⟨k0, k1, k2, kf0, kf1, kf2, klt, kb⟩ := tk
  clear kb
  go_upto_region 18 with fail
  clear k0 k1 k2 kf0 kf1 kf2 klt
  try have b1 := a1.far a7 (a := .bool x11.b) (b := .slice x11.A x11.xs.length x11.c) (c := .slice x11.D x11.ys.length x11.d) (by omega)
  try have b2 := a2.far a7 (a := .bool x11.b) (b := .slice x11.A x11.xs.length x11.c) (c := .slice x11.D x11.ys.length x11.d) (by omega)
  try have b3 := a3.far a7 (a := .bool x11.b) (b := .slice x11.A x11.xs.length x11.c) (c := .slice x11.D x11.ys.length x11.d) (by omega)
  try have b4 := a4.far a7 (a := .bool x11.b) (b := .slice x11.A x11.xs.length x11.c) (c := .slice x11.D x11.ys.length x11.d) (by omega)
  try have b5 := a5.far a7 (a := .bool x11.b) (b := .slice x11.A x11.xs.length x11.c) (c := .slice x11.D x11.ys.length x11.d) (by omega)
  try have b6 := a6.far a7 (a := .bool x11.b) (b := .slice x11.A x11.xs.length x11.c) (c := .slice x11.D x11.ys.length x11.d) (by omega)
  try have b7 := a7.far a7 (a := .bool x11.b) (b := .slice x11.A x11.xs.length x11.c) (c := .slice x11.D x11.ys.length x11.d) (by omega)
  try have b8 := a8.far a7 (a := .bool x11.b) (b := .slice x11.A x11.xs.length x11.c) (c := .slice x11.D x11.ys.length x11.d) (by omega)
  try have b9 := a9.far a7 (a := .bool x11.b) (b := .slice x11.A x11.xs.length x11.c) (c := .slice x11.D x11.ys.length x11.d) (by omega)
  try have b10 := a10.far a7 (a := .bool x11.b) (b := .slice x11.A x11.xs.length x11.c) (c := .slice x11.D x11.ys.length x11.d) (by omega)
  try have b11 := a11.far a7 (a := .bool x11.b) (b := .slice x11.A x11.xs.length x11.c) (c := .slice x11.D x11.ys.length x11.d) (by omega)
  try have b12 := a12.far a7 (a := .bool x11.b) (b := .slice x11.A x11.xs.length x11.c) (c := .slice x11.D x11.ys.length x11.d) (by omega)
  try have b13 := a13.far a7 (a := .bool x11.b) (b := .slice x11.A x11.xs.length x11.c) (c := .slice x11.D x11.ys.length x11.d) (by omega)
  try have b14 := a14.far a7 (a := .bool x11.b) (b := .slice x11.A x11.xs.length x11.c) (c := .slice x11.D x11.ys.length x11.d) (by omega)
  have b11 := a7.put ok11
  have bz := set3g (G := g3) (a := .bool x11.b) (b := .slice x11.A x11.xs.length x11.c) (c := .slice x11.D x11.ys.length x11.d) bw (by omega)
  clear a7 bw ok11
  generalize (((wn.setCell ⟨g3, 0, none⟩ (.bool x11.b)).setCell ⟨g3, 1, none⟩ (.slice x11.A x11.xs.length x11.c)).setCell ⟨g3, 2, none⟩ (.slice x11.D x11.ys.length x11.d)) = wm at *
  try replace a1 := b1
  try clear b1
  try replace a2 := b2
  try clear b2
  try replace a3 := b3
  try clear b3
  try replace a4 := b4
  try clear b4
  try replace a5 := b5
  try clear b5
  try replace a6 := b6
  try clear b6
  try replace a7 := b7
  try clear b7
  try replace a8 := b8
  try clear b8
  try replace a9 := b9
  try clear b9
  try replace a10 := b10
  try clear b10
  try replace a11 := b11
  try clear b11
  try replace a12 := b12
  try clear b12
  try replace a13 := b13
  try clear b13
  try replace a14 := b14
  try clear b14
  try have a11 := b11
  try clear b11
  have bw := bz
  clear bz
  have ci0 := a1.c0
  have ci1 := a1.c1
  have ci2 := a1.c2
  go_wp2_with fail
  clear ci0 ci1 ci2
  refine (rfreduce_any _ x1 (SF) a1.ok l1 m1 HF.out).mono ?_
  rintro e wn ⟨x12, rfl, hs12, ok12, bb⟩
  have HS12 := Lib.hid hs12
  clear hs12
  try replace a1 := a1.below bb
  try replace a2 := a2.below bb
  try replace a3 := a3.below bb
  try replace a4 := a4.below bb
  try replace a5 := a5.below bb
  try replace a6 := a6.below bb
  try replace a7 := a7.below bb
  try replace a8 := a8.below bb
  try replace a9 := a9.below bb
  try replace a10 := a10.below bb
  try replace a11 := a11.below bb
  try replace a12 := a12.below bb
  try replace a13 := a13.below bb
  try replace a14 := a14.below bb
  try replace a15 := a15.below bb
  try replace a16 := a16.below bb
  try replace a17 := a17.below bb
  try replace a18 := a18.below bb
  try replace a19 := a19.below bb
  try replace a20 := a20.below bb
  replace bw := below_on bw bb bw.size
  clear bb
  have tk := a8.bk
  obtain ⟨k0, k1, k2, kf0, kf1, kf2, klt, kb⟩ := tk
  clear kb
  go_upto_region 19 with fail
  clear k0 k1 k2 kf0 kf1 kf2 klt
  try have b1 := a1.far a8 (a := .bool x12.b) (b := .slice x12.A x12.xs.length x12.c) (c := .slice x12.D x12.ys.length x12.d) (by omega)
  try have b2 := a2.far a8 (a := .bool x12.b) (b := .slice x12.A x12.xs.length x12.c) (c := .slice x12.D x12.ys.length x12.d) (by omega)
  try have b3 := a3.far a8 (a := .bool x12.b) (b := .slice x12.A x12.xs.length x12.c) (c := .slice x12.D x12.ys.length x12.d) (by omega)
  try have b4 := a4.far a8 (a := .bool x12.b) (b := .slice x12.A x12.xs.length x12.c) (c := .slice x12.D x12.ys.length x12.d) (by omega)
  try have b5 := a5.far a8 (a := .bool x12.b) (b := .slice x12.A x12.xs.length x12.c) (c := .slice x12.D x12.ys.length x12.d) (by omega)
  try have b6 := a6.far a8 (a := .bool x12.b) (b := .slice x12.A x12.xs.length x12.c) (c := .slice x12.D x12.ys.length x12.d) (by omega)
  try have b7 := a7.far a8 (a := .bool x12.b) (b := .slice x12.A x12.xs.length x12.c) (c := .slice x12.D x12.ys.length x12.d) (by omega)
  try have b8 := a8.far a8 (a := .bool x12.b) (b := .slice x12.A x12.xs.length x12.c) (c := .slice x12.D x12.ys.length x12.d) (by omega)
  try have b9 := a9.far a8 (a := .bool x12.b) (b := .slice x12.A x12.xs.length x12.c) (c := .slice x12.D x12.ys.length x12.d) (by omega)
  try have b10 := a10.far a8 (a := .bool x12.b) (b := .slice x12.A x12.xs.length x12.c) (c := .slice x12.D x12.ys.length x12.d) (by omega)
  try have b11 := a11.far a8 (a := .bool x12.b) (b := .slice x12.A x12.xs.length x12.c) (c := .slice x12.D x12.ys.length x12.d) (by omega)
  try have b12 := a12.far a8 (a := .bool x12.b) (b := .slice x12.A x12.xs.length x12.c) (c := .slice x12.D x12.ys.length x12.d) (by omega)
  try have b13 := a13.far a8 (a := .bool x12.b) (b := .slice x12.A x12.xs.length x12.c) (c := .slice x12.D x12.ys.length x12.d) (by omega)
  try have b14 := a14.far a8 (a := .bool x12.b) (b := .slice x12.A x12.xs.length x12.c) (c := .slice x12.D x12.ys.length x12.d) (by omega)
  have b12 := a8.put ok12
  have bz := set3g (G := g4) (a := .bool x12.b) (b := .slice x12.A x12.xs.length x12.c) (c := .slice x12.D x12.ys.length x12.d) bw (by omega)
  clear a8 bw ok12
  generalize (((wn.setCell ⟨g4, 0, none⟩ (.bool x12.b)).setCell ⟨g4, 1, none⟩ (.slice x12.A x12.xs.length x12.c)).setCell ⟨g4, 2, none⟩ (.slice x12.D x12.ys.length x12.d)) = wm at *
  try replace a1 := b1
  try clear b1
  try replace a2 := b2
  try clear b2
  try replace a3 := b3
  try clear b3
  try replace a4 := b4
  try clear b4
  try replace a5 := b5
  try clear b5
  try replace a6 := b6
  try clear b6
  try replace a7 := b7
  try clear b7
  try replace a8 := b8
  try clear b8
  try replace a9 := b9
  try clear b9
  try replace a10 := b10
  try clear b10
  try replace a11 := b11
  try clear b11
  try replace a12 := b12
  try clear b12
  try replace a13 := b13
  try clear b13
  try replace a14 := b14
  try clear b14
  try have a12 := b12
  try clear b12
  have bw := bz
  clear bz
  clear a9 a10 a2
  obtain ⟨vb, hvb⟩ : ∃ vb, decide x1.v = vb := ⟨_, rfl⟩
  have HVB := Lib.hid hvb
  clear hvb
  go_region_held3 (fun w' => w'.cell? ⟨w.heap.size, 0, none⟩ = some (.bool x1.b) ∧ w'.cell? ⟨w.heap.size, 1, none⟩ = some (.slice x1.A x1.xs.length x1.c) ∧ w'.cell? ⟨w.heap.size, 2, none⟩ = some (.slice x1.D x1.ys.length x1.d) ∧ w'.cell? ⟨g3, 0, none⟩ = some (.bool x11.b) ∧ w'.cell? ⟨g3, 1, none⟩ = some (.slice x11.A x11.xs.length x11.c) ∧ w'.cell? ⟨g3, 2, none⟩ = some (.slice x11.D x11.ys.length x11.d) ∧ w'.cell? ⟨g4, 0, none⟩ = some (.bool x12.b) ∧ w'.cell? ⟨g4, 1, none⟩ = some (.slice x12.A x12.xs.length x12.c) ∧ w'.cell? ⟨g4, 2, none⟩ = some (.slice x12.D x12.ys.length x12.d))
    (first | exact ⟨a1.c0, a1.c1, a1.c2, a11.c0, a11.c1, a11.c2, a12.c0, a12.c1, a12.c2⟩ | go_keep)
    (first
      | (go_at_call 14
         first | with_reducible refine (samef_any _ x11 x12 true a11.ok a12.ok (sm HS11.out HS12.out)).mono ?_ | with_reducible refine (samef_any _ x11 x12 true a11.ok.drew a12.ok.drew (sm HS11.out HS12.out)).mono ?_
         rintro e wn ⟨rfl, bb⟩
         repeat replace bb := below_undrew bb
         replace a1 := a1.below bb
         replace a11 := a11.below bb
         replace a12 := a12.below bb
         replace bw := below_on bw bb bw.size
         clear bb)
      | (go_at_call 26
         first | with_reducible refine (fvalid_any _ x1 vb a1.ok l1 m1 HVB.out).mono ?_ | with_reducible refine (fvalid_any _ x1 vb a1.ok.drew l1 m1 HVB.out).mono ?_
         rintro e wn ⟨rfl, bb⟩
         repeat replace bb := below_undrew bb
         replace a1 := a1.below bb
         replace a11 := a11.below bb
         replace a12 := a12.below bb
         replace bw := below_on bw bb bw.size
         clear bb)
      | (go_at_call 27
         first | with_reducible refine (rfvalid_any _ x1 vb a1.ok l1 m1 HVB.out).mono ?_ | with_reducible refine (rfvalid_any _ x1 vb a1.ok.drew l1 m1 HVB.out).mono ?_
         rintro e wn ⟨rfl, bb⟩
         repeat replace bb := below_undrew bb
         replace a1 := a1.below bb
         replace a11 := a11.below bb
         replace a12 := a12.below bb
         replace bw := below_on bw bb bw.size
         clear bb)
      | (go_at_call 15
         with_reducible refine (awakef_any _).mono ?_
         rintro e wn ⟨rfl, bb⟩
         repeat replace bb := below_undrew bb
         replace a1 := a1.below bb
         replace a11 := a11.below bb
         replace a12 := a12.below bb
         replace bw := below_on bw bb bw.size
         clear bb))
  go_wp2_with fail
  go_ret
  exact ⟨rfl, bw⟩
theorem exact_walk (w : World) (x1 x2 : Fx) (ok1 : x1.ok w) (ok2 : x2.ok w) :
    Calls Try.prog 9 #[x1.val, x2.val] w fun e w' => e = .returned (.bool true) ∧ Below w.heap.size w w' := by
  have hL : lensB [x1, x2] := by
    intro v hv
    simp only [List.mem_cons, List.not_mem_nil, or_false] at hv
    rcases hv with rfl | rfl
    · exact lens_ok ok1
    · exact lens_ok ok2
  cases h : longB [x1, x2]
  · have h1 := longB_no h x1 (by simp)
    have h2 := longB_no h x2 (by simp)
    exact exact_short w x1 x2 ok1 ok2 hL h (by omega) (by omega) (by omega) (by omega)
  · exact exact_long w x1 x2 ok1 ok2 hL h
end Go.Proofs.Ytodopppoikdglaa
