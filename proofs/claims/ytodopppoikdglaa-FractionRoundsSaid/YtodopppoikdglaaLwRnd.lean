/- The walk of FractionRounds. -/
import Derived.Test.YtodopppoikdglaaLwD
import Derived.Test.YtodopppoikdglaaFrcR
namespace Go.Proofs.Ytodopppoikdglaa
open Go.RowKit

theorem run_field_den (w : World) (b : Bool) (A D : Option Addr) (n c m d : Nat) : (Instr.field 25 (.agg #[.bool b, .slice A n c, .slice D m d]) 2).run Try.prog w = .ok (.slice D m d) w := by
  simp [Instr.field, part, isAgg, asAgg, Value.cells, run_underlying Try.underlying25, run_underlying Try.underlying23]
theorem Fx.ok.alloc {x : Fx} {w : World} (h : x.ok w) (o : Obj) : x.ok (w.alloc o) := h.below ((Below.refl w.heap.size w).alloc (Nat.le_refl _) o)
theorem below_unalloc {w w' : World} {o : Obj} (h : Below (w.alloc o).heap.size (w.alloc o) w') : Below w.heap.size w w' := below_on ((Below.refl w.heap.size w).alloc (Nat.le_refl _) o) h (by simp)
set_option maxRecDepth 100000 in
set_option maxHeartbeats 1600000 in
theorem rounds_long (w : World) (x1 : Fx) (k : Int) (ok1 : x1.ok w) (hL : lensB [x1]) (h : longB [x1] = true) :
    Calls Try.prog 11 #[x1.val, .int .i64 k] w fun e w' => e = .returned (.bool true) ∧ Below w.heap.size w w' := by
  have HL := Lib.hid hL
  have H := Lib.hid h
  clear hL h
  go_enter Try.func11, Try.ntmps11
  go_upto_region 1 with fail
  have bw := Below.refl w.heap.size w
  have a1 := (fa_alloc ok1).1
  have bb := (fa_alloc ok1).2
  have sz1 := size_box w (.cells #[.bool x1.b, .slice x1.A x1.xs.length x1.c, .slice x1.D x1.ys.length x1.d] 25)
  clear ok1
  generalize (w.alloc (.cells #[.bool x1.b, .slice x1.A x1.xs.length x1.c, .slice x1.D x1.ys.length x1.d] 25)) = wm at a1 bb sz1 ⊢
  try replace ok1 := ok1.below bb
  try replace ok2 := ok2.below bb
  try replace ok3 := ok3.below bb
  try replace a1 := a1.below bb
  try replace a2 := a2.below bb
  try replace a3 := a3.below bb
  try replace a4 := a4.below bb
  try replace a5 := a5.below bb
  try replace a6 := a6.below bb
  try replace a7 := a7.below bb
  try replace a8 := a8.below bb
  try replace a9 := a9.below bb
  try replace a10 := a10.below bb
  try replace a11 := a11.below bb
  try replace a12 := a12.below bb
  try replace a13 := a13.below bb
  try replace a14 := a14.below bb
  try replace a15 := a15.below bb
  try replace a16 := a16.below bb
  try replace a17 := a17.below bb
  try replace a18 := a18.below bb
  try replace a19 := a19.below bb
  try replace a20 := a20.below bb
  replace bw := below_on bw bb bw.size
  clear bb
  clear sz1
  have ci0 := a1.c0
  have ci1 := a1.c1
  have ci2 := a1.c2
  go_wp2_with fail
  clear ci0 ci1 ci2
  have hr := rdf1 wm x1
  have bb := (Below.refl wm.heap.size wm).alloc (Nat.le_refl _) (.cells #[.bool x1.b, .slice x1.A x1.xs.length x1.c, .slice x1.D x1.ys.length x1.d] 25)
  generalize (wm.alloc (.cells #[.bool x1.b, .slice x1.A x1.xs.length x1.c, .slice x1.D x1.ys.length x1.d] 25)) = wn at hr bb ⊢
  try replace a1 := a1.below bb
  try replace a2 := a2.below bb
  try replace a3 := a3.below bb
  try replace a4 := a4.below bb
  try replace a5 := a5.below bb
  try replace a6 := a6.below bb
  try replace a7 := a7.below bb
  try replace a8 := a8.below bb
  try replace a9 := a9.below bb
  try replace a10 := a10.below bb
  try replace a11 := a11.below bb
  try replace a12 := a12.below bb
  try replace a13 := a13.below bb
  try replace a14 := a14.below bb
  try replace a15 := a15.below bb
  try replace a16 := a16.below bb
  try replace a17 := a17.below bb
  try replace a18 := a18.below bb
  try replace a19 := a19.below bb
  try replace a20 := a20.below bb
  replace bw := below_on bw bb bw.size
  clear bb
  refine (flong_any wn _ _ _ _ true hr rfl (by simp) (by intro v hv; simp only [List.mem_cons, List.not_mem_nil, or_false] at hv; rcases hv with rfl; exact HL.out _ (by simp)) H.out).mono ?_
  rintro e wl ⟨rfl, rfl⟩
  clear hr
  go_wp2_with fail
  refine (awakef_any _).mono ?_
  rintro e wn ⟨rfl, bb⟩
  try replace a1 := a1.below bb
  try replace a2 := a2.below bb
  try replace a3 := a3.below bb
  try replace a4 := a4.below bb
  try replace a5 := a5.below bb
  try replace a6 := a6.below bb
  try replace a7 := a7.below bb
  try replace a8 := a8.below bb
  try replace a9 := a9.below bb
  try replace a10 := a10.below bb
  try replace a11 := a11.below bb
  try replace a12 := a12.below bb
  try replace a13 := a13.below bb
  try replace a14 := a14.below bb
  try replace a15 := a15.below bb
  try replace a16 := a16.below bb
  try replace a17 := a17.below bb
  try replace a18 := a18.below bb
  try replace a19 := a19.below bb
  try replace a20 := a20.below bb
  replace bw := below_on bw bb bw.size
  clear bb
  go_wp2_with fail
  go_ret
  exact ⟨rfl, bw⟩
set_option maxRecDepth 100000 in
set_option maxHeartbeats 4000000 in
theorem rounds_bad (w : World) (x1 : Fx) (k : Int) (ok1 : x1.ok w) (hL : lensB [x1]) (h : longB [x1] = false) (l1 : x1.xs.length ≤ 10000) (m1 : x1.ys.length ≤ 10000) (hv : ¬ x1.v) :
    Calls Try.prog 11 #[x1.val, .int .i64 k] w fun e w' => e = .returned (.bool true) ∧ Below w.heap.size w w' := by
  have HL := Lib.hid hL
  have H := Lib.hid h
  have HV : Hid (¬ x1.v) := hv
  have HSL : Hid (roundF x1 k false = errF 1) := Lib.hid (by rw [roundF, if_neg hv])
  have HSH : Hid (roundF x1 k true = errF 1) := Lib.hid (by rw [roundF, if_neg hv])
  have e0 : (errF 1).2.2.2 = 1 := rfl
  clear hL h hv
  go_enter Try.func11, Try.ntmps11
  go_upto_region 1 with fail
  have bw := Below.refl w.heap.size w
  have a1 := (fa_alloc ok1).1
  have bb := (fa_alloc ok1).2
  have sz1 := size_box w (.cells #[.bool x1.b, .slice x1.A x1.xs.length x1.c, .slice x1.D x1.ys.length x1.d] 25)
  clear ok1
  generalize (w.alloc (.cells #[.bool x1.b, .slice x1.A x1.xs.length x1.c, .slice x1.D x1.ys.length x1.d] 25)) = wm at a1 bb sz1 ⊢
  try replace ok1 := ok1.below bb
  try replace ok2 := ok2.below bb
  try replace ok3 := ok3.below bb
  try replace a1 := a1.below bb
  try replace a2 := a2.below bb
  try replace a3 := a3.below bb
  try replace a4 := a4.below bb
  try replace a5 := a5.below bb
  try replace a6 := a6.below bb
  try replace a7 := a7.below bb
  try replace a8 := a8.below bb
  try replace a9 := a9.below bb
  try replace a10 := a10.below bb
  try replace a11 := a11.below bb
  try replace a12 := a12.below bb
  try replace a13 := a13.below bb
  try replace a14 := a14.below bb
  try replace a15 := a15.below bb
  try replace a16 := a16.below bb
  try replace a17 := a17.below bb
  try replace a18 := a18.below bb
  try replace a19 := a19.below bb
  try replace a20 := a20.below bb
  replace bw := below_on bw bb bw.size
  clear bb
  clear sz1
  have ci0 := a1.c0
  have ci1 := a1.c1
  have ci2 := a1.c2
  go_wp2_with fail
  clear ci0 ci1 ci2
  have hr := rdf1 wm x1
  have bb := (Below.refl wm.heap.size wm).alloc (Nat.le_refl _) (.cells #[.bool x1.b, .slice x1.A x1.xs.length x1.c, .slice x1.D x1.ys.length x1.d] 25)
  generalize (wm.alloc (.cells #[.bool x1.b, .slice x1.A x1.xs.length x1.c, .slice x1.D x1.ys.length x1.d] 25)) = wn at hr bb ⊢
  try replace a1 := a1.below bb
  try replace a2 := a2.below bb
  try replace a3 := a3.below bb
  try replace a4 := a4.below bb
  try replace a5 := a5.below bb
  try replace a6 := a6.below bb
  try replace a7 := a7.below bb
  try replace a8 := a8.below bb
  try replace a9 := a9.below bb
  try replace a10 := a10.below bb
  try replace a11 := a11.below bb
  try replace a12 := a12.below bb
  try replace a13 := a13.below bb
  try replace a14 := a14.below bb
  try replace a15 := a15.below bb
  try replace a16 := a16.below bb
  try replace a17 := a17.below bb
  try replace a18 := a18.below bb
  try replace a19 := a19.below bb
  try replace a20 := a20.below bb
  replace bw := below_on bw bb bw.size
  clear bb
  refine (flong_any wn _ _ _ _ false hr rfl (by simp) (by intro v hv; simp only [List.mem_cons, List.not_mem_nil, or_false] at hv; rcases hv with rfl; exact HL.out _ (by simp)) H.out).mono ?_
  rintro e wl ⟨rfl, rfl⟩
  clear hr
  go_upto_region 3 with fail
  have ci0 := a1.c0
  have ci1 := a1.c1
  have ci2 := a1.c2
  go_wp2_with fail
  clear ci0 ci1 ci2
  refine (ffloor_any _ x1 k (errF 1) a1.ok l1 m1 HSL.out).mono ?_
  rintro e wn ⟨x3, rfl, hs3, ok3, bb⟩
  have HS3 := Lib.hid hs3
  clear hs3
  try replace a1 := a1.below bb
  try replace a2 := a2.below bb
  try replace a3 := a3.below bb
  try replace a4 := a4.below bb
  try replace a5 := a5.below bb
  try replace a6 := a6.below bb
  try replace a7 := a7.below bb
  try replace a8 := a8.below bb
  try replace a9 := a9.below bb
  try replace a10 := a10.below bb
  try replace a11 := a11.below bb
  try replace a12 := a12.below bb
  try replace a13 := a13.below bb
  try replace a14 := a14.below bb
  try replace a15 := a15.below bb
  try replace a16 := a16.below bb
  try replace a17 := a17.below bb
  try replace a18 := a18.below bb
  try replace a19 := a19.below bb
  try replace a20 := a20.below bb
  replace bw := below_on bw bb bw.size
  clear bb
  go_upto_region 4 with fail
  have a3 := (fa_alloc ok3).1
  have bb := (fa_alloc ok3).2
  clear ok3
  generalize (wn.alloc (.cells #[.bool x3.b, .slice x3.A x3.xs.length x3.c, .slice x3.D x3.ys.length x3.d] 25)) = wm at a3 bb ⊢
  try replace a1 := a1.below bb
  try replace a2 := a2.below bb
  try replace a3 := a3.below bb
  try replace a4 := a4.below bb
  try replace a5 := a5.below bb
  try replace a6 := a6.below bb
  try replace a7 := a7.below bb
  try replace a8 := a8.below bb
  try replace a9 := a9.below bb
  try replace a10 := a10.below bb
  try replace a11 := a11.below bb
  try replace a12 := a12.below bb
  try replace a13 := a13.below bb
  try replace a14 := a14.below bb
  try replace a15 := a15.below bb
  try replace a16 := a16.below bb
  try replace a17 := a17.below bb
  try replace a18 := a18.below bb
  try replace a19 := a19.below bb
  try replace a20 := a20.below bb
  replace bw := below_on bw bb bw.size
  clear bb
  generalize wn.heap.size = g3 at a3 ⊢
  have ci0 := a1.c0
  have ci1 := a1.c1
  have ci2 := a1.c2
  go_wp2_with fail
  clear ci0 ci1 ci2
  refine (rffloor_any _ x1 k (errF 1) a1.ok l1 m1 HSL.out).mono ?_
  rintro e wn ⟨x4, rfl, hs4, ok4, bb⟩
  have HS4 := Lib.hid hs4
  clear hs4
  try replace a1 := a1.below bb
  try replace a2 := a2.below bb
  try replace a3 := a3.below bb
  try replace a4 := a4.below bb
  try replace a5 := a5.below bb
  try replace a6 := a6.below bb
  try replace a7 := a7.below bb
  try replace a8 := a8.below bb
  try replace a9 := a9.below bb
  try replace a10 := a10.below bb
  try replace a11 := a11.below bb
  try replace a12 := a12.below bb
  try replace a13 := a13.below bb
  try replace a14 := a14.below bb
  try replace a15 := a15.below bb
  try replace a16 := a16.below bb
  try replace a17 := a17.below bb
  try replace a18 := a18.below bb
  try replace a19 := a19.below bb
  try replace a20 := a20.below bb
  replace bw := below_on bw bb bw.size
  clear bb
  go_upto_region 5 with fail
  have a4 := (fa_alloc ok4).1
  have bb := (fa_alloc ok4).2
  clear ok4
  generalize (wn.alloc (.cells #[.bool x4.b, .slice x4.A x4.xs.length x4.c, .slice x4.D x4.ys.length x4.d] 25)) = wm at a4 bb ⊢
  try replace a1 := a1.below bb
  try replace a2 := a2.below bb
  try replace a3 := a3.below bb
  try replace a4 := a4.below bb
  try replace a5 := a5.below bb
  try replace a6 := a6.below bb
  try replace a7 := a7.below bb
  try replace a8 := a8.below bb
  try replace a9 := a9.below bb
  try replace a10 := a10.below bb
  try replace a11 := a11.below bb
  try replace a12 := a12.below bb
  try replace a13 := a13.below bb
  try replace a14 := a14.below bb
  try replace a15 := a15.below bb
  try replace a16 := a16.below bb
  try replace a17 := a17.below bb
  try replace a18 := a18.below bb
  try replace a19 := a19.below bb
  try replace a20 := a20.below bb
  replace bw := below_on bw bb bw.size
  clear bb
  generalize wn.heap.size = g4 at a4 ⊢
  have ci0 := a1.c0
  have ci1 := a1.c1
  have ci2 := a1.c2
  go_wp2_with fail
  clear ci0 ci1 ci2
  refine (fceil_any _ x1 k (errF 1) a1.ok l1 m1 HSH.out).mono ?_
  rintro e wn ⟨x5, rfl, hs5, ok5, bb⟩
  have HS5 := Lib.hid hs5
  clear hs5
  try replace a1 := a1.below bb
  try replace a2 := a2.below bb
  try replace a3 := a3.below bb
  try replace a4 := a4.below bb
  try replace a5 := a5.below bb
  try replace a6 := a6.below bb
  try replace a7 := a7.below bb
  try replace a8 := a8.below bb
  try replace a9 := a9.below bb
  try replace a10 := a10.below bb
  try replace a11 := a11.below bb
  try replace a12 := a12.below bb
  try replace a13 := a13.below bb
  try replace a14 := a14.below bb
  try replace a15 := a15.below bb
  try replace a16 := a16.below bb
  try replace a17 := a17.below bb
  try replace a18 := a18.below bb
  try replace a19 := a19.below bb
  try replace a20 := a20.below bb
  replace bw := below_on bw bb bw.size
  clear bb
  go_upto_region 6 with fail
  have a5 := (fa_alloc ok5).1
  have bb := (fa_alloc ok5).2
  clear ok5
  generalize (wn.alloc (.cells #[.bool x5.b, .slice x5.A x5.xs.length x5.c, .slice x5.D x5.ys.length x5.d] 25)) = wm at a5 bb ⊢
  try replace a1 := a1.below bb
  try replace a2 := a2.below bb
  try replace a3 := a3.below bb
  try replace a4 := a4.below bb
  try replace a5 := a5.below bb
  try replace a6 := a6.below bb
  try replace a7 := a7.below bb
  try replace a8 := a8.below bb
  try replace a9 := a9.below bb
  try replace a10 := a10.below bb
  try replace a11 := a11.below bb
  try replace a12 := a12.below bb
  try replace a13 := a13.below bb
  try replace a14 := a14.below bb
  try replace a15 := a15.below bb
  try replace a16 := a16.below bb
  try replace a17 := a17.below bb
  try replace a18 := a18.below bb
  try replace a19 := a19.below bb
  try replace a20 := a20.below bb
  replace bw := below_on bw bb bw.size
  clear bb
  generalize wn.heap.size = g5 at a5 ⊢
  have ci0 := a1.c0
  have ci1 := a1.c1
  have ci2 := a1.c2
  go_wp2_with fail
  clear ci0 ci1 ci2
  refine (rfceil_any _ x1 k (errF 1) a1.ok l1 m1 HSH.out).mono ?_
  rintro e wn ⟨x6, rfl, hs6, ok6, bb⟩
  have HS6 := Lib.hid hs6
  clear hs6
  try replace a1 := a1.below bb
  try replace a2 := a2.below bb
  try replace a3 := a3.below bb
  try replace a4 := a4.below bb
  try replace a5 := a5.below bb
  try replace a6 := a6.below bb
  try replace a7 := a7.below bb
  try replace a8 := a8.below bb
  try replace a9 := a9.below bb
  try replace a10 := a10.below bb
  try replace a11 := a11.below bb
  try replace a12 := a12.below bb
  try replace a13 := a13.below bb
  try replace a14 := a14.below bb
  try replace a15 := a15.below bb
  try replace a16 := a16.below bb
  try replace a17 := a17.below bb
  try replace a18 := a18.below bb
  try replace a19 := a19.below bb
  try replace a20 := a20.below bb
  replace bw := below_on bw bb bw.size
  clear bb
  go_upto_region 7 with fail
  have a6 := (fa_alloc ok6).1
  have bb := (fa_alloc ok6).2
  clear ok6
  generalize (wn.alloc (.cells #[.bool x6.b, .slice x6.A x6.xs.length x6.c, .slice x6.D x6.ys.length x6.d] 25)) = wm at a6 bb ⊢
  try replace a1 := a1.below bb
  try replace a2 := a2.below bb
  try replace a3 := a3.below bb
  try replace a4 := a4.below bb
  try replace a5 := a5.below bb
  try replace a6 := a6.below bb
  try replace a7 := a7.below bb
  try replace a8 := a8.below bb
  try replace a9 := a9.below bb
  try replace a10 := a10.below bb
  try replace a11 := a11.below bb
  try replace a12 := a12.below bb
  try replace a13 := a13.below bb
  try replace a14 := a14.below bb
  try replace a15 := a15.below bb
  try replace a16 := a16.below bb
  try replace a17 := a17.below bb
  try replace a18 := a18.below bb
  try replace a19 := a19.below bb
  try replace a20 := a20.below bb
  replace bw := below_on bw bb bw.size
  clear bb
  generalize wn.heap.size = g6 at a6 ⊢
  have ci0 := a3.c0
  have ci1 := a3.c1
  have ci2 := a3.c2
  have cj0 := a4.c0
  have cj1 := a4.c1
  have cj2 := a4.c2
  go_wp2_with fail
  clear ci0 ci1 ci2 cj0 cj1 cj2
  refine (samef_any _ x3 x4 true a3.ok a4.ok (sm HS3.out HS4.out)).mono ?_
  rintro e wn ⟨rfl, bb⟩
  try replace a1 := a1.below bb
  try replace a2 := a2.below bb
  try replace a3 := a3.below bb
  try replace a4 := a4.below bb
  try replace a5 := a5.below bb
  try replace a6 := a6.below bb
  try replace a7 := a7.below bb
  try replace a8 := a8.below bb
  try replace a9 := a9.below bb
  try replace a10 := a10.below bb
  try replace a11 := a11.below bb
  try replace a12 := a12.below bb
  try replace a13 := a13.below bb
  try replace a14 := a14.below bb
  try replace a15 := a15.below bb
  try replace a16 := a16.below bb
  try replace a17 := a17.below bb
  try replace a18 := a18.below bb
  try replace a19 := a19.below bb
  try replace a20 := a20.below bb
  replace bw := below_on bw bb bw.size
  clear bb
  have ci0 := a5.c0
  have ci1 := a5.c1
  have ci2 := a5.c2
  have cj0 := a6.c0
  have cj1 := a6.c1
  have cj2 := a6.c2
  go_wp2_with fail
  clear ci0 ci1 ci2 cj0 cj1 cj2
  refine (samef_any _ x5 x6 true a5.ok a6.ok (sm HS5.out HS6.out)).mono ?_
  rintro e wn ⟨rfl, bb⟩
  try replace a1 := a1.below bb
  try replace a2 := a2.below bb
  try replace a3 := a3.below bb
  try replace a4 := a4.below bb
  try replace a5 := a5.below bb
  try replace a6 := a6.below bb
  try replace a7 := a7.below bb
  try replace a8 := a8.below bb
  try replace a9 := a9.below bb
  try replace a10 := a10.below bb
  try replace a11 := a11.below bb
  try replace a12 := a12.below bb
  try replace a13 := a13.below bb
  try replace a14 := a14.below bb
  try replace a15 := a15.below bb
  try replace a16 := a16.below bb
  try replace a17 := a17.below bb
  try replace a18 := a18.below bb
  try replace a19 := a19.below bb
  try replace a20 := a20.below bb
  replace bw := below_on bw bb bw.size
  clear bb
  go_upto_region 9 with fail
  clear a4 a6
  go_upto_region 10 with fail
  have ci0 := a1.c0
  have ci1 := a1.c1
  have ci2 := a1.c2
  go_wp2_with fail
  clear ci0 ci1 ci2
  refine (rfvalid_any _ x1 false a1.ok l1 m1 (decide_eq_false HV.out)).mono ?_
  rintro e wn ⟨rfl, bb⟩
  try replace a1 := a1.below bb
  try replace a2 := a2.below bb
  try replace a3 := a3.below bb
  try replace a4 := a4.below bb
  try replace a5 := a5.below bb
  try replace a6 := a6.below bb
  try replace a7 := a7.below bb
  try replace a8 := a8.below bb
  try replace a9 := a9.below bb
  try replace a10 := a10.below bb
  try replace a11 := a11.below bb
  try replace a12 := a12.below bb
  try replace a13 := a13.below bb
  try replace a14 := a14.below bb
  try replace a15 := a15.below bb
  try replace a16 := a16.below bb
  try replace a17 := a17.below bb
  try replace a18 := a18.below bb
  try replace a19 := a19.below bb
  try replace a20 := a20.below bb
  replace bw := below_on bw bb bw.size
  clear bb
  go_wp2_with fail
  refine (awakef_any _).mono ?_
  rintro e wn ⟨rfl, bb⟩
  try replace a1 := a1.below bb
  try replace a2 := a2.below bb
  try replace a3 := a3.below bb
  try replace a4 := a4.below bb
  try replace a5 := a5.below bb
  try replace a6 := a6.below bb
  try replace a7 := a7.below bb
  try replace a8 := a8.below bb
  try replace a9 := a9.below bb
  try replace a10 := a10.below bb
  try replace a11 := a11.below bb
  try replace a12 := a12.below bb
  try replace a13 := a13.below bb
  try replace a14 := a14.below bb
  try replace a15 := a15.below bb
  try replace a16 := a16.below bb
  try replace a17 := a17.below bb
  try replace a18 := a18.below bb
  try replace a19 := a19.below bb
  try replace a20 := a20.below bb
  replace bw := below_on bw bb bw.size
  clear bb
  go_wp2_with fail
  go_ret
  exact ⟨rfl, bw⟩
set_option maxRecDepth 100000 in
set_option maxHeartbeats 4000000 in
theorem rounds_range (w : World) (x1 : Fx) (k : Int) (ok1 : x1.ok w) (hL : lensB [x1]) (h : longB [x1] = false) (l1 : x1.xs.length ≤ 10000) (m1 : x1.ys.length ≤ 10000) (hv : x1.v) (hk : k < 0 ∨ 256 < k) :
    Calls Try.prog 11 #[x1.val, .int .i64 k] w fun e w' => e = .returned (.bool true) ∧ Below w.heap.size w w' := by
  have HL := Lib.hid hL
  have H := Lib.hid h
  have HV := Lib.hid hv
  have HSL : Hid (roundF x1 k false = errF 5) := Lib.hid (by rw [roundF, if_pos hv, if_pos hk])
  have HSH : Hid (roundF x1 k true = errF 5) := Lib.hid (by rw [roundF, if_pos hv, if_pos hk])
  have e0 : (errF 5).2.2.2 = 5 := rfl
  clear hL h hv
  go_enter Try.func11, Try.ntmps11
  go_upto_region 1 with fail
  have bw := Below.refl w.heap.size w
  have a1 := (fa_alloc ok1).1
  have bb := (fa_alloc ok1).2
  have sz1 := size_box w (.cells #[.bool x1.b, .slice x1.A x1.xs.length x1.c, .slice x1.D x1.ys.length x1.d] 25)
  clear ok1
  generalize (w.alloc (.cells #[.bool x1.b, .slice x1.A x1.xs.length x1.c, .slice x1.D x1.ys.length x1.d] 25)) = wm at a1 bb sz1 ⊢
  try replace ok1 := ok1.below bb
  try replace ok2 := ok2.below bb
  try replace ok3 := ok3.below bb
  try replace a1 := a1.below bb
  try replace a2 := a2.below bb
  try replace a3 := a3.below bb
  try replace a4 := a4.below bb
  try replace a5 := a5.below bb
  try replace a6 := a6.below bb
  try replace a7 := a7.below bb
  try replace a8 := a8.below bb
  try replace a9 := a9.below bb
  try replace a10 := a10.below bb
  try replace a11 := a11.below bb
  try replace a12 := a12.below bb
  try replace a13 := a13.below bb
  try replace a14 := a14.below bb
  try replace a15 := a15.below bb
  try replace a16 := a16.below bb
  try replace a17 := a17.below bb
  try replace a18 := a18.below bb
  try replace a19 := a19.below bb
  try replace a20 := a20.below bb
  replace bw := below_on bw bb bw.size
  clear bb
  clear sz1
  have ci0 := a1.c0
  have ci1 := a1.c1
  have ci2 := a1.c2
  go_wp2_with fail
  clear ci0 ci1 ci2
  have hr := rdf1 wm x1
  have bb := (Below.refl wm.heap.size wm).alloc (Nat.le_refl _) (.cells #[.bool x1.b, .slice x1.A x1.xs.length x1.c, .slice x1.D x1.ys.length x1.d] 25)
  generalize (wm.alloc (.cells #[.bool x1.b, .slice x1.A x1.xs.length x1.c, .slice x1.D x1.ys.length x1.d] 25)) = wn at hr bb ⊢
  try replace a1 := a1.below bb
  try replace a2 := a2.below bb
  try replace a3 := a3.below bb
  try replace a4 := a4.below bb
  try replace a5 := a5.below bb
  try replace a6 := a6.below bb
  try replace a7 := a7.below bb
  try replace a8 := a8.below bb
  try replace a9 := a9.below bb
  try replace a10 := a10.below bb
  try replace a11 := a11.below bb
  try replace a12 := a12.below bb
  try replace a13 := a13.below bb
  try replace a14 := a14.below bb
  try replace a15 := a15.below bb
  try replace a16 := a16.below bb
  try replace a17 := a17.below bb
  try replace a18 := a18.below bb
  try replace a19 := a19.below bb
  try replace a20 := a20.below bb
  replace bw := below_on bw bb bw.size
  clear bb
  refine (flong_any wn _ _ _ _ false hr rfl (by simp) (by intro v hv; simp only [List.mem_cons, List.not_mem_nil, or_false] at hv; rcases hv with rfl; exact HL.out _ (by simp)) H.out).mono ?_
  rintro e wl ⟨rfl, rfl⟩
  clear hr
  go_upto_region 3 with fail
  have ci0 := a1.c0
  have ci1 := a1.c1
  have ci2 := a1.c2
  go_wp2_with fail
  clear ci0 ci1 ci2
  refine (ffloor_any _ x1 k (errF 5) a1.ok l1 m1 HSL.out).mono ?_
  rintro e wn ⟨x3, rfl, hs3, ok3, bb⟩
  have HS3 := Lib.hid hs3
  clear hs3
  try replace a1 := a1.below bb
  try replace a2 := a2.below bb
  try replace a3 := a3.below bb
  try replace a4 := a4.below bb
  try replace a5 := a5.below bb
  try replace a6 := a6.below bb
  try replace a7 := a7.below bb
  try replace a8 := a8.below bb
  try replace a9 := a9.below bb
  try replace a10 := a10.below bb
  try replace a11 := a11.below bb
  try replace a12 := a12.below bb
  try replace a13 := a13.below bb
  try replace a14 := a14.below bb
  try replace a15 := a15.below bb
  try replace a16 := a16.below bb
  try replace a17 := a17.below bb
  try replace a18 := a18.below bb
  try replace a19 := a19.below bb
  try replace a20 := a20.below bb
  replace bw := below_on bw bb bw.size
  clear bb
  go_upto_region 4 with fail
  have a3 := (fa_alloc ok3).1
  have bb := (fa_alloc ok3).2
  clear ok3
  generalize (wn.alloc (.cells #[.bool x3.b, .slice x3.A x3.xs.length x3.c, .slice x3.D x3.ys.length x3.d] 25)) = wm at a3 bb ⊢
  try replace a1 := a1.below bb
  try replace a2 := a2.below bb
  try replace a3 := a3.below bb
  try replace a4 := a4.below bb
  try replace a5 := a5.below bb
  try replace a6 := a6.below bb
  try replace a7 := a7.below bb
  try replace a8 := a8.below bb
  try replace a9 := a9.below bb
  try replace a10 := a10.below bb
  try replace a11 := a11.below bb
  try replace a12 := a12.below bb
  try replace a13 := a13.below bb
  try replace a14 := a14.below bb
  try replace a15 := a15.below bb
  try replace a16 := a16.below bb
  try replace a17 := a17.below bb
  try replace a18 := a18.below bb
  try replace a19 := a19.below bb
  try replace a20 := a20.below bb
  replace bw := below_on bw bb bw.size
  clear bb
  generalize wn.heap.size = g3 at a3 ⊢
  have ci0 := a1.c0
  have ci1 := a1.c1
  have ci2 := a1.c2
  go_wp2_with fail
  clear ci0 ci1 ci2
  refine (rffloor_any _ x1 k (errF 5) a1.ok l1 m1 HSL.out).mono ?_
  rintro e wn ⟨x4, rfl, hs4, ok4, bb⟩
  have HS4 := Lib.hid hs4
  clear hs4
  try replace a1 := a1.below bb
  try replace a2 := a2.below bb
  try replace a3 := a3.below bb
  try replace a4 := a4.below bb
  try replace a5 := a5.below bb
  try replace a6 := a6.below bb
  try replace a7 := a7.below bb
  try replace a8 := a8.below bb
  try replace a9 := a9.below bb
  try replace a10 := a10.below bb
  try replace a11 := a11.below bb
  try replace a12 := a12.below bb
  try replace a13 := a13.below bb
  try replace a14 := a14.below bb
  try replace a15 := a15.below bb
  try replace a16 := a16.below bb
  try replace a17 := a17.below bb
  try replace a18 := a18.below bb
  try replace a19 := a19.below bb
  try replace a20 := a20.below bb
  replace bw := below_on bw bb bw.size
  clear bb
  go_upto_region 5 with fail
  have a4 := (fa_alloc ok4).1
  have bb := (fa_alloc ok4).2
  clear ok4
  generalize (wn.alloc (.cells #[.bool x4.b, .slice x4.A x4.xs.length x4.c, .slice x4.D x4.ys.length x4.d] 25)) = wm at a4 bb ⊢
  try replace a1 := a1.below bb
  try replace a2 := a2.below bb
  try replace a3 := a3.below bb
  try replace a4 := a4.below bb
  try replace a5 := a5.below bb
  try replace a6 := a6.below bb
  try replace a7 := a7.below bb
  try replace a8 := a8.below bb
  try replace a9 := a9.below bb
  try replace a10 := a10.below bb
  try replace a11 := a11.below bb
  try replace a12 := a12.below bb
  try replace a13 := a13.below bb
  try replace a14 := a14.below bb
  try replace a15 := a15.below bb
  try replace a16 := a16.below bb
  try replace a17 := a17.below bb
  try replace a18 := a18.below bb
  try replace a19 := a19.below bb
  try replace a20 := a20.below bb
  replace bw := below_on bw bb bw.size
  clear bb
  generalize wn.heap.size = g4 at a4 ⊢
  have ci0 := a1.c0
  have ci1 := a1.c1
  have ci2 := a1.c2
  go_wp2_with fail
  clear ci0 ci1 ci2
  refine (fceil_any _ x1 k (errF 5) a1.ok l1 m1 HSH.out).mono ?_
  rintro e wn ⟨x5, rfl, hs5, ok5, bb⟩
  have HS5 := Lib.hid hs5
  clear hs5
  try replace a1 := a1.below bb
  try replace a2 := a2.below bb
  try replace a3 := a3.below bb
  try replace a4 := a4.below bb
  try replace a5 := a5.below bb
  try replace a6 := a6.below bb
  try replace a7 := a7.below bb
  try replace a8 := a8.below bb
  try replace a9 := a9.below bb
  try replace a10 := a10.below bb
  try replace a11 := a11.below bb
  try replace a12 := a12.below bb
  try replace a13 := a13.below bb
  try replace a14 := a14.below bb
  try replace a15 := a15.below bb
  try replace a16 := a16.below bb
  try replace a17 := a17.below bb
  try replace a18 := a18.below bb
  try replace a19 := a19.below bb
  try replace a20 := a20.below bb
  replace bw := below_on bw bb bw.size
  clear bb
  go_upto_region 6 with fail
  have a5 := (fa_alloc ok5).1
  have bb := (fa_alloc ok5).2
  clear ok5
  generalize (wn.alloc (.cells #[.bool x5.b, .slice x5.A x5.xs.length x5.c, .slice x5.D x5.ys.length x5.d] 25)) = wm at a5 bb ⊢
  try replace a1 := a1.below bb
  try replace a2 := a2.below bb
  try replace a3 := a3.below bb
  try replace a4 := a4.below bb
  try replace a5 := a5.below bb
  try replace a6 := a6.below bb
  try replace a7 := a7.below bb
  try replace a8 := a8.below bb
  try replace a9 := a9.below bb
  try replace a10 := a10.below bb
  try replace a11 := a11.below bb
  try replace a12 := a12.below bb
  try replace a13 := a13.below bb
  try replace a14 := a14.below bb
  try replace a15 := a15.below bb
  try replace a16 := a16.below bb
  try replace a17 := a17.below bb
  try replace a18 := a18.below bb
  try replace a19 := a19.below bb
  try replace a20 := a20.below bb
  replace bw := below_on bw bb bw.size
  clear bb
  generalize wn.heap.size = g5 at a5 ⊢
  have ci0 := a1.c0
  have ci1 := a1.c1
  have ci2 := a1.c2
  go_wp2_with fail
  clear ci0 ci1 ci2
  refine (rfceil_any _ x1 k (errF 5) a1.ok l1 m1 HSH.out).mono ?_
  rintro e wn ⟨x6, rfl, hs6, ok6, bb⟩
  have HS6 := Lib.hid hs6
  clear hs6
  try replace a1 := a1.below bb
  try replace a2 := a2.below bb
  try replace a3 := a3.below bb
  try replace a4 := a4.below bb
  try replace a5 := a5.below bb
  try replace a6 := a6.below bb
  try replace a7 := a7.below bb
  try replace a8 := a8.below bb
  try replace a9 := a9.below bb
  try replace a10 := a10.below bb
  try replace a11 := a11.below bb
  try replace a12 := a12.below bb
  try replace a13 := a13.below bb
  try replace a14 := a14.below bb
  try replace a15 := a15.below bb
  try replace a16 := a16.below bb
  try replace a17 := a17.below bb
  try replace a18 := a18.below bb
  try replace a19 := a19.below bb
  try replace a20 := a20.below bb
  replace bw := below_on bw bb bw.size
  clear bb
  go_upto_region 7 with fail
  have a6 := (fa_alloc ok6).1
  have bb := (fa_alloc ok6).2
  clear ok6
  generalize (wn.alloc (.cells #[.bool x6.b, .slice x6.A x6.xs.length x6.c, .slice x6.D x6.ys.length x6.d] 25)) = wm at a6 bb ⊢
  try replace a1 := a1.below bb
  try replace a2 := a2.below bb
  try replace a3 := a3.below bb
  try replace a4 := a4.below bb
  try replace a5 := a5.below bb
  try replace a6 := a6.below bb
  try replace a7 := a7.below bb
  try replace a8 := a8.below bb
  try replace a9 := a9.below bb
  try replace a10 := a10.below bb
  try replace a11 := a11.below bb
  try replace a12 := a12.below bb
  try replace a13 := a13.below bb
  try replace a14 := a14.below bb
  try replace a15 := a15.below bb
  try replace a16 := a16.below bb
  try replace a17 := a17.below bb
  try replace a18 := a18.below bb
  try replace a19 := a19.below bb
  try replace a20 := a20.below bb
  replace bw := below_on bw bb bw.size
  clear bb
  generalize wn.heap.size = g6 at a6 ⊢
  have ci0 := a3.c0
  have ci1 := a3.c1
  have ci2 := a3.c2
  have cj0 := a4.c0
  have cj1 := a4.c1
  have cj2 := a4.c2
  go_wp2_with fail
  clear ci0 ci1 ci2 cj0 cj1 cj2
  refine (samef_any _ x3 x4 true a3.ok a4.ok (sm HS3.out HS4.out)).mono ?_
  rintro e wn ⟨rfl, bb⟩
  try replace a1 := a1.below bb
  try replace a2 := a2.below bb
  try replace a3 := a3.below bb
  try replace a4 := a4.below bb
  try replace a5 := a5.below bb
  try replace a6 := a6.below bb
  try replace a7 := a7.below bb
  try replace a8 := a8.below bb
  try replace a9 := a9.below bb
  try replace a10 := a10.below bb
  try replace a11 := a11.below bb
  try replace a12 := a12.below bb
  try replace a13 := a13.below bb
  try replace a14 := a14.below bb
  try replace a15 := a15.below bb
  try replace a16 := a16.below bb
  try replace a17 := a17.below bb
  try replace a18 := a18.below bb
  try replace a19 := a19.below bb
  try replace a20 := a20.below bb
  replace bw := below_on bw bb bw.size
  clear bb
  have ci0 := a5.c0
  have ci1 := a5.c1
  have ci2 := a5.c2
  have cj0 := a6.c0
  have cj1 := a6.c1
  have cj2 := a6.c2
  go_wp2_with fail
  clear ci0 ci1 ci2 cj0 cj1 cj2
  refine (samef_any _ x5 x6 true a5.ok a6.ok (sm HS5.out HS6.out)).mono ?_
  rintro e wn ⟨rfl, bb⟩
  try replace a1 := a1.below bb
  try replace a2 := a2.below bb
  try replace a3 := a3.below bb
  try replace a4 := a4.below bb
  try replace a5 := a5.below bb
  try replace a6 := a6.below bb
  try replace a7 := a7.below bb
  try replace a8 := a8.below bb
  try replace a9 := a9.below bb
  try replace a10 := a10.below bb
  try replace a11 := a11.below bb
  try replace a12 := a12.below bb
  try replace a13 := a13.below bb
  try replace a14 := a14.below bb
  try replace a15 := a15.below bb
  try replace a16 := a16.below bb
  try replace a17 := a17.below bb
  try replace a18 := a18.below bb
  try replace a19 := a19.below bb
  try replace a20 := a20.below bb
  replace bw := below_on bw bb bw.size
  clear bb
  go_upto_region 9 with fail
  clear a4 a6
  go_upto_region 10 with fail
  by_cases hk0 : k < 0
  · have hd0 : decide (k < 0) = true := decide_eq_true hk0
    have ci0 := a1.c0
    have ci1 := a1.c1
    have ci2 := a1.c2
    go_wp2_with fail
    clear ci0 ci1 ci2
    refine (rfvalid_any _ x1 true a1.ok l1 m1 (decide_eq_true HV.out)).mono ?_
    rintro e wn ⟨rfl, bb⟩
    try replace a1 := a1.below bb
    try replace a2 := a2.below bb
    try replace a3 := a3.below bb
    try replace a4 := a4.below bb
    try replace a5 := a5.below bb
    try replace a6 := a6.below bb
    try replace a7 := a7.below bb
    try replace a8 := a8.below bb
    try replace a9 := a9.below bb
    try replace a10 := a10.below bb
    try replace a11 := a11.below bb
    try replace a12 := a12.below bb
    try replace a13 := a13.below bb
    try replace a14 := a14.below bb
    try replace a15 := a15.below bb
    try replace a16 := a16.below bb
    try replace a17 := a17.below bb
    try replace a18 := a18.below bb
    try replace a19 := a19.below bb
    try replace a20 := a20.below bb
    replace bw := below_on bw bb bw.size
    clear bb
    go_wp2_with fail
    refine (awakef_any _).mono ?_
    rintro e wn ⟨rfl, bb⟩
    try replace a1 := a1.below bb
    try replace a2 := a2.below bb
    try replace a3 := a3.below bb
    try replace a4 := a4.below bb
    try replace a5 := a5.below bb
    try replace a6 := a6.below bb
    try replace a7 := a7.below bb
    try replace a8 := a8.below bb
    try replace a9 := a9.below bb
    try replace a10 := a10.below bb
    try replace a11 := a11.below bb
    try replace a12 := a12.below bb
    try replace a13 := a13.below bb
    try replace a14 := a14.below bb
    try replace a15 := a15.below bb
    try replace a16 := a16.below bb
    try replace a17 := a17.below bb
    try replace a18 := a18.below bb
    try replace a19 := a19.below bb
    try replace a20 := a20.below bb
    replace bw := below_on bw bb bw.size
    clear bb
    go_wp2_with fail
    go_ret
    exact ⟨rfl, bw⟩
  · have hd0 : decide (k < 0) = false := decide_eq_false hk0
    have hd1 : decide (256 < k) = true := decide_eq_true (by omega)
    have ci0 := a1.c0
    have ci1 := a1.c1
    have ci2 := a1.c2
    go_wp2_with fail
    clear ci0 ci1 ci2
    refine (rfvalid_any _ x1 true a1.ok l1 m1 (decide_eq_true HV.out)).mono ?_
    rintro e wn ⟨rfl, bb⟩
    try replace a1 := a1.below bb
    try replace a2 := a2.below bb
    try replace a3 := a3.below bb
    try replace a4 := a4.below bb
    try replace a5 := a5.below bb
    try replace a6 := a6.below bb
    try replace a7 := a7.below bb
    try replace a8 := a8.below bb
    try replace a9 := a9.below bb
    try replace a10 := a10.below bb
    try replace a11 := a11.below bb
    try replace a12 := a12.below bb
    try replace a13 := a13.below bb
    try replace a14 := a14.below bb
    try replace a15 := a15.below bb
    try replace a16 := a16.below bb
    try replace a17 := a17.below bb
    try replace a18 := a18.below bb
    try replace a19 := a19.below bb
    try replace a20 := a20.below bb
    replace bw := below_on bw bb bw.size
    clear bb
    go_wp2_with fail
    refine (awakef_any _).mono ?_
    rintro e wn ⟨rfl, bb⟩
    try replace a1 := a1.below bb
    try replace a2 := a2.below bb
    try replace a3 := a3.below bb
    try replace a4 := a4.below bb
    try replace a5 := a5.below bb
    try replace a6 := a6.below bb
    try replace a7 := a7.below bb
    try replace a8 := a8.below bb
    try replace a9 := a9.below bb
    try replace a10 := a10.below bb
    try replace a11 := a11.below bb
    try replace a12 := a12.below bb
    try replace a13 := a13.below bb
    try replace a14 := a14.below bb
    try replace a15 := a15.below bb
    try replace a16 := a16.below bb
    try replace a17 := a17.below bb
    try replace a18 := a18.below bb
    try replace a19 := a19.below bb
    try replace a20 := a20.below bb
    replace bw := below_on bw bb bw.size
    clear bb
    go_wp2_with fail
    go_ret
    exact ⟨rfl, bw⟩
set_option maxRecDepth 100000 in
set_option maxHeartbeats 8000000 in
theorem rounds_main (w : World) (x1 : Fx) (k : Int) (ok1 : x1.ok w) (hL : lensB [x1]) (h : longB [x1] = false) (l1 : x1.xs.length ≤ 10000) (m1 : x1.ys.length ≤ 10000) (hv : x1.v) (hk2 : 0 ≤ k) (hk3 : k ≤ 256) (lx : (lim (nv x1.xs)).length ≤ 24) :
    Calls Try.prog 11 #[x1.val, .int .i64 k] w fun e w' => e = .returned (.bool true) ∧ Below w.heap.size w w' := by
  have HL := Lib.hid hL
  have H := Lib.hid h
  have HV := Lib.hid hv
  obtain ⟨P, hP⟩ : ∃ P, P = 2 ^ k.toNat := ⟨_, rfl⟩
  obtain ⟨q, hq⟩ : ∃ q, x1.q = q := ⟨_, rfl⟩
  have hP0 : P ≠ 0 := by rw [hP]; exact Nat.pos_iff_ne_zero.1 (Nat.pow_pos (by omega))
  have lP : (lim P).length ≤ 9 := by rw [hP]; exact lim_pow9 (by omega)
  have lN : (lim (nv x1.xs * P)).length ≤ 33 := len_mulf lx lP
  have rf : ∀ up, roundF x1 k up = frS (mkRat (rndZ up q k.toNat) P) ∧ Sz (mkRat (rndZ up q k.toNat) P) 34 9 := by
    intro up
    have e : mkRat (rndZ up q k.toNat) P = qv x1.b (rndN x1.b up (nv x1.xs * P) (nv x1.ys)) P := by rw [← hq, Fx.q, rndZ_qv hv.1, ← hP, qv]
    rw [e]
    refine ⟨?_, Sz.of_qv hP0 (rndN_len lN (by omega)) lP⟩
    rw [roundF_ok hv hk2 hk3, ← hP]
  obtain ⟨r1, z1⟩ := rf false
  obtain ⟨r2, z2⟩ := rf true
  rw [frS_ok (z1.mono (n' := 128) (d' := 128) (by omega) (by omega))] at r1
  rw [frS_ok (z2.mono (n' := 128) (d' := 128) (by omega) (by omega))] at r2
  have e1 : rndZ false q k.toNat = (q * (P : Rat)).floor := by rw [rndZ, if_neg (by decide), hP]
  have e2 : rndZ true q k.toNat = (q * (P : Rat)).ceil := by rw [rndZ, if_pos rfl, hP]
  rw [e1] at r1 z1
  rw [e2] at r2 z2
  have hlo := rnd_lo q hP0
  have hnx := rnd_next q hP0
  have hhi := rnd_hi q hP0
  have hal := rnd_alt q hP0
  have hdv := den_dvd (q * (P : Rat)).floor hP0
  obtain ⟨ql, hql⟩ : ∃ ql, mkRat (q * (P : Rat)).floor P = ql := ⟨_, rfl⟩
  obtain ⟨qh, hqh⟩ : ∃ qh, mkRat (q * (P : Rat)).ceil P = qh := ⟨_, rfl⟩
  obtain ⟨qu, hqu⟩ : ∃ qu, mkRat 1 P = qu := ⟨_, rfl⟩
  rw [hql] at r1 z1 hlo hnx hal hdv
  rw [hqh] at r2 z2 hhi hal
  rw [hqu] at hnx hal
  have zu : Sz qu 2 9 := by rw [← hqu]; exact Sz.mk hP0 (lim_len2 (by decide)) lP
  have zn := z1.add zu
  have HSL := Lib.hid r1
  have HSH := Lib.hid r2
  have Z3 := Lib.hid (z1.mono (n' := 128) (d' := 128) (by omega) (by omega))
  have Z5 := Lib.hid (z2.mono (n' := 128) (d' := 128) (by omega) (by omega))
  have Z7 := Lib.hid (zn.mono (n' := 128) (d' := 128) (by omega) (by omega))
  have ZU := Lib.hid (zu.mono (n' := 128) (d' := 128) (by omega) (by omega))
  obtain ⟨i1, hi1, hi0⟩ : ∃ z, cmpQ ql q = z ∧ z ≤ 0 := by
    rcases cmpQ_cases ql q with ⟨_, e⟩ | ⟨_, e⟩ | ⟨h, e⟩
    · exact ⟨_, e, by omega⟩
    · exact ⟨_, e, by omega⟩
    · exact absurd h hlo
  have hj1 : cmpQ q (ql + qu) = -1 := cmpQ_lt hnx
  obtain ⟨kz, hk1, hk0⟩ : ∃ z, cmpQ q qh = z ∧ z ≤ 0 := by
    rcases cmpQ_cases q qh with ⟨_, e⟩ | ⟨_, e⟩ | ⟨h, e⟩
    · exact ⟨_, e, by omega⟩
    · exact ⟨_, e, by omega⟩
    · exact absurd h hhi
  have HI := Lib.hid hi1
  have HJ := Lib.hid hj1
  have HK := Lib.hid hk1
  have HQ := Lib.hid hq
  have HPU : ∀ y : Fx, (y.b = false ∧ y.xs = [1] ∧ y.ys = lim P) → y.q = qu := by
    rintro y ⟨f1, f2, f3⟩
    rw [Fx.q, f1, f2, f3, nv_1, nv_lim, ← hqu]; rfl
  have HPV : ∀ y : Fx, (y.b = false ∧ y.xs = [1] ∧ y.ys = lim P) → y.v := by
    rintro y ⟨f1, f2, f3⟩
    rw [Fx.v, Vf, f2, f3, nv_1, nv_lim]
    have := lim_len2 (m := 1) (by omega)
    exact ⟨hP0, by omega, by omega⟩
  have LPL : Hid ((lim P).length ≤ 9) := lP
  have HLP : Hid (lim (2 ^ k.toNat) = lim P) := Lib.hid (by rw [hP])
  have HDV : Hid (divS (nv (lim P)) ql.den = (lim (P / ql.den), [], 0)) := Lib.hid (by
    rw [nv_lim, divS_ok (m := P) (n := ql.den) (by omega) (by have := z1.2; omega) ql.den_nz, Nat.mod_eq_zero_of_dvd hdv, lim_zero])
  have hPd : 0 < (lim (P / ql.den)).length := lim_length_pos.2 (Nat.pos_iff_ne_zero.1 (Nat.div_pos (Nat.le_of_dvd (Nat.pos_of_ne_zero hP0) hdv) (Nat.pos_of_ne_zero ql.den_nz)))
  have HAL := Lib.hid hal
  have hPd2 : decide ((0 : Int) < ((lim (P / ql.den)).length : Int)) = true := decide_eq_true (by omega)
  have e0 : ∀ q, (okS q).2.2.2 = 0 := fun q => rfl
  have hj2 : ((-1 : Int) < 0) := by omega
  clear hL h hv hP hq hP0 lP lN rf r1 r2 z1 z2 e1 e2 hlo hnx hhi hal hdv hql hqh hqu zu zn hi1 hj1 hk1
  go_enter Try.func11, Try.ntmps11
  go_upto_region 1 with fail
  have bw := Below.refl w.heap.size w
  have a1 := (fa_alloc ok1).1
  have bb := (fa_alloc ok1).2
  have sz1 := size_box w (.cells #[.bool x1.b, .slice x1.A x1.xs.length x1.c, .slice x1.D x1.ys.length x1.d] 25)
  clear ok1
  generalize (w.alloc (.cells #[.bool x1.b, .slice x1.A x1.xs.length x1.c, .slice x1.D x1.ys.length x1.d] 25)) = wm at a1 bb sz1 ⊢
  try replace ok1 := ok1.below bb
  try replace ok2 := ok2.below bb
  try replace ok3 := ok3.below bb
  try replace a1 := a1.below bb
  try replace a2 := a2.below bb
  try replace a3 := a3.below bb
  try replace a4 := a4.below bb
  try replace a5 := a5.below bb
  try replace a6 := a6.below bb
  try replace a7 := a7.below bb
  try replace a8 := a8.below bb
  try replace a9 := a9.below bb
  try replace a10 := a10.below bb
  try replace a11 := a11.below bb
  try replace a12 := a12.below bb
  try replace a13 := a13.below bb
  try replace a14 := a14.below bb
  try replace a15 := a15.below bb
  try replace a16 := a16.below bb
  try replace a17 := a17.below bb
  try replace a18 := a18.below bb
  try replace a19 := a19.below bb
  try replace a20 := a20.below bb
  replace bw := below_on bw bb bw.size
  clear bb
  clear sz1
  have ci0 := a1.c0
  have ci1 := a1.c1
  have ci2 := a1.c2
  go_wp2_with fail
  clear ci0 ci1 ci2
  have hr := rdf1 wm x1
  have bb := (Below.refl wm.heap.size wm).alloc (Nat.le_refl _) (.cells #[.bool x1.b, .slice x1.A x1.xs.length x1.c, .slice x1.D x1.ys.length x1.d] 25)
  generalize (wm.alloc (.cells #[.bool x1.b, .slice x1.A x1.xs.length x1.c, .slice x1.D x1.ys.length x1.d] 25)) = wn at hr bb ⊢
  try replace a1 := a1.below bb
  try replace a2 := a2.below bb
  try replace a3 := a3.below bb
  try replace a4 := a4.below bb
  try replace a5 := a5.below bb
  try replace a6 := a6.below bb
  try replace a7 := a7.below bb
  try replace a8 := a8.below bb
  try replace a9 := a9.below bb
  try replace a10 := a10.below bb
  try replace a11 := a11.below bb
  try replace a12 := a12.below bb
  try replace a13 := a13.below bb
  try replace a14 := a14.below bb
  try replace a15 := a15.below bb
  try replace a16 := a16.below bb
  try replace a17 := a17.below bb
  try replace a18 := a18.below bb
  try replace a19 := a19.below bb
  try replace a20 := a20.below bb
  replace bw := below_on bw bb bw.size
  clear bb
  refine (flong_any wn _ _ _ _ false hr rfl (by simp) (by intro v hv; simp only [List.mem_cons, List.not_mem_nil, or_false] at hv; rcases hv with rfl; exact HL.out _ (by simp)) H.out).mono ?_
  rintro e wl ⟨rfl, rfl⟩
  clear hr
  go_upto_region 3 with fail
  have ci0 := a1.c0
  have ci1 := a1.c1
  have ci2 := a1.c2
  go_wp2_with fail
  clear ci0 ci1 ci2
  refine (ffloor_any _ x1 k (okS ql) a1.ok l1 m1 HSL.out).mono ?_
  rintro e wn ⟨x3, rfl, hs3, ok3, bb⟩
  have HS3 := Lib.hid hs3
  clear hs3
  try replace a1 := a1.below bb
  try replace a2 := a2.below bb
  try replace a3 := a3.below bb
  try replace a4 := a4.below bb
  try replace a5 := a5.below bb
  try replace a6 := a6.below bb
  try replace a7 := a7.below bb
  try replace a8 := a8.below bb
  try replace a9 := a9.below bb
  try replace a10 := a10.below bb
  try replace a11 := a11.below bb
  try replace a12 := a12.below bb
  try replace a13 := a13.below bb
  try replace a14 := a14.below bb
  try replace a15 := a15.below bb
  try replace a16 := a16.below bb
  try replace a17 := a17.below bb
  try replace a18 := a18.below bb
  try replace a19 := a19.below bb
  try replace a20 := a20.below bb
  replace bw := below_on bw bb bw.size
  clear bb
  go_upto_region 4 with fail
  have a3 := (fa_alloc ok3).1
  have bb := (fa_alloc ok3).2
  clear ok3
  generalize (wn.alloc (.cells #[.bool x3.b, .slice x3.A x3.xs.length x3.c, .slice x3.D x3.ys.length x3.d] 25)) = wm at a3 bb ⊢
  try replace a1 := a1.below bb
  try replace a2 := a2.below bb
  try replace a3 := a3.below bb
  try replace a4 := a4.below bb
  try replace a5 := a5.below bb
  try replace a6 := a6.below bb
  try replace a7 := a7.below bb
  try replace a8 := a8.below bb
  try replace a9 := a9.below bb
  try replace a10 := a10.below bb
  try replace a11 := a11.below bb
  try replace a12 := a12.below bb
  try replace a13 := a13.below bb
  try replace a14 := a14.below bb
  try replace a15 := a15.below bb
  try replace a16 := a16.below bb
  try replace a17 := a17.below bb
  try replace a18 := a18.below bb
  try replace a19 := a19.below bb
  try replace a20 := a20.below bb
  replace bw := below_on bw bb bw.size
  clear bb
  generalize wn.heap.size = g3 at a3 ⊢
  have ci0 := a1.c0
  have ci1 := a1.c1
  have ci2 := a1.c2
  go_wp2_with fail
  clear ci0 ci1 ci2
  refine (rffloor_any _ x1 k (okS ql) a1.ok l1 m1 HSL.out).mono ?_
  rintro e wn ⟨x4, rfl, hs4, ok4, bb⟩
  have HS4 := Lib.hid hs4
  clear hs4
  try replace a1 := a1.below bb
  try replace a2 := a2.below bb
  try replace a3 := a3.below bb
  try replace a4 := a4.below bb
  try replace a5 := a5.below bb
  try replace a6 := a6.below bb
  try replace a7 := a7.below bb
  try replace a8 := a8.below bb
  try replace a9 := a9.below bb
  try replace a10 := a10.below bb
  try replace a11 := a11.below bb
  try replace a12 := a12.below bb
  try replace a13 := a13.below bb
  try replace a14 := a14.below bb
  try replace a15 := a15.below bb
  try replace a16 := a16.below bb
  try replace a17 := a17.below bb
  try replace a18 := a18.below bb
  try replace a19 := a19.below bb
  try replace a20 := a20.below bb
  replace bw := below_on bw bb bw.size
  clear bb
  go_upto_region 5 with fail
  have a4 := (fa_alloc ok4).1
  have bb := (fa_alloc ok4).2
  clear ok4
  generalize (wn.alloc (.cells #[.bool x4.b, .slice x4.A x4.xs.length x4.c, .slice x4.D x4.ys.length x4.d] 25)) = wm at a4 bb ⊢
  try replace a1 := a1.below bb
  try replace a2 := a2.below bb
  try replace a3 := a3.below bb
  try replace a4 := a4.below bb
  try replace a5 := a5.below bb
  try replace a6 := a6.below bb
  try replace a7 := a7.below bb
  try replace a8 := a8.below bb
  try replace a9 := a9.below bb
  try replace a10 := a10.below bb
  try replace a11 := a11.below bb
  try replace a12 := a12.below bb
  try replace a13 := a13.below bb
  try replace a14 := a14.below bb
  try replace a15 := a15.below bb
  try replace a16 := a16.below bb
  try replace a17 := a17.below bb
  try replace a18 := a18.below bb
  try replace a19 := a19.below bb
  try replace a20 := a20.below bb
  replace bw := below_on bw bb bw.size
  clear bb
  generalize wn.heap.size = g4 at a4 ⊢
  have ci0 := a1.c0
  have ci1 := a1.c1
  have ci2 := a1.c2
  go_wp2_with fail
  clear ci0 ci1 ci2
  refine (fceil_any _ x1 k (okS qh) a1.ok l1 m1 HSH.out).mono ?_
  rintro e wn ⟨x5, rfl, hs5, ok5, bb⟩
  have HS5 := Lib.hid hs5
  clear hs5
  try replace a1 := a1.below bb
  try replace a2 := a2.below bb
  try replace a3 := a3.below bb
  try replace a4 := a4.below bb
  try replace a5 := a5.below bb
  try replace a6 := a6.below bb
  try replace a7 := a7.below bb
  try replace a8 := a8.below bb
  try replace a9 := a9.below bb
  try replace a10 := a10.below bb
  try replace a11 := a11.below bb
  try replace a12 := a12.below bb
  try replace a13 := a13.below bb
  try replace a14 := a14.below bb
  try replace a15 := a15.below bb
  try replace a16 := a16.below bb
  try replace a17 := a17.below bb
  try replace a18 := a18.below bb
  try replace a19 := a19.below bb
  try replace a20 := a20.below bb
  replace bw := below_on bw bb bw.size
  clear bb
  go_upto_region 6 with fail
  have a5 := (fa_alloc ok5).1
  have bb := (fa_alloc ok5).2
  clear ok5
  generalize (wn.alloc (.cells #[.bool x5.b, .slice x5.A x5.xs.length x5.c, .slice x5.D x5.ys.length x5.d] 25)) = wm at a5 bb ⊢
  try replace a1 := a1.below bb
  try replace a2 := a2.below bb
  try replace a3 := a3.below bb
  try replace a4 := a4.below bb
  try replace a5 := a5.below bb
  try replace a6 := a6.below bb
  try replace a7 := a7.below bb
  try replace a8 := a8.below bb
  try replace a9 := a9.below bb
  try replace a10 := a10.below bb
  try replace a11 := a11.below bb
  try replace a12 := a12.below bb
  try replace a13 := a13.below bb
  try replace a14 := a14.below bb
  try replace a15 := a15.below bb
  try replace a16 := a16.below bb
  try replace a17 := a17.below bb
  try replace a18 := a18.below bb
  try replace a19 := a19.below bb
  try replace a20 := a20.below bb
  replace bw := below_on bw bb bw.size
  clear bb
  generalize wn.heap.size = g5 at a5 ⊢
  have ci0 := a1.c0
  have ci1 := a1.c1
  have ci2 := a1.c2
  go_wp2_with fail
  clear ci0 ci1 ci2
  refine (rfceil_any _ x1 k (okS qh) a1.ok l1 m1 HSH.out).mono ?_
  rintro e wn ⟨x6, rfl, hs6, ok6, bb⟩
  have HS6 := Lib.hid hs6
  clear hs6
  try replace a1 := a1.below bb
  try replace a2 := a2.below bb
  try replace a3 := a3.below bb
  try replace a4 := a4.below bb
  try replace a5 := a5.below bb
  try replace a6 := a6.below bb
  try replace a7 := a7.below bb
  try replace a8 := a8.below bb
  try replace a9 := a9.below bb
  try replace a10 := a10.below bb
  try replace a11 := a11.below bb
  try replace a12 := a12.below bb
  try replace a13 := a13.below bb
  try replace a14 := a14.below bb
  try replace a15 := a15.below bb
  try replace a16 := a16.below bb
  try replace a17 := a17.below bb
  try replace a18 := a18.below bb
  try replace a19 := a19.below bb
  try replace a20 := a20.below bb
  replace bw := below_on bw bb bw.size
  clear bb
  go_upto_region 7 with fail
  have a6 := (fa_alloc ok6).1
  have bb := (fa_alloc ok6).2
  clear ok6
  generalize (wn.alloc (.cells #[.bool x6.b, .slice x6.A x6.xs.length x6.c, .slice x6.D x6.ys.length x6.d] 25)) = wm at a6 bb ⊢
  try replace a1 := a1.below bb
  try replace a2 := a2.below bb
  try replace a3 := a3.below bb
  try replace a4 := a4.below bb
  try replace a5 := a5.below bb
  try replace a6 := a6.below bb
  try replace a7 := a7.below bb
  try replace a8 := a8.below bb
  try replace a9 := a9.below bb
  try replace a10 := a10.below bb
  try replace a11 := a11.below bb
  try replace a12 := a12.below bb
  try replace a13 := a13.below bb
  try replace a14 := a14.below bb
  try replace a15 := a15.below bb
  try replace a16 := a16.below bb
  try replace a17 := a17.below bb
  try replace a18 := a18.below bb
  try replace a19 := a19.below bb
  try replace a20 := a20.below bb
  replace bw := below_on bw bb bw.size
  clear bb
  generalize wn.heap.size = g6 at a6 ⊢
  have ci0 := a3.c0
  have ci1 := a3.c1
  have ci2 := a3.c2
  have cj0 := a4.c0
  have cj1 := a4.c1
  have cj2 := a4.c2
  go_wp2_with fail
  clear ci0 ci1 ci2 cj0 cj1 cj2
  refine (samef_any _ x3 x4 true a3.ok a4.ok (sm HS3.out HS4.out)).mono ?_
  rintro e wn ⟨rfl, bb⟩
  try replace a1 := a1.below bb
  try replace a2 := a2.below bb
  try replace a3 := a3.below bb
  try replace a4 := a4.below bb
  try replace a5 := a5.below bb
  try replace a6 := a6.below bb
  try replace a7 := a7.below bb
  try replace a8 := a8.below bb
  try replace a9 := a9.below bb
  try replace a10 := a10.below bb
  try replace a11 := a11.below bb
  try replace a12 := a12.below bb
  try replace a13 := a13.below bb
  try replace a14 := a14.below bb
  try replace a15 := a15.below bb
  try replace a16 := a16.below bb
  try replace a17 := a17.below bb
  try replace a18 := a18.below bb
  try replace a19 := a19.below bb
  try replace a20 := a20.below bb
  replace bw := below_on bw bb bw.size
  clear bb
  have ci0 := a5.c0
  have ci1 := a5.c1
  have ci2 := a5.c2
  have cj0 := a6.c0
  have cj1 := a6.c1
  have cj2 := a6.c2
  go_wp2_with fail
  clear ci0 ci1 ci2 cj0 cj1 cj2
  refine (samef_any _ x5 x6 true a5.ok a6.ok (sm HS5.out HS6.out)).mono ?_
  rintro e wn ⟨rfl, bb⟩
  try replace a1 := a1.below bb
  try replace a2 := a2.below bb
  try replace a3 := a3.below bb
  try replace a4 := a4.below bb
  try replace a5 := a5.below bb
  try replace a6 := a6.below bb
  try replace a7 := a7.below bb
  try replace a8 := a8.below bb
  try replace a9 := a9.below bb
  try replace a10 := a10.below bb
  try replace a11 := a11.below bb
  try replace a12 := a12.below bb
  try replace a13 := a13.below bb
  try replace a14 := a14.below bb
  try replace a15 := a15.below bb
  try replace a16 := a16.below bb
  try replace a17 := a17.below bb
  try replace a18 := a18.below bb
  try replace a19 := a19.below bb
  try replace a20 := a20.below bb
  replace bw := below_on bw bb bw.size
  clear bb
  go_upto_region 9 with fail
  clear a4 a6
  go_upto_region 11 with fail
  have R3 := Rp.of HS3.out
  have l3 := R3.l1 Z3.out
  have m3 := R3.l2 Z3.out
  have R5 := Rp.of HS5.out
  have l5 := R5.l1 Z5.out
  have m5 := R5.l2 Z5.out
  have V3 := Lib.hid (R3.v Z3.out)
  have V5 := Lib.hid (R5.v Z5.out)
  go_region_held3 (fun w' => w'.cell? ⟨g3, 0, none⟩ = some (.bool x3.b) ∧ w'.cell? ⟨g3, 1, none⟩ = some (.slice x3.A x3.xs.length x3.c) ∧ w'.cell? ⟨g3, 2, none⟩ = some (.slice x3.D x3.ys.length x3.d))
    (first | with_reducible exact ⟨(a3.below (by with_reducible first | exact Below.refl _ _ | exact (Below.refl _ _).drew | exact (Below.refl _ _).alloc (Nat.le_refl _) _ | exact ((Below.refl _ _).alloc (Nat.le_refl _) _).drew | exact ((Below.refl _ _).drew).alloc (Nat.le_refl _) _)).c0, (a3.below (by with_reducible first | exact Below.refl _ _ | exact (Below.refl _ _).drew | exact (Below.refl _ _).alloc (Nat.le_refl _) _ | exact ((Below.refl _ _).alloc (Nat.le_refl _) _).drew | exact ((Below.refl _ _).drew).alloc (Nat.le_refl _) _)).c1, (a3.below (by with_reducible first | exact Below.refl _ _ | exact (Below.refl _ _).drew | exact (Below.refl _ _).alloc (Nat.le_refl _) _ | exact ((Below.refl _ _).alloc (Nat.le_refl _) _).drew | exact ((Below.refl _ _).drew).alloc (Nat.le_refl _) _)).c2⟩ | with_reducible exact ⟨cell_set3 a3.c0 (by omega), cell_set3 a3.c1 (by omega), cell_set3 a3.c2 (by omega)⟩ | go_keep)
    (first
      | (go_at_call 44
         have o1 := a1.lt
         have o3 := a3.lt
         have o5 := a5.lt
         with_reducible refine (rfpower_any _ k (lim P) hk2 hk3 HLP.out).mono ?_
         rintro e wp ⟨y, rfl, hy, oky, bb⟩
         have HY := Lib.hid hy
         clear hy
         repeat replace bb := below_undrew bb
         try have nk := (bk3_new _).below bb
         repeat replace bb := below_unalloc bb
         replace a1 := a1.below bb
         replace a3 := a3.below bb
         replace a5 := a5.below bb
         replace bw := below_on bw bb bw.size
         clear bb)
      | (go_at_call 20
         have o1 := a1.lt
         have o3 := a3.lt
         have o5 := a5.lt
         have hq1 := addF_ok V3.out (HPV y HY.out) R3.q (HPU y HY.out) Z7.out
         have hq2 : y.xs.length ≤ 10000 := by rw [HY.out.2.1]; simp
         have hq3 : y.ys.length ≤ 10000 := by rw [HY.out.2.2]; have := LPL.out; omega
         with_reducible refine (fadd_any _ x3 y (okS (ql + qu)) (a3.ok.below (by with_reducible first | exact Below.refl _ _ | exact (Below.refl _ _).drew | exact (Below.refl _ _).alloc (Nat.le_refl _) _ | exact ((Below.refl _ _).alloc (Nat.le_refl _) _).drew | exact ((Below.refl _ _).drew).alloc (Nat.le_refl _) _)) (oky.below (by with_reducible first | exact Below.refl _ _ | exact (Below.refl _ _).drew | exact (Below.refl _ _).alloc (Nat.le_refl _) _ | exact ((Below.refl _ _).alloc (Nat.le_refl _) _).drew | exact ((Below.refl _ _).drew).alloc (Nat.le_refl _) _)) l3 m3 hq2 hq3 hq1).mono ?_
         rintro e wq ⟨x7, rfl, hs7, ok7, bb⟩
         have HS7 := Lib.hid hs7
         clear hs7 hq1 hq2 hq3
         repeat replace bb := below_undrew bb
         try replace nk := nk.below bb
         try have nk := (bk3_new _).below bb
         repeat (first | replace bb := below_unalloc bb | replace bb := below_undrew bb)
         replace a1 := a1.below bb
         replace a3 := a3.below bb
         replace a5 := a5.below bb
         replace bw := below_on bw bb bw.size
         clear bb
         try (have tk := nk; obtain ⟨k0, k1, k2, kf0, kf1, kf2, klt, _⟩ := tk)))
  all_goals (try go_upto_region 12 with fail)
  all_goals first
    | (have hk : Fa wq wn.heap.size Fx.nil := ⟨nk, Fx.nil_ok _⟩
       have a7 := hk.put ok7
       have b1 := a1.far hk (a := .bool x7.b) (b := .slice x7.A x7.xs.length x7.c) (c := .slice x7.D x7.ys.length x7.d) (by omega)
       have b3 := a3.far hk (a := .bool x7.b) (b := .slice x7.A x7.xs.length x7.c) (c := .slice x7.D x7.ys.length x7.d) (by omega)
       have b5 := a5.far hk (a := .bool x7.b) (b := .slice x7.A x7.xs.length x7.c) (c := .slice x7.D x7.ys.length x7.d) (by omega)
       have bz := set3g (G := wn.heap.size) (a := .bool x7.b) (b := .slice x7.A x7.xs.length x7.c) (c := .slice x7.D x7.ys.length x7.d) bw (by omega)
       clear a1 a3 a5 bw k0 k1 k2 kf0 kf1 kf2
       generalize (((wq.setCell ⟨wn.heap.size, 0, none⟩ (.bool x7.b)).setCell ⟨wn.heap.size, 1, none⟩ (.slice x7.A x7.xs.length x7.c)).setCell ⟨wn.heap.size, 2, none⟩ (.slice x7.D x7.ys.length x7.d)) = wm at *
       have a1 := b1
       have a3 := b3
       have a5 := b5
       have bw := bz
       clear b1 b3 b5 bz hk nk
       generalize wn.heap.size = g7 at *
       have hPd3 := hPd
       have R7 := Rp.of HS7.out
       have l7 := R7.l1 Z7.out
       have m7 := R7.l2 Z7.out
       have V7 := Lib.hid (R7.v Z7.out)
       have ci0 := a3.c0
       have ci1 := a3.c1
       have ci2 := a3.c2
       have cj0 := a1.c0
       have cj1 := a1.c1
       have cj2 := a1.c2
       go_wp2_with fail
       clear ci0 ci1 ci2 cj0 cj1 cj2
       refine (fcmp_any _ x3 x1 ((i1, (0 : Int))) a3.ok a1.ok l3 m3 l1 m1 (cmpF_ok V3.out HV.out R3.q HQ.out HI.out)).mono ?_
       rintro e wn ⟨rfl, bb⟩
       try replace a1 := a1.below bb
       try replace a2 := a2.below bb
       try replace a3 := a3.below bb
       try replace a4 := a4.below bb
       try replace a5 := a5.below bb
       try replace a6 := a6.below bb
       try replace a7 := a7.below bb
       try replace a8 := a8.below bb
       try replace a9 := a9.below bb
       try replace a10 := a10.below bb
       try replace a11 := a11.below bb
       try replace a12 := a12.below bb
       try replace a13 := a13.below bb
       try replace a14 := a14.below bb
       try replace a15 := a15.below bb
       try replace a16 := a16.below bb
       try replace a17 := a17.below bb
       try replace a18 := a18.below bb
       try replace a19 := a19.below bb
       try replace a20 := a20.below bb
       replace bw := below_on bw bb bw.size
       clear bb
       go_upto_region 13 with fail
       have ci0 := a1.c0
       have ci1 := a1.c1
       have ci2 := a1.c2
       have cj0 := a7.c0
       have cj1 := a7.c1
       have cj2 := a7.c2
       go_wp2_with fail
       clear ci0 ci1 ci2 cj0 cj1 cj2
       refine (fcmp_any _ x1 x7 (((-1 : Int), (0 : Int))) a1.ok a7.ok l1 m1 l7 m7 (cmpF_ok HV.out V7.out HQ.out R7.q HJ.out)).mono ?_
       rintro e wn ⟨rfl, bb⟩
       try replace a1 := a1.below bb
       try replace a2 := a2.below bb
       try replace a3 := a3.below bb
       try replace a4 := a4.below bb
       try replace a5 := a5.below bb
       try replace a6 := a6.below bb
       try replace a7 := a7.below bb
       try replace a8 := a8.below bb
       try replace a9 := a9.below bb
       try replace a10 := a10.below bb
       try replace a11 := a11.below bb
       try replace a12 := a12.below bb
       try replace a13 := a13.below bb
       try replace a14 := a14.below bb
       try replace a15 := a15.below bb
       try replace a16 := a16.below bb
       try replace a17 := a17.below bb
       try replace a18 := a18.below bb
       try replace a19 := a19.below bb
       try replace a20 := a20.below bb
       replace bw := below_on bw bb bw.size
       clear bb
       go_upto_region 14 with fail
       have ci0 := a1.c0
       have ci1 := a1.c1
       have ci2 := a1.c2
       have cj0 := a5.c0
       have cj1 := a5.c1
       have cj2 := a5.c2
       go_wp2_with fail
       clear ci0 ci1 ci2 cj0 cj1 cj2
       refine (fcmp_any _ x1 x5 ((kz, (0 : Int))) a1.ok a5.ok l1 m1 l5 m5 (cmpF_ok HV.out V5.out HQ.out R5.q HK.out)).mono ?_
       rintro e wn ⟨rfl, bb⟩
       try replace a1 := a1.below bb
       try replace a2 := a2.below bb
       try replace a3 := a3.below bb
       try replace a4 := a4.below bb
       try replace a5 := a5.below bb
       try replace a6 := a6.below bb
       try replace a7 := a7.below bb
       try replace a8 := a8.below bb
       try replace a9 := a9.below bb
       try replace a10 := a10.below bb
       try replace a11 := a11.below bb
       try replace a12 := a12.below bb
       try replace a13 := a13.below bb
       try replace a14 := a14.below bb
       try replace a15 := a15.below bb
       try replace a16 := a16.below bb
       try replace a17 := a17.below bb
       try replace a18 := a18.below bb
       try replace a19 := a19.below bb
       try replace a20 := a20.below bb
       replace bw := below_on bw bb bw.size
       clear bb
       go_upto_region 15 with fail
       clear a1
       go_region_held3 (fun w' => w'.cell? ⟨g3, 0, none⟩ = some (.bool x3.b) ∧ w'.cell? ⟨g3, 1, none⟩ = some (.slice x3.A x3.xs.length x3.c) ∧ w'.cell? ⟨g3, 2, none⟩ = some (.slice x3.D x3.ys.length x3.d))
         (first | with_reducible exact ⟨(a3.below (by with_reducible first | exact Below.refl _ _ | exact (Below.refl _ _).drew | exact (Below.refl _ _).alloc (Nat.le_refl _) _ | exact ((Below.refl _ _).alloc (Nat.le_refl _) _).drew | exact ((Below.refl _ _).drew).alloc (Nat.le_refl _) _)).c0, (a3.below (by with_reducible first | exact Below.refl _ _ | exact (Below.refl _ _).drew | exact (Below.refl _ _).alloc (Nat.le_refl _) _ | exact ((Below.refl _ _).alloc (Nat.le_refl _) _).drew | exact ((Below.refl _ _).drew).alloc (Nat.le_refl _) _)).c1, (a3.below (by with_reducible first | exact Below.refl _ _ | exact (Below.refl _ _).drew | exact (Below.refl _ _).alloc (Nat.le_refl _) _ | exact ((Below.refl _ _).alloc (Nat.le_refl _) _).drew | exact ((Below.refl _ _).drew).alloc (Nat.le_refl _) _)).c2⟩ | go_keep)
         (first
           | (go_at_call 44
              with_reducible refine (rfpower_any _ k (lim P) hk2 hk3 HLP.out).mono ?_
              rintro e wp ⟨y2, rfl, hy2, oky2, bb⟩
              try simp only [Fx.val]
              have hfd := fun w' => run_field_den w' y2.b y2.A y2.D y2.xs.length y2.c y2.ys.length y2.d
              have HY2 := Lib.hid hy2
              clear hy2
              repeat replace bb := below_undrew bb
              replace a3 := a3.below bb
              replace a5 := a5.below bb
              replace a7 := a7.below bb
              replace bw := below_on bw bb bw.size
              clear bb)
           | (go_at_call 45
              have hy2s : y2.ys = lim P := HY2.out.2.2
              have hq3 : y2.ys.length ≤ 10000 := by rw [hy2s]; have := LPL.out; omega
              have hq4 : divS (nv y2.ys) (nv x3.ys) = (lim (P / ql.den), [], 0) := by rw [hy2s, R3.d, nv_lim ql.den]; exact HDV.out
              with_reducible refine (rdiv_any _ y2.D x3.D y2.d x3.d _ _ y2.ys x3.ys (lim (P / ql.den)) [] 0 (oky2.below (by with_reducible first | exact Below.refl _ _ | exact (Below.refl _ _).drew | exact (Below.refl _ _).alloc (Nat.le_refl _) _ | exact ((Below.refl _ _).alloc (Nat.le_refl _) _).drew | exact ((Below.refl _ _).drew).alloc (Nat.le_refl _) _)).den (a3.ok.below (by with_reducible first | exact Below.refl _ _ | exact (Below.refl _ _).drew | exact (Below.refl _ _).alloc (Nat.le_refl _) _ | exact ((Below.refl _ _).alloc (Nat.le_refl _) _).drew | exact ((Below.refl _ _).drew).alloc (Nat.le_refl _) _)).den rfl rfl hq3 m3 hq4).mono ?_
              rintro e wd ⟨AQ, cQ, AR, cR, rfl, nq, nr, bb⟩
              clear hq3 hq4 nq nr hy2s
              repeat replace bb := below_undrew bb
              replace a3 := a3.below bb
              replace a5 := a5.below bb
              replace a7 := a7.below bb
              replace bw := below_on bw bb bw.size
              clear bb))
       by_cases hql : ql = qh
       · have HQL := Lib.hid hql
         clear hql
         skip
         have ci0 := a3.c0
         have ci1 := a3.c1
         have ci2 := a3.c2
         have cj0 := a5.c0
         have cj1 := a5.c1
         have cj2 := a5.c2
         go_wp2_with fail
         clear ci0 ci1 ci2 cj0 cj1 cj2
         refine (samef_any _ x3 x5 true a3.ok a5.ok (decide_eq_true (R3.same (by rw [HQL.out]; exact R5)))).mono ?_
         rintro e wn ⟨rfl, bb⟩
         try replace a1 := a1.below bb
         try replace a2 := a2.below bb
         try replace a3 := a3.below bb
         try replace a4 := a4.below bb
         try replace a5 := a5.below bb
         try replace a6 := a6.below bb
         try replace a7 := a7.below bb
         try replace a8 := a8.below bb
         try replace a9 := a9.below bb
         try replace a10 := a10.below bb
         try replace a11 := a11.below bb
         try replace a12 := a12.below bb
         try replace a13 := a13.below bb
         try replace a14 := a14.below bb
         try replace a15 := a15.below bb
         try replace a16 := a16.below bb
         try replace a17 := a17.below bb
         try replace a18 := a18.below bb
         try replace a19 := a19.below bb
         try replace a20 := a20.below bb
         replace bw := below_on bw bb bw.size
         clear bb
         go_wp2_with fail
         refine (awakef_any _).mono ?_
         rintro e wn ⟨rfl, bb⟩
         try replace a1 := a1.below bb
         try replace a2 := a2.below bb
         try replace a3 := a3.below bb
         try replace a4 := a4.below bb
         try replace a5 := a5.below bb
         try replace a6 := a6.below bb
         try replace a7 := a7.below bb
         try replace a8 := a8.below bb
         try replace a9 := a9.below bb
         try replace a10 := a10.below bb
         try replace a11 := a11.below bb
         try replace a12 := a12.below bb
         try replace a13 := a13.below bb
         try replace a14 := a14.below bb
         try replace a15 := a15.below bb
         try replace a16 := a16.below bb
         try replace a17 := a17.below bb
         try replace a18 := a18.below bb
         try replace a19 := a19.below bb
         try replace a20 := a20.below bb
         replace bw := below_on bw bb bw.size
         clear bb
         go_wp2_with fail
         go_ret
         exact ⟨rfl, bw⟩
       · have HQL : Hid (¬ ql = qh) := hql
         clear hql
         skip
         have ci0 := a3.c0
         have ci1 := a3.c1
         have ci2 := a3.c2
         have cj0 := a5.c0
         have cj1 := a5.c1
         have cj2 := a5.c2
         go_wp2_with fail
         clear ci0 ci1 ci2 cj0 cj1 cj2
         refine (samef_any _ x3 x5 false a3.ok a5.ok (decide_eq_false (fun h => HQL.out (by rw [← R3.q, ← R5.q, Fx.q, Fx.q, h.1, h.2.1, h.2.2])))).mono ?_
         rintro e wn ⟨rfl, bb⟩
         try replace a1 := a1.below bb
         try replace a2 := a2.below bb
         try replace a3 := a3.below bb
         try replace a4 := a4.below bb
         try replace a5 := a5.below bb
         try replace a6 := a6.below bb
         try replace a7 := a7.below bb
         try replace a8 := a8.below bb
         try replace a9 := a9.below bb
         try replace a10 := a10.below bb
         try replace a11 := a11.below bb
         try replace a12 := a12.below bb
         try replace a13 := a13.below bb
         try replace a14 := a14.below bb
         try replace a15 := a15.below bb
         try replace a16 := a16.below bb
         try replace a17 := a17.below bb
         try replace a18 := a18.below bb
         try replace a19 := a19.below bb
         try replace a20 := a20.below bb
         replace bw := below_on bw bb bw.size
         clear bb
         have ci0 := a5.c0
         have ci1 := a5.c1
         have ci2 := a5.c2
         have cj0 := a7.c0
         have cj1 := a7.c1
         have cj2 := a7.c2
         go_wp2_with fail
         clear ci0 ci1 ci2 cj0 cj1 cj2
         refine (samef_any _ x5 x7 true a5.ok a7.ok (decide_eq_true (R5.same (by rw [HAL.out.resolve_left HQL.out]; exact R7)))).mono ?_
         rintro e wn ⟨rfl, bb⟩
         try replace a1 := a1.below bb
         try replace a2 := a2.below bb
         try replace a3 := a3.below bb
         try replace a4 := a4.below bb
         try replace a5 := a5.below bb
         try replace a6 := a6.below bb
         try replace a7 := a7.below bb
         try replace a8 := a8.below bb
         try replace a9 := a9.below bb
         try replace a10 := a10.below bb
         try replace a11 := a11.below bb
         try replace a12 := a12.below bb
         try replace a13 := a13.below bb
         try replace a14 := a14.below bb
         try replace a15 := a15.below bb
         try replace a16 := a16.below bb
         try replace a17 := a17.below bb
         try replace a18 := a18.below bb
         try replace a19 := a19.below bb
         try replace a20 := a20.below bb
         replace bw := below_on bw bb bw.size
         clear bb
         go_wp2_with fail
         refine (awakef_any _).mono ?_
         rintro e wn ⟨rfl, bb⟩
         try replace a1 := a1.below bb
         try replace a2 := a2.below bb
         try replace a3 := a3.below bb
         try replace a4 := a4.below bb
         try replace a5 := a5.below bb
         try replace a6 := a6.below bb
         try replace a7 := a7.below bb
         try replace a8 := a8.below bb
         try replace a9 := a9.below bb
         try replace a10 := a10.below bb
         try replace a11 := a11.below bb
         try replace a12 := a12.below bb
         try replace a13 := a13.below bb
         try replace a14 := a14.below bb
         try replace a15 := a15.below bb
         try replace a16 := a16.below bb
         try replace a17 := a17.below bb
         try replace a18 := a18.below bb
         try replace a19 := a19.below bb
         try replace a20 := a20.below bb
         replace bw := below_on bw bb bw.size
         clear bb
         go_wp2_with fail
         go_ret
         exact ⟨rfl, bw⟩
       skip)
    | (have hk : Fa wq wp.heap.size Fx.nil := ⟨nk, Fx.nil_ok _⟩
       have a7 := hk.put ok7
       have b1 := a1.far hk (a := .bool x7.b) (b := .slice x7.A x7.xs.length x7.c) (c := .slice x7.D x7.ys.length x7.d) (by omega)
       have b3 := a3.far hk (a := .bool x7.b) (b := .slice x7.A x7.xs.length x7.c) (c := .slice x7.D x7.ys.length x7.d) (by omega)
       have b5 := a5.far hk (a := .bool x7.b) (b := .slice x7.A x7.xs.length x7.c) (c := .slice x7.D x7.ys.length x7.d) (by omega)
       have bz := set3g (G := wp.heap.size) (a := .bool x7.b) (b := .slice x7.A x7.xs.length x7.c) (c := .slice x7.D x7.ys.length x7.d) bw (by omega)
       clear a1 a3 a5 bw k0 k1 k2 kf0 kf1 kf2
       generalize (((wq.setCell ⟨wp.heap.size, 0, none⟩ (.bool x7.b)).setCell ⟨wp.heap.size, 1, none⟩ (.slice x7.A x7.xs.length x7.c)).setCell ⟨wp.heap.size, 2, none⟩ (.slice x7.D x7.ys.length x7.d)) = wm at *
       have a1 := b1
       have a3 := b3
       have a5 := b5
       have bw := bz
       clear b1 b3 b5 bz hk nk
       generalize wp.heap.size = g7 at *
       have hPd3 := hPd
       have R7 := Rp.of HS7.out
       have l7 := R7.l1 Z7.out
       have m7 := R7.l2 Z7.out
       have V7 := Lib.hid (R7.v Z7.out)
       have ci0 := a3.c0
       have ci1 := a3.c1
       have ci2 := a3.c2
       have cj0 := a1.c0
       have cj1 := a1.c1
       have cj2 := a1.c2
       go_wp2_with fail
       clear ci0 ci1 ci2 cj0 cj1 cj2
       refine (fcmp_any _ x3 x1 ((i1, (0 : Int))) a3.ok a1.ok l3 m3 l1 m1 (cmpF_ok V3.out HV.out R3.q HQ.out HI.out)).mono ?_
       rintro e wn ⟨rfl, bb⟩
       try replace a1 := a1.below bb
       try replace a2 := a2.below bb
       try replace a3 := a3.below bb
       try replace a4 := a4.below bb
       try replace a5 := a5.below bb
       try replace a6 := a6.below bb
       try replace a7 := a7.below bb
       try replace a8 := a8.below bb
       try replace a9 := a9.below bb
       try replace a10 := a10.below bb
       try replace a11 := a11.below bb
       try replace a12 := a12.below bb
       try replace a13 := a13.below bb
       try replace a14 := a14.below bb
       try replace a15 := a15.below bb
       try replace a16 := a16.below bb
       try replace a17 := a17.below bb
       try replace a18 := a18.below bb
       try replace a19 := a19.below bb
       try replace a20 := a20.below bb
       replace bw := below_on bw bb bw.size
       clear bb
       go_upto_region 13 with fail
       have ci0 := a1.c0
       have ci1 := a1.c1
       have ci2 := a1.c2
       have cj0 := a7.c0
       have cj1 := a7.c1
       have cj2 := a7.c2
       go_wp2_with fail
       clear ci0 ci1 ci2 cj0 cj1 cj2
       refine (fcmp_any _ x1 x7 (((-1 : Int), (0 : Int))) a1.ok a7.ok l1 m1 l7 m7 (cmpF_ok HV.out V7.out HQ.out R7.q HJ.out)).mono ?_
       rintro e wn ⟨rfl, bb⟩
       try replace a1 := a1.below bb
       try replace a2 := a2.below bb
       try replace a3 := a3.below bb
       try replace a4 := a4.below bb
       try replace a5 := a5.below bb
       try replace a6 := a6.below bb
       try replace a7 := a7.below bb
       try replace a8 := a8.below bb
       try replace a9 := a9.below bb
       try replace a10 := a10.below bb
       try replace a11 := a11.below bb
       try replace a12 := a12.below bb
       try replace a13 := a13.below bb
       try replace a14 := a14.below bb
       try replace a15 := a15.below bb
       try replace a16 := a16.below bb
       try replace a17 := a17.below bb
       try replace a18 := a18.below bb
       try replace a19 := a19.below bb
       try replace a20 := a20.below bb
       replace bw := below_on bw bb bw.size
       clear bb
       go_upto_region 14 with fail
       have ci0 := a1.c0
       have ci1 := a1.c1
       have ci2 := a1.c2
       have cj0 := a5.c0
       have cj1 := a5.c1
       have cj2 := a5.c2
       go_wp2_with fail
       clear ci0 ci1 ci2 cj0 cj1 cj2
       refine (fcmp_any _ x1 x5 ((kz, (0 : Int))) a1.ok a5.ok l1 m1 l5 m5 (cmpF_ok HV.out V5.out HQ.out R5.q HK.out)).mono ?_
       rintro e wn ⟨rfl, bb⟩
       try replace a1 := a1.below bb
       try replace a2 := a2.below bb
       try replace a3 := a3.below bb
       try replace a4 := a4.below bb
       try replace a5 := a5.below bb
       try replace a6 := a6.below bb
       try replace a7 := a7.below bb
       try replace a8 := a8.below bb
       try replace a9 := a9.below bb
       try replace a10 := a10.below bb
       try replace a11 := a11.below bb
       try replace a12 := a12.below bb
       try replace a13 := a13.below bb
       try replace a14 := a14.below bb
       try replace a15 := a15.below bb
       try replace a16 := a16.below bb
       try replace a17 := a17.below bb
       try replace a18 := a18.below bb
       try replace a19 := a19.below bb
       try replace a20 := a20.below bb
       replace bw := below_on bw bb bw.size
       clear bb
       go_upto_region 15 with fail
       clear a1
       go_region_held3 (fun w' => w'.cell? ⟨g3, 0, none⟩ = some (.bool x3.b) ∧ w'.cell? ⟨g3, 1, none⟩ = some (.slice x3.A x3.xs.length x3.c) ∧ w'.cell? ⟨g3, 2, none⟩ = some (.slice x3.D x3.ys.length x3.d))
         (first | with_reducible exact ⟨(a3.below (by with_reducible first | exact Below.refl _ _ | exact (Below.refl _ _).drew | exact (Below.refl _ _).alloc (Nat.le_refl _) _ | exact ((Below.refl _ _).alloc (Nat.le_refl _) _).drew | exact ((Below.refl _ _).drew).alloc (Nat.le_refl _) _)).c0, (a3.below (by with_reducible first | exact Below.refl _ _ | exact (Below.refl _ _).drew | exact (Below.refl _ _).alloc (Nat.le_refl _) _ | exact ((Below.refl _ _).alloc (Nat.le_refl _) _).drew | exact ((Below.refl _ _).drew).alloc (Nat.le_refl _) _)).c1, (a3.below (by with_reducible first | exact Below.refl _ _ | exact (Below.refl _ _).drew | exact (Below.refl _ _).alloc (Nat.le_refl _) _ | exact ((Below.refl _ _).alloc (Nat.le_refl _) _).drew | exact ((Below.refl _ _).drew).alloc (Nat.le_refl _) _)).c2⟩ | go_keep)
         (first
           | (go_at_call 44
              with_reducible refine (rfpower_any _ k (lim P) hk2 hk3 HLP.out).mono ?_
              rintro e wp ⟨y2, rfl, hy2, oky2, bb⟩
              try simp only [Fx.val]
              have hfd := fun w' => run_field_den w' y2.b y2.A y2.D y2.xs.length y2.c y2.ys.length y2.d
              have HY2 := Lib.hid hy2
              clear hy2
              repeat replace bb := below_undrew bb
              replace a3 := a3.below bb
              replace a5 := a5.below bb
              replace a7 := a7.below bb
              replace bw := below_on bw bb bw.size
              clear bb)
           | (go_at_call 45
              have hy2s : y2.ys = lim P := HY2.out.2.2
              have hq3 : y2.ys.length ≤ 10000 := by rw [hy2s]; have := LPL.out; omega
              have hq4 : divS (nv y2.ys) (nv x3.ys) = (lim (P / ql.den), [], 0) := by rw [hy2s, R3.d, nv_lim ql.den]; exact HDV.out
              with_reducible refine (rdiv_any _ y2.D x3.D y2.d x3.d _ _ y2.ys x3.ys (lim (P / ql.den)) [] 0 (oky2.below (by with_reducible first | exact Below.refl _ _ | exact (Below.refl _ _).drew | exact (Below.refl _ _).alloc (Nat.le_refl _) _ | exact ((Below.refl _ _).alloc (Nat.le_refl _) _).drew | exact ((Below.refl _ _).drew).alloc (Nat.le_refl _) _)).den (a3.ok.below (by with_reducible first | exact Below.refl _ _ | exact (Below.refl _ _).drew | exact (Below.refl _ _).alloc (Nat.le_refl _) _ | exact ((Below.refl _ _).alloc (Nat.le_refl _) _).drew | exact ((Below.refl _ _).drew).alloc (Nat.le_refl _) _)).den rfl rfl hq3 m3 hq4).mono ?_
              rintro e wd ⟨AQ, cQ, AR, cR, rfl, nq, nr, bb⟩
              clear hq3 hq4 nq nr hy2s
              repeat replace bb := below_undrew bb
              replace a3 := a3.below bb
              replace a5 := a5.below bb
              replace a7 := a7.below bb
              replace bw := below_on bw bb bw.size
              clear bb))
       by_cases hql : ql = qh
       · have HQL := Lib.hid hql
         clear hql
         skip
         have ci0 := a3.c0
         have ci1 := a3.c1
         have ci2 := a3.c2
         have cj0 := a5.c0
         have cj1 := a5.c1
         have cj2 := a5.c2
         go_wp2_with fail
         clear ci0 ci1 ci2 cj0 cj1 cj2
         refine (samef_any _ x3 x5 true a3.ok a5.ok (decide_eq_true (R3.same (by rw [HQL.out]; exact R5)))).mono ?_
         rintro e wn ⟨rfl, bb⟩
         try replace a1 := a1.below bb
         try replace a2 := a2.below bb
         try replace a3 := a3.below bb
         try replace a4 := a4.below bb
         try replace a5 := a5.below bb
         try replace a6 := a6.below bb
         try replace a7 := a7.below bb
         try replace a8 := a8.below bb
         try replace a9 := a9.below bb
         try replace a10 := a10.below bb
         try replace a11 := a11.below bb
         try replace a12 := a12.below bb
         try replace a13 := a13.below bb
         try replace a14 := a14.below bb
         try replace a15 := a15.below bb
         try replace a16 := a16.below bb
         try replace a17 := a17.below bb
         try replace a18 := a18.below bb
         try replace a19 := a19.below bb
         try replace a20 := a20.below bb
         replace bw := below_on bw bb bw.size
         clear bb
         go_wp2_with fail
         refine (awakef_any _).mono ?_
         rintro e wn ⟨rfl, bb⟩
         try replace a1 := a1.below bb
         try replace a2 := a2.below bb
         try replace a3 := a3.below bb
         try replace a4 := a4.below bb
         try replace a5 := a5.below bb
         try replace a6 := a6.below bb
         try replace a7 := a7.below bb
         try replace a8 := a8.below bb
         try replace a9 := a9.below bb
         try replace a10 := a10.below bb
         try replace a11 := a11.below bb
         try replace a12 := a12.below bb
         try replace a13 := a13.below bb
         try replace a14 := a14.below bb
         try replace a15 := a15.below bb
         try replace a16 := a16.below bb
         try replace a17 := a17.below bb
         try replace a18 := a18.below bb
         try replace a19 := a19.below bb
         try replace a20 := a20.below bb
         replace bw := below_on bw bb bw.size
         clear bb
         go_wp2_with fail
         go_ret
         exact ⟨rfl, bw⟩
       · have HQL : Hid (¬ ql = qh) := hql
         clear hql
         skip
         have ci0 := a3.c0
         have ci1 := a3.c1
         have ci2 := a3.c2
         have cj0 := a5.c0
         have cj1 := a5.c1
         have cj2 := a5.c2
         go_wp2_with fail
         clear ci0 ci1 ci2 cj0 cj1 cj2
         refine (samef_any _ x3 x5 false a3.ok a5.ok (decide_eq_false (fun h => HQL.out (by rw [← R3.q, ← R5.q, Fx.q, Fx.q, h.1, h.2.1, h.2.2])))).mono ?_
         rintro e wn ⟨rfl, bb⟩
         try replace a1 := a1.below bb
         try replace a2 := a2.below bb
         try replace a3 := a3.below bb
         try replace a4 := a4.below bb
         try replace a5 := a5.below bb
         try replace a6 := a6.below bb
         try replace a7 := a7.below bb
         try replace a8 := a8.below bb
         try replace a9 := a9.below bb
         try replace a10 := a10.below bb
         try replace a11 := a11.below bb
         try replace a12 := a12.below bb
         try replace a13 := a13.below bb
         try replace a14 := a14.below bb
         try replace a15 := a15.below bb
         try replace a16 := a16.below bb
         try replace a17 := a17.below bb
         try replace a18 := a18.below bb
         try replace a19 := a19.below bb
         try replace a20 := a20.below bb
         replace bw := below_on bw bb bw.size
         clear bb
         have ci0 := a5.c0
         have ci1 := a5.c1
         have ci2 := a5.c2
         have cj0 := a7.c0
         have cj1 := a7.c1
         have cj2 := a7.c2
         go_wp2_with fail
         clear ci0 ci1 ci2 cj0 cj1 cj2
         refine (samef_any _ x5 x7 true a5.ok a7.ok (decide_eq_true (R5.same (by rw [HAL.out.resolve_left HQL.out]; exact R7)))).mono ?_
         rintro e wn ⟨rfl, bb⟩
         try replace a1 := a1.below bb
         try replace a2 := a2.below bb
         try replace a3 := a3.below bb
         try replace a4 := a4.below bb
         try replace a5 := a5.below bb
         try replace a6 := a6.below bb
         try replace a7 := a7.below bb
         try replace a8 := a8.below bb
         try replace a9 := a9.below bb
         try replace a10 := a10.below bb
         try replace a11 := a11.below bb
         try replace a12 := a12.below bb
         try replace a13 := a13.below bb
         try replace a14 := a14.below bb
         try replace a15 := a15.below bb
         try replace a16 := a16.below bb
         try replace a17 := a17.below bb
         try replace a18 := a18.below bb
         try replace a19 := a19.below bb
         try replace a20 := a20.below bb
         replace bw := below_on bw bb bw.size
         clear bb
         go_wp2_with fail
         refine (awakef_any _).mono ?_
         rintro e wn ⟨rfl, bb⟩
         try replace a1 := a1.below bb
         try replace a2 := a2.below bb
         try replace a3 := a3.below bb
         try replace a4 := a4.below bb
         try replace a5 := a5.below bb
         try replace a6 := a6.below bb
         try replace a7 := a7.below bb
         try replace a8 := a8.below bb
         try replace a9 := a9.below bb
         try replace a10 := a10.below bb
         try replace a11 := a11.below bb
         try replace a12 := a12.below bb
         try replace a13 := a13.below bb
         try replace a14 := a14.below bb
         try replace a15 := a15.below bb
         try replace a16 := a16.below bb
         try replace a17 := a17.below bb
         try replace a18 := a18.below bb
         try replace a19 := a19.below bb
         try replace a20 := a20.below bb
         replace bw := below_on bw bb bw.size
         clear bb
         go_wp2_with fail
         go_ret
         exact ⟨rfl, bw⟩
       skip)
    | (have a7 := (fa_alloc ok7).1
       have bb := (fa_alloc ok7).2
       clear ok7
       generalize (wq.alloc (.cells #[.bool x7.b, .slice x7.A x7.xs.length x7.c, .slice x7.D x7.ys.length x7.d] 25)) = wm at a7 bb ⊢
       try replace a1 := a1.below bb
       try replace a2 := a2.below bb
       try replace a3 := a3.below bb
       try replace a4 := a4.below bb
       try replace a5 := a5.below bb
       try replace a6 := a6.below bb
       try replace a7 := a7.below bb
       try replace a8 := a8.below bb
       try replace a9 := a9.below bb
       try replace a10 := a10.below bb
       try replace a11 := a11.below bb
       try replace a12 := a12.below bb
       try replace a13 := a13.below bb
       try replace a14 := a14.below bb
       try replace a15 := a15.below bb
       try replace a16 := a16.below bb
       try replace a17 := a17.below bb
       try replace a18 := a18.below bb
       try replace a19 := a19.below bb
       try replace a20 := a20.below bb
       replace bw := below_on bw bb bw.size
       clear bb
       generalize wq.heap.size = g7 at a7 ⊢
       have hPd3 := hPd
       have R7 := Rp.of HS7.out
       have l7 := R7.l1 Z7.out
       have m7 := R7.l2 Z7.out
       have V7 := Lib.hid (R7.v Z7.out)
       have ci0 := a3.c0
       have ci1 := a3.c1
       have ci2 := a3.c2
       have cj0 := a1.c0
       have cj1 := a1.c1
       have cj2 := a1.c2
       go_wp2_with fail
       clear ci0 ci1 ci2 cj0 cj1 cj2
       refine (fcmp_any _ x3 x1 ((i1, (0 : Int))) a3.ok a1.ok l3 m3 l1 m1 (cmpF_ok V3.out HV.out R3.q HQ.out HI.out)).mono ?_
       rintro e wn ⟨rfl, bb⟩
       try replace a1 := a1.below bb
       try replace a2 := a2.below bb
       try replace a3 := a3.below bb
       try replace a4 := a4.below bb
       try replace a5 := a5.below bb
       try replace a6 := a6.below bb
       try replace a7 := a7.below bb
       try replace a8 := a8.below bb
       try replace a9 := a9.below bb
       try replace a10 := a10.below bb
       try replace a11 := a11.below bb
       try replace a12 := a12.below bb
       try replace a13 := a13.below bb
       try replace a14 := a14.below bb
       try replace a15 := a15.below bb
       try replace a16 := a16.below bb
       try replace a17 := a17.below bb
       try replace a18 := a18.below bb
       try replace a19 := a19.below bb
       try replace a20 := a20.below bb
       replace bw := below_on bw bb bw.size
       clear bb
       go_upto_region 13 with fail
       have ci0 := a1.c0
       have ci1 := a1.c1
       have ci2 := a1.c2
       have cj0 := a7.c0
       have cj1 := a7.c1
       have cj2 := a7.c2
       go_wp2_with fail
       clear ci0 ci1 ci2 cj0 cj1 cj2
       refine (fcmp_any _ x1 x7 (((-1 : Int), (0 : Int))) a1.ok a7.ok l1 m1 l7 m7 (cmpF_ok HV.out V7.out HQ.out R7.q HJ.out)).mono ?_
       rintro e wn ⟨rfl, bb⟩
       try replace a1 := a1.below bb
       try replace a2 := a2.below bb
       try replace a3 := a3.below bb
       try replace a4 := a4.below bb
       try replace a5 := a5.below bb
       try replace a6 := a6.below bb
       try replace a7 := a7.below bb
       try replace a8 := a8.below bb
       try replace a9 := a9.below bb
       try replace a10 := a10.below bb
       try replace a11 := a11.below bb
       try replace a12 := a12.below bb
       try replace a13 := a13.below bb
       try replace a14 := a14.below bb
       try replace a15 := a15.below bb
       try replace a16 := a16.below bb
       try replace a17 := a17.below bb
       try replace a18 := a18.below bb
       try replace a19 := a19.below bb
       try replace a20 := a20.below bb
       replace bw := below_on bw bb bw.size
       clear bb
       go_upto_region 14 with fail
       have ci0 := a1.c0
       have ci1 := a1.c1
       have ci2 := a1.c2
       have cj0 := a5.c0
       have cj1 := a5.c1
       have cj2 := a5.c2
       go_wp2_with fail
       clear ci0 ci1 ci2 cj0 cj1 cj2
       refine (fcmp_any _ x1 x5 ((kz, (0 : Int))) a1.ok a5.ok l1 m1 l5 m5 (cmpF_ok HV.out V5.out HQ.out R5.q HK.out)).mono ?_
       rintro e wn ⟨rfl, bb⟩
       try replace a1 := a1.below bb
       try replace a2 := a2.below bb
       try replace a3 := a3.below bb
       try replace a4 := a4.below bb
       try replace a5 := a5.below bb
       try replace a6 := a6.below bb
       try replace a7 := a7.below bb
       try replace a8 := a8.below bb
       try replace a9 := a9.below bb
       try replace a10 := a10.below bb
       try replace a11 := a11.below bb
       try replace a12 := a12.below bb
       try replace a13 := a13.below bb
       try replace a14 := a14.below bb
       try replace a15 := a15.below bb
       try replace a16 := a16.below bb
       try replace a17 := a17.below bb
       try replace a18 := a18.below bb
       try replace a19 := a19.below bb
       try replace a20 := a20.below bb
       replace bw := below_on bw bb bw.size
       clear bb
       go_upto_region 15 with fail
       clear a1
       go_region_held3 (fun w' => w'.cell? ⟨g3, 0, none⟩ = some (.bool x3.b) ∧ w'.cell? ⟨g3, 1, none⟩ = some (.slice x3.A x3.xs.length x3.c) ∧ w'.cell? ⟨g3, 2, none⟩ = some (.slice x3.D x3.ys.length x3.d))
         (first | with_reducible exact ⟨(a3.below (by with_reducible first | exact Below.refl _ _ | exact (Below.refl _ _).drew | exact (Below.refl _ _).alloc (Nat.le_refl _) _ | exact ((Below.refl _ _).alloc (Nat.le_refl _) _).drew | exact ((Below.refl _ _).drew).alloc (Nat.le_refl _) _)).c0, (a3.below (by with_reducible first | exact Below.refl _ _ | exact (Below.refl _ _).drew | exact (Below.refl _ _).alloc (Nat.le_refl _) _ | exact ((Below.refl _ _).alloc (Nat.le_refl _) _).drew | exact ((Below.refl _ _).drew).alloc (Nat.le_refl _) _)).c1, (a3.below (by with_reducible first | exact Below.refl _ _ | exact (Below.refl _ _).drew | exact (Below.refl _ _).alloc (Nat.le_refl _) _ | exact ((Below.refl _ _).alloc (Nat.le_refl _) _).drew | exact ((Below.refl _ _).drew).alloc (Nat.le_refl _) _)).c2⟩ | go_keep)
         (first
           | (go_at_call 44
              with_reducible refine (rfpower_any _ k (lim P) hk2 hk3 HLP.out).mono ?_
              rintro e wp ⟨y2, rfl, hy2, oky2, bb⟩
              try simp only [Fx.val]
              have hfd := fun w' => run_field_den w' y2.b y2.A y2.D y2.xs.length y2.c y2.ys.length y2.d
              have HY2 := Lib.hid hy2
              clear hy2
              repeat replace bb := below_undrew bb
              replace a3 := a3.below bb
              replace a5 := a5.below bb
              replace a7 := a7.below bb
              replace bw := below_on bw bb bw.size
              clear bb)
           | (go_at_call 45
              have hy2s : y2.ys = lim P := HY2.out.2.2
              have hq3 : y2.ys.length ≤ 10000 := by rw [hy2s]; have := LPL.out; omega
              have hq4 : divS (nv y2.ys) (nv x3.ys) = (lim (P / ql.den), [], 0) := by rw [hy2s, R3.d, nv_lim ql.den]; exact HDV.out
              with_reducible refine (rdiv_any _ y2.D x3.D y2.d x3.d _ _ y2.ys x3.ys (lim (P / ql.den)) [] 0 (oky2.below (by with_reducible first | exact Below.refl _ _ | exact (Below.refl _ _).drew | exact (Below.refl _ _).alloc (Nat.le_refl _) _ | exact ((Below.refl _ _).alloc (Nat.le_refl _) _).drew | exact ((Below.refl _ _).drew).alloc (Nat.le_refl _) _)).den (a3.ok.below (by with_reducible first | exact Below.refl _ _ | exact (Below.refl _ _).drew | exact (Below.refl _ _).alloc (Nat.le_refl _) _ | exact ((Below.refl _ _).alloc (Nat.le_refl _) _).drew | exact ((Below.refl _ _).drew).alloc (Nat.le_refl _) _)).den rfl rfl hq3 m3 hq4).mono ?_
              rintro e wd ⟨AQ, cQ, AR, cR, rfl, nq, nr, bb⟩
              clear hq3 hq4 nq nr hy2s
              repeat replace bb := below_undrew bb
              replace a3 := a3.below bb
              replace a5 := a5.below bb
              replace a7 := a7.below bb
              replace bw := below_on bw bb bw.size
              clear bb))
       by_cases hql : ql = qh
       · have HQL := Lib.hid hql
         clear hql
         skip
         have ci0 := a3.c0
         have ci1 := a3.c1
         have ci2 := a3.c2
         have cj0 := a5.c0
         have cj1 := a5.c1
         have cj2 := a5.c2
         go_wp2_with fail
         clear ci0 ci1 ci2 cj0 cj1 cj2
         refine (samef_any _ x3 x5 true a3.ok a5.ok (decide_eq_true (R3.same (by rw [HQL.out]; exact R5)))).mono ?_
         rintro e wn ⟨rfl, bb⟩
         try replace a1 := a1.below bb
         try replace a2 := a2.below bb
         try replace a3 := a3.below bb
         try replace a4 := a4.below bb
         try replace a5 := a5.below bb
         try replace a6 := a6.below bb
         try replace a7 := a7.below bb
         try replace a8 := a8.below bb
         try replace a9 := a9.below bb
         try replace a10 := a10.below bb
         try replace a11 := a11.below bb
         try replace a12 := a12.below bb
         try replace a13 := a13.below bb
         try replace a14 := a14.below bb
         try replace a15 := a15.below bb
         try replace a16 := a16.below bb
         try replace a17 := a17.below bb
         try replace a18 := a18.below bb
         try replace a19 := a19.below bb
         try replace a20 := a20.below bb
         replace bw := below_on bw bb bw.size
         clear bb
         go_wp2_with fail
         refine (awakef_any _).mono ?_
         rintro e wn ⟨rfl, bb⟩
         try replace a1 := a1.below bb
         try replace a2 := a2.below bb
         try replace a3 := a3.below bb
         try replace a4 := a4.below bb
         try replace a5 := a5.below bb
         try replace a6 := a6.below bb
         try replace a7 := a7.below bb
         try replace a8 := a8.below bb
         try replace a9 := a9.below bb
         try replace a10 := a10.below bb
         try replace a11 := a11.below bb
         try replace a12 := a12.below bb
         try replace a13 := a13.below bb
         try replace a14 := a14.below bb
         try replace a15 := a15.below bb
         try replace a16 := a16.below bb
         try replace a17 := a17.below bb
         try replace a18 := a18.below bb
         try replace a19 := a19.below bb
         try replace a20 := a20.below bb
         replace bw := below_on bw bb bw.size
         clear bb
         go_wp2_with fail
         go_ret
         exact ⟨rfl, bw⟩
       · have HQL : Hid (¬ ql = qh) := hql
         clear hql
         skip
         have ci0 := a3.c0
         have ci1 := a3.c1
         have ci2 := a3.c2
         have cj0 := a5.c0
         have cj1 := a5.c1
         have cj2 := a5.c2
         go_wp2_with fail
         clear ci0 ci1 ci2 cj0 cj1 cj2
         refine (samef_any _ x3 x5 false a3.ok a5.ok (decide_eq_false (fun h => HQL.out (by rw [← R3.q, ← R5.q, Fx.q, Fx.q, h.1, h.2.1, h.2.2])))).mono ?_
         rintro e wn ⟨rfl, bb⟩
         try replace a1 := a1.below bb
         try replace a2 := a2.below bb
         try replace a3 := a3.below bb
         try replace a4 := a4.below bb
         try replace a5 := a5.below bb
         try replace a6 := a6.below bb
         try replace a7 := a7.below bb
         try replace a8 := a8.below bb
         try replace a9 := a9.below bb
         try replace a10 := a10.below bb
         try replace a11 := a11.below bb
         try replace a12 := a12.below bb
         try replace a13 := a13.below bb
         try replace a14 := a14.below bb
         try replace a15 := a15.below bb
         try replace a16 := a16.below bb
         try replace a17 := a17.below bb
         try replace a18 := a18.below bb
         try replace a19 := a19.below bb
         try replace a20 := a20.below bb
         replace bw := below_on bw bb bw.size
         clear bb
         have ci0 := a5.c0
         have ci1 := a5.c1
         have ci2 := a5.c2
         have cj0 := a7.c0
         have cj1 := a7.c1
         have cj2 := a7.c2
         go_wp2_with fail
         clear ci0 ci1 ci2 cj0 cj1 cj2
         refine (samef_any _ x5 x7 true a5.ok a7.ok (decide_eq_true (R5.same (by rw [HAL.out.resolve_left HQL.out]; exact R7)))).mono ?_
         rintro e wn ⟨rfl, bb⟩
         try replace a1 := a1.below bb
         try replace a2 := a2.below bb
         try replace a3 := a3.below bb
         try replace a4 := a4.below bb
         try replace a5 := a5.below bb
         try replace a6 := a6.below bb
         try replace a7 := a7.below bb
         try replace a8 := a8.below bb
         try replace a9 := a9.below bb
         try replace a10 := a10.below bb
         try replace a11 := a11.below bb
         try replace a12 := a12.below bb
         try replace a13 := a13.below bb
         try replace a14 := a14.below bb
         try replace a15 := a15.below bb
         try replace a16 := a16.below bb
         try replace a17 := a17.below bb
         try replace a18 := a18.below bb
         try replace a19 := a19.below bb
         try replace a20 := a20.below bb
         replace bw := below_on bw bb bw.size
         clear bb
         go_wp2_with fail
         refine (awakef_any _).mono ?_
         rintro e wn ⟨rfl, bb⟩
         try replace a1 := a1.below bb
         try replace a2 := a2.below bb
         try replace a3 := a3.below bb
         try replace a4 := a4.below bb
         try replace a5 := a5.below bb
         try replace a6 := a6.below bb
         try replace a7 := a7.below bb
         try replace a8 := a8.below bb
         try replace a9 := a9.below bb
         try replace a10 := a10.below bb
         try replace a11 := a11.below bb
         try replace a12 := a12.below bb
         try replace a13 := a13.below bb
         try replace a14 := a14.below bb
         try replace a15 := a15.below bb
         try replace a16 := a16.below bb
         try replace a17 := a17.below bb
         try replace a18 := a18.below bb
         try replace a19 := a19.below bb
         try replace a20 := a20.below bb
         replace bw := below_on bw bb bw.size
         clear bb
         go_wp2_with fail
         go_ret
         exact ⟨rfl, bw⟩
       skip)
theorem rounds_walk (w : World) (x1 : Fx) (k : Int) (ok1 : x1.ok w) (_hk : (Lit.int .i64 k).wf = true) :
    Calls Try.prog 11 #[x1.val, .int .i64 k] w fun e w' => e = .returned (.bool true) ∧ Below w.heap.size w w' := by
  have hL : lensB [x1] := by
    intro v hv
    simp only [List.mem_cons, List.not_mem_nil, or_false] at hv
    rcases hv with rfl
    exact lens_ok ok1
  cases h : longB [x1]
  · have h1 := longB_no h x1 (by simp)
    by_cases hv : x1.v
    · by_cases hk : k < 0 ∨ 256 < k
      · exact rounds_range w x1 k ok1 hL h (by omega) (by omega) hv hk
      · exact rounds_main w x1 k ok1 hL h (by omega) (by omega) hv (by omega) (by omega) (Nat.le_trans (lim_length_le_length ok1.num.u) h1.1)
    · exact rounds_bad w x1 k ok1 hL h (by omega) (by omega) hv
  · exact rounds_long w x1 k ok1 hL h
end Go.Proofs.Ytodopppoikdglaa
