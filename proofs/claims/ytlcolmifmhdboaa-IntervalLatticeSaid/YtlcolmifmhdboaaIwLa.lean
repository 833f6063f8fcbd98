/- The walk of IntervalLattice. -/
import Derived.Test.YtlcolmifmhdboaaIvPm
import Derived.Test.YtlcolmifmhdboaaIvX
import Derived.Test.YtlcolmifmhdboaaIvH
namespace Go.Proofs.Ytlcolmifmhdboaa
open Go.RowKit

set_option maxRecDepth 100000 in
theorem okI2 {w : World} {x y : Ix} (hx : x.ok w) (hy : y.ok w) (fx : x.few) (fy : y.few) : OkI w [x, y] := fun v hv => by
  simp only [List.mem_cons, List.not_mem_nil, or_false] at hv
  rcases hv with rfl | rfl
  · exact ⟨hx, fx⟩
  · exact ⟨hy, fy⟩
set_option maxRecDepth 100000 in
theorem maxR_comm (p q : Rat) : maxR p q = maxR q p := by rw [maxR, maxR]; grind
set_option maxRecDepth 100000 in
theorem minR_comm (p q : Rat) : minR p q = minR q p := by rw [minR, minR]; grind
set_option maxRecDepth 100000 in
theorem meet_comm (a b : Ix) : meetS b a = meetS a b := by
  rw [meetS, meetS, maxR_comm b.lo.q, minR_comm b.hi.q]
  by_cases h : a.v ∧ b.v ∧ maxR a.lo.q b.lo.q ≤ minR a.hi.q b.hi.q
  · rw [if_pos h, if_pos ⟨h.2.1, h.1, h.2.2⟩]
  · rw [if_neg h, if_neg (fun e => h ⟨e.2.1, e.1, e.2.2⟩)]
set_option maxRecDepth 100000 in
theorem con_meet {a b : Ix} {x : Fx} (ha : a.v) (hb : b.v) : (conS a x ∧ conS b x) ↔ (x.v ∧ maxR a.lo.q b.lo.q ≤ x.q ∧ x.q ≤ minR a.hi.q b.hi.q) := by
  rw [maxR, minR]
  constructor
  · rintro ⟨⟨_, h1, h2⟩, ⟨_, h3, h4⟩⟩
    refine ⟨h1.2.1, ?_, ?_⟩
    · have e1 := h1.2.2; have e2 := h3.2.2; grind
    · have e1 := h2.2.2; have e2 := h4.2.2; grind
  · rintro ⟨hx, h1, h2⟩
    refine ⟨⟨ha, ⟨ha.1, hx, ?_⟩, ⟨hx, ha.2.1, ?_⟩⟩, ⟨hb, ⟨hb.1, hx, ?_⟩, ⟨hx, hb.2.1, ?_⟩⟩⟩ <;> grind
set_option maxHeartbeats 4000000 in
set_option maxRecDepth 100000 in
theorem ilat_long (w : World) (x1 x2 : Ix) (x3 : Fx) (ok1 : x1.ok w) (ok2 : x2.ok w) (ok3 : x3.ok w) (h : longI [x1, x2] = true ∨ 12 < x3.xs.length ∨ 12 < x3.ys.length) :
    Calls Try.prog 7 #[x1.val, x2.val, x3.val] w fun e w' => e = .returned (.bool true) ∧ Below w.heap.size w w' := by
  have L1 := ok3.num.len
  have L2 := ok3.den.len
  cases hl : longI [x1, x2]
  · have H := Lib.hid hl
    by_cases h1 : 12 < x3.xs.length
    · clear h hl
      go_enter Try.func7, Try.ntmps7
      go_upto_region 1 with fail
      have bw := Below.refl w.heap.size w
      have a1 := (ia_alloc ok1).1
      have bb := (ia_alloc ok1).2
      have sz1 := size_box w (.cells x1.cells 41)
      clear ok1
      generalize (w.alloc (.cells x1.cells 41)) = wA at a1 bb sz1 ⊢
      try replace ok1 := ok1.below bb
      try replace ok2 := ok2.below bb
      try replace ok3 := ok3.below bb
      try replace a1 := a1.below bb
      replace bw := below_on bw bb bw.size
      clear bb
      have a2 := (ia_alloc ok2).1
      have bb := (ia_alloc ok2).2
      have sz2 := size_box wA (.cells x2.cells 41)
      rw [sz1] at a2 sz2
      clear ok2 sz1
      generalize (wA.alloc (.cells x2.cells 41)) = wB at a2 bb sz2 ⊢
      try replace ok1 := ok1.below bb
      try replace ok2 := ok2.below bb
      try replace ok3 := ok3.below bb
      try replace a1 := a1.below bb
      try replace a2 := a2.below bb
      replace bw := below_on bw bb bw.size
      clear bb
      have a3 := (fa_alloc ok3).1
      have bb := (fa_alloc ok3).2
      have sz3 := size_box wB (.cells x3.cells 25)
      rw [sz2] at a3 sz3
      clear ok3 sz2
      generalize (wB.alloc (.cells x3.cells 25)) = wm at a3 bb sz3 ⊢
      try replace ok1 := ok1.below bb
      try replace ok2 := ok2.below bb
      try replace ok3 := ok3.below bb
      try replace a1 := a1.below bb
      try replace a2 := a2.below bb
      try replace a3 := a3.below bb
      replace bw := below_on bw bb bw.size
      clear bb
      clear sz3
      have ci0 := a1.c0
      have ci1 := a1.c1
      have ci2 := a1.c2
      have ci3 := a1.c3
      have ci4 := a1.c4
      have ci5 := a1.c5
      have cj0 := a2.c0
      have cj1 := a2.c1
      have cj2 := a2.c2
      have cj3 := a2.c3
      have cj4 := a2.c4
      have cj5 := a2.c5
      go_wp2_with fail
      clear ci0 ci1 ci2 ci3 ci4 ci5
      clear cj0 cj1 cj2 cj3 cj4 cj5
      have hr := rdi_lit wm [x1, x2]
      have bb := (Below.refl wm.heap.size wm).alloc (Nat.le_refl _) (.cells (icells [x1, x2]).toArray 41)
      simp only [icells] at hr bb
      generalize (wm.alloc (.cells [Value.bool x1.lo.b, .slice x1.lo.A x1.lo.xs.length x1.lo.c, .slice x1.lo.D x1.lo.ys.length x1.lo.d, .bool x1.hi.b, .slice x1.hi.A x1.hi.xs.length x1.hi.c, .slice x1.hi.D x1.hi.ys.length x1.hi.d, .bool x2.lo.b, .slice x2.lo.A x2.lo.xs.length x2.lo.c, .slice x2.lo.D x2.lo.ys.length x2.lo.d, .bool x2.hi.b, .slice x2.hi.A x2.hi.xs.length x2.hi.c, .slice x2.hi.D x2.hi.ys.length x2.hi.d].toArray 41)) = wn at hr bb ⊢
      try replace a1 := a1.below bb
      try replace a2 := a2.below bb
      try replace a3 := a3.below bb
      replace bw := below_on bw bb bw.size
      clear bb
      refine (ilong_any wn _ 2 2 [x1, x2] false hr rfl (by simp) (lens2 a1.ok a2.ok) H.out).mono ?_
      rintro e wl ⟨rfl, rfl⟩
      clear hr
      have ck1 := a3.c1
      have ck2 := a3.c2
      go_wp2_with fail
      clear ck1 ck2
      go_wp2_with fail
      refine (awakei_any _).mono ?_
      rintro e wn ⟨rfl, bb⟩
      try replace a1 := a1.below bb
      try replace a2 := a2.below bb
      try replace a3 := a3.below bb
      replace bw := below_on bw bb bw.size
      clear bb
      go_wp2_with fail
      go_ret
      exact ⟨rfl, bw⟩
    · have h2 : 12 < x3.ys.length := by
        rcases h with h | h | h
        · rw [hl] at h; cases h
        · exact absurd h h1
        · exact h
      clear h hl
      go_enter Try.func7, Try.ntmps7
      go_upto_region 1 with fail
      have bw := Below.refl w.heap.size w
      have a1 := (ia_alloc ok1).1
      have bb := (ia_alloc ok1).2
      have sz1 := size_box w (.cells x1.cells 41)
      clear ok1
      generalize (w.alloc (.cells x1.cells 41)) = wA at a1 bb sz1 ⊢
      try replace ok1 := ok1.below bb
      try replace ok2 := ok2.below bb
      try replace ok3 := ok3.below bb
      try replace a1 := a1.below bb
      try replace a2 := a2.below bb
      try replace a3 := a3.below bb
      replace bw := below_on bw bb bw.size
      clear bb
      have a2 := (ia_alloc ok2).1
      have bb := (ia_alloc ok2).2
      have sz2 := size_box wA (.cells x2.cells 41)
      rw [sz1] at a2 sz2
      clear ok2 sz1
      generalize (wA.alloc (.cells x2.cells 41)) = wB at a2 bb sz2 ⊢
      try replace ok1 := ok1.below bb
      try replace ok2 := ok2.below bb
      try replace ok3 := ok3.below bb
      try replace a1 := a1.below bb
      try replace a2 := a2.below bb
      try replace a3 := a3.below bb
      replace bw := below_on bw bb bw.size
      clear bb
      have a3 := (fa_alloc ok3).1
      have bb := (fa_alloc ok3).2
      have sz3 := size_box wB (.cells x3.cells 25)
      rw [sz2] at a3 sz3
      clear ok3 sz2
      generalize (wB.alloc (.cells x3.cells 25)) = wm at a3 bb sz3 ⊢
      try replace ok1 := ok1.below bb
      try replace ok2 := ok2.below bb
      try replace ok3 := ok3.below bb
      try replace a1 := a1.below bb
      try replace a2 := a2.below bb
      try replace a3 := a3.below bb
      replace bw := below_on bw bb bw.size
      clear bb
      clear sz3
      have ci0 := a1.c0
      have ci1 := a1.c1
      have ci2 := a1.c2
      have ci3 := a1.c3
      have ci4 := a1.c4
      have ci5 := a1.c5
      have cj0 := a2.c0
      have cj1 := a2.c1
      have cj2 := a2.c2
      have cj3 := a2.c3
      have cj4 := a2.c4
      have cj5 := a2.c5
      go_wp2_with fail
      clear ci0 ci1 ci2 ci3 ci4 ci5
      clear cj0 cj1 cj2 cj3 cj4 cj5
      have hr := rdi_lit wm [x1, x2]
      have bb := (Below.refl wm.heap.size wm).alloc (Nat.le_refl _) (.cells (icells [x1, x2]).toArray 41)
      simp only [icells] at hr bb
      generalize (wm.alloc (.cells [Value.bool x1.lo.b, .slice x1.lo.A x1.lo.xs.length x1.lo.c, .slice x1.lo.D x1.lo.ys.length x1.lo.d, .bool x1.hi.b, .slice x1.hi.A x1.hi.xs.length x1.hi.c, .slice x1.hi.D x1.hi.ys.length x1.hi.d, .bool x2.lo.b, .slice x2.lo.A x2.lo.xs.length x2.lo.c, .slice x2.lo.D x2.lo.ys.length x2.lo.d, .bool x2.hi.b, .slice x2.hi.A x2.hi.xs.length x2.hi.c, .slice x2.hi.D x2.hi.ys.length x2.hi.d].toArray 41)) = wn at hr bb ⊢
      try replace a1 := a1.below bb
      try replace a2 := a2.below bb
      try replace a3 := a3.below bb
      replace bw := below_on bw bb bw.size
      clear bb
      refine (ilong_any wn _ 2 2 [x1, x2] false hr rfl (by simp) (lens2 a1.ok a2.ok) H.out).mono ?_
      rintro e wl ⟨rfl, rfl⟩
      clear hr
      have ck1 := a3.c1
      have ck2 := a3.c2
      go_wp2_with fail
      clear ck1 ck2
      go_wp2_with fail
      refine (awakei_any _).mono ?_
      rintro e wn ⟨rfl, bb⟩
      try replace a1 := a1.below bb
      try replace a2 := a2.below bb
      try replace a3 := a3.below bb
      replace bw := below_on bw bb bw.size
      clear bb
      go_wp2_with fail
      go_ret
      exact ⟨rfl, bw⟩
  · have H := Lib.hid hl
    clear h hl
    go_enter Try.func7, Try.ntmps7
    go_upto_region 1 with fail
    have bw := Below.refl w.heap.size w
    have a1 := (ia_alloc ok1).1
    have bb := (ia_alloc ok1).2
    have sz1 := size_box w (.cells x1.cells 41)
    clear ok1
    generalize (w.alloc (.cells x1.cells 41)) = wA at a1 bb sz1 ⊢
    try replace ok1 := ok1.below bb
    try replace ok2 := ok2.below bb
    try replace ok3 := ok3.below bb
    try replace a1 := a1.below bb
    try replace a2 := a2.below bb
    try replace a3 := a3.below bb
    replace bw := below_on bw bb bw.size
    clear bb
    have a2 := (ia_alloc ok2).1
    have bb := (ia_alloc ok2).2
    have sz2 := size_box wA (.cells x2.cells 41)
    rw [sz1] at a2 sz2
    clear ok2 sz1
    generalize (wA.alloc (.cells x2.cells 41)) = wB at a2 bb sz2 ⊢
    try replace ok1 := ok1.below bb
    try replace ok2 := ok2.below bb
    try replace ok3 := ok3.below bb
    try replace a1 := a1.below bb
    try replace a2 := a2.below bb
    try replace a3 := a3.below bb
    replace bw := below_on bw bb bw.size
    clear bb
    have a3 := (fa_alloc ok3).1
    have bb := (fa_alloc ok3).2
    have sz3 := size_box wB (.cells x3.cells 25)
    rw [sz2] at a3 sz3
    clear ok3 sz2
    generalize (wB.alloc (.cells x3.cells 25)) = wm at a3 bb sz3 ⊢
    try replace ok1 := ok1.below bb
    try replace ok2 := ok2.below bb
    try replace ok3 := ok3.below bb
    try replace a1 := a1.below bb
    try replace a2 := a2.below bb
    try replace a3 := a3.below bb
    replace bw := below_on bw bb bw.size
    clear bb
    clear sz3
    have ci0 := a1.c0
    have ci1 := a1.c1
    have ci2 := a1.c2
    have ci3 := a1.c3
    have ci4 := a1.c4
    have ci5 := a1.c5
    have cj0 := a2.c0
    have cj1 := a2.c1
    have cj2 := a2.c2
    have cj3 := a2.c3
    have cj4 := a2.c4
    have cj5 := a2.c5
    go_wp2_with fail
    clear ci0 ci1 ci2 ci3 ci4 ci5
    clear cj0 cj1 cj2 cj3 cj4 cj5
    have hr := rdi_lit wm [x1, x2]
    have bb := (Below.refl wm.heap.size wm).alloc (Nat.le_refl _) (.cells (icells [x1, x2]).toArray 41)
    simp only [icells] at hr bb
    generalize (wm.alloc (.cells [Value.bool x1.lo.b, .slice x1.lo.A x1.lo.xs.length x1.lo.c, .slice x1.lo.D x1.lo.ys.length x1.lo.d, .bool x1.hi.b, .slice x1.hi.A x1.hi.xs.length x1.hi.c, .slice x1.hi.D x1.hi.ys.length x1.hi.d, .bool x2.lo.b, .slice x2.lo.A x2.lo.xs.length x2.lo.c, .slice x2.lo.D x2.lo.ys.length x2.lo.d, .bool x2.hi.b, .slice x2.hi.A x2.hi.xs.length x2.hi.c, .slice x2.hi.D x2.hi.ys.length x2.hi.d].toArray 41)) = wn at hr bb ⊢
    try replace a1 := a1.below bb
    try replace a2 := a2.below bb
    try replace a3 := a3.below bb
    replace bw := below_on bw bb bw.size
    clear bb
    refine (ilong_any wn _ 2 2 [x1, x2] true hr rfl (by simp) (lens2 a1.ok a2.ok) H.out).mono ?_
    rintro e wl ⟨rfl, rfl⟩
    clear hr
    go_wp2_with fail
    refine (awakei_any _).mono ?_
    rintro e wn ⟨rfl, bb⟩
    try replace a1 := a1.below bb
    try replace a2 := a2.below bb
    try replace a3 := a3.below bb
    replace bw := below_on bw bb bw.size
    clear bb
    go_wp2_with fail
    go_ret
    exact ⟨rfl, bw⟩
set_option maxHeartbeats 8000000 in
set_option maxRecDepth 100000 in
theorem ilat_bad (w : World) (x1 x2 : Ix) (x3 : Fx) (ok1 : x1.ok w) (ok2 : x2.ok w) (ok3 : x3.ok w) (f1 : x1.few) (f2 : x2.few) (f3 : x3.few) (hl : longI [x1, x2] = false) (h1 : ¬ 12 < x3.xs.length) (h2 : ¬ 12 < x3.ys.length) (hv : ¬ (x1.v ∧ x2.v)) :
    Calls Try.prog 7 #[x1.val, x2.val, x3.val] w fun e w' => e = .returned (.bool true) ∧ Below w.heap.size w w' := by
  obtain ⟨S, hS⟩ : ∃ S, hullS [x1, x2] = S := ⟨_, rfl⟩
  obtain ⟨M, hM⟩ : ∃ S, meetS x1 x2 = S := ⟨_, rfl⟩
  have H := Lib.hid hl
  have HS := Lib.hid hS
  have HM := Lib.hid hM
  have E : Hid (S.2.2 = 1) := Lib.hid (by
    rw [← hS, hullS, if_neg (fun e => hv ⟨e.2 x1 (by simp), e.2 x2 (by simp)⟩)]; rfl)
  have EM : Hid (M.2.2 = false) := Lib.hid (by
    rw [← hM, meetS, if_neg (fun e => hv ⟨e.1, e.2.1⟩)])
  by_cases hc1 : conS x1 x3
  · have C1 : Hid (decide (conS x1 x3) = true) := Lib.hid (decide_eq_true hc1)
    have C2 : Hid (decide (conS x2 x3) = false) := Lib.hid (decide_eq_false (fun e => hv ⟨hc1.1, e.1⟩))
    clear hS hM hl hv hc1
    go_enter Try.func7, Try.ntmps7
    go_upto_region 1 with fail
    have bw := Below.refl w.heap.size w
    have a1 := (ia_alloc ok1).1
    have bb := (ia_alloc ok1).2
    have sz1 := size_box w (.cells x1.cells 41)
    clear ok1
    generalize (w.alloc (.cells x1.cells 41)) = wA at a1 bb sz1 ⊢
    try replace ok1 := ok1.below bb
    try replace ok2 := ok2.below bb
    try replace ok3 := ok3.below bb
    try replace ok4 := ok4.below bb
    try replace a1 := a1.below bb
    replace bw := below_on bw bb bw.size
    clear bb
    have a2 := (ia_alloc ok2).1
    have bb := (ia_alloc ok2).2
    have sz2 := size_box wA (.cells x2.cells 41)
    rw [sz1] at a2 sz2
    clear ok2 sz1
    generalize (wA.alloc (.cells x2.cells 41)) = wB at a2 bb sz2 ⊢
    try replace ok1 := ok1.below bb
    try replace ok2 := ok2.below bb
    try replace ok3 := ok3.below bb
    try replace ok4 := ok4.below bb
    try replace a1 := a1.below bb
    try replace a2 := a2.below bb
    replace bw := below_on bw bb bw.size
    clear bb
    have a3 := (fa_alloc ok3).1
    have bb := (fa_alloc ok3).2
    have sz3 := size_box wB (.cells x3.cells 25)
    rw [sz2] at a3 sz3
    clear ok3 sz2
    generalize (wB.alloc (.cells x3.cells 25)) = wm at a3 bb sz3 ⊢
    try replace ok1 := ok1.below bb
    try replace ok2 := ok2.below bb
    try replace ok3 := ok3.below bb
    try replace ok4 := ok4.below bb
    try replace a1 := a1.below bb
    try replace a2 := a2.below bb
    try replace a3 := a3.below bb
    replace bw := below_on bw bb bw.size
    clear bb
    clear sz3
    have ci0 := a1.c0
    have ci1 := a1.c1
    have ci2 := a1.c2
    have ci3 := a1.c3
    have ci4 := a1.c4
    have ci5 := a1.c5
    have cj0 := a2.c0
    have cj1 := a2.c1
    have cj2 := a2.c2
    have cj3 := a2.c3
    have cj4 := a2.c4
    have cj5 := a2.c5
    go_wp2_with fail
    clear ci0 ci1 ci2 ci3 ci4 ci5
    clear cj0 cj1 cj2 cj3 cj4 cj5
    have hr := rdi_lit wm [x1, x2]
    have bb := (Below.refl wm.heap.size wm).alloc (Nat.le_refl _) (.cells (icells [x1, x2]).toArray 41)
    simp only [icells] at hr bb
    generalize (wm.alloc (.cells [Value.bool x1.lo.b, .slice x1.lo.A x1.lo.xs.length x1.lo.c, .slice x1.lo.D x1.lo.ys.length x1.lo.d, .bool x1.hi.b, .slice x1.hi.A x1.hi.xs.length x1.hi.c, .slice x1.hi.D x1.hi.ys.length x1.hi.d, .bool x2.lo.b, .slice x2.lo.A x2.lo.xs.length x2.lo.c, .slice x2.lo.D x2.lo.ys.length x2.lo.d, .bool x2.hi.b, .slice x2.hi.A x2.hi.xs.length x2.hi.c, .slice x2.hi.D x2.hi.ys.length x2.hi.d].toArray 41)) = wn at hr bb ⊢
    try replace a1 := a1.below bb
    try replace a2 := a2.below bb
    try replace a3 := a3.below bb
    replace bw := below_on bw bb bw.size
    clear bb
    refine (ilong_any wn _ 2 2 [x1, x2] false hr rfl (by simp) (lens2 a1.ok a2.ok) H.out).mono ?_
    rintro e wl ⟨rfl, rfl⟩
    clear hr
    have ck1 := a3.c1
    have ck2 := a3.c2
    go_upto_region 3 with fail
    clear ck1 ck2
    have ci0 := a1.c0
    have ci1 := a1.c1
    have ci2 := a1.c2
    have ci3 := a1.c3
    have ci4 := a1.c4
    have ci5 := a1.c5
    have cj0 := a2.c0
    have cj1 := a2.c1
    have cj2 := a2.c2
    have cj3 := a2.c3
    have cj4 := a2.c4
    have cj5 := a2.c5
    go_wp2_with fail
    clear ci0 ci1 ci2 ci3 ci4 ci5
    clear cj0 cj1 cj2 cj3 cj4 cj5
    have hr := rdi_lit wn [x1, x2]
    have bb := (Below.refl wn.heap.size wn).alloc (Nat.le_refl _) (.cells (icells [x1, x2]).toArray 41)
    simp only [icells] at hr bb
    generalize (wn.alloc (.cells [Value.bool x1.lo.b, .slice x1.lo.A x1.lo.xs.length x1.lo.c, .slice x1.lo.D x1.lo.ys.length x1.lo.d, .bool x1.hi.b, .slice x1.hi.A x1.hi.xs.length x1.hi.c, .slice x1.hi.D x1.hi.ys.length x1.hi.d, .bool x2.lo.b, .slice x2.lo.A x2.lo.xs.length x2.lo.c, .slice x2.lo.D x2.lo.ys.length x2.lo.d, .bool x2.hi.b, .slice x2.hi.A x2.hi.xs.length x2.hi.c, .slice x2.hi.D x2.hi.ys.length x2.hi.d].toArray 41)) = wl at hr bb ⊢
    try replace a1 := a1.below bb
    try replace a2 := a2.below bb
    try replace a3 := a3.below bb
    replace bw := below_on bw bb bw.size
    clear bb
    refine (ihull_any wl _ 2 2 [x1, x2] S hr (okI2 a1.ok a2.ok f1 f2) rfl (by omega) HS.out).mono ?_
    rintro e wn ⟨x4, rfl, h1, h2, ok4, bb⟩
    rw [E.out]
    have HS4 := Lib.hid (And.intro h1 h2)
    clear h1 h2 hr
    try replace a1 := a1.below bb
    try replace a2 := a2.below bb
    try replace a3 := a3.below bb
    replace bw := below_on bw bb bw.size
    clear bb
    go_upto_region 4 with fail
    have a4 := (ia_alloc ok4).1
    have bb := (ia_alloc ok4).2
    clear ok4
    generalize (wn.alloc (.cells #[.bool x4.lo.b, .slice x4.lo.A x4.lo.xs.length x4.lo.c, .slice x4.lo.D x4.lo.ys.length x4.lo.d, .bool x4.hi.b, .slice x4.hi.A x4.hi.xs.length x4.hi.c, .slice x4.hi.D x4.hi.ys.length x4.hi.d] 41)) = wm at a4 bb ⊢
    try replace a1 := a1.below bb
    try replace a2 := a2.below bb
    try replace a3 := a3.below bb
    try replace a4 := a4.below bb
    replace bw := below_on bw bb bw.size
    clear bb
    generalize wn.heap.size = g4 at a4 ⊢
    have ci0 := a1.c0
    have ci1 := a1.c1
    have ci2 := a1.c2
    have ci3 := a1.c3
    have ci4 := a1.c4
    have ci5 := a1.c5
    have cj0 := a2.c0
    have cj1 := a2.c1
    have cj2 := a2.c2
    have cj3 := a2.c3
    have cj4 := a2.c4
    have cj5 := a2.c5
    go_wp2_with fail
    clear ci0 ci1 ci2 ci3 ci4 ci5
    clear cj0 cj1 cj2 cj3 cj4 cj5
    have hr := rdi_lit wm [x1, x2]
    have bb := (Below.refl wm.heap.size wm).alloc (Nat.le_refl _) (.cells (icells [x1, x2]).toArray 41)
    simp only [icells] at hr bb
    generalize (wm.alloc (.cells [Value.bool x1.lo.b, .slice x1.lo.A x1.lo.xs.length x1.lo.c, .slice x1.lo.D x1.lo.ys.length x1.lo.d, .bool x1.hi.b, .slice x1.hi.A x1.hi.xs.length x1.hi.c, .slice x1.hi.D x1.hi.ys.length x1.hi.d, .bool x2.lo.b, .slice x2.lo.A x2.lo.xs.length x2.lo.c, .slice x2.lo.D x2.lo.ys.length x2.lo.d, .bool x2.hi.b, .slice x2.hi.A x2.hi.xs.length x2.hi.c, .slice x2.hi.D x2.hi.ys.length x2.hi.d].toArray 41)) = wl at hr bb ⊢
    try replace a1 := a1.below bb
    try replace a2 := a2.below bb
    try replace a3 := a3.below bb
    try replace a4 := a4.below bb
    replace bw := below_on bw bb bw.size
    clear bb
    refine (rihull_any wl _ 2 2 [x1, x2] S hr (okI2 a1.ok a2.ok f1 f2) rfl (by omega) HS.out).mono ?_
    rintro e wn ⟨x5, rfl, h1, h2, ok5, bb⟩
    rw [E.out]
    have HS5 := Lib.hid (And.intro h1 h2)
    clear h1 h2 hr
    try replace a1 := a1.below bb
    try replace a2 := a2.below bb
    try replace a3 := a3.below bb
    try replace a4 := a4.below bb
    replace bw := below_on bw bb bw.size
    clear bb
    go_upto_region 5 with fail
    have a5 := (ia_alloc ok5).1
    have bb := (ia_alloc ok5).2
    clear ok5
    generalize (wn.alloc (.cells #[.bool x5.lo.b, .slice x5.lo.A x5.lo.xs.length x5.lo.c, .slice x5.lo.D x5.lo.ys.length x5.lo.d, .bool x5.hi.b, .slice x5.hi.A x5.hi.xs.length x5.hi.c, .slice x5.hi.D x5.hi.ys.length x5.hi.d] 41)) = wm at a5 bb ⊢
    try replace a1 := a1.below bb
    try replace a2 := a2.below bb
    try replace a3 := a3.below bb
    try replace a4 := a4.below bb
    try replace a5 := a5.below bb
    replace bw := below_on bw bb bw.size
    clear bb
    generalize wn.heap.size = g5 at a5 ⊢
    have ci0 := a4.c0
    have ci1 := a4.c1
    have ci2 := a4.c2
    have ci3 := a4.c3
    have ci4 := a4.c4
    have ci5 := a4.c5
    have cj0 := a5.c0
    have cj1 := a5.c1
    have cj2 := a5.c2
    have cj3 := a5.c3
    have cj4 := a5.c4
    have cj5 := a5.c5
    go_wp2_with fail
    clear ci0 ci1 ci2 ci3 ci4 ci5
    clear cj0 cj1 cj2 cj3 cj4 cj5
    refine (samei_any _ x4 x5 a4.ok a5.ok (SmI.of HS4.out.1 HS4.out.2 HS5.out.1 HS5.out.2)).mono ?_
    rintro e wn ⟨rfl, bb⟩
    try replace a1 := a1.below bb
    try replace a2 := a2.below bb
    try replace a3 := a3.below bb
    try replace a4 := a4.below bb
    try replace a5 := a5.below bb
    replace bw := below_on bw bb bw.size
    clear bb
    go_upto_region 7 with fail
    clear a5
    have ci0 := a1.c0
    have ci1 := a1.c1
    have ci2 := a1.c2
    have ci3 := a1.c3
    have ci4 := a1.c4
    have ci5 := a1.c5
    have cj0 := a2.c0
    have cj1 := a2.c1
    have cj2 := a2.c2
    have cj3 := a2.c3
    have cj4 := a2.c4
    have cj5 := a2.c5
    go_wp2_with fail
    clear ci0 ci1 ci2 ci3 ci4 ci5
    clear cj0 cj1 cj2 cj3 cj4 cj5
    refine (imeet_any _ x1 x2 M a1.ok a2.ok f1 f2 HM.out).mono ?_
    rintro e wn ⟨x6, rfl, h1, h2, ok6, bb⟩
    rw [EM.out]
    have HS6 := Lib.hid (And.intro h1 h2)
    clear h1 h2
    try replace a1 := a1.below bb
    try replace a2 := a2.below bb
    try replace a3 := a3.below bb
    try replace a4 := a4.below bb
    try replace a5 := a5.below bb
    replace bw := below_on bw bb bw.size
    clear bb
    go_upto_region 8 with fail
    have a6 := (ia_alloc ok6).1
    have bb := (ia_alloc ok6).2
    clear ok6
    generalize (wn.alloc (.cells #[.bool x6.lo.b, .slice x6.lo.A x6.lo.xs.length x6.lo.c, .slice x6.lo.D x6.lo.ys.length x6.lo.d, .bool x6.hi.b, .slice x6.hi.A x6.hi.xs.length x6.hi.c, .slice x6.hi.D x6.hi.ys.length x6.hi.d] 41)) = wm at a6 bb ⊢
    try replace a1 := a1.below bb
    try replace a2 := a2.below bb
    try replace a3 := a3.below bb
    try replace a4 := a4.below bb
    try replace a5 := a5.below bb
    try replace a6 := a6.below bb
    replace bw := below_on bw bb bw.size
    clear bb
    generalize wn.heap.size = g6 at a6 ⊢
    have ci0 := a1.c0
    have ci1 := a1.c1
    have ci2 := a1.c2
    have ci3 := a1.c3
    have ci4 := a1.c4
    have ci5 := a1.c5
    have cj0 := a3.c0
    have cj1 := a3.c1
    have cj2 := a3.c2
    go_wp2_with fail
    clear ci0 ci1 ci2 ci3 ci4 ci5
    clear cj0 cj1 cj2
    refine (icontains_any _ x1 x3 true a1.ok a3.ok f1 f3 C1.out).mono ?_
    rintro e wn ⟨rfl, bb⟩
    try replace a1 := a1.below bb
    try replace a2 := a2.below bb
    try replace a3 := a3.below bb
    try replace a4 := a4.below bb
    try replace a5 := a5.below bb
    try replace a6 := a6.below bb
    replace bw := below_on bw bb bw.size
    clear bb
    have ci0 := a2.c0
    have ci1 := a2.c1
    have ci2 := a2.c2
    have ci3 := a2.c3
    have ci4 := a2.c4
    have ci5 := a2.c5
    have cj0 := a3.c0
    have cj1 := a3.c1
    have cj2 := a3.c2
    go_wp2_with fail
    clear ci0 ci1 ci2 ci3 ci4 ci5
    clear cj0 cj1 cj2
    refine (icontains_any _ x2 x3 false a2.ok a3.ok f2 f3 C2.out).mono ?_
    rintro e wn ⟨rfl, bb⟩
    try replace a1 := a1.below bb
    try replace a2 := a2.below bb
    try replace a3 := a3.below bb
    try replace a4 := a4.below bb
    try replace a5 := a5.below bb
    try replace a6 := a6.below bb
    replace bw := below_on bw bb bw.size
    clear bb
    go_wp2_with fail
    refine (awakei_any _).mono ?_
    rintro e wn ⟨rfl, bb⟩
    try replace a1 := a1.below bb
    try replace a2 := a2.below bb
    try replace a3 := a3.below bb
    try replace a4 := a4.below bb
    try replace a5 := a5.below bb
    try replace a6 := a6.below bb
    replace bw := below_on bw bb bw.size
    clear bb
    go_wp2_with fail
    go_ret
    exact ⟨rfl, bw⟩
  · have C1 : Hid (decide (conS x1 x3) = false) := Lib.hid (decide_eq_false hc1)
    clear hS hM hl hv hc1
    go_enter Try.func7, Try.ntmps7
    go_upto_region 1 with fail
    have bw := Below.refl w.heap.size w
    have a1 := (ia_alloc ok1).1
    have bb := (ia_alloc ok1).2
    have sz1 := size_box w (.cells x1.cells 41)
    clear ok1
    generalize (w.alloc (.cells x1.cells 41)) = wA at a1 bb sz1 ⊢
    try replace ok1 := ok1.below bb
    try replace ok2 := ok2.below bb
    try replace ok3 := ok3.below bb
    try replace ok4 := ok4.below bb
    try replace a1 := a1.below bb
    try replace a2 := a2.below bb
    try replace a3 := a3.below bb
    try replace a4 := a4.below bb
    try replace a5 := a5.below bb
    try replace a6 := a6.below bb
    replace bw := below_on bw bb bw.size
    clear bb
    have a2 := (ia_alloc ok2).1
    have bb := (ia_alloc ok2).2
    have sz2 := size_box wA (.cells x2.cells 41)
    rw [sz1] at a2 sz2
    clear ok2 sz1
    generalize (wA.alloc (.cells x2.cells 41)) = wB at a2 bb sz2 ⊢
    try replace ok1 := ok1.below bb
    try replace ok2 := ok2.below bb
    try replace ok3 := ok3.below bb
    try replace ok4 := ok4.below bb
    try replace a1 := a1.below bb
    try replace a2 := a2.below bb
    try replace a3 := a3.below bb
    try replace a4 := a4.below bb
    try replace a5 := a5.below bb
    try replace a6 := a6.below bb
    replace bw := below_on bw bb bw.size
    clear bb
    have a3 := (fa_alloc ok3).1
    have bb := (fa_alloc ok3).2
    have sz3 := size_box wB (.cells x3.cells 25)
    rw [sz2] at a3 sz3
    clear ok3 sz2
    generalize (wB.alloc (.cells x3.cells 25)) = wm at a3 bb sz3 ⊢
    try replace ok1 := ok1.below bb
    try replace ok2 := ok2.below bb
    try replace ok3 := ok3.below bb
    try replace ok4 := ok4.below bb
    try replace a1 := a1.below bb
    try replace a2 := a2.below bb
    try replace a3 := a3.below bb
    try replace a4 := a4.below bb
    try replace a5 := a5.below bb
    try replace a6 := a6.below bb
    replace bw := below_on bw bb bw.size
    clear bb
    clear sz3
    have ci0 := a1.c0
    have ci1 := a1.c1
    have ci2 := a1.c2
    have ci3 := a1.c3
    have ci4 := a1.c4
    have ci5 := a1.c5
    have cj0 := a2.c0
    have cj1 := a2.c1
    have cj2 := a2.c2
    have cj3 := a2.c3
    have cj4 := a2.c4
    have cj5 := a2.c5
    go_wp2_with fail
    clear ci0 ci1 ci2 ci3 ci4 ci5
    clear cj0 cj1 cj2 cj3 cj4 cj5
    have hr := rdi_lit wm [x1, x2]
    have bb := (Below.refl wm.heap.size wm).alloc (Nat.le_refl _) (.cells (icells [x1, x2]).toArray 41)
    simp only [icells] at hr bb
    generalize (wm.alloc (.cells [Value.bool x1.lo.b, .slice x1.lo.A x1.lo.xs.length x1.lo.c, .slice x1.lo.D x1.lo.ys.length x1.lo.d, .bool x1.hi.b, .slice x1.hi.A x1.hi.xs.length x1.hi.c, .slice x1.hi.D x1.hi.ys.length x1.hi.d, .bool x2.lo.b, .slice x2.lo.A x2.lo.xs.length x2.lo.c, .slice x2.lo.D x2.lo.ys.length x2.lo.d, .bool x2.hi.b, .slice x2.hi.A x2.hi.xs.length x2.hi.c, .slice x2.hi.D x2.hi.ys.length x2.hi.d].toArray 41)) = wn at hr bb ⊢
    try replace a1 := a1.below bb
    try replace a2 := a2.below bb
    try replace a3 := a3.below bb
    try replace a4 := a4.below bb
    try replace a5 := a5.below bb
    try replace a6 := a6.below bb
    replace bw := below_on bw bb bw.size
    clear bb
    refine (ilong_any wn _ 2 2 [x1, x2] false hr rfl (by simp) (lens2 a1.ok a2.ok) H.out).mono ?_
    rintro e wl ⟨rfl, rfl⟩
    clear hr
    have ck1 := a3.c1
    have ck2 := a3.c2
    go_upto_region 3 with fail
    clear ck1 ck2
    have ci0 := a1.c0
    have ci1 := a1.c1
    have ci2 := a1.c2
    have ci3 := a1.c3
    have ci4 := a1.c4
    have ci5 := a1.c5
    have cj0 := a2.c0
    have cj1 := a2.c1
    have cj2 := a2.c2
    have cj3 := a2.c3
    have cj4 := a2.c4
    have cj5 := a2.c5
    go_wp2_with fail
    clear ci0 ci1 ci2 ci3 ci4 ci5
    clear cj0 cj1 cj2 cj3 cj4 cj5
    have hr := rdi_lit wn [x1, x2]
    have bb := (Below.refl wn.heap.size wn).alloc (Nat.le_refl _) (.cells (icells [x1, x2]).toArray 41)
    simp only [icells] at hr bb
    generalize (wn.alloc (.cells [Value.bool x1.lo.b, .slice x1.lo.A x1.lo.xs.length x1.lo.c, .slice x1.lo.D x1.lo.ys.length x1.lo.d, .bool x1.hi.b, .slice x1.hi.A x1.hi.xs.length x1.hi.c, .slice x1.hi.D x1.hi.ys.length x1.hi.d, .bool x2.lo.b, .slice x2.lo.A x2.lo.xs.length x2.lo.c, .slice x2.lo.D x2.lo.ys.length x2.lo.d, .bool x2.hi.b, .slice x2.hi.A x2.hi.xs.length x2.hi.c, .slice x2.hi.D x2.hi.ys.length x2.hi.d].toArray 41)) = wl at hr bb ⊢
    try replace a1 := a1.below bb
    try replace a2 := a2.below bb
    try replace a3 := a3.below bb
    try replace a4 := a4.below bb
    try replace a5 := a5.below bb
    try replace a6 := a6.below bb
    replace bw := below_on bw bb bw.size
    clear bb
    refine (ihull_any wl _ 2 2 [x1, x2] S hr (okI2 a1.ok a2.ok f1 f2) rfl (by omega) HS.out).mono ?_
    rintro e wn ⟨x4, rfl, h1, h2, ok4, bb⟩
    rw [E.out]
    have HS4 := Lib.hid (And.intro h1 h2)
    clear h1 h2 hr
    try replace a1 := a1.below bb
    try replace a2 := a2.below bb
    try replace a3 := a3.below bb
    try replace a4 := a4.below bb
    try replace a5 := a5.below bb
    try replace a6 := a6.below bb
    replace bw := below_on bw bb bw.size
    clear bb
    go_upto_region 4 with fail
    have a4 := (ia_alloc ok4).1
    have bb := (ia_alloc ok4).2
    clear ok4
    generalize (wn.alloc (.cells #[.bool x4.lo.b, .slice x4.lo.A x4.lo.xs.length x4.lo.c, .slice x4.lo.D x4.lo.ys.length x4.lo.d, .bool x4.hi.b, .slice x4.hi.A x4.hi.xs.length x4.hi.c, .slice x4.hi.D x4.hi.ys.length x4.hi.d] 41)) = wm at a4 bb ⊢
    try replace a1 := a1.below bb
    try replace a2 := a2.below bb
    try replace a3 := a3.below bb
    try replace a4 := a4.below bb
    try replace a5 := a5.below bb
    try replace a6 := a6.below bb
    replace bw := below_on bw bb bw.size
    clear bb
    generalize wn.heap.size = g4 at a4 ⊢
    have ci0 := a1.c0
    have ci1 := a1.c1
    have ci2 := a1.c2
    have ci3 := a1.c3
    have ci4 := a1.c4
    have ci5 := a1.c5
    have cj0 := a2.c0
    have cj1 := a2.c1
    have cj2 := a2.c2
    have cj3 := a2.c3
    have cj4 := a2.c4
    have cj5 := a2.c5
    go_wp2_with fail
    clear ci0 ci1 ci2 ci3 ci4 ci5
    clear cj0 cj1 cj2 cj3 cj4 cj5
    have hr := rdi_lit wm [x1, x2]
    have bb := (Below.refl wm.heap.size wm).alloc (Nat.le_refl _) (.cells (icells [x1, x2]).toArray 41)
    simp only [icells] at hr bb
    generalize (wm.alloc (.cells [Value.bool x1.lo.b, .slice x1.lo.A x1.lo.xs.length x1.lo.c, .slice x1.lo.D x1.lo.ys.length x1.lo.d, .bool x1.hi.b, .slice x1.hi.A x1.hi.xs.length x1.hi.c, .slice x1.hi.D x1.hi.ys.length x1.hi.d, .bool x2.lo.b, .slice x2.lo.A x2.lo.xs.length x2.lo.c, .slice x2.lo.D x2.lo.ys.length x2.lo.d, .bool x2.hi.b, .slice x2.hi.A x2.hi.xs.length x2.hi.c, .slice x2.hi.D x2.hi.ys.length x2.hi.d].toArray 41)) = wl at hr bb ⊢
    try replace a1 := a1.below bb
    try replace a2 := a2.below bb
    try replace a3 := a3.below bb
    try replace a4 := a4.below bb
    try replace a5 := a5.below bb
    try replace a6 := a6.below bb
    replace bw := below_on bw bb bw.size
    clear bb
    refine (rihull_any wl _ 2 2 [x1, x2] S hr (okI2 a1.ok a2.ok f1 f2) rfl (by omega) HS.out).mono ?_
    rintro e wn ⟨x5, rfl, h1, h2, ok5, bb⟩
    rw [E.out]
    have HS5 := Lib.hid (And.intro h1 h2)
    clear h1 h2 hr
    try replace a1 := a1.below bb
    try replace a2 := a2.below bb
    try replace a3 := a3.below bb
    try replace a4 := a4.below bb
    try replace a5 := a5.below bb
    try replace a6 := a6.below bb
    replace bw := below_on bw bb bw.size
    clear bb
    go_upto_region 5 with fail
    have a5 := (ia_alloc ok5).1
    have bb := (ia_alloc ok5).2
    clear ok5
    generalize (wn.alloc (.cells #[.bool x5.lo.b, .slice x5.lo.A x5.lo.xs.length x5.lo.c, .slice x5.lo.D x5.lo.ys.length x5.lo.d, .bool x5.hi.b, .slice x5.hi.A x5.hi.xs.length x5.hi.c, .slice x5.hi.D x5.hi.ys.length x5.hi.d] 41)) = wm at a5 bb ⊢
    try replace a1 := a1.below bb
    try replace a2 := a2.below bb
    try replace a3 := a3.below bb
    try replace a4 := a4.below bb
    try replace a5 := a5.below bb
    try replace a6 := a6.below bb
    replace bw := below_on bw bb bw.size
    clear bb
    generalize wn.heap.size = g5 at a5 ⊢
    have ci0 := a4.c0
    have ci1 := a4.c1
    have ci2 := a4.c2
    have ci3 := a4.c3
    have ci4 := a4.c4
    have ci5 := a4.c5
    have cj0 := a5.c0
    have cj1 := a5.c1
    have cj2 := a5.c2
    have cj3 := a5.c3
    have cj4 := a5.c4
    have cj5 := a5.c5
    go_wp2_with fail
    clear ci0 ci1 ci2 ci3 ci4 ci5
    clear cj0 cj1 cj2 cj3 cj4 cj5
    refine (samei_any _ x4 x5 a4.ok a5.ok (SmI.of HS4.out.1 HS4.out.2 HS5.out.1 HS5.out.2)).mono ?_
    rintro e wn ⟨rfl, bb⟩
    try replace a1 := a1.below bb
    try replace a2 := a2.below bb
    try replace a3 := a3.below bb
    try replace a4 := a4.below bb
    try replace a5 := a5.below bb
    try replace a6 := a6.below bb
    replace bw := below_on bw bb bw.size
    clear bb
    go_upto_region 7 with fail
    clear a5
    have ci0 := a1.c0
    have ci1 := a1.c1
    have ci2 := a1.c2
    have ci3 := a1.c3
    have ci4 := a1.c4
    have ci5 := a1.c5
    have cj0 := a2.c0
    have cj1 := a2.c1
    have cj2 := a2.c2
    have cj3 := a2.c3
    have cj4 := a2.c4
    have cj5 := a2.c5
    go_wp2_with fail
    clear ci0 ci1 ci2 ci3 ci4 ci5
    clear cj0 cj1 cj2 cj3 cj4 cj5
    refine (imeet_any _ x1 x2 M a1.ok a2.ok f1 f2 HM.out).mono ?_
    rintro e wn ⟨x6, rfl, h1, h2, ok6, bb⟩
    rw [EM.out]
    have HS6 := Lib.hid (And.intro h1 h2)
    clear h1 h2
    try replace a1 := a1.below bb
    try replace a2 := a2.below bb
    try replace a3 := a3.below bb
    try replace a4 := a4.below bb
    try replace a5 := a5.below bb
    try replace a6 := a6.below bb
    replace bw := below_on bw bb bw.size
    clear bb
    go_upto_region 8 with fail
    have a6 := (ia_alloc ok6).1
    have bb := (ia_alloc ok6).2
    clear ok6
    generalize (wn.alloc (.cells #[.bool x6.lo.b, .slice x6.lo.A x6.lo.xs.length x6.lo.c, .slice x6.lo.D x6.lo.ys.length x6.lo.d, .bool x6.hi.b, .slice x6.hi.A x6.hi.xs.length x6.hi.c, .slice x6.hi.D x6.hi.ys.length x6.hi.d] 41)) = wm at a6 bb ⊢
    try replace a1 := a1.below bb
    try replace a2 := a2.below bb
    try replace a3 := a3.below bb
    try replace a4 := a4.below bb
    try replace a5 := a5.below bb
    try replace a6 := a6.below bb
    replace bw := below_on bw bb bw.size
    clear bb
    generalize wn.heap.size = g6 at a6 ⊢
    have ci0 := a1.c0
    have ci1 := a1.c1
    have ci2 := a1.c2
    have ci3 := a1.c3
    have ci4 := a1.c4
    have ci5 := a1.c5
    have cj0 := a3.c0
    have cj1 := a3.c1
    have cj2 := a3.c2
    go_wp2_with fail
    clear ci0 ci1 ci2 ci3 ci4 ci5
    clear cj0 cj1 cj2
    refine (icontains_any _ x1 x3 false a1.ok a3.ok f1 f3 C1.out).mono ?_
    rintro e wn ⟨rfl, bb⟩
    try replace a1 := a1.below bb
    try replace a2 := a2.below bb
    try replace a3 := a3.below bb
    try replace a4 := a4.below bb
    try replace a5 := a5.below bb
    try replace a6 := a6.below bb
    replace bw := below_on bw bb bw.size
    clear bb
    go_wp2_with fail
    refine (awakei_any _).mono ?_
    rintro e wn ⟨rfl, bb⟩
    try replace a1 := a1.below bb
    try replace a2 := a2.below bb
    try replace a3 := a3.below bb
    try replace a4 := a4.below bb
    try replace a5 := a5.below bb
    try replace a6 := a6.below bb
    replace bw := below_on bw bb bw.size
    clear bb
    go_wp2_with fail
    go_ret
    exact ⟨rfl, bw⟩
set_option maxHeartbeats 16000000 in
set_option maxRecDepth 100000 in
theorem ilat_main (w : World) (x1 x2 : Ix) (x3 : Fx) (ok1 : x1.ok w) (ok2 : x2.ok w) (ok3 : x3.ok w) (f1 : x1.few) (f2 : x2.few) (f3 : x3.few) (hl : longI [x1, x2] = false) (h1 : ¬ 12 < x3.xs.length) (h2 : ¬ 12 < x3.ys.length) (hs1 : Sh x1) (hs2 : Sh x2) :
    Calls Try.prog 7 #[x1.val, x2.val, x3.val] w fun e w' => e = .returned (.bool true) ∧ Below w.heap.size w w' := by
  obtain ⟨S, hS⟩ : ∃ S, hullS [x1, x2] = S := ⟨_, rfl⟩
  obtain ⟨M, hM⟩ : ∃ S, meetS x1 x2 = S := ⟨_, rfl⟩
  have H := Lib.hid hl
  have HS := Lib.hid hS
  have HM := Lib.hid hM
  have H1 := Lib.hid hs1
  have H2 := Lib.hid hs2
  obtain ⟨es, hes⟩ : ∃ es, (endsL [x1, x2]).map Fx.q = es := ⟨_, rfl⟩
  have hes2 : es = [x1.lo.q, x1.hi.q, x2.lo.q, x2.hi.q] := by rw [← hes]; rfl
  have hne : es ≠ [] := by rw [hes2]; simp
  have hsz : ∀ p ∈ es, Sz p 128 128 := by
    intro p hp
    rw [hes2] at hp
    simp only [List.mem_cons, List.not_mem_nil, or_false] at hp
    rcases hp with rfl | rfl | rfl | rfl
    · exact hs1.lo.mono (by omega) (by omega)
    · exact hs1.hi.mono (by omega) (by omega)
    · exact hs2.lo.mono (by omega) (by omega)
    · exact hs2.hi.mono (by omega) (by omega)
  have hSv : S = (okS (loP es), okS (hiP es), 0) := by
    rw [← hS, hullS, if_pos ⟨by simp, fun v hv => by
      simp only [List.mem_cons, List.not_mem_nil, or_false] at hv
      rcases hv with rfl | rfl
      · exact hs1.v
      · exact hs2.v⟩, hes]
  have E : Hid (S.2.2 = 0) := Lib.hid (by rw [hSv])
  have HSV := Lib.hid hSv
  have ZL := Lib.hid (hsz _ (loP_mem hne))
  have ZH := Lib.hid (hsz _ (hiP_mem hne))
  have b1 : loP es ≤ x1.lo.q ∧ x1.hi.q ≤ hiP es ∧ loP es ≤ x2.lo.q ∧ x2.hi.q ≤ hiP es := ⟨loP_le (by rw [hes2]; simp), hiP_ge (by rw [hes2]; simp), loP_le (by rw [hes2]; simp), hiP_ge (by rw [hes2]; simp)⟩
  have HB := Lib.hid b1
  have hcm := con_meet (x := x3) hs1.v hs2.v
  have HCM := Lib.hid hcm
  obtain ⟨L, hL⟩ : ∃ q, maxR x1.lo.q x2.lo.q = q := ⟨_, rfl⟩
  obtain ⟨U, hU⟩ : ∃ q, minR x1.hi.q x2.hi.q = q := ⟨_, rfl⟩
  have hL1 : x1.lo.q ≤ L ∧ x2.lo.q ≤ L := by rw [← hL, maxR]; constructor <;> grind
  have hU1 : U ≤ x1.hi.q ∧ U ≤ x2.hi.q := by rw [← hU, minR]; constructor <;> grind
  have zL : Sz L 128 128 := by
    rw [← hL, maxR]; split
    · exact hs2.lo.mono (by omega) (by omega)
    · exact hs1.lo.mono (by omega) (by omega)
  have zU : Sz U 128 128 := by
    rw [← hU, minR]; split
    · exact hs2.hi.mono (by omega) (by omega)
    · exact hs1.hi.mono (by omega) (by omega)
  rw [hL, hU] at HCM
  have HL1 := Lib.hid hL1
  have HU1 := Lib.hid hU1
  have ZLL := Lib.hid zL
  have ZUU := Lib.hid zU
  by_cases hLU : L ≤ U
  · have hMv : M = (okS L, okS U, true) := by
      rw [← hM, meetS, hL, hU, if_pos ⟨hs1.v, hs2.v, hLU⟩]
    have EM : Hid (M.2.2 = true) := Lib.hid (by rw [hMv])
    have HMV := Lib.hid hMv
    have HLU := Lib.hid hLU
    clear hS hM hl hs1 hs2 hes hes2 hne hsz hSv b1 hcm hL1 hU1 zL zU hMv hLU hL hU
    go_enter Try.func7, Try.ntmps7
    go_upto_region 1 with fail
    have bw := Below.refl w.heap.size w
    have a1 := (ia_alloc ok1).1
    have bb := (ia_alloc ok1).2
    have sz1 := size_box w (.cells x1.cells 41)
    clear ok1
    generalize (w.alloc (.cells x1.cells 41)) = wA at a1 bb sz1 ⊢
    try replace ok1 := ok1.below bb
    try replace ok2 := ok2.below bb
    try replace ok3 := ok3.below bb
    try replace ok4 := ok4.below bb
    try replace a1 := a1.below bb
    replace bw := below_on bw bb bw.size
    clear bb
    have a2 := (ia_alloc ok2).1
    have bb := (ia_alloc ok2).2
    have sz2 := size_box wA (.cells x2.cells 41)
    rw [sz1] at a2 sz2
    clear ok2 sz1
    generalize (wA.alloc (.cells x2.cells 41)) = wB at a2 bb sz2 ⊢
    try replace ok1 := ok1.below bb
    try replace ok2 := ok2.below bb
    try replace ok3 := ok3.below bb
    try replace ok4 := ok4.below bb
    try replace a1 := a1.below bb
    try replace a2 := a2.below bb
    replace bw := below_on bw bb bw.size
    clear bb
    have a3 := (fa_alloc ok3).1
    have bb := (fa_alloc ok3).2
    have sz3 := size_box wB (.cells x3.cells 25)
    rw [sz2] at a3 sz3
    clear ok3 sz2
    generalize (wB.alloc (.cells x3.cells 25)) = wm at a3 bb sz3 ⊢
    try replace ok1 := ok1.below bb
    try replace ok2 := ok2.below bb
    try replace ok3 := ok3.below bb
    try replace ok4 := ok4.below bb
    try replace a1 := a1.below bb
    try replace a2 := a2.below bb
    try replace a3 := a3.below bb
    replace bw := below_on bw bb bw.size
    clear bb
    clear sz3
    have ci0 := a1.c0
    have ci1 := a1.c1
    have ci2 := a1.c2
    have ci3 := a1.c3
    have ci4 := a1.c4
    have ci5 := a1.c5
    have cj0 := a2.c0
    have cj1 := a2.c1
    have cj2 := a2.c2
    have cj3 := a2.c3
    have cj4 := a2.c4
    have cj5 := a2.c5
    go_wp2_with fail
    clear ci0 ci1 ci2 ci3 ci4 ci5
    clear cj0 cj1 cj2 cj3 cj4 cj5
    have hr := rdi_lit wm [x1, x2]
    have bb := (Below.refl wm.heap.size wm).alloc (Nat.le_refl _) (.cells (icells [x1, x2]).toArray 41)
    simp only [icells] at hr bb
    generalize (wm.alloc (.cells [Value.bool x1.lo.b, .slice x1.lo.A x1.lo.xs.length x1.lo.c, .slice x1.lo.D x1.lo.ys.length x1.lo.d, .bool x1.hi.b, .slice x1.hi.A x1.hi.xs.length x1.hi.c, .slice x1.hi.D x1.hi.ys.length x1.hi.d, .bool x2.lo.b, .slice x2.lo.A x2.lo.xs.length x2.lo.c, .slice x2.lo.D x2.lo.ys.length x2.lo.d, .bool x2.hi.b, .slice x2.hi.A x2.hi.xs.length x2.hi.c, .slice x2.hi.D x2.hi.ys.length x2.hi.d].toArray 41)) = wn at hr bb ⊢
    try replace a1 := a1.below bb
    try replace a2 := a2.below bb
    try replace a3 := a3.below bb
    replace bw := below_on bw bb bw.size
    clear bb
    refine (ilong_any wn _ 2 2 [x1, x2] false hr rfl (by simp) (lens2 a1.ok a2.ok) H.out).mono ?_
    rintro e wl ⟨rfl, rfl⟩
    clear hr
    have ck1 := a3.c1
    have ck2 := a3.c2
    go_upto_region 3 with fail
    clear ck1 ck2
    have ci0 := a1.c0
    have ci1 := a1.c1
    have ci2 := a1.c2
    have ci3 := a1.c3
    have ci4 := a1.c4
    have ci5 := a1.c5
    have cj0 := a2.c0
    have cj1 := a2.c1
    have cj2 := a2.c2
    have cj3 := a2.c3
    have cj4 := a2.c4
    have cj5 := a2.c5
    go_wp2_with fail
    clear ci0 ci1 ci2 ci3 ci4 ci5
    clear cj0 cj1 cj2 cj3 cj4 cj5
    have hr := rdi_lit wn [x1, x2]
    have bb := (Below.refl wn.heap.size wn).alloc (Nat.le_refl _) (.cells (icells [x1, x2]).toArray 41)
    simp only [icells] at hr bb
    generalize (wn.alloc (.cells [Value.bool x1.lo.b, .slice x1.lo.A x1.lo.xs.length x1.lo.c, .slice x1.lo.D x1.lo.ys.length x1.lo.d, .bool x1.hi.b, .slice x1.hi.A x1.hi.xs.length x1.hi.c, .slice x1.hi.D x1.hi.ys.length x1.hi.d, .bool x2.lo.b, .slice x2.lo.A x2.lo.xs.length x2.lo.c, .slice x2.lo.D x2.lo.ys.length x2.lo.d, .bool x2.hi.b, .slice x2.hi.A x2.hi.xs.length x2.hi.c, .slice x2.hi.D x2.hi.ys.length x2.hi.d].toArray 41)) = wl at hr bb ⊢
    try replace a1 := a1.below bb
    try replace a2 := a2.below bb
    try replace a3 := a3.below bb
    replace bw := below_on bw bb bw.size
    clear bb
    refine (ihull_any wl _ 2 2 [x1, x2] S hr (okI2 a1.ok a2.ok f1 f2) rfl (by omega) HS.out).mono ?_
    rintro e wn ⟨x4, rfl, h1, h2, ok4, bb⟩
    rw [E.out]
    have HS4 := Lib.hid (And.intro h1 h2)
    clear h1 h2 hr
    try replace a1 := a1.below bb
    try replace a2 := a2.below bb
    try replace a3 := a3.below bb
    replace bw := below_on bw bb bw.size
    clear bb
    go_upto_region 4 with fail
    have a4 := (ia_alloc ok4).1
    have bb := (ia_alloc ok4).2
    clear ok4
    generalize (wn.alloc (.cells #[.bool x4.lo.b, .slice x4.lo.A x4.lo.xs.length x4.lo.c, .slice x4.lo.D x4.lo.ys.length x4.lo.d, .bool x4.hi.b, .slice x4.hi.A x4.hi.xs.length x4.hi.c, .slice x4.hi.D x4.hi.ys.length x4.hi.d] 41)) = wm at a4 bb ⊢
    try replace a1 := a1.below bb
    try replace a2 := a2.below bb
    try replace a3 := a3.below bb
    try replace a4 := a4.below bb
    replace bw := below_on bw bb bw.size
    clear bb
    generalize wn.heap.size = g4 at a4 ⊢
    have ci0 := a1.c0
    have ci1 := a1.c1
    have ci2 := a1.c2
    have ci3 := a1.c3
    have ci4 := a1.c4
    have ci5 := a1.c5
    have cj0 := a2.c0
    have cj1 := a2.c1
    have cj2 := a2.c2
    have cj3 := a2.c3
    have cj4 := a2.c4
    have cj5 := a2.c5
    go_wp2_with fail
    clear ci0 ci1 ci2 ci3 ci4 ci5
    clear cj0 cj1 cj2 cj3 cj4 cj5
    have hr := rdi_lit wm [x1, x2]
    have bb := (Below.refl wm.heap.size wm).alloc (Nat.le_refl _) (.cells (icells [x1, x2]).toArray 41)
    simp only [icells] at hr bb
    generalize (wm.alloc (.cells [Value.bool x1.lo.b, .slice x1.lo.A x1.lo.xs.length x1.lo.c, .slice x1.lo.D x1.lo.ys.length x1.lo.d, .bool x1.hi.b, .slice x1.hi.A x1.hi.xs.length x1.hi.c, .slice x1.hi.D x1.hi.ys.length x1.hi.d, .bool x2.lo.b, .slice x2.lo.A x2.lo.xs.length x2.lo.c, .slice x2.lo.D x2.lo.ys.length x2.lo.d, .bool x2.hi.b, .slice x2.hi.A x2.hi.xs.length x2.hi.c, .slice x2.hi.D x2.hi.ys.length x2.hi.d].toArray 41)) = wl at hr bb ⊢
    try replace a1 := a1.below bb
    try replace a2 := a2.below bb
    try replace a3 := a3.below bb
    try replace a4 := a4.below bb
    replace bw := below_on bw bb bw.size
    clear bb
    refine (rihull_any wl _ 2 2 [x1, x2] S hr (okI2 a1.ok a2.ok f1 f2) rfl (by omega) HS.out).mono ?_
    rintro e wn ⟨x5, rfl, h1, h2, ok5, bb⟩
    rw [E.out]
    have HS5 := Lib.hid (And.intro h1 h2)
    clear h1 h2 hr
    try replace a1 := a1.below bb
    try replace a2 := a2.below bb
    try replace a3 := a3.below bb
    try replace a4 := a4.below bb
    replace bw := below_on bw bb bw.size
    clear bb
    go_upto_region 5 with fail
    have a5 := (ia_alloc ok5).1
    have bb := (ia_alloc ok5).2
    clear ok5
    generalize (wn.alloc (.cells #[.bool x5.lo.b, .slice x5.lo.A x5.lo.xs.length x5.lo.c, .slice x5.lo.D x5.lo.ys.length x5.lo.d, .bool x5.hi.b, .slice x5.hi.A x5.hi.xs.length x5.hi.c, .slice x5.hi.D x5.hi.ys.length x5.hi.d] 41)) = wm at a5 bb ⊢
    try replace a1 := a1.below bb
    try replace a2 := a2.below bb
    try replace a3 := a3.below bb
    try replace a4 := a4.below bb
    try replace a5 := a5.below bb
    replace bw := below_on bw bb bw.size
    clear bb
    generalize wn.heap.size = g5 at a5 ⊢
    have ci0 := a4.c0
    have ci1 := a4.c1
    have ci2 := a4.c2
    have ci3 := a4.c3
    have ci4 := a4.c4
    have ci5 := a4.c5
    have cj0 := a5.c0
    have cj1 := a5.c1
    have cj2 := a5.c2
    have cj3 := a5.c3
    have cj4 := a5.c4
    have cj5 := a5.c5
    go_wp2_with fail
    clear ci0 ci1 ci2 ci3 ci4 ci5
    clear cj0 cj1 cj2 cj3 cj4 cj5
    refine (samei_any _ x4 x5 a4.ok a5.ok (SmI.of HS4.out.1 HS4.out.2 HS5.out.1 HS5.out.2)).mono ?_
    rintro e wn ⟨rfl, bb⟩
    try replace a1 := a1.below bb
    try replace a2 := a2.below bb
    try replace a3 := a3.below bb
    try replace a4 := a4.below bb
    try replace a5 := a5.below bb
    replace bw := below_on bw bb bw.size
    clear bb
    go_upto_region 7 with fail
    clear a5
    have ci0 := a1.c0
    have ci1 := a1.c1
    have ci2 := a1.c2
    have ci3 := a1.c3
    have ci4 := a1.c4
    have ci5 := a1.c5
    have cj0 := a2.c0
    have cj1 := a2.c1
    have cj2 := a2.c2
    have cj3 := a2.c3
    have cj4 := a2.c4
    have cj5 := a2.c5
    go_wp2_with fail
    clear ci0 ci1 ci2 ci3 ci4 ci5
    clear cj0 cj1 cj2 cj3 cj4 cj5
    refine (imeet_any _ x1 x2 M a1.ok a2.ok f1 f2 HM.out).mono ?_
    rintro e wn ⟨x6, rfl, h1, h2, ok6, bb⟩
    rw [EM.out]
    have HS6 := Lib.hid (And.intro h1 h2)
    clear h1 h2
    try replace a1 := a1.below bb
    try replace a2 := a2.below bb
    try replace a3 := a3.below bb
    try replace a4 := a4.below bb
    try replace a5 := a5.below bb
    replace bw := below_on bw bb bw.size
    clear bb
    go_upto_region 8 with fail
    have a6 := (ia_alloc ok6).1
    have bb := (ia_alloc ok6).2
    clear ok6
    generalize (wn.alloc (.cells #[.bool x6.lo.b, .slice x6.lo.A x6.lo.xs.length x6.lo.c, .slice x6.lo.D x6.lo.ys.length x6.lo.d, .bool x6.hi.b, .slice x6.hi.A x6.hi.xs.length x6.hi.c, .slice x6.hi.D x6.hi.ys.length x6.hi.d] 41)) = wm at a6 bb ⊢
    try replace a1 := a1.below bb
    try replace a2 := a2.below bb
    try replace a3 := a3.below bb
    try replace a4 := a4.below bb
    try replace a5 := a5.below bb
    try replace a6 := a6.below bb
    replace bw := below_on bw bb bw.size
    clear bb
    generalize wn.heap.size = g6 at a6 ⊢
    have I4 := Lib.hid (IsI.of HS4.out HSV.out ZL.out ZH.out)
    have I6 := Lib.hid (show IsI x6 L U by have h := HS6.out; rw [HMV.out] at h; exact ⟨IsP.sz h.1 ZLL.out, IsP.sz h.2 ZUU.out⟩)
    have f4 := I4.out.few
    have f6 := I6.out.few
    have V6 := Lib.hid (I6.out.v HLU.out)
    have C6 : Hid (conS x6 x3 ↔ (conS x1 x3 ∧ conS x2 x3)) := Lib.hid (by
      rw [HCM.out]
      constructor
      · intro h
        refine ⟨h.2.1.2.1, ?_, ?_⟩
        · have := h.2.1.2.2; rw [I6.out.l.rp.q] at this; exact this
        · have := h.2.2.2.2; rw [I6.out.h.rp.q] at this; exact this
      · rintro ⟨hx, h1, h2⟩
        exact ⟨V6.out, ⟨I6.out.l.v, hx, by rw [I6.out.l.rp.q]; exact h1⟩, ⟨hx, I6.out.h.v, by rw [I6.out.h.rp.q]; exact h2⟩⟩)
    go_cut [75] from 61 (fun s75 w' => s75 = .bool false ∧ Ia w' w.heap.size x1 ∧ Ia w' (w.heap.size + 1) x2 ∧ Ia w' g4 x4 ∧ Ia w' g6 x6 ∧ Below w.heap.size w w')
    case first =>
      by_cases hc1 : conS x1 x3
      · by_cases hc2 : conS x2 x3
        · have D1 : Hid (decide (conS x1 x3) = true) := Lib.hid (decide_eq_true hc1)
          have D2 : Hid (decide (conS x2 x3) = true) := Lib.hid (decide_eq_true hc2)
          have D6 : Hid (decide (conS x6 x3) = true) := Lib.hid (decide_eq_true (C6.out.2 ⟨hc1, hc2⟩))
          clear hc1 hc2
          have ci0 := a1.c0
          have ci1 := a1.c1
          have ci2 := a1.c2
          have ci3 := a1.c3
          have ci4 := a1.c4
          have ci5 := a1.c5
          have cj0 := a3.c0
          have cj1 := a3.c1
          have cj2 := a3.c2
          go_wp2_with fail
          clear ci0 ci1 ci2 ci3 ci4 ci5
          clear cj0 cj1 cj2
          refine (icontains_any _ x1 x3 true a1.ok a3.ok f1 f3 D1.out).mono ?_
          rintro e wn ⟨rfl, bb⟩
          try replace a1 := a1.below bb
          try replace a2 := a2.below bb
          try replace a3 := a3.below bb
          try replace a4 := a4.below bb
          try replace a5 := a5.below bb
          try replace a6 := a6.below bb
          replace bw := below_on bw bb bw.size
          clear bb
          have ci0 := a2.c0
          have ci1 := a2.c1
          have ci2 := a2.c2
          have ci3 := a2.c3
          have ci4 := a2.c4
          have ci5 := a2.c5
          have cj0 := a3.c0
          have cj1 := a3.c1
          have cj2 := a3.c2
          go_wp2_with fail
          clear ci0 ci1 ci2 ci3 ci4 ci5
          clear cj0 cj1 cj2
          refine (icontains_any _ x2 x3 true a2.ok a3.ok f2 f3 D2.out).mono ?_
          rintro e wn ⟨rfl, bb⟩
          try replace a1 := a1.below bb
          try replace a2 := a2.below bb
          try replace a3 := a3.below bb
          try replace a4 := a4.below bb
          try replace a5 := a5.below bb
          try replace a6 := a6.below bb
          replace bw := below_on bw bb bw.size
          clear bb
          have ci0 := a6.c0
          have ci1 := a6.c1
          have ci2 := a6.c2
          have ci3 := a6.c3
          have ci4 := a6.c4
          have ci5 := a6.c5
          have cj0 := a3.c0
          have cj1 := a3.c1
          have cj2 := a3.c2
          go_wp2_with fail
          clear ci0 ci1 ci2 ci3 ci4 ci5
          clear cj0 cj1 cj2
          refine (icontains_any _ x6 x3 true a6.ok a3.ok f6 f3 D6.out).mono ?_
          rintro e wn ⟨rfl, bb⟩
          try replace a1 := a1.below bb
          try replace a2 := a2.below bb
          try replace a3 := a3.below bb
          try replace a4 := a4.below bb
          try replace a5 := a5.below bb
          try replace a6 := a6.below bb
          replace bw := below_on bw bb bw.size
          clear bb
          go_wp2_with fail
          go_meet
          case rel => exact ⟨rfl, a1, a2, a4, a6, bw⟩
        · have D1 : Hid (decide (conS x1 x3) = true) := Lib.hid (decide_eq_true hc1)
          have D2 : Hid (decide (conS x2 x3) = false) := Lib.hid (decide_eq_false hc2)
          have D6 : Hid (decide (conS x6 x3) = false) := Lib.hid (decide_eq_false (fun h => hc2 (C6.out.1 h).2))
          clear hc1 hc2
          have ci0 := a1.c0
          have ci1 := a1.c1
          have ci2 := a1.c2
          have ci3 := a1.c3
          have ci4 := a1.c4
          have ci5 := a1.c5
          have cj0 := a3.c0
          have cj1 := a3.c1
          have cj2 := a3.c2
          go_wp2_with fail
          clear ci0 ci1 ci2 ci3 ci4 ci5
          clear cj0 cj1 cj2
          refine (icontains_any _ x1 x3 true a1.ok a3.ok f1 f3 D1.out).mono ?_
          rintro e wn ⟨rfl, bb⟩
          try replace a1 := a1.below bb
          try replace a2 := a2.below bb
          try replace a3 := a3.below bb
          try replace a4 := a4.below bb
          try replace a5 := a5.below bb
          try replace a6 := a6.below bb
          replace bw := below_on bw bb bw.size
          clear bb
          have ci0 := a2.c0
          have ci1 := a2.c1
          have ci2 := a2.c2
          have ci3 := a2.c3
          have ci4 := a2.c4
          have ci5 := a2.c5
          have cj0 := a3.c0
          have cj1 := a3.c1
          have cj2 := a3.c2
          go_wp2_with fail
          clear ci0 ci1 ci2 ci3 ci4 ci5
          clear cj0 cj1 cj2
          refine (icontains_any _ x2 x3 false a2.ok a3.ok f2 f3 D2.out).mono ?_
          rintro e wn ⟨rfl, bb⟩
          try replace a1 := a1.below bb
          try replace a2 := a2.below bb
          try replace a3 := a3.below bb
          try replace a4 := a4.below bb
          try replace a5 := a5.below bb
          try replace a6 := a6.below bb
          replace bw := below_on bw bb bw.size
          clear bb
          have ci0 := a6.c0
          have ci1 := a6.c1
          have ci2 := a6.c2
          have ci3 := a6.c3
          have ci4 := a6.c4
          have ci5 := a6.c5
          have cj0 := a3.c0
          have cj1 := a3.c1
          have cj2 := a3.c2
          go_wp2_with fail
          clear ci0 ci1 ci2 ci3 ci4 ci5
          clear cj0 cj1 cj2
          refine (icontains_any _ x6 x3 false a6.ok a3.ok f6 f3 D6.out).mono ?_
          rintro e wn ⟨rfl, bb⟩
          try replace a1 := a1.below bb
          try replace a2 := a2.below bb
          try replace a3 := a3.below bb
          try replace a4 := a4.below bb
          try replace a5 := a5.below bb
          try replace a6 := a6.below bb
          replace bw := below_on bw bb bw.size
          clear bb
          go_wp2_with fail
          go_meet
          case rel => exact ⟨rfl, a1, a2, a4, a6, bw⟩
      · have D1 : Hid (decide (conS x1 x3) = false) := Lib.hid (decide_eq_false hc1)
        have D6 : Hid (decide (conS x6 x3) = false) := Lib.hid (decide_eq_false (fun h => hc1 (C6.out.1 h).1))
        clear hc1
        have ci0 := a1.c0
        have ci1 := a1.c1
        have ci2 := a1.c2
        have ci3 := a1.c3
        have ci4 := a1.c4
        have ci5 := a1.c5
        have cj0 := a3.c0
        have cj1 := a3.c1
        have cj2 := a3.c2
        go_wp2_with fail
        clear ci0 ci1 ci2 ci3 ci4 ci5
        clear cj0 cj1 cj2
        refine (icontains_any _ x1 x3 false a1.ok a3.ok f1 f3 D1.out).mono ?_
        rintro e wn ⟨rfl, bb⟩
        try replace a1 := a1.below bb
        try replace a2 := a2.below bb
        try replace a3 := a3.below bb
        try replace a4 := a4.below bb
        try replace a5 := a5.below bb
        try replace a6 := a6.below bb
        replace bw := below_on bw bb bw.size
        clear bb
        have ci0 := a6.c0
        have ci1 := a6.c1
        have ci2 := a6.c2
        have ci3 := a6.c3
        have ci4 := a6.c4
        have ci5 := a6.c5
        have cj0 := a3.c0
        have cj1 := a3.c1
        have cj2 := a3.c2
        go_wp2_with fail
        clear ci0 ci1 ci2 ci3 ci4 ci5
        clear cj0 cj1 cj2
        refine (icontains_any _ x6 x3 false a6.ok a3.ok f6 f3 D6.out).mono ?_
        rintro e wn ⟨rfl, bb⟩
        try replace a1 := a1.below bb
        try replace a2 := a2.below bb
        try replace a3 := a3.below bb
        try replace a4 := a4.below bb
        try replace a5 := a5.below bb
        try replace a6 := a6.below bb
        replace bw := below_on bw bb bw.size
        clear bb
        go_wp2_with fail
        go_meet
        case rel => exact ⟨rfl, a1, a2, a4, a6, bw⟩
    case rest =>
      clear a1 a2 a3 a4 a6 bw
      obtain ⟨rfl, a1, a2, a4, a6, bw⟩ := hcut
      go_upto_region 12 with fail
      generalize wc = wm at *
      have ci0 := a2.c0
      have ci1 := a2.c1
      have ci2 := a2.c2
      have ci3 := a2.c3
      have ci4 := a2.c4
      have ci5 := a2.c5
      have cj0 := a1.c0
      have cj1 := a1.c1
      have cj2 := a1.c2
      have cj3 := a1.c3
      have cj4 := a1.c4
      have cj5 := a1.c5
      go_wp2_with fail
      clear ci0 ci1 ci2 ci3 ci4 ci5
      clear cj0 cj1 cj2 cj3 cj4 cj5
      refine (imeet_any _ x2 x1 M a2.ok a1.ok f2 f1 ((meet_comm x1 x2).trans HM.out)).mono ?_
      rintro e wn ⟨x7, rfl, h1, h2, ok7, bb⟩
      rw [EM.out]
      have HS7 := Lib.hid (And.intro h1 h2)
      clear h1 h2
      try replace a1 := a1.below bb
      try replace a2 := a2.below bb
      try replace a3 := a3.below bb
      try replace a4 := a4.below bb
      try replace a5 := a5.below bb
      try replace a6 := a6.below bb
      replace bw := below_on bw bb bw.size
      clear bb
      go_upto_region 13 with fail
      have a7 := (ia_alloc ok7).1
      have bb := (ia_alloc ok7).2
      clear ok7
      generalize (wn.alloc (.cells #[.bool x7.lo.b, .slice x7.lo.A x7.lo.xs.length x7.lo.c, .slice x7.lo.D x7.lo.ys.length x7.lo.d, .bool x7.hi.b, .slice x7.hi.A x7.hi.xs.length x7.hi.c, .slice x7.hi.D x7.hi.ys.length x7.hi.d] 41)) = wm at a7 bb ⊢
      try replace a1 := a1.below bb
      try replace a2 := a2.below bb
      try replace a3 := a3.below bb
      try replace a4 := a4.below bb
      try replace a5 := a5.below bb
      try replace a6 := a6.below bb
      try replace a7 := a7.below bb
      replace bw := below_on bw bb bw.size
      clear bb
      generalize wn.heap.size = g7 at a7 ⊢
      have K1 : Hid (insS x1 x4) := Lib.hid ⟨H1.out.v, I4.out.v (Rat.le_trans HB.out.1 (Rat.le_trans H1.out.v.2.2 HB.out.2.1)), ⟨I4.out.l.v, H1.out.v.1, by rw [I4.out.l.rp.q]; exact HB.out.1⟩, ⟨H1.out.v.2.1, I4.out.h.v, by rw [I4.out.h.rp.q]; exact HB.out.2.1⟩⟩
      have K2 : Hid (insS x2 x4) := Lib.hid ⟨H2.out.v, I4.out.v (Rat.le_trans HB.out.1 (Rat.le_trans H1.out.v.2.2 HB.out.2.1)), ⟨I4.out.l.v, H2.out.v.1, by rw [I4.out.l.rp.q]; exact HB.out.2.2.1⟩, ⟨H2.out.v.2.1, I4.out.h.v, by rw [I4.out.h.rp.q]; exact HB.out.2.2.2⟩⟩
      have ci0 := a1.c0
      have ci1 := a1.c1
      have ci2 := a1.c2
      have ci3 := a1.c3
      have ci4 := a1.c4
      have ci5 := a1.c5
      have cj0 := a4.c0
      have cj1 := a4.c1
      have cj2 := a4.c2
      have cj3 := a4.c3
      have cj4 := a4.c4
      have cj5 := a4.c5
      go_wp2_with fail
      clear ci0 ci1 ci2 ci3 ci4 ci5
      clear cj0 cj1 cj2 cj3 cj4 cj5
      refine (iinside_any _ x1 x4 true a1.ok a4.ok f1 f4 (decide_eq_true K1.out)).mono ?_
      rintro e wn ⟨rfl, bb⟩
      try replace a1 := a1.below bb
      try replace a2 := a2.below bb
      try replace a3 := a3.below bb
      try replace a4 := a4.below bb
      try replace a5 := a5.below bb
      try replace a6 := a6.below bb
      try replace a7 := a7.below bb
      replace bw := below_on bw bb bw.size
      clear bb
      have ci0 := a2.c0
      have ci1 := a2.c1
      have ci2 := a2.c2
      have ci3 := a2.c3
      have ci4 := a2.c4
      have ci5 := a2.c5
      have cj0 := a4.c0
      have cj1 := a4.c1
      have cj2 := a4.c2
      have cj3 := a4.c3
      have cj4 := a4.c4
      have cj5 := a4.c5
      go_wp2_with fail
      clear ci0 ci1 ci2 ci3 ci4 ci5
      clear cj0 cj1 cj2 cj3 cj4 cj5
      refine (iinside_any _ x2 x4 true a2.ok a4.ok f2 f4 (decide_eq_true K2.out)).mono ?_
      rintro e wn ⟨rfl, bb⟩
      try replace a1 := a1.below bb
      try replace a2 := a2.below bb
      try replace a3 := a3.below bb
      try replace a4 := a4.below bb
      try replace a5 := a5.below bb
      try replace a6 := a6.below bb
      try replace a7 := a7.below bb
      replace bw := below_on bw bb bw.size
      clear bb
      have ci0 := a6.c0
      have ci1 := a6.c1
      have ci2 := a6.c2
      have ci3 := a6.c3
      have ci4 := a6.c4
      have ci5 := a6.c5
      have cj0 := a7.c0
      have cj1 := a7.c1
      have cj2 := a7.c2
      have cj3 := a7.c3
      have cj4 := a7.c4
      have cj5 := a7.c5
      go_wp2_with fail
      clear ci0 ci1 ci2 ci3 ci4 ci5
      clear cj0 cj1 cj2 cj3 cj4 cj5
      refine (samei_any _ x6 x7 a6.ok a7.ok (SmI.of HS6.out.1 HS6.out.2 HS7.out.1 HS7.out.2)).mono ?_
      rintro e wn ⟨rfl, bb⟩
      try replace a1 := a1.below bb
      try replace a2 := a2.below bb
      try replace a3 := a3.below bb
      try replace a4 := a4.below bb
      try replace a5 := a5.below bb
      try replace a6 := a6.below bb
      try replace a7 := a7.below bb
      replace bw := below_on bw bb bw.size
      clear bb
      have N1 : Hid (insS x6 x1) := Lib.hid ⟨V6.out, H1.out.v, ⟨H1.out.v.1, I6.out.l.v, by rw [I6.out.l.rp.q]; exact HL1.out.1⟩, ⟨I6.out.h.v, H1.out.v.2.1, by rw [I6.out.h.rp.q]; exact HU1.out.1⟩⟩
      have N2 : Hid (insS x6 x2) := Lib.hid ⟨V6.out, H2.out.v, ⟨H2.out.v.1, I6.out.l.v, by rw [I6.out.l.rp.q]; exact HL1.out.2⟩, ⟨I6.out.h.v, H2.out.v.2.1, by rw [I6.out.h.rp.q]; exact HU1.out.2⟩⟩
      have ci0 := a6.c0
      have ci1 := a6.c1
      have ci2 := a6.c2
      have ci3 := a6.c3
      have ci4 := a6.c4
      have ci5 := a6.c5
      have cj0 := a1.c0
      have cj1 := a1.c1
      have cj2 := a1.c2
      have cj3 := a1.c3
      have cj4 := a1.c4
      have cj5 := a1.c5
      go_wp2_with fail
      clear ci0 ci1 ci2 ci3 ci4 ci5
      clear cj0 cj1 cj2 cj3 cj4 cj5
      refine (iinside_any _ x6 x1 true a6.ok a1.ok f6 f1 (decide_eq_true N1.out)).mono ?_
      rintro e wn ⟨rfl, bb⟩
      try replace a1 := a1.below bb
      try replace a2 := a2.below bb
      try replace a3 := a3.below bb
      try replace a4 := a4.below bb
      try replace a5 := a5.below bb
      try replace a6 := a6.below bb
      try replace a7 := a7.below bb
      replace bw := below_on bw bb bw.size
      clear bb
      have ci0 := a6.c0
      have ci1 := a6.c1
      have ci2 := a6.c2
      have ci3 := a6.c3
      have ci4 := a6.c4
      have ci5 := a6.c5
      have cj0 := a2.c0
      have cj1 := a2.c1
      have cj2 := a2.c2
      have cj3 := a2.c3
      have cj4 := a2.c4
      have cj5 := a2.c5
      go_wp2_with fail
      clear ci0 ci1 ci2 ci3 ci4 ci5
      clear cj0 cj1 cj2 cj3 cj4 cj5
      refine (iinside_any _ x6 x2 true a6.ok a2.ok f6 f2 (decide_eq_true N2.out)).mono ?_
      rintro e wn ⟨rfl, bb⟩
      try replace a1 := a1.below bb
      try replace a2 := a2.below bb
      try replace a3 := a3.below bb
      try replace a4 := a4.below bb
      try replace a5 := a5.below bb
      try replace a6 := a6.below bb
      try replace a7 := a7.below bb
      replace bw := below_on bw bb bw.size
      clear bb
      go_wp2_with fail
      refine (awakei_any _).mono ?_
      rintro e wn ⟨rfl, bb⟩
      try replace a1 := a1.below bb
      try replace a2 := a2.below bb
      try replace a3 := a3.below bb
      try replace a4 := a4.below bb
      try replace a5 := a5.below bb
      try replace a6 := a6.below bb
      try replace a7 := a7.below bb
      replace bw := below_on bw bb bw.size
      clear bb
      go_wp2_with fail
      go_ret
      exact ⟨rfl, bw⟩
  · have hMv : M = (nilF, nilF, false) := by
      rw [← hM, meetS, hL, hU, if_neg (fun e => hLU e.2.2)]
    have EM : Hid (M.2.2 = false) := Lib.hid (by rw [hMv])
    have C6 : Hid (¬ (conS x1 x3 ∧ conS x2 x3)) := fun h => hLU (Rat.le_trans (HCM.out.1 h).2.1 (HCM.out.1 h).2.2)
    clear hS hM hl hs1 hs2 hes hes2 hne hsz hSv b1 hcm hL1 hU1 zL zU hMv hLU hL hU
    go_enter Try.func7, Try.ntmps7
    go_upto_region 1 with fail
    have bw := Below.refl w.heap.size w
    have a1 := (ia_alloc ok1).1
    have bb := (ia_alloc ok1).2
    have sz1 := size_box w (.cells x1.cells 41)
    clear ok1
    generalize (w.alloc (.cells x1.cells 41)) = wA at a1 bb sz1 ⊢
    try replace ok1 := ok1.below bb
    try replace ok2 := ok2.below bb
    try replace ok3 := ok3.below bb
    try replace ok4 := ok4.below bb
    try replace a1 := a1.below bb
    try replace a2 := a2.below bb
    try replace a3 := a3.below bb
    try replace a4 := a4.below bb
    try replace a5 := a5.below bb
    try replace a6 := a6.below bb
    try replace a7 := a7.below bb
    replace bw := below_on bw bb bw.size
    clear bb
    have a2 := (ia_alloc ok2).1
    have bb := (ia_alloc ok2).2
    have sz2 := size_box wA (.cells x2.cells 41)
    rw [sz1] at a2 sz2
    clear ok2 sz1
    generalize (wA.alloc (.cells x2.cells 41)) = wB at a2 bb sz2 ⊢
    try replace ok1 := ok1.below bb
    try replace ok2 := ok2.below bb
    try replace ok3 := ok3.below bb
    try replace ok4 := ok4.below bb
    try replace a1 := a1.below bb
    try replace a2 := a2.below bb
    try replace a3 := a3.below bb
    try replace a4 := a4.below bb
    try replace a5 := a5.below bb
    try replace a6 := a6.below bb
    try replace a7 := a7.below bb
    replace bw := below_on bw bb bw.size
    clear bb
    have a3 := (fa_alloc ok3).1
    have bb := (fa_alloc ok3).2
    have sz3 := size_box wB (.cells x3.cells 25)
    rw [sz2] at a3 sz3
    clear ok3 sz2
    generalize (wB.alloc (.cells x3.cells 25)) = wm at a3 bb sz3 ⊢
    try replace ok1 := ok1.below bb
    try replace ok2 := ok2.below bb
    try replace ok3 := ok3.below bb
    try replace ok4 := ok4.below bb
    try replace a1 := a1.below bb
    try replace a2 := a2.below bb
    try replace a3 := a3.below bb
    try replace a4 := a4.below bb
    try replace a5 := a5.below bb
    try replace a6 := a6.below bb
    try replace a7 := a7.below bb
    replace bw := below_on bw bb bw.size
    clear bb
    clear sz3
    have ci0 := a1.c0
    have ci1 := a1.c1
    have ci2 := a1.c2
    have ci3 := a1.c3
    have ci4 := a1.c4
    have ci5 := a1.c5
    have cj0 := a2.c0
    have cj1 := a2.c1
    have cj2 := a2.c2
    have cj3 := a2.c3
    have cj4 := a2.c4
    have cj5 := a2.c5
    go_wp2_with fail
    clear ci0 ci1 ci2 ci3 ci4 ci5
    clear cj0 cj1 cj2 cj3 cj4 cj5
    have hr := rdi_lit wm [x1, x2]
    have bb := (Below.refl wm.heap.size wm).alloc (Nat.le_refl _) (.cells (icells [x1, x2]).toArray 41)
    simp only [icells] at hr bb
    generalize (wm.alloc (.cells [Value.bool x1.lo.b, .slice x1.lo.A x1.lo.xs.length x1.lo.c, .slice x1.lo.D x1.lo.ys.length x1.lo.d, .bool x1.hi.b, .slice x1.hi.A x1.hi.xs.length x1.hi.c, .slice x1.hi.D x1.hi.ys.length x1.hi.d, .bool x2.lo.b, .slice x2.lo.A x2.lo.xs.length x2.lo.c, .slice x2.lo.D x2.lo.ys.length x2.lo.d, .bool x2.hi.b, .slice x2.hi.A x2.hi.xs.length x2.hi.c, .slice x2.hi.D x2.hi.ys.length x2.hi.d].toArray 41)) = wn at hr bb ⊢
    try replace a1 := a1.below bb
    try replace a2 := a2.below bb
    try replace a3 := a3.below bb
    try replace a4 := a4.below bb
    try replace a5 := a5.below bb
    try replace a6 := a6.below bb
    try replace a7 := a7.below bb
    replace bw := below_on bw bb bw.size
    clear bb
    refine (ilong_any wn _ 2 2 [x1, x2] false hr rfl (by simp) (lens2 a1.ok a2.ok) H.out).mono ?_
    rintro e wl ⟨rfl, rfl⟩
    clear hr
    have ck1 := a3.c1
    have ck2 := a3.c2
    go_upto_region 3 with fail
    clear ck1 ck2
    have ci0 := a1.c0
    have ci1 := a1.c1
    have ci2 := a1.c2
    have ci3 := a1.c3
    have ci4 := a1.c4
    have ci5 := a1.c5
    have cj0 := a2.c0
    have cj1 := a2.c1
    have cj2 := a2.c2
    have cj3 := a2.c3
    have cj4 := a2.c4
    have cj5 := a2.c5
    go_wp2_with fail
    clear ci0 ci1 ci2 ci3 ci4 ci5
    clear cj0 cj1 cj2 cj3 cj4 cj5
    have hr := rdi_lit wn [x1, x2]
    have bb := (Below.refl wn.heap.size wn).alloc (Nat.le_refl _) (.cells (icells [x1, x2]).toArray 41)
    simp only [icells] at hr bb
    generalize (wn.alloc (.cells [Value.bool x1.lo.b, .slice x1.lo.A x1.lo.xs.length x1.lo.c, .slice x1.lo.D x1.lo.ys.length x1.lo.d, .bool x1.hi.b, .slice x1.hi.A x1.hi.xs.length x1.hi.c, .slice x1.hi.D x1.hi.ys.length x1.hi.d, .bool x2.lo.b, .slice x2.lo.A x2.lo.xs.length x2.lo.c, .slice x2.lo.D x2.lo.ys.length x2.lo.d, .bool x2.hi.b, .slice x2.hi.A x2.hi.xs.length x2.hi.c, .slice x2.hi.D x2.hi.ys.length x2.hi.d].toArray 41)) = wl at hr bb ⊢
    try replace a1 := a1.below bb
    try replace a2 := a2.below bb
    try replace a3 := a3.below bb
    try replace a4 := a4.below bb
    try replace a5 := a5.below bb
    try replace a6 := a6.below bb
    try replace a7 := a7.below bb
    replace bw := below_on bw bb bw.size
    clear bb
    refine (ihull_any wl _ 2 2 [x1, x2] S hr (okI2 a1.ok a2.ok f1 f2) rfl (by omega) HS.out).mono ?_
    rintro e wn ⟨x4, rfl, h1, h2, ok4, bb⟩
    rw [E.out]
    have HS4 := Lib.hid (And.intro h1 h2)
    clear h1 h2 hr
    try replace a1 := a1.below bb
    try replace a2 := a2.below bb
    try replace a3 := a3.below bb
    try replace a4 := a4.below bb
    try replace a5 := a5.below bb
    try replace a6 := a6.below bb
    try replace a7 := a7.below bb
    replace bw := below_on bw bb bw.size
    clear bb
    go_upto_region 4 with fail
    have a4 := (ia_alloc ok4).1
    have bb := (ia_alloc ok4).2
    clear ok4
    generalize (wn.alloc (.cells #[.bool x4.lo.b, .slice x4.lo.A x4.lo.xs.length x4.lo.c, .slice x4.lo.D x4.lo.ys.length x4.lo.d, .bool x4.hi.b, .slice x4.hi.A x4.hi.xs.length x4.hi.c, .slice x4.hi.D x4.hi.ys.length x4.hi.d] 41)) = wm at a4 bb ⊢
    try replace a1 := a1.below bb
    try replace a2 := a2.below bb
    try replace a3 := a3.below bb
    try replace a4 := a4.below bb
    try replace a5 := a5.below bb
    try replace a6 := a6.below bb
    try replace a7 := a7.below bb
    replace bw := below_on bw bb bw.size
    clear bb
    generalize wn.heap.size = g4 at a4 ⊢
    have ci0 := a1.c0
    have ci1 := a1.c1
    have ci2 := a1.c2
    have ci3 := a1.c3
    have ci4 := a1.c4
    have ci5 := a1.c5
    have cj0 := a2.c0
    have cj1 := a2.c1
    have cj2 := a2.c2
    have cj3 := a2.c3
    have cj4 := a2.c4
    have cj5 := a2.c5
    go_wp2_with fail
    clear ci0 ci1 ci2 ci3 ci4 ci5
    clear cj0 cj1 cj2 cj3 cj4 cj5
    have hr := rdi_lit wm [x1, x2]
    have bb := (Below.refl wm.heap.size wm).alloc (Nat.le_refl _) (.cells (icells [x1, x2]).toArray 41)
    simp only [icells] at hr bb
    generalize (wm.alloc (.cells [Value.bool x1.lo.b, .slice x1.lo.A x1.lo.xs.length x1.lo.c, .slice x1.lo.D x1.lo.ys.length x1.lo.d, .bool x1.hi.b, .slice x1.hi.A x1.hi.xs.length x1.hi.c, .slice x1.hi.D x1.hi.ys.length x1.hi.d, .bool x2.lo.b, .slice x2.lo.A x2.lo.xs.length x2.lo.c, .slice x2.lo.D x2.lo.ys.length x2.lo.d, .bool x2.hi.b, .slice x2.hi.A x2.hi.xs.length x2.hi.c, .slice x2.hi.D x2.hi.ys.length x2.hi.d].toArray 41)) = wl at hr bb ⊢
    try replace a1 := a1.below bb
    try replace a2 := a2.below bb
    try replace a3 := a3.below bb
    try replace a4 := a4.below bb
    try replace a5 := a5.below bb
    try replace a6 := a6.below bb
    try replace a7 := a7.below bb
    replace bw := below_on bw bb bw.size
    clear bb
    refine (rihull_any wl _ 2 2 [x1, x2] S hr (okI2 a1.ok a2.ok f1 f2) rfl (by omega) HS.out).mono ?_
    rintro e wn ⟨x5, rfl, h1, h2, ok5, bb⟩
    rw [E.out]
    have HS5 := Lib.hid (And.intro h1 h2)
    clear h1 h2 hr
    try replace a1 := a1.below bb
    try replace a2 := a2.below bb
    try replace a3 := a3.below bb
    try replace a4 := a4.below bb
    try replace a5 := a5.below bb
    try replace a6 := a6.below bb
    try replace a7 := a7.below bb
    replace bw := below_on bw bb bw.size
    clear bb
    go_upto_region 5 with fail
    have a5 := (ia_alloc ok5).1
    have bb := (ia_alloc ok5).2
    clear ok5
    generalize (wn.alloc (.cells #[.bool x5.lo.b, .slice x5.lo.A x5.lo.xs.length x5.lo.c, .slice x5.lo.D x5.lo.ys.length x5.lo.d, .bool x5.hi.b, .slice x5.hi.A x5.hi.xs.length x5.hi.c, .slice x5.hi.D x5.hi.ys.length x5.hi.d] 41)) = wm at a5 bb ⊢
    try replace a1 := a1.below bb
    try replace a2 := a2.below bb
    try replace a3 := a3.below bb
    try replace a4 := a4.below bb
    try replace a5 := a5.below bb
    try replace a6 := a6.below bb
    try replace a7 := a7.below bb
    replace bw := below_on bw bb bw.size
    clear bb
    generalize wn.heap.size = g5 at a5 ⊢
    have ci0 := a4.c0
    have ci1 := a4.c1
    have ci2 := a4.c2
    have ci3 := a4.c3
    have ci4 := a4.c4
    have ci5 := a4.c5
    have cj0 := a5.c0
    have cj1 := a5.c1
    have cj2 := a5.c2
    have cj3 := a5.c3
    have cj4 := a5.c4
    have cj5 := a5.c5
    go_wp2_with fail
    clear ci0 ci1 ci2 ci3 ci4 ci5
    clear cj0 cj1 cj2 cj3 cj4 cj5
    refine (samei_any _ x4 x5 a4.ok a5.ok (SmI.of HS4.out.1 HS4.out.2 HS5.out.1 HS5.out.2)).mono ?_
    rintro e wn ⟨rfl, bb⟩
    try replace a1 := a1.below bb
    try replace a2 := a2.below bb
    try replace a3 := a3.below bb
    try replace a4 := a4.below bb
    try replace a5 := a5.below bb
    try replace a6 := a6.below bb
    try replace a7 := a7.below bb
    replace bw := below_on bw bb bw.size
    clear bb
    go_upto_region 7 with fail
    clear a5
    have ci0 := a1.c0
    have ci1 := a1.c1
    have ci2 := a1.c2
    have ci3 := a1.c3
    have ci4 := a1.c4
    have ci5 := a1.c5
    have cj0 := a2.c0
    have cj1 := a2.c1
    have cj2 := a2.c2
    have cj3 := a2.c3
    have cj4 := a2.c4
    have cj5 := a2.c5
    go_wp2_with fail
    clear ci0 ci1 ci2 ci3 ci4 ci5
    clear cj0 cj1 cj2 cj3 cj4 cj5
    refine (imeet_any _ x1 x2 M a1.ok a2.ok f1 f2 HM.out).mono ?_
    rintro e wn ⟨x6, rfl, h1, h2, ok6, bb⟩
    rw [EM.out]
    have HS6 := Lib.hid (And.intro h1 h2)
    clear h1 h2
    try replace a1 := a1.below bb
    try replace a2 := a2.below bb
    try replace a3 := a3.below bb
    try replace a4 := a4.below bb
    try replace a5 := a5.below bb
    try replace a6 := a6.below bb
    try replace a7 := a7.below bb
    replace bw := below_on bw bb bw.size
    clear bb
    go_upto_region 8 with fail
    have a6 := (ia_alloc ok6).1
    have bb := (ia_alloc ok6).2
    clear ok6
    generalize (wn.alloc (.cells #[.bool x6.lo.b, .slice x6.lo.A x6.lo.xs.length x6.lo.c, .slice x6.lo.D x6.lo.ys.length x6.lo.d, .bool x6.hi.b, .slice x6.hi.A x6.hi.xs.length x6.hi.c, .slice x6.hi.D x6.hi.ys.length x6.hi.d] 41)) = wm at a6 bb ⊢
    try replace a1 := a1.below bb
    try replace a2 := a2.below bb
    try replace a3 := a3.below bb
    try replace a4 := a4.below bb
    try replace a5 := a5.below bb
    try replace a6 := a6.below bb
    try replace a7 := a7.below bb
    replace bw := below_on bw bb bw.size
    clear bb
    generalize wn.heap.size = g6 at a6 ⊢
    have I4 := Lib.hid (IsI.of HS4.out HSV.out ZL.out ZH.out)
    have f4 := I4.out.few
    go_cut [75] from 61 (fun s75 w' => s75 = .bool false ∧ Ia w' w.heap.size x1 ∧ Ia w' (w.heap.size + 1) x2 ∧ Ia w' g4 x4 ∧ Ia w' g6 x6 ∧ Below w.heap.size w w')
    case first =>
      by_cases hc1 : conS x1 x3
      · have D1 : Hid (decide (conS x1 x3) = true) := Lib.hid (decide_eq_true hc1)
        have D2 : Hid (decide (conS x2 x3) = false) := Lib.hid (decide_eq_false (fun h => C6.out ⟨hc1, h⟩))
        clear hc1
        have ci0 := a1.c0
        have ci1 := a1.c1
        have ci2 := a1.c2
        have ci3 := a1.c3
        have ci4 := a1.c4
        have ci5 := a1.c5
        have cj0 := a3.c0
        have cj1 := a3.c1
        have cj2 := a3.c2
        go_wp2_with fail
        clear ci0 ci1 ci2 ci3 ci4 ci5
        clear cj0 cj1 cj2
        refine (icontains_any _ x1 x3 true a1.ok a3.ok f1 f3 D1.out).mono ?_
        rintro e wn ⟨rfl, bb⟩
        try replace a1 := a1.below bb
        try replace a2 := a2.below bb
        try replace a3 := a3.below bb
        try replace a4 := a4.below bb
        try replace a5 := a5.below bb
        try replace a6 := a6.below bb
        try replace a7 := a7.below bb
        replace bw := below_on bw bb bw.size
        clear bb
        have ci0 := a2.c0
        have ci1 := a2.c1
        have ci2 := a2.c2
        have ci3 := a2.c3
        have ci4 := a2.c4
        have ci5 := a2.c5
        have cj0 := a3.c0
        have cj1 := a3.c1
        have cj2 := a3.c2
        go_wp2_with fail
        clear ci0 ci1 ci2 ci3 ci4 ci5
        clear cj0 cj1 cj2
        refine (icontains_any _ x2 x3 false a2.ok a3.ok f2 f3 D2.out).mono ?_
        rintro e wn ⟨rfl, bb⟩
        try replace a1 := a1.below bb
        try replace a2 := a2.below bb
        try replace a3 := a3.below bb
        try replace a4 := a4.below bb
        try replace a5 := a5.below bb
        try replace a6 := a6.below bb
        try replace a7 := a7.below bb
        replace bw := below_on bw bb bw.size
        clear bb
        go_wp2_with fail
        go_meet
        case rel => exact ⟨rfl, a1, a2, a4, a6, bw⟩
      · have D1 : Hid (decide (conS x1 x3) = false) := Lib.hid (decide_eq_false hc1)
        clear hc1
        have ci0 := a1.c0
        have ci1 := a1.c1
        have ci2 := a1.c2
        have ci3 := a1.c3
        have ci4 := a1.c4
        have ci5 := a1.c5
        have cj0 := a3.c0
        have cj1 := a3.c1
        have cj2 := a3.c2
        go_wp2_with fail
        clear ci0 ci1 ci2 ci3 ci4 ci5
        clear cj0 cj1 cj2
        refine (icontains_any _ x1 x3 false a1.ok a3.ok f1 f3 D1.out).mono ?_
        rintro e wn ⟨rfl, bb⟩
        try replace a1 := a1.below bb
        try replace a2 := a2.below bb
        try replace a3 := a3.below bb
        try replace a4 := a4.below bb
        try replace a5 := a5.below bb
        try replace a6 := a6.below bb
        try replace a7 := a7.below bb
        replace bw := below_on bw bb bw.size
        clear bb
        go_wp2_with fail
        go_meet
        case rel => exact ⟨rfl, a1, a2, a4, a6, bw⟩
    case rest =>
      clear a1 a2 a3 a4 a6 bw
      obtain ⟨rfl, a1, a2, a4, a6, bw⟩ := hcut
      go_upto_region 12 with fail
      generalize wc = wm at *
      have ci0 := a2.c0
      have ci1 := a2.c1
      have ci2 := a2.c2
      have ci3 := a2.c3
      have ci4 := a2.c4
      have ci5 := a2.c5
      have cj0 := a1.c0
      have cj1 := a1.c1
      have cj2 := a1.c2
      have cj3 := a1.c3
      have cj4 := a1.c4
      have cj5 := a1.c5
      go_wp2_with fail
      clear ci0 ci1 ci2 ci3 ci4 ci5
      clear cj0 cj1 cj2 cj3 cj4 cj5
      refine (imeet_any _ x2 x1 M a2.ok a1.ok f2 f1 ((meet_comm x1 x2).trans HM.out)).mono ?_
      rintro e wn ⟨x7, rfl, h1, h2, ok7, bb⟩
      rw [EM.out]
      have HS7 := Lib.hid (And.intro h1 h2)
      clear h1 h2
      try replace a1 := a1.below bb
      try replace a2 := a2.below bb
      try replace a3 := a3.below bb
      try replace a4 := a4.below bb
      try replace a5 := a5.below bb
      try replace a6 := a6.below bb
      try replace a7 := a7.below bb
      replace bw := below_on bw bb bw.size
      clear bb
      go_upto_region 13 with fail
      have a7 := (ia_alloc ok7).1
      have bb := (ia_alloc ok7).2
      clear ok7
      generalize (wn.alloc (.cells #[.bool x7.lo.b, .slice x7.lo.A x7.lo.xs.length x7.lo.c, .slice x7.lo.D x7.lo.ys.length x7.lo.d, .bool x7.hi.b, .slice x7.hi.A x7.hi.xs.length x7.hi.c, .slice x7.hi.D x7.hi.ys.length x7.hi.d] 41)) = wm at a7 bb ⊢
      try replace a1 := a1.below bb
      try replace a2 := a2.below bb
      try replace a3 := a3.below bb
      try replace a4 := a4.below bb
      try replace a5 := a5.below bb
      try replace a6 := a6.below bb
      try replace a7 := a7.below bb
      replace bw := below_on bw bb bw.size
      clear bb
      generalize wn.heap.size = g7 at a7 ⊢
      have K1 : Hid (insS x1 x4) := Lib.hid ⟨H1.out.v, I4.out.v (Rat.le_trans HB.out.1 (Rat.le_trans H1.out.v.2.2 HB.out.2.1)), ⟨I4.out.l.v, H1.out.v.1, by rw [I4.out.l.rp.q]; exact HB.out.1⟩, ⟨H1.out.v.2.1, I4.out.h.v, by rw [I4.out.h.rp.q]; exact HB.out.2.1⟩⟩
      have K2 : Hid (insS x2 x4) := Lib.hid ⟨H2.out.v, I4.out.v (Rat.le_trans HB.out.1 (Rat.le_trans H1.out.v.2.2 HB.out.2.1)), ⟨I4.out.l.v, H2.out.v.1, by rw [I4.out.l.rp.q]; exact HB.out.2.2.1⟩, ⟨H2.out.v.2.1, I4.out.h.v, by rw [I4.out.h.rp.q]; exact HB.out.2.2.2⟩⟩
      have ci0 := a1.c0
      have ci1 := a1.c1
      have ci2 := a1.c2
      have ci3 := a1.c3
      have ci4 := a1.c4
      have ci5 := a1.c5
      have cj0 := a4.c0
      have cj1 := a4.c1
      have cj2 := a4.c2
      have cj3 := a4.c3
      have cj4 := a4.c4
      have cj5 := a4.c5
      go_wp2_with fail
      clear ci0 ci1 ci2 ci3 ci4 ci5
      clear cj0 cj1 cj2 cj3 cj4 cj5
      refine (iinside_any _ x1 x4 true a1.ok a4.ok f1 f4 (decide_eq_true K1.out)).mono ?_
      rintro e wn ⟨rfl, bb⟩
      try replace a1 := a1.below bb
      try replace a2 := a2.below bb
      try replace a3 := a3.below bb
      try replace a4 := a4.below bb
      try replace a5 := a5.below bb
      try replace a6 := a6.below bb
      try replace a7 := a7.below bb
      replace bw := below_on bw bb bw.size
      clear bb
      have ci0 := a2.c0
      have ci1 := a2.c1
      have ci2 := a2.c2
      have ci3 := a2.c3
      have ci4 := a2.c4
      have ci5 := a2.c5
      have cj0 := a4.c0
      have cj1 := a4.c1
      have cj2 := a4.c2
      have cj3 := a4.c3
      have cj4 := a4.c4
      have cj5 := a4.c5
      go_wp2_with fail
      clear ci0 ci1 ci2 ci3 ci4 ci5
      clear cj0 cj1 cj2 cj3 cj4 cj5
      refine (iinside_any _ x2 x4 true a2.ok a4.ok f2 f4 (decide_eq_true K2.out)).mono ?_
      rintro e wn ⟨rfl, bb⟩
      try replace a1 := a1.below bb
      try replace a2 := a2.below bb
      try replace a3 := a3.below bb
      try replace a4 := a4.below bb
      try replace a5 := a5.below bb
      try replace a6 := a6.below bb
      try replace a7 := a7.below bb
      replace bw := below_on bw bb bw.size
      clear bb
      have ci0 := a6.c0
      have ci1 := a6.c1
      have ci2 := a6.c2
      have ci3 := a6.c3
      have ci4 := a6.c4
      have ci5 := a6.c5
      have cj0 := a7.c0
      have cj1 := a7.c1
      have cj2 := a7.c2
      have cj3 := a7.c3
      have cj4 := a7.c4
      have cj5 := a7.c5
      go_wp2_with fail
      clear ci0 ci1 ci2 ci3 ci4 ci5
      clear cj0 cj1 cj2 cj3 cj4 cj5
      refine (samei_any _ x6 x7 a6.ok a7.ok (SmI.of HS6.out.1 HS6.out.2 HS7.out.1 HS7.out.2)).mono ?_
      rintro e wn ⟨rfl, bb⟩
      try replace a1 := a1.below bb
      try replace a2 := a2.below bb
      try replace a3 := a3.below bb
      try replace a4 := a4.below bb
      try replace a5 := a5.below bb
      try replace a6 := a6.below bb
      try replace a7 := a7.below bb
      replace bw := below_on bw bb bw.size
      clear bb
      go_wp2_with fail
      refine (awakei_any _).mono ?_
      rintro e wn ⟨rfl, bb⟩
      try replace a1 := a1.below bb
      try replace a2 := a2.below bb
      try replace a3 := a3.below bb
      try replace a4 := a4.below bb
      try replace a5 := a5.below bb
      try replace a6 := a6.below bb
      try replace a7 := a7.below bb
      replace bw := below_on bw bb bw.size
      clear bb
      go_wp2_with fail
      go_ret
      exact ⟨rfl, bw⟩
set_option maxRecDepth 100000 in
theorem ilat_walk (w : World) (x1 x2 : Ix) (x3 : Fx) (ok1 : x1.ok w) (ok2 : x2.ok w) (ok3 : x3.ok w) :
    Calls Try.prog 7 #[x1.val, x2.val, x3.val] w fun e w' => e = .returned (.bool true) ∧ Below w.heap.size w w' := by
  by_cases h : longI [x1, x2] = true ∨ 12 < x3.xs.length ∨ 12 < x3.ys.length
  · exact ilat_long w x1 x2 x3 ok1 ok2 ok3 h
  · have hl : longI [x1, x2] = false := by
      cases hl : longI [x1, x2]
      · rfl
      · exact absurd (.inl hl) h
    obtain ⟨t1, t2⟩ := longI2 hl
    by_cases hv : x1.v ∧ x2.v
    · exact ilat_main w x1 x2 x3 ok1 ok2 ok3 t1.few t2.few ⟨by omega, by omega⟩ hl (by omega) (by omega) (t1.sh ok1 hv.1) (t2.sh ok2 hv.2)
    · exact ilat_bad w x1 x2 x3 ok1 ok2 ok3 t1.few t2.few ⟨by omega, by omega⟩ hl (by omega) (by omega) hv
end Go.Proofs.Ytlcolmifmhdboaa
