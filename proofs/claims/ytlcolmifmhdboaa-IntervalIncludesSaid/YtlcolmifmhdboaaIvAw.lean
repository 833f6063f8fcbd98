/- The walk of drydocklaw03.awake. -/
import Derived.Test.YtlcolmifmhdboaaIvZ
import Derived.Test.YtlcolmifmhdboaaIvG
namespace Go.Proofs.Ytlcolmifmhdboaa
open Go.RowKit

set_option maxRecDepth 100000 in
theorem nb6 : ¬ anyBig [(3 : Rat), -6, -1, 2] := by decide +kernel
set_option maxRecDepth 100000 in
theorem lo6 : loP [(3 : Rat), -6, -1, 2] = -6 := by decide +kernel
set_option maxRecDepth 100000 in
theorem hi6 : hiP [(3 : Rat), -6, -1, 2] = 3 := by decide +kernel
set_option maxRecDepth 100000 in
theorem sz_small (q : Rat) (h : (lim q.num.natAbs).length ≤ 2 ∧ (lim q.den).length ≤ 2) : Sz q 128 128 := ⟨by omega, by omega⟩
set_option maxRecDepth 100000 in
theorem IsP.ix {x y : Fx} {p q : Rat} (h : IsP x p) (k : IsP y q) (hle : p ≤ q) : (⟨x, y⟩ : Ix).v := ⟨h.v, k.v, by show x.q ≤ y.q; rw [h.rp.q, k.rp.q]; exact hle⟩
set_option maxRecDepth 100000 in
theorem IsP.few2 {x y : Fx} {p q : Rat} (h : IsP x p) (k : IsP y q) : (⟨x, y⟩ : Ix).few := ⟨h.f.l, h.f.m, k.f.l, k.f.m⟩
set_option maxRecDepth 100000 in
theorem ivalid_nil (w : World) : Calls Try.prog 46 #[.agg #[.bool false, .slice none 0 0, .slice none 0 0, .bool false, .slice none 0 0, .slice none 0 0]] w fun e w' => e = .returned (.bool false) ∧ Below w.heap.size w w' :=
  ivalid_any w Ix.nil false (Ix.nil_ok _) ⟨by show 0 ≤ _; omega, by show 0 ≤ _; omega, by show 0 ≤ _; omega, by show 0 ≤ _; omega⟩ (decide_eq_false (fun h => h.1.1 rfl))
set_option maxHeartbeats 4000000 in
set_option maxRecDepth 100000 in
theorem awakei_any (w : World) : Calls Try.prog 21 #[] w fun e w' => e = .returned (.bool true) ∧ Below w.heap.size w w' := by
  have bw := Below.refl w.heap.size w
  go_enter Try.func21, Try.ntmps21
  go_wp2_with fail
  refine (rint_any _ (-1) (-1) (by omega) (by omega) (by decide +kernel)).mono ?_
  rintro e wn ⟨x1, rfl, p1, ok1, bb⟩
  have P1 := Lib.hid p1
  clear p1
  try replace ok1 := ok1.below bb
  try replace ok2 := ok2.below bb
  try replace ok3 := ok3.below bb
  try replace ok4 := ok4.below bb
  replace bw := below_on bw bb bw.size
  clear bb
  go_wp2_with fail
  refine (rint_any _ (2) (2) (by omega) (by omega) (by decide +kernel)).mono ?_
  rintro e wn ⟨x2, rfl, p2, ok2, bb⟩
  have P2 := Lib.hid p2
  clear p2
  try replace ok1 := ok1.below bb
  try replace ok2 := ok2.below bb
  try replace ok3 := ok3.below bb
  try replace ok4 := ok4.below bb
  replace bw := below_on bw bb bw.size
  clear bb
  go_upto_region 2 with fail
  have a5 := (ia_alloc (a := ⟨x1, x2⟩) ⟨ok1, ok2⟩).1
  have bb := (ia_alloc (a := ⟨x1, x2⟩) ⟨ok1, ok2⟩).2
  clear ok1 ok2
  generalize (wn.alloc (.cells #[.bool x1.b, .slice x1.A x1.xs.length x1.c, .slice x1.D x1.ys.length x1.d, .bool x2.b, .slice x2.A x2.xs.length x2.c, .slice x2.D x2.ys.length x2.d] 41)) = wm at a5 bb ⊢
  try replace a5 := a5.below bb
  replace bw := below_on bw bb bw.size
  clear bb
  generalize wn.heap.size = g5 at a5 ⊢
  go_wp2_with fail
  refine (rint_any _ (-3) (-3) (by omega) (by omega) (by decide +kernel)).mono ?_
  rintro e wn ⟨x3, rfl, p3, ok3, bb⟩
  have P3 := Lib.hid p3
  clear p3
  try replace ok1 := ok1.below bb
  try replace ok2 := ok2.below bb
  try replace ok3 := ok3.below bb
  try replace ok4 := ok4.below bb
  try replace a5 := a5.below bb
  replace bw := below_on bw bb bw.size
  clear bb
  go_wp2_with fail
  refine (rint_any _ (1) (1) (by omega) (by omega) (by decide +kernel)).mono ?_
  rintro e wn ⟨x4, rfl, p4, ok4, bb⟩
  have P4 := Lib.hid p4
  clear p4
  try replace ok1 := ok1.below bb
  try replace ok2 := ok2.below bb
  try replace ok3 := ok3.below bb
  try replace ok4 := ok4.below bb
  try replace a5 := a5.below bb
  replace bw := below_on bw bb bw.size
  clear bb
  go_upto_region 3 with fail
  have a6 := (ia_alloc (a := ⟨x3, x4⟩) ⟨ok3, ok4⟩).1
  have bb := (ia_alloc (a := ⟨x3, x4⟩) ⟨ok3, ok4⟩).2
  clear ok3 ok4
  generalize (wn.alloc (.cells #[.bool x3.b, .slice x3.A x3.xs.length x3.c, .slice x3.D x3.ys.length x3.d, .bool x4.b, .slice x4.A x4.xs.length x4.c, .slice x4.D x4.ys.length x4.d] 41)) = wm at a6 bb ⊢
  try replace a5 := a5.below bb
  try replace a6 := a6.below bb
  replace bw := below_on bw bb bw.size
  clear bb
  generalize wn.heap.size = g6 at a6 ⊢
  have v5 := IsP.ix P1.out P2.out (by decide +kernel)
  have v6 := IsP.ix P3.out P4.out (by decide +kernel)
  have f5 := IsP.few2 P1.out P2.out
  have f6 := IsP.few2 P3.out P4.out
  have hm : mulI ⟨x1, x2⟩ ⟨x3, x4⟩ = (okS (-6), okS 3, 0) := by
    rw [mulI, if_pos ⟨v5, v6⟩]
    have e : prodL [x3, x4] x1.q x2.q = [(3 : Rat), -6, -1, 2] := by
      rw [prodL, List.flatMap_cons, List.flatMap_cons, List.flatMap_nil, P1.out.rp.q, P2.out.rp.q, P3.out.rp.q, P4.out.rp.q]
      decide +kernel
    show mulsS (prodL [x3, x4] x1.q x2.q) = _
    rw [e, mulsS, if_neg nb6, lo6, hi6]
  have hd : opS subF ⟨x1, x2⟩ ⟨x1, x2⟩ x2 x1 = (okS (-3), okS 3, 0) := by
    rw [opS, if_pos ⟨v5, v5⟩]
    have e1 : subF x1 x2 = okS (-3) := (subF_ok P1.out.v P2.out.v P1.out.rp.q P2.out.rp.q (p := -1) (q := 2) (sz_small _ (by decide +kernel))).trans (by rw [show (-1 : Rat) - 2 = -3 from by decide +kernel])
    have e2 : subF x2 x1 = okS 3 := (subF_ok P2.out.v P1.out.v P2.out.rp.q P1.out.rp.q (p := 2) (q := -1) (sz_small _ (by decide +kernel))).trans (by rw [show (2 : Rat) - -1 = 3 from by decide +kernel])
    show bothS (subF x1 x2) (subF x2 x1) = _
    rw [e1, e2]
    rfl
  have HM := Lib.hid hm
  have HD := Lib.hid hd
  clear hm hd v5 v6
  have ci0 := a5.c0
  have ci1 := a5.c1
  have ci2 := a5.c2
  have ci3 := a5.c3
  have ci4 := a5.c4
  have ci5 := a5.c5
  have cj0 := a6.c0
  have cj1 := a6.c1
  have cj2 := a6.c2
  have cj3 := a6.c3
  have cj4 := a6.c4
  have cj5 := a6.c5
  go_wp2_with fail
  clear ci0 ci1 ci2 ci3 ci4 ci5
  clear cj0 cj1 cj2 cj3 cj4 cj5
  refine (imul_any _ ⟨x1, x2⟩ ⟨x3, x4⟩ (okS (-6), okS 3, 0) a5.ok a6.ok f5 f6 HM.out).mono ?_
  rintro e wn ⟨z7, rfl, h1, h2, ok7, bb⟩
  have S7 := Lib.hid (And.intro h1 h2)
  clear h1 h2
  try replace a5 := a5.below bb
  try replace a6 := a6.below bb
  replace bw := below_on bw bb bw.size
  clear bb
  go_upto_region 4 with fail
  have a7 := (ia_alloc ok7).1
  have bb := (ia_alloc ok7).2
  clear ok7
  generalize (wn.alloc (.cells #[.bool z7.lo.b, .slice z7.lo.A z7.lo.xs.length z7.lo.c, .slice z7.lo.D z7.lo.ys.length z7.lo.d, .bool z7.hi.b, .slice z7.hi.A z7.hi.xs.length z7.hi.c, .slice z7.hi.D z7.hi.ys.length z7.hi.d] 41)) = wm at a7 bb ⊢
  try replace a5 := a5.below bb
  try replace a6 := a6.below bb
  try replace a7 := a7.below bb
  replace bw := below_on bw bb bw.size
  clear bb
  generalize wn.heap.size = g7 at a7 ⊢
  have ci0 := a5.c0
  have ci1 := a5.c1
  have ci2 := a5.c2
  have ci3 := a5.c3
  have ci4 := a5.c4
  have ci5 := a5.c5
  go_wp2_with fail
  clear ci0 ci1 ci2 ci3 ci4 ci5
  refine (isub_any _ ⟨x1, x2⟩ ⟨x1, x2⟩ (okS (-3), okS 3, 0) a5.ok a5.ok f5 f5 HD.out).mono ?_
  rintro e wn ⟨z8, rfl, h1, h2, ok8, bb⟩
  have S8 := Lib.hid (And.intro h1 h2)
  clear h1 h2 HM HD
  try replace a5 := a5.below bb
  try replace a6 := a6.below bb
  try replace a7 := a7.below bb
  replace bw := below_on bw bb bw.size
  clear bb
  go_upto_region 5 with fail
  have a8 := (ia_alloc ok8).1
  have bb := (ia_alloc ok8).2
  clear ok8
  generalize (wn.alloc (.cells #[.bool z8.lo.b, .slice z8.lo.A z8.lo.xs.length z8.lo.c, .slice z8.lo.D z8.lo.ys.length z8.lo.d, .bool z8.hi.b, .slice z8.hi.A z8.hi.xs.length z8.hi.c, .slice z8.hi.D z8.hi.ys.length z8.hi.d] 41)) = wm at a8 bb ⊢
  try replace a5 := a5.below bb
  try replace a6 := a6.below bb
  try replace a7 := a7.below bb
  try replace a8 := a8.below bb
  replace bw := below_on bw bb bw.size
  clear bb
  generalize wn.heap.size = g8 at a8 ⊢
  have D1 : Hid (Rat.divInt (-6) 1 = -6) := Lib.hid (by decide +kernel)
  have D2 : Hid (Rat.divInt 3 1 = 3) := Lib.hid (by decide +kernel)
  have D3 : Hid (Rat.divInt (-3) 1 = -3) := Lib.hid (by decide +kernel)
  clear a5 a6 f5 f6
  go_region_held3 (fun w' => w'.cell? ⟨g7, 0, none⟩ = some (.bool z7.lo.b) ∧ w'.cell? ⟨g7, 1, none⟩ = some (.slice z7.lo.A z7.lo.xs.length z7.lo.c) ∧ w'.cell? ⟨g7, 2, none⟩ = some (.slice z7.lo.D z7.lo.ys.length z7.lo.d) ∧ w'.cell? ⟨g7, 3, none⟩ = some (.bool z7.hi.b) ∧ w'.cell? ⟨g7, 4, none⟩ = some (.slice z7.hi.A z7.hi.xs.length z7.hi.c) ∧ w'.cell? ⟨g7, 5, none⟩ = some (.slice z7.hi.D z7.hi.ys.length z7.hi.d) ∧ w'.cell? ⟨g8, 0, none⟩ = some (.bool z8.lo.b) ∧ w'.cell? ⟨g8, 1, none⟩ = some (.slice z8.lo.A z8.lo.xs.length z8.lo.c) ∧ w'.cell? ⟨g8, 2, none⟩ = some (.slice z8.lo.D z8.lo.ys.length z8.lo.d) ∧ w'.cell? ⟨g8, 3, none⟩ = some (.bool z8.hi.b) ∧ w'.cell? ⟨g8, 4, none⟩ = some (.slice z8.hi.A z8.hi.xs.length z8.hi.c) ∧ w'.cell? ⟨g8, 5, none⟩ = some (.slice z8.hi.D z8.hi.ys.length z8.hi.d))
    (first | with_reducible exact ⟨(a7.below (by with_reducible first | exact Below.refl _ _ | exact (Below.refl _ _).drew)).c0, (a7.below (by with_reducible first | exact Below.refl _ _ | exact (Below.refl _ _).drew)).c1, (a7.below (by with_reducible first | exact Below.refl _ _ | exact (Below.refl _ _).drew)).c2, (a7.below (by with_reducible first | exact Below.refl _ _ | exact (Below.refl _ _).drew)).c3, (a7.below (by with_reducible first | exact Below.refl _ _ | exact (Below.refl _ _).drew)).c4, (a7.below (by with_reducible first | exact Below.refl _ _ | exact (Below.refl _ _).drew)).c5, (a8.below (by with_reducible first | exact Below.refl _ _ | exact (Below.refl _ _).drew)).c0, (a8.below (by with_reducible first | exact Below.refl _ _ | exact (Below.refl _ _).drew)).c1, (a8.below (by with_reducible first | exact Below.refl _ _ | exact (Below.refl _ _).drew)).c2, (a8.below (by with_reducible first | exact Below.refl _ _ | exact (Below.refl _ _).drew)).c3, (a8.below (by with_reducible first | exact Below.refl _ _ | exact (Below.refl _ _).drew)).c4, (a8.below (by with_reducible first | exact Below.refl _ _ | exact (Below.refl _ _).drew)).c5⟩ | go_keep)
    (first
     | (go_at_call 51
        with_reducible refine (rint_any _ (-6) (-6) (by omega) (by omega) D1.out).mono ?_
        rintro e wn ⟨x9, rfl, p9, ok9, bb⟩
        have P9 := Lib.hid p9
        clear p9
        repeat replace bb := below_undrew bb
        try replace ok9 := ok9.below bb
        try replace ok10 := ok10.below bb
        try replace ok11 := ok11.below bb
        replace a7 := a7.below bb
        replace a8 := a8.below bb
        replace bw := below_on bw bb bw.size
        clear bb)
     | (go_at_call 51
        with_reducible refine (rint_any _ (3) (3) (by omega) (by omega) D2.out).mono ?_
        rintro e wn ⟨x10, rfl, p10, ok10, bb⟩
        have P10 := Lib.hid p10
        clear p10
        repeat replace bb := below_undrew bb
        try replace ok9 := ok9.below bb
        try replace ok10 := ok10.below bb
        try replace ok11 := ok11.below bb
        replace a7 := a7.below bb
        replace a8 := a8.below bb
        replace bw := below_on bw bb bw.size
        clear bb)
     | (go_at_call 51
        with_reducible refine (rint_any _ (-3) (-3) (by omega) (by omega) D3.out).mono ?_
        rintro e wn ⟨x11, rfl, p11, ok11, bb⟩
        have P11 := Lib.hid p11
        clear p11
        repeat replace bb := below_undrew bb
        try replace ok9 := ok9.below bb
        try replace ok10 := ok10.below bb
        try replace ok11 := ok11.below bb
        replace a7 := a7.below bb
        replace a8 := a8.below bb
        replace bw := below_on bw bb bw.size
        clear bb)
     | (go_at_call 34
        with_reducible refine (samei_any _ z7 ⟨x9, x10⟩ a7.ok ⟨ok9, ok10⟩ (SmI.of S7.out.1 S7.out.2 P9.out.is P10.out.is)).mono ?_
        rintro e wn ⟨rfl, bb⟩
        repeat replace bb := below_undrew bb
        replace a7 := a7.below bb
        replace a8 := a8.below bb
        replace bw := below_on bw bb bw.size
        clear bb)
     | (go_at_call 34
        with_reducible refine (samei_any _ z8 ⟨x11, x10⟩ a8.ok ⟨ok11, ok10⟩ (SmI.of S8.out.1 S8.out.2 P11.out.is P10.out.is)).mono ?_
        rintro e wn ⟨rfl, bb⟩
        repeat replace bb := below_undrew bb
        replace a7 := a7.below bb
        replace a8 := a8.below bb
        replace bw := below_on bw bb bw.size
        clear bb)
     | (go_at_call 46
        with_reducible refine (ivalid_nil _).mono ?_
        rintro e wn ⟨rfl, bb⟩
        repeat replace bb := below_undrew bb
        replace a7 := a7.below bb
        replace a8 := a8.below bb
        replace bw := below_on bw bb bw.size
        clear bb))
  all_goals
    go_wp2_with fail
    go_ret
    exact ⟨rfl, bw⟩
end Go.Proofs.Ytlcolmifmhdboaa
