/- The walk of drydocklaw03.awake. Words for the laws of interval. Arguments that came in, opened to what the walks ask. A fraction that came in as an argument, opened to what the walks ask. A list of fractions that came in as an argument, opened to what the walks ask. An interval, or a list of intervals, that came in as an argument, opened to what the walks ask. -/
import Derived.Test.YtlcolmifmhdboaaIvZ
import Derived.Test.YtlcolmifmhdboaaIvG
import Derived.Test.YtlcolmifmhdboaaRows
import Derived.Test.YtlcolmifmhdboaaBase
import Derived.ProofKit
import Derived.OpenShut
import Derived.ShutString
import Derived.ChangeOld
import Derived.Below
import Derived.Test.YtlcolmifmhdboaaFrx
import Derived.Lib.SmallJoins
import Derived.Test.YtlcolmifmhdboaaLwB
import Derived.Deep.Slices
import Derived.Deep.Fields
namespace Go.Proofs.Ytlcolmifmhdboaa
open Go.RowKit

set_option maxRecDepth 100000 in
theorem nb6 : ¬ anyBig [(3 : Rat), -6, -1, 2] := by decide +kernel
set_option maxRecDepth 100000 in
theorem lo6 : loP [(3 : Rat), -6, -1, 2] = -6 := by decide +kernel
set_option maxRecDepth 100000 in
theorem hi6 : hiP [(3 : Rat), -6, -1, 2] = 3 := by decide +kernel
set_option maxRecDepth 100000 in
theorem sz_small (q : Rat) (h : (lim q.num.natAbs).length ≤ 2 ∧ (lim q.den).length ≤ 2) : Sz q 128 128 := ⟨by omega, by omega⟩
set_option maxRecDepth 100000 in
theorem IsP.ix {x y : Fx} {p q : Rat} (h : IsP x p) (k : IsP y q) (hle : p ≤ q) : (⟨x, y⟩ : Ix).v := ⟨h.v, k.v, by show x.q ≤ y.q; rw [h.rp.q, k.rp.q]; exact hle⟩
set_option maxRecDepth 100000 in
theorem IsP.few2 {x y : Fx} {p q : Rat} (h : IsP x p) (k : IsP y q) : (⟨x, y⟩ : Ix).few := ⟨h.f.l, h.f.m, k.f.l, k.f.m⟩
set_option maxRecDepth 100000 in
theorem ivalid_nil (w : World) : Calls Try.prog 46 #[.agg #[.bool false, .slice none 0 0, .slice none 0 0, .bool false, .slice none 0 0, .slice none 0 0]] w fun e w' => e = .returned (.bool false) ∧ Below w.heap.size w w' :=
  ivalid_any w Ix.nil false (Ix.nil_ok _) ⟨by show 0 ≤ _; omega, by show 0 ≤ _; omega, by show 0 ≤ _; omega, by show 0 ≤ _; omega⟩ (decide_eq_false (fun h => h.1.1 rfl))
set_option maxHeartbeats 4000000 in
set_option maxRecDepth 100000 in
theorem awakei_any (w : World) : Calls Try.prog 21 #[] w fun e w' => e = .returned (.bool true) ∧ Below w.heap.size w w' := by
  have bw := Below.refl w.heap.size w
  go_enter Try.func21, Try.ntmps21
  go_wp2_with fail
  refine (rint_any _ (-1) (-1) (by omega) (by omega) (by decide +kernel)).mono ?_
  rintro e wn ⟨x1, rfl, p1, ok1, bb⟩
  have P1 := Lib.hid p1
  clear p1
  try replace ok1 := ok1.below bb
  try replace ok2 := ok2.below bb
  try replace ok3 := ok3.below bb
  try replace ok4 := ok4.below bb
  replace bw := below_on bw bb bw.size
  clear bb
  go_wp2_with fail
  refine (rint_any _ (2) (2) (by omega) (by omega) (by decide +kernel)).mono ?_
  rintro e wn ⟨x2, rfl, p2, ok2, bb⟩
  have P2 := Lib.hid p2
  clear p2
  try replace ok1 := ok1.below bb
  try replace ok2 := ok2.below bb
  try replace ok3 := ok3.below bb
  try replace ok4 := ok4.below bb
  replace bw := below_on bw bb bw.size
  clear bb
  go_upto_region 2 with fail
  have a5 := (ia_alloc (a := ⟨x1, x2⟩) ⟨ok1, ok2⟩).1
  have bb := (ia_alloc (a := ⟨x1, x2⟩) ⟨ok1, ok2⟩).2
  clear ok1 ok2
  generalize (wn.alloc (.cells #[.bool x1.b, .slice x1.A x1.xs.length x1.c, .slice x1.D x1.ys.length x1.d, .bool x2.b, .slice x2.A x2.xs.length x2.c, .slice x2.D x2.ys.length x2.d] 41)) = wm at a5 bb ⊢
  try replace a5 := a5.below bb
  replace bw := below_on bw bb bw.size
  clear bb
  generalize wn.heap.size = g5 at a5 ⊢
  go_wp2_with fail
  refine (rint_any _ (-3) (-3) (by omega) (by omega) (by decide +kernel)).mono ?_
  rintro e wn ⟨x3, rfl, p3, ok3, bb⟩
  have P3 := Lib.hid p3
  clear p3
  try replace ok1 := ok1.below bb
  try replace ok2 := ok2.below bb
  try replace ok3 := ok3.below bb
  try replace ok4 := ok4.below bb
  try replace a5 := a5.below bb
  replace bw := below_on bw bb bw.size
  clear bb
  go_wp2_with fail
  refine (rint_any _ (1) (1) (by omega) (by omega) (by decide +kernel)).mono ?_
  rintro e wn ⟨x4, rfl, p4, ok4, bb⟩
  have P4 := Lib.hid p4
  clear p4
  try replace ok1 := ok1.below bb
  try replace ok2 := ok2.below bb
  try replace ok3 := ok3.below bb
  try replace ok4 := ok4.below bb
  try replace a5 := a5.below bb
  replace bw := below_on bw bb bw.size
  clear bb
  go_upto_region 3 with fail
  have a6 := (ia_alloc (a := ⟨x3, x4⟩) ⟨ok3, ok4⟩).1
  have bb := (ia_alloc (a := ⟨x3, x4⟩) ⟨ok3, ok4⟩).2
  clear ok3 ok4
  generalize (wn.alloc (.cells #[.bool x3.b, .slice x3.A x3.xs.length x3.c, .slice x3.D x3.ys.length x3.d, .bool x4.b, .slice x4.A x4.xs.length x4.c, .slice x4.D x4.ys.length x4.d] 41)) = wm at a6 bb ⊢
  try replace a5 := a5.below bb
  try replace a6 := a6.below bb
  replace bw := below_on bw bb bw.size
  clear bb
  generalize wn.heap.size = g6 at a6 ⊢
  have v5 := IsP.ix P1.out P2.out (by decide +kernel)
  have v6 := IsP.ix P3.out P4.out (by decide +kernel)
  have f5 := IsP.few2 P1.out P2.out
  have f6 := IsP.few2 P3.out P4.out
  have hm : mulI ⟨x1, x2⟩ ⟨x3, x4⟩ = (okS (-6), okS 3, 0) := by
    rw [mulI, if_pos ⟨v5, v6⟩]
    have e : prodL [x3, x4] x1.q x2.q = [(3 : Rat), -6, -1, 2] := by
      rw [prodL, List.flatMap_cons, List.flatMap_cons, List.flatMap_nil, P1.out.rp.q, P2.out.rp.q, P3.out.rp.q, P4.out.rp.q]
      decide +kernel
    show mulsS (prodL [x3, x4] x1.q x2.q) = _
    rw [e, mulsS, if_neg nb6, lo6, hi6]
  have hd : opS subF ⟨x1, x2⟩ ⟨x1, x2⟩ x2 x1 = (okS (-3), okS 3, 0) := by
    rw [opS, if_pos ⟨v5, v5⟩]
    have e1 : subF x1 x2 = okS (-3) := (subF_ok P1.out.v P2.out.v P1.out.rp.q P2.out.rp.q (p := -1) (q := 2) (sz_small _ (by decide +kernel))).trans (by rw [show (-1 : Rat) - 2 = -3 from by decide +kernel])
    have e2 : subF x2 x1 = okS 3 := (subF_ok P2.out.v P1.out.v P2.out.rp.q P1.out.rp.q (p := 2) (q := -1) (sz_small _ (by decide +kernel))).trans (by rw [show (2 : Rat) - -1 = 3 from by decide +kernel])
    show bothS (subF x1 x2) (subF x2 x1) = _
    rw [e1, e2]
    rfl
  have HM := Lib.hid hm
  have HD := Lib.hid hd
  clear hm hd v5 v6
  have ci0 := a5.c0
  have ci1 := a5.c1
  have ci2 := a5.c2
  have ci3 := a5.c3
  have ci4 := a5.c4
  have ci5 := a5.c5
  have cj0 := a6.c0
  have cj1 := a6.c1
  have cj2 := a6.c2
  have cj3 := a6.c3
  have cj4 := a6.c4
  have cj5 := a6.c5
  go_wp2_with fail
  clear ci0 ci1 ci2 ci3 ci4 ci5
  clear cj0 cj1 cj2 cj3 cj4 cj5
  refine (imul_any _ ⟨x1, x2⟩ ⟨x3, x4⟩ (okS (-6), okS 3, 0) a5.ok a6.ok f5 f6 HM.out).mono ?_
  rintro e wn ⟨z7, rfl, h1, h2, ok7, bb⟩
  have S7 := Lib.hid (And.intro h1 h2)
  clear h1 h2
  try replace a5 := a5.below bb
  try replace a6 := a6.below bb
  replace bw := below_on bw bb bw.size
  clear bb
  go_upto_region 4 with fail
  have a7 := (ia_alloc ok7).1
  have bb := (ia_alloc ok7).2
  clear ok7
  generalize (wn.alloc (.cells #[.bool z7.lo.b, .slice z7.lo.A z7.lo.xs.length z7.lo.c, .slice z7.lo.D z7.lo.ys.length z7.lo.d, .bool z7.hi.b, .slice z7.hi.A z7.hi.xs.length z7.hi.c, .slice z7.hi.D z7.hi.ys.length z7.hi.d] 41)) = wm at a7 bb ⊢
  try replace a5 := a5.below bb
  try replace a6 := a6.below bb
  try replace a7 := a7.below bb
  replace bw := below_on bw bb bw.size
  clear bb
  generalize wn.heap.size = g7 at a7 ⊢
  have ci0 := a5.c0
  have ci1 := a5.c1
  have ci2 := a5.c2
  have ci3 := a5.c3
  have ci4 := a5.c4
  have ci5 := a5.c5
  go_wp2_with fail
  clear ci0 ci1 ci2 ci3 ci4 ci5
  refine (isub_any _ ⟨x1, x2⟩ ⟨x1, x2⟩ (okS (-3), okS 3, 0) a5.ok a5.ok f5 f5 HD.out).mono ?_
  rintro e wn ⟨z8, rfl, h1, h2, ok8, bb⟩
  have S8 := Lib.hid (And.intro h1 h2)
  clear h1 h2 HM HD
  try replace a5 := a5.below bb
  try replace a6 := a6.below bb
  try replace a7 := a7.below bb
  replace bw := below_on bw bb bw.size
  clear bb
  go_upto_region 5 with fail
  have a8 := (ia_alloc ok8).1
  have bb := (ia_alloc ok8).2
  clear ok8
  generalize (wn.alloc (.cells #[.bool z8.lo.b, .slice z8.lo.A z8.lo.xs.length z8.lo.c, .slice z8.lo.D z8.lo.ys.length z8.lo.d, .bool z8.hi.b, .slice z8.hi.A z8.hi.xs.length z8.hi.c, .slice z8.hi.D z8.hi.ys.length z8.hi.d] 41)) = wm at a8 bb ⊢
  try replace a5 := a5.below bb
  try replace a6 := a6.below bb
  try replace a7 := a7.below bb
  try replace a8 := a8.below bb
  replace bw := below_on bw bb bw.size
  clear bb
  generalize wn.heap.size = g8 at a8 ⊢
  have D1 : Hid (Rat.divInt (-6) 1 = -6) := Lib.hid (by decide +kernel)
  have D2 : Hid (Rat.divInt 3 1 = 3) := Lib.hid (by decide +kernel)
  have D3 : Hid (Rat.divInt (-3) 1 = -3) := Lib.hid (by decide +kernel)
  clear a5 a6 f5 f6
  go_region_held3 (fun w' => w'.cell? ⟨g7, 0, none⟩ = some (.bool z7.lo.b) ∧ w'.cell? ⟨g7, 1, none⟩ = some (.slice z7.lo.A z7.lo.xs.length z7.lo.c) ∧ w'.cell? ⟨g7, 2, none⟩ = some (.slice z7.lo.D z7.lo.ys.length z7.lo.d) ∧ w'.cell? ⟨g7, 3, none⟩ = some (.bool z7.hi.b) ∧ w'.cell? ⟨g7, 4, none⟩ = some (.slice z7.hi.A z7.hi.xs.length z7.hi.c) ∧ w'.cell? ⟨g7, 5, none⟩ = some (.slice z7.hi.D z7.hi.ys.length z7.hi.d) ∧ w'.cell? ⟨g8, 0, none⟩ = some (.bool z8.lo.b) ∧ w'.cell? ⟨g8, 1, none⟩ = some (.slice z8.lo.A z8.lo.xs.length z8.lo.c) ∧ w'.cell? ⟨g8, 2, none⟩ = some (.slice z8.lo.D z8.lo.ys.length z8.lo.d) ∧ w'.cell? ⟨g8, 3, none⟩ = some (.bool z8.hi.b) ∧ w'.cell? ⟨g8, 4, none⟩ = some (.slice z8.hi.A z8.hi.xs.length z8.hi.c) ∧ w'.cell? ⟨g8, 5, none⟩ = some (.slice z8.hi.D z8.hi.ys.length z8.hi.d))
    (first | with_reducible exact ⟨(a7.below (by with_reducible first | exact Below.refl _ _ | exact (Below.refl _ _).drew)).c0, (a7.below (by with_reducible first | exact Below.refl _ _ | exact (Below.refl _ _).drew)).c1, (a7.below (by with_reducible first | exact Below.refl _ _ | exact (Below.refl _ _).drew)).c2, (a7.below (by with_reducible first | exact Below.refl _ _ | exact (Below.refl _ _).drew)).c3, (a7.below (by with_reducible first | exact Below.refl _ _ | exact (Below.refl _ _).drew)).c4, (a7.below (by with_reducible first | exact Below.refl _ _ | exact (Below.refl _ _).drew)).c5, (a8.below (by with_reducible first | exact Below.refl _ _ | exact (Below.refl _ _).drew)).c0, (a8.below (by with_reducible first | exact Below.refl _ _ | exact (Below.refl _ _).drew)).c1, (a8.below (by with_reducible first | exact Below.refl _ _ | exact (Below.refl _ _).drew)).c2, (a8.below (by with_reducible first | exact Below.refl _ _ | exact (Below.refl _ _).drew)).c3, (a8.below (by with_reducible first | exact Below.refl _ _ | exact (Below.refl _ _).drew)).c4, (a8.below (by with_reducible first | exact Below.refl _ _ | exact (Below.refl _ _).drew)).c5⟩ | go_keep)
    (first
     | (go_at_call 51
        with_reducible refine (rint_any _ (-6) (-6) (by omega) (by omega) D1.out).mono ?_
        rintro e wn ⟨x9, rfl, p9, ok9, bb⟩
        have P9 := Lib.hid p9
        clear p9
        repeat replace bb := below_undrew bb
        try replace ok9 := ok9.below bb
        try replace ok10 := ok10.below bb
        try replace ok11 := ok11.below bb
        replace a7 := a7.below bb
        replace a8 := a8.below bb
        replace bw := below_on bw bb bw.size
        clear bb)
     | (go_at_call 51
        with_reducible refine (rint_any _ (3) (3) (by omega) (by omega) D2.out).mono ?_
        rintro e wn ⟨x10, rfl, p10, ok10, bb⟩
        have P10 := Lib.hid p10
        clear p10
        repeat replace bb := below_undrew bb
        try replace ok9 := ok9.below bb
        try replace ok10 := ok10.below bb
        try replace ok11 := ok11.below bb
        replace a7 := a7.below bb
        replace a8 := a8.below bb
        replace bw := below_on bw bb bw.size
        clear bb)
     | (go_at_call 51
        with_reducible refine (rint_any _ (-3) (-3) (by omega) (by omega) D3.out).mono ?_
        rintro e wn ⟨x11, rfl, p11, ok11, bb⟩
        have P11 := Lib.hid p11
        clear p11
        repeat replace bb := below_undrew bb
        try replace ok9 := ok9.below bb
        try replace ok10 := ok10.below bb
        try replace ok11 := ok11.below bb
        replace a7 := a7.below bb
        replace a8 := a8.below bb
        replace bw := below_on bw bb bw.size
        clear bb)
     | (go_at_call 34
        with_reducible refine (samei_any _ z7 ⟨x9, x10⟩ a7.ok ⟨ok9, ok10⟩ (SmI.of S7.out.1 S7.out.2 P9.out.is P10.out.is)).mono ?_
        rintro e wn ⟨rfl, bb⟩
        repeat replace bb := below_undrew bb
        replace a7 := a7.below bb
        replace a8 := a8.below bb
        replace bw := below_on bw bb bw.size
        clear bb)
     | (go_at_call 34
        with_reducible refine (samei_any _ z8 ⟨x11, x10⟩ a8.ok ⟨ok11, ok10⟩ (SmI.of S8.out.1 S8.out.2 P11.out.is P10.out.is)).mono ?_
        rintro e wn ⟨rfl, bb⟩
        repeat replace bb := below_undrew bb
        replace a7 := a7.below bb
        replace a8 := a8.below bb
        replace bw := below_on bw bb bw.size
        clear bb)
     | (go_at_call 46
        with_reducible refine (ivalid_nil _).mono ?_
        rintro e wn ⟨rfl, bb⟩
        repeat replace bb := below_undrew bb
        replace a7 := a7.below bb
        replace a8 := a8.below bb
        replace bw := below_on bw bb bw.size
        clear bb))
  all_goals
    go_wp2_with fail
    go_ret
    exact ⟨rfl, bw⟩
end Go.Proofs.Ytlcolmifmhdboaa
namespace Go.Proofs.Ytlcolmifmhdboaa
open Go.RowKit

def icells : List Ix → List Value
  | [] => []
  | v :: vs => .bool v.lo.b :: .slice v.lo.A v.lo.xs.length v.lo.c :: .slice v.lo.D v.lo.ys.length v.lo.d :: .bool v.hi.b :: .slice v.hi.A v.hi.xs.length v.hi.c :: .slice v.hi.D v.hi.ys.length v.hi.d :: icells vs
set_option maxRecDepth 100000 in
theorem icells_get (vs : List Ix) : ∀ k (hk : k < vs.length), (icells vs)[k * 6]? = some (.bool vs[k].lo.b) ∧ (icells vs)[k * 6 + 1]? = some (.slice vs[k].lo.A vs[k].lo.xs.length vs[k].lo.c) ∧ (icells vs)[k * 6 + 2]? = some (.slice vs[k].lo.D vs[k].lo.ys.length vs[k].lo.d) ∧ (icells vs)[k * 6 + 3]? = some (.bool vs[k].hi.b) ∧ (icells vs)[k * 6 + 4]? = some (.slice vs[k].hi.A vs[k].hi.xs.length vs[k].hi.c) ∧ (icells vs)[k * 6 + 5]? = some (.slice vs[k].hi.D vs[k].hi.ys.length vs[k].hi.d) := by
  induction vs with
  | nil => intro k hk; simp at hk
  | cons v vs ih =>
    intro k hk
    cases k with
    | zero => exact ⟨rfl, rfl, rfl, rfl, rfl, rfl⟩
    | succ k =>
      have h := ih k (by simpa using hk)
      have e : (k + 1) * 6 = k * 6 + 1 + 1 + 1 + 1 + 1 + 1 := by omega
      rw [icells, e]
      simp only [List.getElem?_cons_succ, List.getElem_cons_succ]
      exact h
set_option maxRecDepth 100000 in
theorem rdi_lit (w : World) (vs : List Ix) : RdI (w.alloc (.cells (icells vs).toArray 41)) (some ⟨w.heap.size, 0, none⟩) vs := fun _ => by
  refine ⟨_, rfl, by simp, fun k hk => ?_⟩
  obtain ⟨h0, h1, h2, h3, h4, h5⟩ := icells_get vs k hk
  have hb := Blk.cell (blk_alloc w (icells vs).toArray 41)
  rw [add_mk]
  refine ⟨?_, ?_, ?_, ?_, ?_, ?_⟩
  · rw [hb]; simpa using h0
  · rw [hb]; simpa using h1
  · rw [hb]; simpa using h2
  · rw [hb]; simpa using h3
  · rw [hb]; simpa using h4
  · rw [hb]; simpa using h5
set_option maxRecDepth 100000 in
theorem lens2 {w : World} {x y : Ix} (h : x.ok w) (k : y.ok w) : ∀ v ∈ [x, y], v.len := fun v hv => by
  simp only [List.mem_cons, List.not_mem_nil, or_false] at hv
  rcases hv with rfl | rfl
  · exact h.len
  · exact k.len
set_option maxRecDepth 100000 in
theorem lens1 {w : World} {x : Ix} (h : x.ok w) : ∀ v ∈ [x], v.len := fun v hv => by
  simp only [List.mem_cons, List.not_mem_nil, or_false] at hv
  subst hv
  exact h.len
section
variable {w : World} {G H : Nat} {a b : Ix} {x : Fx} {v0 v1 v2 v3 v4 v5 : Value}
set_option maxRecDepth 100000 in
theorem Ia.put6 {z : Ix} (h : Ia w G a) (hz : z.ok w) : Ia (set6 w G (.bool z.lo.b) (.slice z.lo.A z.lo.xs.length z.lo.c) (.slice z.lo.D z.lo.ys.length z.lo.d) (.bool z.hi.b) (.slice z.hi.A z.hi.xs.length z.hi.c) (.slice z.hi.D z.hi.ys.length z.hi.d)) G z :=
  ⟨set6_blk h.bk rfl, ⟨set6_ok hz.lo h.bk (noInt_i a), set6_ok hz.hi h.bk (noInt_i a)⟩⟩
set_option maxRecDepth 100000 in
theorem Blk.far6 {arr : Array Value} (h : Blk w G arr) (hne : H ≠ G) : Blk (set6 w H v0 v1 v2 v3 v4 v5) G arr :=
  (((((h.far (p := ⟨H, 0, none⟩) hne v0).far (p := ⟨H, 1, none⟩) hne v1).far (p := ⟨H, 2, none⟩) hne v2).far (p := ⟨H, 3, none⟩) hne v3).far (p := ⟨H, 4, none⟩) hne v4).far (p := ⟨H, 5, none⟩) hne v5
set_option maxRecDepth 100000 in
theorem Ia.far6 (h : Ia w G a) (k : Ia w H b) (hne : H ≠ G) : Ia (set6 w H v0 v1 v2 v3 v4 v5) G a :=
  ⟨h.bk.far6 hne, ⟨set6_ok h.ok.lo k.bk (noInt_i b), set6_ok h.ok.hi k.bk (noInt_i b)⟩⟩
set_option maxRecDepth 100000 in
theorem Fa.far6 (h : Fa w G x) (k : Ia w H b) (hne : H ≠ G) : Fa (set6 w H v0 v1 v2 v3 v4 v5) G x := by
  refine ⟨?_, set6_ok h.ok k.bk (noInt_i b)⟩
  have hg : (set6 w H v0 v1 v2 v3 v4 v5).heap[G]? = w.heap[G]? := by
    rw [set6, heap_setCell_other _ _ _ _ (by exact fun e => hne e.symm), heap_setCell_other _ _ _ _ (by exact fun e => hne e.symm), heap_setCell_other _ _ _ _ (by exact fun e => hne e.symm), heap_setCell_other _ _ _ _ (by exact fun e => hne e.symm), heap_setCell_other _ _ _ _ (by exact fun e => hne e.symm), heap_setCell_other _ _ _ _ (by exact fun e => hne e.symm)]
  have hc : ∀ o, (set6 w H v0 v1 v2 v3 v4 v5).cell? ⟨G, o, none⟩ = w.cell? ⟨G, o, none⟩ := fun o => by unfold World.cell?; rw [hg]
  have hf : ∀ o, (set6 w H v0 v1 v2 v3 v4 v5).frozen? ⟨G, o, none⟩ = w.frozen? ⟨G, o, none⟩ := fun o => by unfold World.frozen?; rw [hg]
  have b := h.bk
  exact ⟨(hc 0).trans b.c0, (hc 1).trans b.c1, (hc 2).trans b.c2, (hf 0).trans b.f0, (hf 1).trans b.f1, (hf 2).trans b.f2, by simp [World.setCell]; exact b.lt, by rw [hg]; exact b.blk⟩
end
/-- at most twelve limbs -/
structure Tw (a : Ix) : Prop where
  a1 : a.lo.xs.length ≤ 12
  a2 : a.lo.ys.length ≤ 12
  a3 : a.hi.xs.length ≤ 12
  a4 : a.hi.ys.length ≤ 12
set_option maxRecDepth 100000 in
theorem Tw.of {a : Ix} (h : longA a = false) : Tw a := by
  simp only [longA, Bool.or_eq_false_iff, decide_eq_false_iff_not, Nat.not_lt] at h
  exact ⟨h.1.1.1, h.1.1.2, h.1.2, h.2⟩
set_option maxRecDepth 100000 in
theorem Tw.few {a : Ix} (h : Tw a) : a.few := ⟨by have := h.a1; omega, by have := h.a2; omega, by have := h.a3; omega, by have := h.a4; omega⟩
set_option maxRecDepth 100000 in
theorem Tw.sh {w : World} {a : Ix} (h : Tw a) (ok : a.ok w) (hv : a.v) : Sh a :=
  ⟨hv, Sz.of_v hv.1 h.a1 h.a2 ok.lo.num.u ok.lo.den.u, Sz.of_v hv.2.1 h.a3 h.a4 ok.hi.num.u ok.hi.den.u⟩
set_option maxRecDepth 100000 in
theorem longI_all {vs : List Ix} (h : longI vs = false) : ∀ v ∈ vs, Tw v := fun v hv => Tw.of (by
  have := List.any_eq_false.1 h v hv
  simpa using this)
set_option maxRecDepth 100000 in
theorem longI2 {x y : Ix} (h : longI [x, y] = false) : Tw x ∧ Tw y := ⟨longI_all h x (by simp), longI_all h y (by simp)⟩
set_option maxRecDepth 100000 in
theorem longI1 {x : Ix} (h : longI [x] = false) : Tw x := longI_all h x (by simp)
end Go.Proofs.Ytlcolmifmhdboaa
namespace Go.Proofs.Ytlcolmifmhdboaa
open Go.ChangeShapes Go.WideShapes Go.ChangeAt Go.RowKit

set_option maxRecDepth 100000 in
theorem own_knob : ownKnob Try.prog.godebug = none := by kernel_rfl
set_option maxRecDepth 100000 in
theorem laid_out : laidOutB Try.prog = true := by kernel_rfl
set_option maxRecDepth 100000 in
theorem lt_of_cell {w : World} {a : Addr} {v : Value} (h : w.cell? a = some v) : a.block < w.heap.size := by
  rcases Nat.lt_or_ge a.block w.heap.size with h1 | h1
  · exact h1
  · simp [World.cell?, Array.getElem?_eq_none h1] at h
set_option maxRecDepth 100000 in
/-- a slice of 32-bit numbers that came in reads as limbs -/
theorem nt_of_ints {H : Type} {enc : TypeId × Value → H} {W : World} {base : Nat} {spare : Nat → Bool} {held : Bool} {t : TypeId} {a : Option Addr} {len cap : Nat} {d : DataW H} {p : List MemPlace}
    (ht : Try.prog.underlying t = some (.slice 26)) (h : DataW.Trod enc Try.prog W base spare held t (.slice a len cap) d p) : ∃ xs : List Nat, xs.length = len ∧ Nt W a cap xs := by
  obtain ⟨fuel, hf⟩ := h
  rcases open_ints ht Try.underlying26 (by kernel_rfl) hf with ⟨hcs, _⟩ | ⟨x, l, c, zs, hcs, _, hl, hm, hz, _, hcell, hwz⟩
  · simp [Value.cells] at hcs
    obtain ⟨rfl, rfl, rfl⟩ := hcs
    exact ⟨[], rfl, Nt.nil _ _ _ (by omega)⟩
  · simp [Value.cells] at hcs
    obtain ⟨rfl, rfl, rfl⟩ := hcs
    unfold maxLen at hm
    have hzl : len ≤ zs.length := by
      rw [hz]; split <;> omega
    have hnum : ∀ k (hk : k < zs.length), 0 ≤ zs[k] ∧ zs[k] < 4294967296 := by
      intro k hk
      have := hwz _ (List.getElem_mem hk)
      simp [Lit.wf, IntKind.min, IntKind.max, IntKind.signed, IntKind.bits] at this
      omega
    have hlen : ((zs.take len).map Int.toNat).length = len := by simp; omega
    refine ⟨(zs.take len).map Int.toNat, hlen, ⟨by rw [hlen]; exact hl, hm, ?_, ?_⟩⟩
    · intro y hy
      obtain ⟨z, hz1, rfl⟩ := List.mem_map.1 hy
      obtain ⟨k, hk, rfl⟩ := List.getElem_of_mem (List.mem_of_mem_take hz1)
      have := hnum k hk
      omega
    · intro hn
      rw [hlen] at hn
      have h0 := hcell 0 (by omega)
      refine ⟨x, rfl, ?_, fun k hk => ?_⟩
      · have := lt_of_cell h0
        rwa [block_of_add] at this
      · rw [hlen] at hk
        rw [hcell k (by omega)]
        have h1 := hnum k (by omega)
        simp only [List.getElem_map, List.getElem_take]
        rw [List.getD_eq_getElem?_getD, List.getElem?_eq_getElem (by omega), Option.getD_some]
        simp only [lmv]
        congr 2
        omega
end Go.Proofs.Ytlcolmifmhdboaa
namespace Go.Proofs.Ytlcolmifmhdboaa
open Go.Joins Go.ChangeShapes Go.WideShapes Go.ChangeAt Go.RowKit

set_option maxRecDepth 100000 in
theorem nat_of_trod {H : Type} {enc : TypeId × Value → H} {W : World} {base : Nat} {spare : Nat → Bool} {held : Bool} {t : TypeId} {v : Value} {n : Nat} {y : DataW H × List MemPlace}
    (ht : Try.prog.underlying t = some (.slice 26)) (h : DataW.trod enc Try.prog W base spare held n t [v] = some y) : ∃ (A : Option Addr) (c : Nat) (xs : List Nat), v = .slice A xs.length c ∧ Nt W A c xs := by
  have hcs : ∃ A len c, v = .slice A len c := by
    rcases open_ints ht Try.underlying26 (by kernel_rfl) h with ⟨hcs, _⟩ | ⟨x, l, c, zs, hcs, _⟩
    · simp only [List.cons.injEq, and_true] at hcs; exact ⟨_, _, _, hcs⟩
    · simp only [List.cons.injEq, and_true] at hcs; exact ⟨_, _, _, hcs⟩
  obtain ⟨A, len, c, rfl⟩ := hcs
  obtain ⟨y1, y2⟩ := y
  have h2 : DataW.Trod enc Try.prog W base spare held t (.slice A len c) y1 y2 := ⟨n, by simpa [Value.cells] using h⟩
  obtain ⟨xs, rfl, hx⟩ := nt_of_ints ht h2
  exact ⟨A, c, xs, rfl, hx⟩
set_option maxRecDepth 100000 in
theorem fx_of_frac {H : Type} {enc : TypeId × Value → H} {W : World} {base b0 : Nat} {r : Reach} {spare : Nat → Bool} {held : Bool} {v : Value} {d : DataW H} {p : List MemPlace}
    (hv : Value.okWide Try.prog W r b0 25 v) (h : DataW.Trod enc Try.prog W base spare held 25 v d p) : ∃ x : Fx, v = x.val ∧ x.ok W := by
  obtain ⟨c0, c1, c2, y0, y1, y2, m, rfl, rfl, rfl, hy0, hy1, hy2⟩ := open_agg3 Try.underlying25 (by kernel_rfl) (by kernel_rfl) hv h
  have hb : ∃ b, c0 = .bool b := by
    obtain ⟨b, hb, _⟩ := DataW.trod_bool Try.underlying4 hy0
    simp only [List.cons.injEq, and_true] at hb
    exact ⟨b, hb⟩
  obtain ⟨b, rfl⟩ := hb
  obtain ⟨A, c, xs, rfl, hA⟩ := nat_of_trod Try.underlying23 hy1
  obtain ⟨D, e, ys, rfl, hD⟩ := nat_of_trod Try.underlying23 hy2
  exact ⟨⟨b, A, c, xs, D, e, ys⟩, rfl, hA, hD⟩
end Go.Proofs.Ytlcolmifmhdboaa
namespace Go.Proofs.Ytlcolmifmhdboaa
open Go.Joins Go.ChangeShapes Go.WideShapes Go.ChangeAt Go.RowKit Go.Deep

set_option maxRecDepth 100000 in
theorem fx_of_cells {H : Type} {enc : TypeId × Value → H} {W : World} {base : Nat} {spare : Nat → Bool} {held : Bool} {c0 c1 c2 : Value} {n : Nat} {y : DataW H × List MemPlace}
    (h : DataW.trod enc Try.prog W base spare held n 25 [c0, c1, c2] = some y) : ∃ x : Fx, c0 = .bool x.b ∧ c1 = .slice x.A x.xs.length x.c ∧ c2 = .slice x.D x.ys.length x.d ∧ x.ok W := by
  obtain ⟨ys, m, _, _, _, hlen, hg⟩ := DataW.trod_struct Try.underlying25 h
  have k4 : Try.prog.cellsOf 4 = 1 := by kernel_rfl
  have k23 : Try.prog.cellsOf 23 = 1 := by kernel_rfl
  have h0 : DataW.trod enc Try.prog W base spare held m 4 [c0] = ys[0]? := by simpa [k4] using hg 0 _ rfl
  have h1 : DataW.trod enc Try.prog W base spare held m 23 [c1] = ys[1]? := by simpa [k23] using hg 1 _ rfl
  have h2 : DataW.trod enc Try.prog W base spare held m 23 [c2] = ys[2]? := by simpa [k23] using hg 2 _ rfl
  match ys, hlen with
  | [y0, y1, y2], _ =>
    obtain ⟨b, hb, _⟩ := DataW.trod_bool Try.underlying4 h0
    simp only [List.cons.injEq, and_true] at hb
    subst hb
    obtain ⟨A, c, xs, rfl, hA⟩ := nat_of_trod Try.underlying23 h1
    obtain ⟨D, e, zs, rfl, hD⟩ := nat_of_trod Try.underlying23 h2
    exact ⟨⟨b, A, c, xs, D, e, zs⟩, rfl, rfl, rfl, hA, hD⟩
set_option maxRecDepth 100000 in
theorem add_one_ (a : Addr) (j : Nat) : a.add (j + 1) = ⟨a.block, a.off + (j + 1), none⟩ := by unfold Addr.add; simp
set_option maxRecDepth 100000 in
theorem fxs_of {H : Type} {enc : TypeId × Value → H} {W : World} {base : Nat} {spare : Nat → Bool} {held : Bool} {a : Option Addr} {len cap : Nat} {d : DataW H} {p : List MemPlace}
    (h : DataW.Trod enc Try.prog W base spare held 62 (.slice a len cap) d p) : ∃ vs : List Fx, vs.length = len ∧ len ≤ cap ∧ cap ≤ maxLen ∧ RdF W a vs ∧ ∀ v ∈ vs, v.ok W := by
  obtain ⟨fuel, hf⟩ := h
  rcases open_slice Try.underlying62 hf with ⟨hcs, _⟩ | ⟨x, l, c, m, n, D, Pl, hcs, _, hl, hm, hmm, _, hi⟩
  · simp [Value.cells] at hcs
    obtain ⟨rfl, rfl, rfl⟩ := hcs
    exact ⟨[], rfl, Nat.le_refl _, Nat.zero_le _, fun h => absurd h (by simp), fun v hv => absurd hv (by simp)⟩
  · simp [Value.cells] at hcs
    obtain ⟨rfl, rfl, rfl⟩ := hcs
    have hC : Try.prog.cellsOf 25 = 3 := by kernel_rfl
    have hlm : len ≤ m := by rw [hmm]; split <;> omega
    have hex : ∀ i, ∃ x' : Fx, i < len → (W.cell? (x.add (i * 3)) = some (.bool x'.b) ∧ W.cell? ⟨(x.add (i * 3)).block, (x.add (i * 3)).off + 1, none⟩ = some (.slice x'.A x'.xs.length x'.c) ∧ W.cell? ⟨(x.add (i * 3)).block, (x.add (i * 3)).off + 2, none⟩ = some (.slice x'.D x'.ys.length x'.d)) ∧ x'.ok W := by
      intro i
      by_cases hil : i < len
      · obtain ⟨cs', hc, ht⟩ := hi i (by omega)
        rw [hC] at hc
        obtain ⟨_, hcl, hat⟩ := World.cells?_some hc
        match cs', hcl with
        | [c0, c1, c2], _ =>
          obtain ⟨x', rfl, rfl, rfl, hok⟩ := fx_of_cells ht
          refine ⟨x', fun _ => ⟨⟨?_, ?_, ?_⟩, hok⟩⟩
          · have h0 := hat 0 (by omega)
            rw [show ∀ b : Addr, b.add 0 = b from fun b => by unfold Addr.add; simp] at h0
            exact h0
          · have h1 := hat 1 (by omega)
            rw [add_one_ _ 0] at h1
            exact h1
          · have h2 := hat 2 (by omega)
            rw [add_one_ _ 1] at h2
            exact h2
      · exact ⟨Fx.nil, fun h => absurd h hil⟩
    refine ⟨(List.range len).map fun i => Classical.choose (hex i), by simp, hl, hm, ?_, ?_⟩
    · intro hn
      have hn' : 0 < len := by simpa using hn
      have h0 := (Classical.choose_spec (hex 0) hn').1.1
      have hb := lt_of_cell h0
      rw [block_of_add] at hb
      refine ⟨x, rfl, hb, fun k hk => ?_⟩
      have hk' : k < len := by simpa using hk
      have hs := (Classical.choose_spec (hex k) hk').1
      simp only [List.getElem_map, List.getElem_range]
      exact hs
    · intro v hv
      obtain ⟨i, hi', rfl⟩ := List.mem_map.1 hv
      exact (Classical.choose_spec (hex i) (List.mem_range.1 hi')).2
end Go.Proofs.Ytlcolmifmhdboaa
namespace Go.Proofs.Ytlcolmifmhdboaa
open Go.Joins Go.ChangeShapes Go.WideShapes Go.ChangeAt Go.RowKit Go.Deep

set_option maxRecDepth 100000 in
theorem ix_of_cells {H : Type} {enc : TypeId × Value → H} {W : World} {base : Nat} {spare : Nat → Bool} {held : Bool} {c0 c1 c2 c3 c4 c5 : Value} {n : Nat} {y : DataW H × List MemPlace}
    (h : DataW.trod enc Try.prog W base spare held n 41 [c0, c1, c2, c3, c4, c5] = some y) : ∃ x : Ix, c0 = .bool x.lo.b ∧ c1 = .slice x.lo.A x.lo.xs.length x.lo.c ∧ c2 = .slice x.lo.D x.lo.ys.length x.lo.d ∧ c3 = .bool x.hi.b ∧ c4 = .slice x.hi.A x.hi.xs.length x.hi.c ∧ c5 = .slice x.hi.D x.hi.ys.length x.hi.d ∧ x.ok W := by
  obtain ⟨ys, m, _, _, _, hlen, hg⟩ := DataW.trod_struct Try.underlying41 h
  have k3 : Try.prog.cellsOf 25 = 3 := by kernel_rfl
  have h0 : DataW.trod enc Try.prog W base spare held m 25 [c0, c1, c2] = ys[0]? := by simpa [k3] using hg 0 _ rfl
  have h1 : DataW.trod enc Try.prog W base spare held m 25 [c3, c4, c5] = ys[1]? := by simpa [k3] using hg 1 _ rfl
  match ys, hlen with
  | [y0, y1], _ =>
    obtain ⟨x, e0, e1, e2, okx⟩ := fx_of_cells h0
    obtain ⟨z, e3, e4, e5, okz⟩ := fx_of_cells h1
    exact ⟨⟨x, z⟩, e0, e1, e2, e3, e4, e5, okx, okz⟩
set_option maxRecDepth 100000 in
theorem ix_of_ivl {H : Type} {enc : TypeId × Value → H} {W : World} {base b0 : Nat} {r : Reach} {spare : Nat → Bool} {held : Bool} {v : Value} {d : DataW H} {p : List MemPlace}
    (hv : Value.okWide Try.prog W r b0 41 v) (h : DataW.Trod enc Try.prog W base spare held 41 v d p) : ∃ x : Ix, v = x.val ∧ x.ok W := by
  obtain ⟨cs, rfl, hsz⟩ := okWide_struct Try.underlying41 hv
  have k6 : Try.prog.cellsOf 41 = 6 := by kernel_rfl
  rw [k6] at hsz
  obtain ⟨l⟩ := cs
  have hl : l.length = 6 := by simpa using hsz
  match l, hl with
  | [c0, c1, c2, c3, c4, c5], _ =>
    obtain ⟨fuel, hf⟩ := h
    obtain ⟨x, rfl, rfl, rfl, rfl, rfl, rfl, ok⟩ := ix_of_cells (by simpa [Value.cells] using hf)
    exact ⟨x, rfl, ok⟩
set_option maxRecDepth 100000 in
theorem ixs_of {H : Type} {enc : TypeId × Value → H} {W : World} {base : Nat} {spare : Nat → Bool} {held : Bool} {a : Option Addr} {len cap : Nat} {d : DataW H} {p : List MemPlace}
    (h : DataW.Trod enc Try.prog W base spare held 50 (.slice a len cap) d p) : ∃ vs : List Ix, vs.length = len ∧ len ≤ cap ∧ cap ≤ maxLen ∧ RdI W a vs ∧ ∀ v ∈ vs, v.ok W := by
  obtain ⟨fuel, hf⟩ := h
  rcases open_slice Try.underlying50 hf with ⟨hcs, _⟩ | ⟨x, l, c, m, n, D, Pl, hcs, _, hl, hm, hmm, _, hi⟩
  · simp [Value.cells] at hcs
    obtain ⟨rfl, rfl, rfl⟩ := hcs
    exact ⟨[], rfl, Nat.le_refl _, Nat.zero_le _, fun h => absurd h (by simp), fun v hv => absurd hv (by simp)⟩
  · simp [Value.cells] at hcs
    obtain ⟨rfl, rfl, rfl⟩ := hcs
    have hC : Try.prog.cellsOf 41 = 6 := by kernel_rfl
    have hlm : len ≤ m := by rw [hmm]; split <;> omega
    have hex : ∀ i, ∃ x' : Ix, i < len → (W.cell? (x.add (i * 6)) = some (.bool x'.lo.b) ∧ W.cell? ⟨(x.add (i * 6)).block, (x.add (i * 6)).off + 1, none⟩ = some (.slice x'.lo.A x'.lo.xs.length x'.lo.c) ∧ W.cell? ⟨(x.add (i * 6)).block, (x.add (i * 6)).off + 2, none⟩ = some (.slice x'.lo.D x'.lo.ys.length x'.lo.d) ∧ W.cell? ⟨(x.add (i * 6)).block, (x.add (i * 6)).off + 3, none⟩ = some (.bool x'.hi.b) ∧ W.cell? ⟨(x.add (i * 6)).block, (x.add (i * 6)).off + 4, none⟩ = some (.slice x'.hi.A x'.hi.xs.length x'.hi.c) ∧ W.cell? ⟨(x.add (i * 6)).block, (x.add (i * 6)).off + 5, none⟩ = some (.slice x'.hi.D x'.hi.ys.length x'.hi.d)) ∧ x'.ok W := by
      intro i
      by_cases hil : i < len
      · obtain ⟨cs', hc, ht⟩ := hi i (by omega)
        rw [hC] at hc
        obtain ⟨_, hcl, hat⟩ := World.cells?_some hc
        match cs', hcl with
        | [c0, c1, c2, c3, c4, c5], _ =>
          obtain ⟨x', rfl, rfl, rfl, rfl, rfl, rfl, hok⟩ := ix_of_cells ht
          refine ⟨x', fun _ => ⟨⟨?_, ?_, ?_, ?_, ?_, ?_⟩, hok⟩⟩
          · have h0 := hat 0 (by omega)
            rw [show ∀ b : Addr, b.add 0 = b from fun b => by unfold Addr.add; simp] at h0
            exact h0
          · have h1 := hat 1 (by omega)
            rw [add_one_ _ 0] at h1
            exact h1
          · have h2 := hat 2 (by omega)
            rw [add_one_ _ 1] at h2
            exact h2
          · have h2 := hat 3 (by omega)
            rw [add_one_ _ 2] at h2
            exact h2
          · have h2 := hat 4 (by omega)
            rw [add_one_ _ 3] at h2
            exact h2
          · have h2 := hat 5 (by omega)
            rw [add_one_ _ 4] at h2
            exact h2
      · exact ⟨Ix.nil, fun h => absurd h hil⟩
    refine ⟨(List.range len).map fun i => Classical.choose (hex i), by simp, hl, hm, ?_, ?_⟩
    · intro hn
      have hn' : 0 < len := by simpa using hn
      have h0 := (Classical.choose_spec (hex 0) hn').1.1
      have hb := lt_of_cell h0
      rw [block_of_add] at hb
      refine ⟨x, rfl, hb, fun k hk => ?_⟩
      have hk' : k < len := by simpa using hk
      have hs := (Classical.choose_spec (hex k) hk').1
      simp only [List.getElem_map, List.getElem_range]
      exact hs
    · intro v hv
      obtain ⟨i, hi', rfl⟩ := List.mem_map.1 hv
      exact (Classical.choose_spec (hex i) (List.mem_range.1 hi')).2
end Go.Proofs.Ytlcolmifmhdboaa
