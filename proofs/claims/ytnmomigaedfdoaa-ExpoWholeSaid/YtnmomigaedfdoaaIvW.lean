/- The walk of drydockref03.Meet. -/
import Derived.Test.YtnmomigaedfdoaaRfI
import Derived.Test.YtnmomigaedfdoaaRfS
import Derived.Test.YtnmomigaedfdoaaIvH
namespace Go.Proofs.Ytnmomigaedfdoaa
set_option maxRecDepth 100000
open Go.RowKit

theorem maxR_lt (p q : Rat) : maxR p q = if p < q then q else p := by
  rw [maxR]
  by_cases h : p < q
  · rw [if_pos h, if_pos (Rat.le_of_lt h)]
  · rw [if_neg h]
    by_cases h2 : p ≤ q
    · rw [if_pos h2]; exact (Rat.le_antisymm h2 (Rat.not_lt.1 h)).symm
    · rw [if_neg h2]
theorem minR_lt (p q : Rat) : minR p q = if q < p then q else p := by
  rw [minR]
  by_cases h : q < p
  · rw [if_pos h, if_pos (Rat.le_of_lt h)]
  · rw [if_neg h]
    by_cases h2 : q ≤ p
    · rw [if_pos h2]; exact Rat.le_antisymm h2 (Rat.not_lt.1 h)
    · rw [if_neg h2]
theorem Ia.farI {w : World} {G H i j k : Nat} {x y : Ix} (h : Ia w G x) (b : Ia w H y) (hne : H ≠ G) {u v z : Value} : Ia (((w.setCell ⟨H, i, none⟩ u).setCell ⟨H, j, none⟩ v).setCell ⟨H, k, none⟩ z) G x :=
  ⟨((h.bk.far (p := ⟨H, i, none⟩) (by exact hne) u).far (p := ⟨H, j, none⟩) (by exact hne) v).far (p := ⟨H, k, none⟩) (by exact hne) z, ⟨set3at_ok h.ok.lo b.bk (noInt_i y), set3at_ok h.ok.hi b.bk (noInt_i y)⟩⟩
set_option maxHeartbeats 8000000 in
theorem rimeet_any (w : World) (x1 x2 : Ix) (S : FqS × FqS × Bool) (ok1 : x1.ok w) (ok2 : x2.ok w) (f1 : x1.few) (f2 : x2.few) (hs : meetS x1 x2 = S) :
    Calls Try.prog 20 #[x1.val, x2.val] w (IvlOk w S.1 S.2.1 S.2.2) := by
  have HS := Lib.hid hs
  clear hs
  by_cases hv1 : x1.v
  · have HV1 := Lib.hid hv1
    by_cases hv2 : x2.v
    · have HV2 := Lib.hid hv2
      have HSP : Hid (S = if maxR x1.lo.q x2.lo.q ≤ minR x1.hi.q x2.hi.q then (okS (maxR x1.lo.q x2.lo.q), okS (minR x1.hi.q x2.hi.q), true) else (nilF, nilF, false)) := Lib.hid (by
        rw [← HS.out, meetS]
        by_cases h : maxR x1.lo.q x2.lo.q ≤ minR x1.hi.q x2.hi.q
        · rw [if_pos h, if_pos ⟨hv1, hv2, h⟩]
        · rw [if_neg h, if_neg (fun e => h e.2.2)])
      have V3 := Lib.hid HV1.out.1
      have V4 := Lib.hid HV1.out.2.1
      have W3 := Lib.hid HV2.out.1
      have W4 := Lib.hid HV2.out.2.1
      clear hv1 hv2
      go_enter Try.func20, Try.ntmps20
      go_upto_region 1 with fail
      have bw := Below.refl w.heap.size w
      have a1 := (ia_alloc ok1).1
      have bb := (ia_alloc ok1).2
      have sz1 := size_box w (.cells x1.cells 35)
      clear ok1
      generalize (w.alloc (.cells x1.cells 35)) = wA at a1 bb sz1 ⊢
      try replace ok1 := ok1.below bb
      try replace ok2 := ok2.below bb
      try replace a1 := a1.below bb
      replace bw := below_on bw bb bw.size
      clear bb
      have a2 := (ia_alloc ok2).1
      have bb := (ia_alloc ok2).2
      have sz2 := size_box wA (.cells x2.cells 35)
      rw [sz1] at a2 sz2
      clear ok2 sz1
      generalize (wA.alloc (.cells x2.cells 35)) = wB at a2 bb sz2 ⊢
      try replace ok1 := ok1.below bb
      try replace ok2 := ok2.below bb
      try replace a1 := a1.below bb
      try replace a2 := a2.below bb
      replace bw := below_on bw bb bw.size
      clear bb
      have br := (zr_alloc wB).1
      have bb := (zr_alloc wB).2
      rw [sz2] at br
      clear sz2
      generalize (wB.alloc (.cells zcells 35)) = wm at br bb ⊢
      try replace a1 := a1.below bb
      try replace a2 := a2.below bb
      replace bw := below_on bw bb bw.size
      clear bb
      have ci0 := a1.c0
      have ci1 := a1.c1
      have ci2 := a1.c2
      have ci3 := a1.c3
      have ci4 := a1.c4
      have ci5 := a1.c5
      go_wp2_with fail
      clear ci0 ci1 ci2 ci3 ci4 ci5
      refine (rivalid_any _ x1 true a1.ok f1 (decide_eq_true HV1.out)).mono ?_
      rintro e wn ⟨rfl, bb⟩
      try replace br := br.below bb
      try replace a1 := a1.below bb
      try replace a2 := a2.below bb
      replace bw := below_on bw bb bw.size
      clear bb
      have ci0 := a2.c0
      have ci1 := a2.c1
      have ci2 := a2.c2
      have ci3 := a2.c3
      have ci4 := a2.c4
      have ci5 := a2.c5
      go_wp2_with fail
      clear ci0 ci1 ci2 ci3 ci4 ci5
      refine (rivalid_any _ x2 true a2.ok f2 (decide_eq_true HV2.out)).mono ?_
      rintro e wn ⟨rfl, bb⟩
      try replace br := br.below bb
      try replace a1 := a1.below bb
      try replace a2 := a2.below bb
      replace bw := below_on bw bb bw.size
      clear bb
      go_upto_region 3 with fail
      have ci0 := a1.c0
      have ci1 := a1.c1
      have ci2 := a1.c2
      have ci3 := a1.c3
      have ci4 := a1.c4
      have ci5 := a1.c5
      go_upto_region 4 with fail
      clear ci0 ci1 ci2 ci3 ci4 ci5
      have a6 := (ia_alloc a1.ok).1
      have bb := (ia_alloc a1.ok).2
      have g6l := br.lt
      generalize (wn.alloc (.cells #[.bool x1.lo.b, .slice x1.lo.A x1.lo.xs.length x1.lo.c, .slice x1.lo.D x1.lo.ys.length x1.lo.d, .bool x1.hi.b, .slice x1.hi.A x1.hi.xs.length x1.hi.c, .slice x1.hi.D x1.hi.ys.length x1.hi.d] 35)) = wm at a6 bb ⊢
      try replace br := br.below bb
      try replace a1 := a1.below bb
      try replace a2 := a2.below bb
      try replace a6 := a6.below bb
      replace bw := below_on bw bb bw.size
      clear bb
      generalize wn.heap.size = g6 at a6 g6l ⊢
      by_cases h1 : x1.lo.q < x2.lo.q
      · by_cases h2 : x2.hi.q < x1.hi.q
        · by_cases h3 : x2.hi.q < x2.lo.q
          · skip
            have HSQ : Hid (S = (nilF, nilF, false)) := Lib.hid (by rw [HSP.out, maxR_lt, minR_lt, if_pos h1, if_pos h2, if_neg (fun e => absurd h3 (Rat.not_lt.2 e))])
            have H1 : Hid ((x1.lo.q < x2.lo.q)) := h1
            have H2 : Hid ((x2.hi.q < x1.hi.q)) := h2
            have H3 : Hid ((x2.hi.q < x2.lo.q)) := h3
            clear h1 h2 h3
            have ci0 := a1.c0
            have ci1 := a1.c1
            have ci2 := a1.c2
            have ci3 := a1.c3
            have ci4 := a1.c4
            have ci5 := a1.c5
            have cj0 := a2.c0
            have cj1 := a2.c1
            have cj2 := a2.c2
            have cj3 := a2.c3
            have cj4 := a2.c4
            have cj5 := a2.c5
            go_wp2_with fail
            clear ci0 ci1 ci2 ci3 ci4 ci5
            clear cj0 cj1 cj2 cj3 cj4 cj5
            refine (rless_any _ x1.lo x2.lo true a1.ok.lo a2.ok.lo V3.out W3.out f1.lo f2.lo (decide_eq_true H1.out)).mono ?_
            rintro e wn ⟨rfl, bb⟩
            try replace br := br.below bb
            try replace a1 := a1.below bb
            try replace a2 := a2.below bb
            try replace a6 := a6.below bb
            replace bw := below_on bw bb bw.size
            clear bb
            have ci0 := a2.c0
            have ci1 := a2.c1
            have ci2 := a2.c2
            have ci3 := a2.c3
            have ci4 := a2.c4
            have ci5 := a2.c5
            have cj0 := a6.c0
            have cj1 := a6.c1
            have cj2 := a6.c2
            have cj3 := a6.c3
            have cj4 := a6.c4
            have cj5 := a6.c5
            have af0 := a6.unf 0
            have af1 := a6.unf 1
            have af2 := a6.unf 2
            have af3 := a6.unf 3
            have af4 := a6.unf 4
            have af5 := a6.unf 5
            go_upto_region 6 with fail
            clear ci0 ci1 ci2 ci3 ci4 ci5
            clear cj0 cj1 cj2 cj3 cj4 cj5
            clear af0 af1 af2 af3 af4 af5
            have b1 := a1.farI (i := 0) (j := 1) (k := 2) a6 (by omega) (u := .bool x2.lo.b) (v := .slice x2.lo.A x2.lo.xs.length x2.lo.c) (z := .slice x2.lo.D x2.lo.ys.length x2.lo.d)
            have b2 := a2.farI (i := 0) (j := 1) (k := 2) a6 (by omega) (u := .bool x2.lo.b) (v := .slice x2.lo.A x2.lo.xs.length x2.lo.c) (z := .slice x2.lo.D x2.lo.ys.length x2.lo.d)
            have b6 := a6.putLo a2.ok.lo
            have b3 := ((br.far (p := ⟨g6, 0, none⟩) (by simp; omega) (.bool x2.lo.b)).far (p := ⟨g6, 1, none⟩) (by simp; omega) (.slice x2.lo.A x2.lo.xs.length x2.lo.c)).far (p := ⟨g6, 2, none⟩) (by simp; omega) (.slice x2.lo.D x2.lo.ys.length x2.lo.d)
            have bz := set3h (G := g6) (i := 0) (j := 1) (k := 2) (a := .bool x2.lo.b) (b := .slice x2.lo.A x2.lo.xs.length x2.lo.c) (c := .slice x2.lo.D x2.lo.ys.length x2.lo.d) bw (by omega)
            clear a1 a2 a6 br bw
            generalize ((World.setCell (World.setCell (World.setCell _ ⟨g6, 0, none⟩ (.bool x2.lo.b)) ⟨g6, 1, none⟩ (.slice x2.lo.A x2.lo.xs.length x2.lo.c)) ⟨g6, 2, none⟩ (.slice x2.lo.D x2.lo.ys.length x2.lo.d))) = wm at *
            have a1 := b1
            have a2 := b2
            have a6 := b6
            have br := b3
            have bw := bz
            clear b1 b2 b3 b6 bz
            have ci0 := a1.c0
            have ci1 := a1.c1
            have ci2 := a1.c2
            have ci3 := a1.c3
            have ci4 := a1.c4
            have ci5 := a1.c5
            have cj0 := a2.c0
            have cj1 := a2.c1
            have cj2 := a2.c2
            have cj3 := a2.c3
            have cj4 := a2.c4
            have cj5 := a2.c5
            go_wp2_with fail
            clear ci0 ci1 ci2 ci3 ci4 ci5
            clear cj0 cj1 cj2 cj3 cj4 cj5
            refine (rless_any _ x2.hi x1.hi true a2.ok.hi a1.ok.hi W4.out V4.out f2.hi f1.hi (decide_eq_true H2.out)).mono ?_
            rintro e wn ⟨rfl, bb⟩
            try replace br := br.below bb
            try replace a1 := a1.below bb
            try replace a2 := a2.below bb
            try replace a6 := a6.below bb
            replace bw := below_on bw bb bw.size
            clear bb
            have ci0 := a2.c0
            have ci1 := a2.c1
            have ci2 := a2.c2
            have ci3 := a2.c3
            have ci4 := a2.c4
            have ci5 := a2.c5
            have cj0 := a6.c0
            have cj1 := a6.c1
            have cj2 := a6.c2
            have cj3 := a6.c3
            have cj4 := a6.c4
            have cj5 := a6.c5
            have af0 := a6.unf 0
            have af1 := a6.unf 1
            have af2 := a6.unf 2
            have af3 := a6.unf 3
            have af4 := a6.unf 4
            have af5 := a6.unf 5
            go_upto_region 8 with fail
            clear ci0 ci1 ci2 ci3 ci4 ci5
            clear cj0 cj1 cj2 cj3 cj4 cj5
            clear af0 af1 af2 af3 af4 af5
            have b1 := a1.farI (i := 3) (j := 4) (k := 5) a6 (by omega) (u := .bool x2.hi.b) (v := .slice x2.hi.A x2.hi.xs.length x2.hi.c) (z := .slice x2.hi.D x2.hi.ys.length x2.hi.d)
            have b2 := a2.farI (i := 3) (j := 4) (k := 5) a6 (by omega) (u := .bool x2.hi.b) (v := .slice x2.hi.A x2.hi.xs.length x2.hi.c) (z := .slice x2.hi.D x2.hi.ys.length x2.hi.d)
            have b6 := a6.putHi a2.ok.hi
            have b3 := ((br.far (p := ⟨g6, 3, none⟩) (by simp; omega) (.bool x2.hi.b)).far (p := ⟨g6, 4, none⟩) (by simp; omega) (.slice x2.hi.A x2.hi.xs.length x2.hi.c)).far (p := ⟨g6, 5, none⟩) (by simp; omega) (.slice x2.hi.D x2.hi.ys.length x2.hi.d)
            have bz := set3h (G := g6) (i := 3) (j := 4) (k := 5) (a := .bool x2.hi.b) (b := .slice x2.hi.A x2.hi.xs.length x2.hi.c) (c := .slice x2.hi.D x2.hi.ys.length x2.hi.d) bw (by omega)
            clear a1 a2 a6 br bw
            generalize ((World.setCell (World.setCell (World.setCell _ ⟨g6, 3, none⟩ (.bool x2.hi.b)) ⟨g6, 4, none⟩ (.slice x2.hi.A x2.hi.xs.length x2.hi.c)) ⟨g6, 5, none⟩ (.slice x2.hi.D x2.hi.ys.length x2.hi.d))) = wm at *
            have a1 := b1
            have a2 := b2
            have a6 := b6
            have br := b3
            have bw := bz
            clear b1 b2 b3 b6 bz
            have ci0 := a6.c0
            have ci1 := a6.c1
            have ci2 := a6.c2
            have ci3 := a6.c3
            have ci4 := a6.c4
            have ci5 := a6.c5
            go_wp2_with fail
            clear ci0 ci1 ci2 ci3 ci4 ci5
            refine (rless_any _ x2.hi x2.lo true a6.ok.hi a6.ok.lo W4.out W3.out f2.hi f2.lo (decide_eq_true H3.out)).mono ?_
            rintro e wn ⟨rfl, bb⟩
            try replace br := br.below bb
            try replace a1 := a1.below bb
            try replace a2 := a2.below bb
            try replace a6 := a6.below bb
            replace bw := below_on bw bb bw.size
            clear bb
            have r0 := br.cell 0
            have r1 := br.cell 1
            have r2 := br.cell 2
            have r3 := br.cell 3
            have r4 := br.cell 4
            have r5 := br.cell 5
            have rf0 := br.unf 0
            have rf1 := br.unf 1
            have rf2 := br.unf 2
            have rf3 := br.unf 3
            have rf4 := br.unf 4
            have rf5 := br.unf 5
            simp only [List.getElem?_toArray, List.getElem?_cons_succ, List.getElem?_cons_zero] at r0 r1 r2 r3 r4 r5
            go_wp2_with fail
            refine bodyPost_ret (v := .tuple #[(Ix.nil : Ix).val, .bool false]) (by simp [results, Try.results20, go_sem, r0, r1, r2, r3, r4, r5]) rfl ?_
            rw [HSQ.out]
            exact ⟨Ix.nil, rfl, ⟨rfl, rfl, rfl⟩, ⟨rfl, rfl, rfl⟩, Ix.nil_ok _, set6_below bw (by omega)⟩
          · skip
            have HSQ : Hid (S = (okS x2.lo.q, okS x2.hi.q, true)) := Lib.hid (by rw [HSP.out, maxR_lt, minR_lt, if_pos h1, if_pos h2, if_pos (Rat.not_lt.1 h3)])
            have H1 : Hid ((x1.lo.q < x2.lo.q)) := h1
            have H2 : Hid ((x2.hi.q < x1.hi.q)) := h2
            have H3 : Hid (¬ (x2.hi.q < x2.lo.q)) := h3
            clear h1 h2 h3
            have ci0 := a1.c0
            have ci1 := a1.c1
            have ci2 := a1.c2
            have ci3 := a1.c3
            have ci4 := a1.c4
            have ci5 := a1.c5
            have cj0 := a2.c0
            have cj1 := a2.c1
            have cj2 := a2.c2
            have cj3 := a2.c3
            have cj4 := a2.c4
            have cj5 := a2.c5
            go_wp2_with fail
            clear ci0 ci1 ci2 ci3 ci4 ci5
            clear cj0 cj1 cj2 cj3 cj4 cj5
            refine (rless_any _ x1.lo x2.lo true a1.ok.lo a2.ok.lo V3.out W3.out f1.lo f2.lo (decide_eq_true H1.out)).mono ?_
            rintro e wn ⟨rfl, bb⟩
            try replace br := br.below bb
            try replace a1 := a1.below bb
            try replace a2 := a2.below bb
            try replace a6 := a6.below bb
            replace bw := below_on bw bb bw.size
            clear bb
            have ci0 := a2.c0
            have ci1 := a2.c1
            have ci2 := a2.c2
            have ci3 := a2.c3
            have ci4 := a2.c4
            have ci5 := a2.c5
            have cj0 := a6.c0
            have cj1 := a6.c1
            have cj2 := a6.c2
            have cj3 := a6.c3
            have cj4 := a6.c4
            have cj5 := a6.c5
            have af0 := a6.unf 0
            have af1 := a6.unf 1
            have af2 := a6.unf 2
            have af3 := a6.unf 3
            have af4 := a6.unf 4
            have af5 := a6.unf 5
            go_upto_region 6 with fail
            clear ci0 ci1 ci2 ci3 ci4 ci5
            clear cj0 cj1 cj2 cj3 cj4 cj5
            clear af0 af1 af2 af3 af4 af5
            have b1 := a1.farI (i := 0) (j := 1) (k := 2) a6 (by omega) (u := .bool x2.lo.b) (v := .slice x2.lo.A x2.lo.xs.length x2.lo.c) (z := .slice x2.lo.D x2.lo.ys.length x2.lo.d)
            have b2 := a2.farI (i := 0) (j := 1) (k := 2) a6 (by omega) (u := .bool x2.lo.b) (v := .slice x2.lo.A x2.lo.xs.length x2.lo.c) (z := .slice x2.lo.D x2.lo.ys.length x2.lo.d)
            have b6 := a6.putLo a2.ok.lo
            have b3 := ((br.far (p := ⟨g6, 0, none⟩) (by simp; omega) (.bool x2.lo.b)).far (p := ⟨g6, 1, none⟩) (by simp; omega) (.slice x2.lo.A x2.lo.xs.length x2.lo.c)).far (p := ⟨g6, 2, none⟩) (by simp; omega) (.slice x2.lo.D x2.lo.ys.length x2.lo.d)
            have bz := set3h (G := g6) (i := 0) (j := 1) (k := 2) (a := .bool x2.lo.b) (b := .slice x2.lo.A x2.lo.xs.length x2.lo.c) (c := .slice x2.lo.D x2.lo.ys.length x2.lo.d) bw (by omega)
            clear a1 a2 a6 br bw
            generalize ((World.setCell (World.setCell (World.setCell _ ⟨g6, 0, none⟩ (.bool x2.lo.b)) ⟨g6, 1, none⟩ (.slice x2.lo.A x2.lo.xs.length x2.lo.c)) ⟨g6, 2, none⟩ (.slice x2.lo.D x2.lo.ys.length x2.lo.d))) = wm at *
            have a1 := b1
            have a2 := b2
            have a6 := b6
            have br := b3
            have bw := bz
            clear b1 b2 b3 b6 bz
            have ci0 := a1.c0
            have ci1 := a1.c1
            have ci2 := a1.c2
            have ci3 := a1.c3
            have ci4 := a1.c4
            have ci5 := a1.c5
            have cj0 := a2.c0
            have cj1 := a2.c1
            have cj2 := a2.c2
            have cj3 := a2.c3
            have cj4 := a2.c4
            have cj5 := a2.c5
            go_wp2_with fail
            clear ci0 ci1 ci2 ci3 ci4 ci5
            clear cj0 cj1 cj2 cj3 cj4 cj5
            refine (rless_any _ x2.hi x1.hi true a2.ok.hi a1.ok.hi W4.out V4.out f2.hi f1.hi (decide_eq_true H2.out)).mono ?_
            rintro e wn ⟨rfl, bb⟩
            try replace br := br.below bb
            try replace a1 := a1.below bb
            try replace a2 := a2.below bb
            try replace a6 := a6.below bb
            replace bw := below_on bw bb bw.size
            clear bb
            have ci0 := a2.c0
            have ci1 := a2.c1
            have ci2 := a2.c2
            have ci3 := a2.c3
            have ci4 := a2.c4
            have ci5 := a2.c5
            have cj0 := a6.c0
            have cj1 := a6.c1
            have cj2 := a6.c2
            have cj3 := a6.c3
            have cj4 := a6.c4
            have cj5 := a6.c5
            have af0 := a6.unf 0
            have af1 := a6.unf 1
            have af2 := a6.unf 2
            have af3 := a6.unf 3
            have af4 := a6.unf 4
            have af5 := a6.unf 5
            go_upto_region 8 with fail
            clear ci0 ci1 ci2 ci3 ci4 ci5
            clear cj0 cj1 cj2 cj3 cj4 cj5
            clear af0 af1 af2 af3 af4 af5
            have b1 := a1.farI (i := 3) (j := 4) (k := 5) a6 (by omega) (u := .bool x2.hi.b) (v := .slice x2.hi.A x2.hi.xs.length x2.hi.c) (z := .slice x2.hi.D x2.hi.ys.length x2.hi.d)
            have b2 := a2.farI (i := 3) (j := 4) (k := 5) a6 (by omega) (u := .bool x2.hi.b) (v := .slice x2.hi.A x2.hi.xs.length x2.hi.c) (z := .slice x2.hi.D x2.hi.ys.length x2.hi.d)
            have b6 := a6.putHi a2.ok.hi
            have b3 := ((br.far (p := ⟨g6, 3, none⟩) (by simp; omega) (.bool x2.hi.b)).far (p := ⟨g6, 4, none⟩) (by simp; omega) (.slice x2.hi.A x2.hi.xs.length x2.hi.c)).far (p := ⟨g6, 5, none⟩) (by simp; omega) (.slice x2.hi.D x2.hi.ys.length x2.hi.d)
            have bz := set3h (G := g6) (i := 3) (j := 4) (k := 5) (a := .bool x2.hi.b) (b := .slice x2.hi.A x2.hi.xs.length x2.hi.c) (c := .slice x2.hi.D x2.hi.ys.length x2.hi.d) bw (by omega)
            clear a1 a2 a6 br bw
            generalize ((World.setCell (World.setCell (World.setCell _ ⟨g6, 3, none⟩ (.bool x2.hi.b)) ⟨g6, 4, none⟩ (.slice x2.hi.A x2.hi.xs.length x2.hi.c)) ⟨g6, 5, none⟩ (.slice x2.hi.D x2.hi.ys.length x2.hi.d))) = wm at *
            have a1 := b1
            have a2 := b2
            have a6 := b6
            have br := b3
            have bw := bz
            clear b1 b2 b3 b6 bz
            have ci0 := a6.c0
            have ci1 := a6.c1
            have ci2 := a6.c2
            have ci3 := a6.c3
            have ci4 := a6.c4
            have ci5 := a6.c5
            go_wp2_with fail
            clear ci0 ci1 ci2 ci3 ci4 ci5
            refine (rless_any _ x2.hi x2.lo false a6.ok.hi a6.ok.lo W4.out W3.out f2.hi f2.lo (decide_eq_false H3.out)).mono ?_
            rintro e wn ⟨rfl, bb⟩
            try replace br := br.below bb
            try replace a1 := a1.below bb
            try replace a2 := a2.below bb
            try replace a6 := a6.below bb
            replace bw := below_on bw bb bw.size
            clear bb
            have ci0 := a6.c0
            have ci1 := a6.c1
            have ci2 := a6.c2
            have ci3 := a6.c3
            have ci4 := a6.c4
            have ci5 := a6.c5
            go_wp2_with fail
            clear ci0 ci1 ci2 ci3 ci4 ci5
            refine (rilowest_any _ ⟨x2.lo, x2.hi⟩ (okS x2.lo.q) (okS x2.hi.q) a6.ok ⟨f2.lo.l, f2.lo.m, f2.hi.l, f2.hi.m⟩ (redS_okS W3.out) (redS_okS W4.out)).mono ?_
            rintro e wn ⟨a, rfl, h1, h2, oka, bb⟩
            try replace br := br.below bb
            try replace a1 := a1.below bb
            try replace a2 := a2.below bb
            try replace a6 := a6.below bb
            replace bw := below_on bw bb bw.size
            clear bb
            have r0 := br.cell 0
            have r1 := br.cell 1
            have r2 := br.cell 2
            have r3 := br.cell 3
            have r4 := br.cell 4
            have r5 := br.cell 5
            have rf0 := br.unf 0
            have rf1 := br.unf 1
            have rf2 := br.unf 2
            have rf3 := br.unf 3
            have rf4 := br.unf 4
            have rf5 := br.unf 5
            simp only [List.getElem?_toArray, List.getElem?_cons_succ, List.getElem?_cons_zero] at r0 r1 r2 r3 r4 r5
            go_wp2_with fail
            refine bodyPost_ret (v := .tuple #[(a : Ix).val, .bool true]) (by simp [results, Try.results20, go_sem, r0, r1, r2, r3, r4, r5]) rfl ?_
            rw [HSQ.out]
            exact ⟨a, rfl, h1, h2, ⟨set6_ok oka.lo br noInt_z, set6_ok oka.hi br noInt_z⟩, set6_below bw (by omega)⟩
        · by_cases h3 : x1.hi.q < x2.lo.q
          · skip
            have HSQ : Hid (S = (nilF, nilF, false)) := Lib.hid (by rw [HSP.out, maxR_lt, minR_lt, if_pos h1, if_neg h2, if_neg (fun e => absurd h3 (Rat.not_lt.2 e))])
            have H1 : Hid ((x1.lo.q < x2.lo.q)) := h1
            have H2 : Hid (¬ (x2.hi.q < x1.hi.q)) := h2
            have H3 : Hid ((x1.hi.q < x2.lo.q)) := h3
            clear h1 h2 h3
            have ci0 := a1.c0
            have ci1 := a1.c1
            have ci2 := a1.c2
            have ci3 := a1.c3
            have ci4 := a1.c4
            have ci5 := a1.c5
            have cj0 := a2.c0
            have cj1 := a2.c1
            have cj2 := a2.c2
            have cj3 := a2.c3
            have cj4 := a2.c4
            have cj5 := a2.c5
            go_wp2_with fail
            clear ci0 ci1 ci2 ci3 ci4 ci5
            clear cj0 cj1 cj2 cj3 cj4 cj5
            refine (rless_any _ x1.lo x2.lo true a1.ok.lo a2.ok.lo V3.out W3.out f1.lo f2.lo (decide_eq_true H1.out)).mono ?_
            rintro e wn ⟨rfl, bb⟩
            try replace br := br.below bb
            try replace a1 := a1.below bb
            try replace a2 := a2.below bb
            try replace a6 := a6.below bb
            replace bw := below_on bw bb bw.size
            clear bb
            have ci0 := a2.c0
            have ci1 := a2.c1
            have ci2 := a2.c2
            have ci3 := a2.c3
            have ci4 := a2.c4
            have ci5 := a2.c5
            have cj0 := a6.c0
            have cj1 := a6.c1
            have cj2 := a6.c2
            have cj3 := a6.c3
            have cj4 := a6.c4
            have cj5 := a6.c5
            have af0 := a6.unf 0
            have af1 := a6.unf 1
            have af2 := a6.unf 2
            have af3 := a6.unf 3
            have af4 := a6.unf 4
            have af5 := a6.unf 5
            go_upto_region 6 with fail
            clear ci0 ci1 ci2 ci3 ci4 ci5
            clear cj0 cj1 cj2 cj3 cj4 cj5
            clear af0 af1 af2 af3 af4 af5
            have b1 := a1.farI (i := 0) (j := 1) (k := 2) a6 (by omega) (u := .bool x2.lo.b) (v := .slice x2.lo.A x2.lo.xs.length x2.lo.c) (z := .slice x2.lo.D x2.lo.ys.length x2.lo.d)
            have b2 := a2.farI (i := 0) (j := 1) (k := 2) a6 (by omega) (u := .bool x2.lo.b) (v := .slice x2.lo.A x2.lo.xs.length x2.lo.c) (z := .slice x2.lo.D x2.lo.ys.length x2.lo.d)
            have b6 := a6.putLo a2.ok.lo
            have b3 := ((br.far (p := ⟨g6, 0, none⟩) (by simp; omega) (.bool x2.lo.b)).far (p := ⟨g6, 1, none⟩) (by simp; omega) (.slice x2.lo.A x2.lo.xs.length x2.lo.c)).far (p := ⟨g6, 2, none⟩) (by simp; omega) (.slice x2.lo.D x2.lo.ys.length x2.lo.d)
            have bz := set3h (G := g6) (i := 0) (j := 1) (k := 2) (a := .bool x2.lo.b) (b := .slice x2.lo.A x2.lo.xs.length x2.lo.c) (c := .slice x2.lo.D x2.lo.ys.length x2.lo.d) bw (by omega)
            clear a1 a2 a6 br bw
            generalize ((World.setCell (World.setCell (World.setCell _ ⟨g6, 0, none⟩ (.bool x2.lo.b)) ⟨g6, 1, none⟩ (.slice x2.lo.A x2.lo.xs.length x2.lo.c)) ⟨g6, 2, none⟩ (.slice x2.lo.D x2.lo.ys.length x2.lo.d))) = wm at *
            have a1 := b1
            have a2 := b2
            have a6 := b6
            have br := b3
            have bw := bz
            clear b1 b2 b3 b6 bz
            have ci0 := a1.c0
            have ci1 := a1.c1
            have ci2 := a1.c2
            have ci3 := a1.c3
            have ci4 := a1.c4
            have ci5 := a1.c5
            have cj0 := a2.c0
            have cj1 := a2.c1
            have cj2 := a2.c2
            have cj3 := a2.c3
            have cj4 := a2.c4
            have cj5 := a2.c5
            go_wp2_with fail
            clear ci0 ci1 ci2 ci3 ci4 ci5
            clear cj0 cj1 cj2 cj3 cj4 cj5
            refine (rless_any _ x2.hi x1.hi false a2.ok.hi a1.ok.hi W4.out V4.out f2.hi f1.hi (decide_eq_false H2.out)).mono ?_
            rintro e wn ⟨rfl, bb⟩
            try replace br := br.below bb
            try replace a1 := a1.below bb
            try replace a2 := a2.below bb
            try replace a6 := a6.below bb
            replace bw := below_on bw bb bw.size
            clear bb
            go_upto_region 8 with fail
            generalize wn = wm at *
            have ci0 := a6.c0
            have ci1 := a6.c1
            have ci2 := a6.c2
            have ci3 := a6.c3
            have ci4 := a6.c4
            have ci5 := a6.c5
            go_wp2_with fail
            clear ci0 ci1 ci2 ci3 ci4 ci5
            refine (rless_any _ x1.hi x2.lo true a6.ok.hi a6.ok.lo V4.out W3.out f1.hi f2.lo (decide_eq_true H3.out)).mono ?_
            rintro e wn ⟨rfl, bb⟩
            try replace br := br.below bb
            try replace a1 := a1.below bb
            try replace a2 := a2.below bb
            try replace a6 := a6.below bb
            replace bw := below_on bw bb bw.size
            clear bb
            have r0 := br.cell 0
            have r1 := br.cell 1
            have r2 := br.cell 2
            have r3 := br.cell 3
            have r4 := br.cell 4
            have r5 := br.cell 5
            have rf0 := br.unf 0
            have rf1 := br.unf 1
            have rf2 := br.unf 2
            have rf3 := br.unf 3
            have rf4 := br.unf 4
            have rf5 := br.unf 5
            simp only [List.getElem?_toArray, List.getElem?_cons_succ, List.getElem?_cons_zero] at r0 r1 r2 r3 r4 r5
            go_wp2_with fail
            refine bodyPost_ret (v := .tuple #[(Ix.nil : Ix).val, .bool false]) (by simp [results, Try.results20, go_sem, r0, r1, r2, r3, r4, r5]) rfl ?_
            rw [HSQ.out]
            exact ⟨Ix.nil, rfl, ⟨rfl, rfl, rfl⟩, ⟨rfl, rfl, rfl⟩, Ix.nil_ok _, set6_below bw (by omega)⟩
          · skip
            have HSQ : Hid (S = (okS x2.lo.q, okS x1.hi.q, true)) := Lib.hid (by rw [HSP.out, maxR_lt, minR_lt, if_pos h1, if_neg h2, if_pos (Rat.not_lt.1 h3)])
            have H1 : Hid ((x1.lo.q < x2.lo.q)) := h1
            have H2 : Hid (¬ (x2.hi.q < x1.hi.q)) := h2
            have H3 : Hid (¬ (x1.hi.q < x2.lo.q)) := h3
            clear h1 h2 h3
            have ci0 := a1.c0
            have ci1 := a1.c1
            have ci2 := a1.c2
            have ci3 := a1.c3
            have ci4 := a1.c4
            have ci5 := a1.c5
            have cj0 := a2.c0
            have cj1 := a2.c1
            have cj2 := a2.c2
            have cj3 := a2.c3
            have cj4 := a2.c4
            have cj5 := a2.c5
            go_wp2_with fail
            clear ci0 ci1 ci2 ci3 ci4 ci5
            clear cj0 cj1 cj2 cj3 cj4 cj5
            refine (rless_any _ x1.lo x2.lo true a1.ok.lo a2.ok.lo V3.out W3.out f1.lo f2.lo (decide_eq_true H1.out)).mono ?_
            rintro e wn ⟨rfl, bb⟩
            try replace br := br.below bb
            try replace a1 := a1.below bb
            try replace a2 := a2.below bb
            try replace a6 := a6.below bb
            replace bw := below_on bw bb bw.size
            clear bb
            have ci0 := a2.c0
            have ci1 := a2.c1
            have ci2 := a2.c2
            have ci3 := a2.c3
            have ci4 := a2.c4
            have ci5 := a2.c5
            have cj0 := a6.c0
            have cj1 := a6.c1
            have cj2 := a6.c2
            have cj3 := a6.c3
            have cj4 := a6.c4
            have cj5 := a6.c5
            have af0 := a6.unf 0
            have af1 := a6.unf 1
            have af2 := a6.unf 2
            have af3 := a6.unf 3
            have af4 := a6.unf 4
            have af5 := a6.unf 5
            go_upto_region 6 with fail
            clear ci0 ci1 ci2 ci3 ci4 ci5
            clear cj0 cj1 cj2 cj3 cj4 cj5
            clear af0 af1 af2 af3 af4 af5
            have b1 := a1.farI (i := 0) (j := 1) (k := 2) a6 (by omega) (u := .bool x2.lo.b) (v := .slice x2.lo.A x2.lo.xs.length x2.lo.c) (z := .slice x2.lo.D x2.lo.ys.length x2.lo.d)
            have b2 := a2.farI (i := 0) (j := 1) (k := 2) a6 (by omega) (u := .bool x2.lo.b) (v := .slice x2.lo.A x2.lo.xs.length x2.lo.c) (z := .slice x2.lo.D x2.lo.ys.length x2.lo.d)
            have b6 := a6.putLo a2.ok.lo
            have b3 := ((br.far (p := ⟨g6, 0, none⟩) (by simp; omega) (.bool x2.lo.b)).far (p := ⟨g6, 1, none⟩) (by simp; omega) (.slice x2.lo.A x2.lo.xs.length x2.lo.c)).far (p := ⟨g6, 2, none⟩) (by simp; omega) (.slice x2.lo.D x2.lo.ys.length x2.lo.d)
            have bz := set3h (G := g6) (i := 0) (j := 1) (k := 2) (a := .bool x2.lo.b) (b := .slice x2.lo.A x2.lo.xs.length x2.lo.c) (c := .slice x2.lo.D x2.lo.ys.length x2.lo.d) bw (by omega)
            clear a1 a2 a6 br bw
            generalize ((World.setCell (World.setCell (World.setCell _ ⟨g6, 0, none⟩ (.bool x2.lo.b)) ⟨g6, 1, none⟩ (.slice x2.lo.A x2.lo.xs.length x2.lo.c)) ⟨g6, 2, none⟩ (.slice x2.lo.D x2.lo.ys.length x2.lo.d))) = wm at *
            have a1 := b1
            have a2 := b2
            have a6 := b6
            have br := b3
            have bw := bz
            clear b1 b2 b3 b6 bz
            have ci0 := a1.c0
            have ci1 := a1.c1
            have ci2 := a1.c2
            have ci3 := a1.c3
            have ci4 := a1.c4
            have ci5 := a1.c5
            have cj0 := a2.c0
            have cj1 := a2.c1
            have cj2 := a2.c2
            have cj3 := a2.c3
            have cj4 := a2.c4
            have cj5 := a2.c5
            go_wp2_with fail
            clear ci0 ci1 ci2 ci3 ci4 ci5
            clear cj0 cj1 cj2 cj3 cj4 cj5
            refine (rless_any _ x2.hi x1.hi false a2.ok.hi a1.ok.hi W4.out V4.out f2.hi f1.hi (decide_eq_false H2.out)).mono ?_
            rintro e wn ⟨rfl, bb⟩
            try replace br := br.below bb
            try replace a1 := a1.below bb
            try replace a2 := a2.below bb
            try replace a6 := a6.below bb
            replace bw := below_on bw bb bw.size
            clear bb
            go_upto_region 8 with fail
            generalize wn = wm at *
            have ci0 := a6.c0
            have ci1 := a6.c1
            have ci2 := a6.c2
            have ci3 := a6.c3
            have ci4 := a6.c4
            have ci5 := a6.c5
            go_wp2_with fail
            clear ci0 ci1 ci2 ci3 ci4 ci5
            refine (rless_any _ x1.hi x2.lo false a6.ok.hi a6.ok.lo V4.out W3.out f1.hi f2.lo (decide_eq_false H3.out)).mono ?_
            rintro e wn ⟨rfl, bb⟩
            try replace br := br.below bb
            try replace a1 := a1.below bb
            try replace a2 := a2.below bb
            try replace a6 := a6.below bb
            replace bw := below_on bw bb bw.size
            clear bb
            have ci0 := a6.c0
            have ci1 := a6.c1
            have ci2 := a6.c2
            have ci3 := a6.c3
            have ci4 := a6.c4
            have ci5 := a6.c5
            go_wp2_with fail
            clear ci0 ci1 ci2 ci3 ci4 ci5
            refine (rilowest_any _ ⟨x2.lo, x1.hi⟩ (okS x2.lo.q) (okS x1.hi.q) a6.ok ⟨f2.lo.l, f2.lo.m, f1.hi.l, f1.hi.m⟩ (redS_okS W3.out) (redS_okS V4.out)).mono ?_
            rintro e wn ⟨a, rfl, h1, h2, oka, bb⟩
            try replace br := br.below bb
            try replace a1 := a1.below bb
            try replace a2 := a2.below bb
            try replace a6 := a6.below bb
            replace bw := below_on bw bb bw.size
            clear bb
            have r0 := br.cell 0
            have r1 := br.cell 1
            have r2 := br.cell 2
            have r3 := br.cell 3
            have r4 := br.cell 4
            have r5 := br.cell 5
            have rf0 := br.unf 0
            have rf1 := br.unf 1
            have rf2 := br.unf 2
            have rf3 := br.unf 3
            have rf4 := br.unf 4
            have rf5 := br.unf 5
            simp only [List.getElem?_toArray, List.getElem?_cons_succ, List.getElem?_cons_zero] at r0 r1 r2 r3 r4 r5
            go_wp2_with fail
            refine bodyPost_ret (v := .tuple #[(a : Ix).val, .bool true]) (by simp [results, Try.results20, go_sem, r0, r1, r2, r3, r4, r5]) rfl ?_
            rw [HSQ.out]
            exact ⟨a, rfl, h1, h2, ⟨set6_ok oka.lo br noInt_z, set6_ok oka.hi br noInt_z⟩, set6_below bw (by omega)⟩
      · by_cases h2 : x2.hi.q < x1.hi.q
        · by_cases h3 : x2.hi.q < x1.lo.q
          · skip
            have HSQ : Hid (S = (nilF, nilF, false)) := Lib.hid (by rw [HSP.out, maxR_lt, minR_lt, if_neg h1, if_pos h2, if_neg (fun e => absurd h3 (Rat.not_lt.2 e))])
            have H1 : Hid (¬ (x1.lo.q < x2.lo.q)) := h1
            have H2 : Hid ((x2.hi.q < x1.hi.q)) := h2
            have H3 : Hid ((x2.hi.q < x1.lo.q)) := h3
            clear h1 h2 h3
            have ci0 := a1.c0
            have ci1 := a1.c1
            have ci2 := a1.c2
            have ci3 := a1.c3
            have ci4 := a1.c4
            have ci5 := a1.c5
            have cj0 := a2.c0
            have cj1 := a2.c1
            have cj2 := a2.c2
            have cj3 := a2.c3
            have cj4 := a2.c4
            have cj5 := a2.c5
            go_wp2_with fail
            clear ci0 ci1 ci2 ci3 ci4 ci5
            clear cj0 cj1 cj2 cj3 cj4 cj5
            refine (rless_any _ x1.lo x2.lo false a1.ok.lo a2.ok.lo V3.out W3.out f1.lo f2.lo (decide_eq_false H1.out)).mono ?_
            rintro e wn ⟨rfl, bb⟩
            try replace br := br.below bb
            try replace a1 := a1.below bb
            try replace a2 := a2.below bb
            try replace a6 := a6.below bb
            replace bw := below_on bw bb bw.size
            clear bb
            go_upto_region 6 with fail
            generalize wn = wm at *
            have ci0 := a1.c0
            have ci1 := a1.c1
            have ci2 := a1.c2
            have ci3 := a1.c3
            have ci4 := a1.c4
            have ci5 := a1.c5
            have cj0 := a2.c0
            have cj1 := a2.c1
            have cj2 := a2.c2
            have cj3 := a2.c3
            have cj4 := a2.c4
            have cj5 := a2.c5
            go_wp2_with fail
            clear ci0 ci1 ci2 ci3 ci4 ci5
            clear cj0 cj1 cj2 cj3 cj4 cj5
            refine (rless_any _ x2.hi x1.hi true a2.ok.hi a1.ok.hi W4.out V4.out f2.hi f1.hi (decide_eq_true H2.out)).mono ?_
            rintro e wn ⟨rfl, bb⟩
            try replace br := br.below bb
            try replace a1 := a1.below bb
            try replace a2 := a2.below bb
            try replace a6 := a6.below bb
            replace bw := below_on bw bb bw.size
            clear bb
            have ci0 := a2.c0
            have ci1 := a2.c1
            have ci2 := a2.c2
            have ci3 := a2.c3
            have ci4 := a2.c4
            have ci5 := a2.c5
            have cj0 := a6.c0
            have cj1 := a6.c1
            have cj2 := a6.c2
            have cj3 := a6.c3
            have cj4 := a6.c4
            have cj5 := a6.c5
            have af0 := a6.unf 0
            have af1 := a6.unf 1
            have af2 := a6.unf 2
            have af3 := a6.unf 3
            have af4 := a6.unf 4
            have af5 := a6.unf 5
            go_upto_region 8 with fail
            clear ci0 ci1 ci2 ci3 ci4 ci5
            clear cj0 cj1 cj2 cj3 cj4 cj5
            clear af0 af1 af2 af3 af4 af5
            have b1 := a1.farI (i := 3) (j := 4) (k := 5) a6 (by omega) (u := .bool x2.hi.b) (v := .slice x2.hi.A x2.hi.xs.length x2.hi.c) (z := .slice x2.hi.D x2.hi.ys.length x2.hi.d)
            have b2 := a2.farI (i := 3) (j := 4) (k := 5) a6 (by omega) (u := .bool x2.hi.b) (v := .slice x2.hi.A x2.hi.xs.length x2.hi.c) (z := .slice x2.hi.D x2.hi.ys.length x2.hi.d)
            have b6 := a6.putHi a2.ok.hi
            have b3 := ((br.far (p := ⟨g6, 3, none⟩) (by simp; omega) (.bool x2.hi.b)).far (p := ⟨g6, 4, none⟩) (by simp; omega) (.slice x2.hi.A x2.hi.xs.length x2.hi.c)).far (p := ⟨g6, 5, none⟩) (by simp; omega) (.slice x2.hi.D x2.hi.ys.length x2.hi.d)
            have bz := set3h (G := g6) (i := 3) (j := 4) (k := 5) (a := .bool x2.hi.b) (b := .slice x2.hi.A x2.hi.xs.length x2.hi.c) (c := .slice x2.hi.D x2.hi.ys.length x2.hi.d) bw (by omega)
            clear a1 a2 a6 br bw
            generalize ((World.setCell (World.setCell (World.setCell _ ⟨g6, 3, none⟩ (.bool x2.hi.b)) ⟨g6, 4, none⟩ (.slice x2.hi.A x2.hi.xs.length x2.hi.c)) ⟨g6, 5, none⟩ (.slice x2.hi.D x2.hi.ys.length x2.hi.d))) = wm at *
            have a1 := b1
            have a2 := b2
            have a6 := b6
            have br := b3
            have bw := bz
            clear b1 b2 b3 b6 bz
            have ci0 := a6.c0
            have ci1 := a6.c1
            have ci2 := a6.c2
            have ci3 := a6.c3
            have ci4 := a6.c4
            have ci5 := a6.c5
            go_wp2_with fail
            clear ci0 ci1 ci2 ci3 ci4 ci5
            refine (rless_any _ x2.hi x1.lo true a6.ok.hi a6.ok.lo W4.out V3.out f2.hi f1.lo (decide_eq_true H3.out)).mono ?_
            rintro e wn ⟨rfl, bb⟩
            try replace br := br.below bb
            try replace a1 := a1.below bb
            try replace a2 := a2.below bb
            try replace a6 := a6.below bb
            replace bw := below_on bw bb bw.size
            clear bb
            have r0 := br.cell 0
            have r1 := br.cell 1
            have r2 := br.cell 2
            have r3 := br.cell 3
            have r4 := br.cell 4
            have r5 := br.cell 5
            have rf0 := br.unf 0
            have rf1 := br.unf 1
            have rf2 := br.unf 2
            have rf3 := br.unf 3
            have rf4 := br.unf 4
            have rf5 := br.unf 5
            simp only [List.getElem?_toArray, List.getElem?_cons_succ, List.getElem?_cons_zero] at r0 r1 r2 r3 r4 r5
            go_wp2_with fail
            refine bodyPost_ret (v := .tuple #[(Ix.nil : Ix).val, .bool false]) (by simp [results, Try.results20, go_sem, r0, r1, r2, r3, r4, r5]) rfl ?_
            rw [HSQ.out]
            exact ⟨Ix.nil, rfl, ⟨rfl, rfl, rfl⟩, ⟨rfl, rfl, rfl⟩, Ix.nil_ok _, set6_below bw (by omega)⟩
          · skip
            have HSQ : Hid (S = (okS x1.lo.q, okS x2.hi.q, true)) := Lib.hid (by rw [HSP.out, maxR_lt, minR_lt, if_neg h1, if_pos h2, if_pos (Rat.not_lt.1 h3)])
            have H1 : Hid (¬ (x1.lo.q < x2.lo.q)) := h1
            have H2 : Hid ((x2.hi.q < x1.hi.q)) := h2
            have H3 : Hid (¬ (x2.hi.q < x1.lo.q)) := h3
            clear h1 h2 h3
            have ci0 := a1.c0
            have ci1 := a1.c1
            have ci2 := a1.c2
            have ci3 := a1.c3
            have ci4 := a1.c4
            have ci5 := a1.c5
            have cj0 := a2.c0
            have cj1 := a2.c1
            have cj2 := a2.c2
            have cj3 := a2.c3
            have cj4 := a2.c4
            have cj5 := a2.c5
            go_wp2_with fail
            clear ci0 ci1 ci2 ci3 ci4 ci5
            clear cj0 cj1 cj2 cj3 cj4 cj5
            refine (rless_any _ x1.lo x2.lo false a1.ok.lo a2.ok.lo V3.out W3.out f1.lo f2.lo (decide_eq_false H1.out)).mono ?_
            rintro e wn ⟨rfl, bb⟩
            try replace br := br.below bb
            try replace a1 := a1.below bb
            try replace a2 := a2.below bb
            try replace a6 := a6.below bb
            replace bw := below_on bw bb bw.size
            clear bb
            go_upto_region 6 with fail
            generalize wn = wm at *
            have ci0 := a1.c0
            have ci1 := a1.c1
            have ci2 := a1.c2
            have ci3 := a1.c3
            have ci4 := a1.c4
            have ci5 := a1.c5
            have cj0 := a2.c0
            have cj1 := a2.c1
            have cj2 := a2.c2
            have cj3 := a2.c3
            have cj4 := a2.c4
            have cj5 := a2.c5
            go_wp2_with fail
            clear ci0 ci1 ci2 ci3 ci4 ci5
            clear cj0 cj1 cj2 cj3 cj4 cj5
            refine (rless_any _ x2.hi x1.hi true a2.ok.hi a1.ok.hi W4.out V4.out f2.hi f1.hi (decide_eq_true H2.out)).mono ?_
            rintro e wn ⟨rfl, bb⟩
            try replace br := br.below bb
            try replace a1 := a1.below bb
            try replace a2 := a2.below bb
            try replace a6 := a6.below bb
            replace bw := below_on bw bb bw.size
            clear bb
            have ci0 := a2.c0
            have ci1 := a2.c1
            have ci2 := a2.c2
            have ci3 := a2.c3
            have ci4 := a2.c4
            have ci5 := a2.c5
            have cj0 := a6.c0
            have cj1 := a6.c1
            have cj2 := a6.c2
            have cj3 := a6.c3
            have cj4 := a6.c4
            have cj5 := a6.c5
            have af0 := a6.unf 0
            have af1 := a6.unf 1
            have af2 := a6.unf 2
            have af3 := a6.unf 3
            have af4 := a6.unf 4
            have af5 := a6.unf 5
            go_upto_region 8 with fail
            clear ci0 ci1 ci2 ci3 ci4 ci5
            clear cj0 cj1 cj2 cj3 cj4 cj5
            clear af0 af1 af2 af3 af4 af5
            have b1 := a1.farI (i := 3) (j := 4) (k := 5) a6 (by omega) (u := .bool x2.hi.b) (v := .slice x2.hi.A x2.hi.xs.length x2.hi.c) (z := .slice x2.hi.D x2.hi.ys.length x2.hi.d)
            have b2 := a2.farI (i := 3) (j := 4) (k := 5) a6 (by omega) (u := .bool x2.hi.b) (v := .slice x2.hi.A x2.hi.xs.length x2.hi.c) (z := .slice x2.hi.D x2.hi.ys.length x2.hi.d)
            have b6 := a6.putHi a2.ok.hi
            have b3 := ((br.far (p := ⟨g6, 3, none⟩) (by simp; omega) (.bool x2.hi.b)).far (p := ⟨g6, 4, none⟩) (by simp; omega) (.slice x2.hi.A x2.hi.xs.length x2.hi.c)).far (p := ⟨g6, 5, none⟩) (by simp; omega) (.slice x2.hi.D x2.hi.ys.length x2.hi.d)
            have bz := set3h (G := g6) (i := 3) (j := 4) (k := 5) (a := .bool x2.hi.b) (b := .slice x2.hi.A x2.hi.xs.length x2.hi.c) (c := .slice x2.hi.D x2.hi.ys.length x2.hi.d) bw (by omega)
            clear a1 a2 a6 br bw
            generalize ((World.setCell (World.setCell (World.setCell _ ⟨g6, 3, none⟩ (.bool x2.hi.b)) ⟨g6, 4, none⟩ (.slice x2.hi.A x2.hi.xs.length x2.hi.c)) ⟨g6, 5, none⟩ (.slice x2.hi.D x2.hi.ys.length x2.hi.d))) = wm at *
            have a1 := b1
            have a2 := b2
            have a6 := b6
            have br := b3
            have bw := bz
            clear b1 b2 b3 b6 bz
            have ci0 := a6.c0
            have ci1 := a6.c1
            have ci2 := a6.c2
            have ci3 := a6.c3
            have ci4 := a6.c4
            have ci5 := a6.c5
            go_wp2_with fail
            clear ci0 ci1 ci2 ci3 ci4 ci5
            refine (rless_any _ x2.hi x1.lo false a6.ok.hi a6.ok.lo W4.out V3.out f2.hi f1.lo (decide_eq_false H3.out)).mono ?_
            rintro e wn ⟨rfl, bb⟩
            try replace br := br.below bb
            try replace a1 := a1.below bb
            try replace a2 := a2.below bb
            try replace a6 := a6.below bb
            replace bw := below_on bw bb bw.size
            clear bb
            have ci0 := a6.c0
            have ci1 := a6.c1
            have ci2 := a6.c2
            have ci3 := a6.c3
            have ci4 := a6.c4
            have ci5 := a6.c5
            go_wp2_with fail
            clear ci0 ci1 ci2 ci3 ci4 ci5
            refine (rilowest_any _ ⟨x1.lo, x2.hi⟩ (okS x1.lo.q) (okS x2.hi.q) a6.ok ⟨f1.lo.l, f1.lo.m, f2.hi.l, f2.hi.m⟩ (redS_okS V3.out) (redS_okS W4.out)).mono ?_
            rintro e wn ⟨a, rfl, h1, h2, oka, bb⟩
            try replace br := br.below bb
            try replace a1 := a1.below bb
            try replace a2 := a2.below bb
            try replace a6 := a6.below bb
            replace bw := below_on bw bb bw.size
            clear bb
            have r0 := br.cell 0
            have r1 := br.cell 1
            have r2 := br.cell 2
            have r3 := br.cell 3
            have r4 := br.cell 4
            have r5 := br.cell 5
            have rf0 := br.unf 0
            have rf1 := br.unf 1
            have rf2 := br.unf 2
            have rf3 := br.unf 3
            have rf4 := br.unf 4
            have rf5 := br.unf 5
            simp only [List.getElem?_toArray, List.getElem?_cons_succ, List.getElem?_cons_zero] at r0 r1 r2 r3 r4 r5
            go_wp2_with fail
            refine bodyPost_ret (v := .tuple #[(a : Ix).val, .bool true]) (by simp [results, Try.results20, go_sem, r0, r1, r2, r3, r4, r5]) rfl ?_
            rw [HSQ.out]
            exact ⟨a, rfl, h1, h2, ⟨set6_ok oka.lo br noInt_z, set6_ok oka.hi br noInt_z⟩, set6_below bw (by omega)⟩
        · by_cases h3 : x1.hi.q < x1.lo.q
          · skip
            have HSQ : Hid (S = (nilF, nilF, false)) := Lib.hid (by rw [HSP.out, maxR_lt, minR_lt, if_neg h1, if_neg h2, if_neg (fun e => absurd h3 (Rat.not_lt.2 e))])
            have H1 : Hid (¬ (x1.lo.q < x2.lo.q)) := h1
            have H2 : Hid (¬ (x2.hi.q < x1.hi.q)) := h2
            have H3 : Hid ((x1.hi.q < x1.lo.q)) := h3
            clear h1 h2 h3
            have ci0 := a1.c0
            have ci1 := a1.c1
            have ci2 := a1.c2
            have ci3 := a1.c3
            have ci4 := a1.c4
            have ci5 := a1.c5
            have cj0 := a2.c0
            have cj1 := a2.c1
            have cj2 := a2.c2
            have cj3 := a2.c3
            have cj4 := a2.c4
            have cj5 := a2.c5
            go_wp2_with fail
            clear ci0 ci1 ci2 ci3 ci4 ci5
            clear cj0 cj1 cj2 cj3 cj4 cj5
            refine (rless_any _ x1.lo x2.lo false a1.ok.lo a2.ok.lo V3.out W3.out f1.lo f2.lo (decide_eq_false H1.out)).mono ?_
            rintro e wn ⟨rfl, bb⟩
            try replace br := br.below bb
            try replace a1 := a1.below bb
            try replace a2 := a2.below bb
            try replace a6 := a6.below bb
            replace bw := below_on bw bb bw.size
            clear bb
            go_upto_region 6 with fail
            generalize wn = wm at *
            have ci0 := a1.c0
            have ci1 := a1.c1
            have ci2 := a1.c2
            have ci3 := a1.c3
            have ci4 := a1.c4
            have ci5 := a1.c5
            have cj0 := a2.c0
            have cj1 := a2.c1
            have cj2 := a2.c2
            have cj3 := a2.c3
            have cj4 := a2.c4
            have cj5 := a2.c5
            go_wp2_with fail
            clear ci0 ci1 ci2 ci3 ci4 ci5
            clear cj0 cj1 cj2 cj3 cj4 cj5
            refine (rless_any _ x2.hi x1.hi false a2.ok.hi a1.ok.hi W4.out V4.out f2.hi f1.hi (decide_eq_false H2.out)).mono ?_
            rintro e wn ⟨rfl, bb⟩
            try replace br := br.below bb
            try replace a1 := a1.below bb
            try replace a2 := a2.below bb
            try replace a6 := a6.below bb
            replace bw := below_on bw bb bw.size
            clear bb
            go_upto_region 8 with fail
            generalize wn = wm at *
            have ci0 := a6.c0
            have ci1 := a6.c1
            have ci2 := a6.c2
            have ci3 := a6.c3
            have ci4 := a6.c4
            have ci5 := a6.c5
            go_wp2_with fail
            clear ci0 ci1 ci2 ci3 ci4 ci5
            refine (rless_any _ x1.hi x1.lo true a6.ok.hi a6.ok.lo V4.out V3.out f1.hi f1.lo (decide_eq_true H3.out)).mono ?_
            rintro e wn ⟨rfl, bb⟩
            try replace br := br.below bb
            try replace a1 := a1.below bb
            try replace a2 := a2.below bb
            try replace a6 := a6.below bb
            replace bw := below_on bw bb bw.size
            clear bb
            have r0 := br.cell 0
            have r1 := br.cell 1
            have r2 := br.cell 2
            have r3 := br.cell 3
            have r4 := br.cell 4
            have r5 := br.cell 5
            have rf0 := br.unf 0
            have rf1 := br.unf 1
            have rf2 := br.unf 2
            have rf3 := br.unf 3
            have rf4 := br.unf 4
            have rf5 := br.unf 5
            simp only [List.getElem?_toArray, List.getElem?_cons_succ, List.getElem?_cons_zero] at r0 r1 r2 r3 r4 r5
            go_wp2_with fail
            refine bodyPost_ret (v := .tuple #[(Ix.nil : Ix).val, .bool false]) (by simp [results, Try.results20, go_sem, r0, r1, r2, r3, r4, r5]) rfl ?_
            rw [HSQ.out]
            exact ⟨Ix.nil, rfl, ⟨rfl, rfl, rfl⟩, ⟨rfl, rfl, rfl⟩, Ix.nil_ok _, set6_below bw (by omega)⟩
          · skip
            have HSQ : Hid (S = (okS x1.lo.q, okS x1.hi.q, true)) := Lib.hid (by rw [HSP.out, maxR_lt, minR_lt, if_neg h1, if_neg h2, if_pos (Rat.not_lt.1 h3)])
            have H1 : Hid (¬ (x1.lo.q < x2.lo.q)) := h1
            have H2 : Hid (¬ (x2.hi.q < x1.hi.q)) := h2
            have H3 : Hid (¬ (x1.hi.q < x1.lo.q)) := h3
            clear h1 h2 h3
            have ci0 := a1.c0
            have ci1 := a1.c1
            have ci2 := a1.c2
            have ci3 := a1.c3
            have ci4 := a1.c4
            have ci5 := a1.c5
            have cj0 := a2.c0
            have cj1 := a2.c1
            have cj2 := a2.c2
            have cj3 := a2.c3
            have cj4 := a2.c4
            have cj5 := a2.c5
            go_wp2_with fail
            clear ci0 ci1 ci2 ci3 ci4 ci5
            clear cj0 cj1 cj2 cj3 cj4 cj5
            refine (rless_any _ x1.lo x2.lo false a1.ok.lo a2.ok.lo V3.out W3.out f1.lo f2.lo (decide_eq_false H1.out)).mono ?_
            rintro e wn ⟨rfl, bb⟩
            try replace br := br.below bb
            try replace a1 := a1.below bb
            try replace a2 := a2.below bb
            try replace a6 := a6.below bb
            replace bw := below_on bw bb bw.size
            clear bb
            go_upto_region 6 with fail
            generalize wn = wm at *
            have ci0 := a1.c0
            have ci1 := a1.c1
            have ci2 := a1.c2
            have ci3 := a1.c3
            have ci4 := a1.c4
            have ci5 := a1.c5
            have cj0 := a2.c0
            have cj1 := a2.c1
            have cj2 := a2.c2
            have cj3 := a2.c3
            have cj4 := a2.c4
            have cj5 := a2.c5
            go_wp2_with fail
            clear ci0 ci1 ci2 ci3 ci4 ci5
            clear cj0 cj1 cj2 cj3 cj4 cj5
            refine (rless_any _ x2.hi x1.hi false a2.ok.hi a1.ok.hi W4.out V4.out f2.hi f1.hi (decide_eq_false H2.out)).mono ?_
            rintro e wn ⟨rfl, bb⟩
            try replace br := br.below bb
            try replace a1 := a1.below bb
            try replace a2 := a2.below bb
            try replace a6 := a6.below bb
            replace bw := below_on bw bb bw.size
            clear bb
            go_upto_region 8 with fail
            generalize wn = wm at *
            have ci0 := a6.c0
            have ci1 := a6.c1
            have ci2 := a6.c2
            have ci3 := a6.c3
            have ci4 := a6.c4
            have ci5 := a6.c5
            go_wp2_with fail
            clear ci0 ci1 ci2 ci3 ci4 ci5
            refine (rless_any _ x1.hi x1.lo false a6.ok.hi a6.ok.lo V4.out V3.out f1.hi f1.lo (decide_eq_false H3.out)).mono ?_
            rintro e wn ⟨rfl, bb⟩
            try replace br := br.below bb
            try replace a1 := a1.below bb
            try replace a2 := a2.below bb
            try replace a6 := a6.below bb
            replace bw := below_on bw bb bw.size
            clear bb
            have ci0 := a6.c0
            have ci1 := a6.c1
            have ci2 := a6.c2
            have ci3 := a6.c3
            have ci4 := a6.c4
            have ci5 := a6.c5
            go_wp2_with fail
            clear ci0 ci1 ci2 ci3 ci4 ci5
            refine (rilowest_any _ ⟨x1.lo, x1.hi⟩ (okS x1.lo.q) (okS x1.hi.q) a6.ok ⟨f1.lo.l, f1.lo.m, f1.hi.l, f1.hi.m⟩ (redS_okS V3.out) (redS_okS V4.out)).mono ?_
            rintro e wn ⟨a, rfl, h1, h2, oka, bb⟩
            try replace br := br.below bb
            try replace a1 := a1.below bb
            try replace a2 := a2.below bb
            try replace a6 := a6.below bb
            replace bw := below_on bw bb bw.size
            clear bb
            have r0 := br.cell 0
            have r1 := br.cell 1
            have r2 := br.cell 2
            have r3 := br.cell 3
            have r4 := br.cell 4
            have r5 := br.cell 5
            have rf0 := br.unf 0
            have rf1 := br.unf 1
            have rf2 := br.unf 2
            have rf3 := br.unf 3
            have rf4 := br.unf 4
            have rf5 := br.unf 5
            simp only [List.getElem?_toArray, List.getElem?_cons_succ, List.getElem?_cons_zero] at r0 r1 r2 r3 r4 r5
            go_wp2_with fail
            refine bodyPost_ret (v := .tuple #[(a : Ix).val, .bool true]) (by simp [results, Try.results20, go_sem, r0, r1, r2, r3, r4, r5]) rfl ?_
            rw [HSQ.out]
            exact ⟨a, rfl, h1, h2, ⟨set6_ok oka.lo br noInt_z, set6_ok oka.hi br noInt_z⟩, set6_below bw (by omega)⟩
    · have HV3 : Hid (¬ x2.v) := hv2
      have HE : Hid (meetS x1 x2 = (nilF, nilF, false)) := Lib.hid (if_neg (fun e => hv2 e.2.1))
      clear hv1 hv2
      go_enter Try.func20, Try.ntmps20
      go_upto_region 1 with fail
      have bw := Below.refl w.heap.size w
      have a1 := (ia_alloc ok1).1
      have bb := (ia_alloc ok1).2
      have sz1 := size_box w (.cells x1.cells 35)
      clear ok1
      generalize (w.alloc (.cells x1.cells 35)) = wA at a1 bb sz1 ⊢
      try replace ok1 := ok1.below bb
      try replace ok2 := ok2.below bb
      try replace br := br.below bb
      try replace a1 := a1.below bb
      try replace a2 := a2.below bb
      try replace a6 := a6.below bb
      replace bw := below_on bw bb bw.size
      clear bb
      have a2 := (ia_alloc ok2).1
      have bb := (ia_alloc ok2).2
      have sz2 := size_box wA (.cells x2.cells 35)
      rw [sz1] at a2 sz2
      clear ok2 sz1
      generalize (wA.alloc (.cells x2.cells 35)) = wB at a2 bb sz2 ⊢
      try replace ok1 := ok1.below bb
      try replace ok2 := ok2.below bb
      try replace br := br.below bb
      try replace a1 := a1.below bb
      try replace a2 := a2.below bb
      try replace a6 := a6.below bb
      replace bw := below_on bw bb bw.size
      clear bb
      have br := (zr_alloc wB).1
      have bb := (zr_alloc wB).2
      rw [sz2] at br
      clear sz2
      generalize (wB.alloc (.cells zcells 35)) = wm at br bb ⊢
      try replace a1 := a1.below bb
      try replace a2 := a2.below bb
      try replace a6 := a6.below bb
      replace bw := below_on bw bb bw.size
      clear bb
      have ci0 := a1.c0
      have ci1 := a1.c1
      have ci2 := a1.c2
      have ci3 := a1.c3
      have ci4 := a1.c4
      have ci5 := a1.c5
      go_wp2_with fail
      clear ci0 ci1 ci2 ci3 ci4 ci5
      refine (rivalid_any _ x1 true a1.ok f1 (decide_eq_true HV1.out)).mono ?_
      rintro e wn ⟨rfl, bb⟩
      try replace br := br.below bb
      try replace a1 := a1.below bb
      try replace a2 := a2.below bb
      try replace a6 := a6.below bb
      replace bw := below_on bw bb bw.size
      clear bb
      have ci0 := a2.c0
      have ci1 := a2.c1
      have ci2 := a2.c2
      have ci3 := a2.c3
      have ci4 := a2.c4
      have ci5 := a2.c5
      go_wp2_with fail
      clear ci0 ci1 ci2 ci3 ci4 ci5
      refine (rivalid_any _ x2 false a2.ok f2 (decide_eq_false HV3.out)).mono ?_
      rintro e wn ⟨rfl, bb⟩
      try replace br := br.below bb
      try replace a1 := a1.below bb
      try replace a2 := a2.below bb
      try replace a6 := a6.below bb
      replace bw := below_on bw bb bw.size
      clear bb
      have r0 := br.cell 0
      have r1 := br.cell 1
      have r2 := br.cell 2
      have r3 := br.cell 3
      have r4 := br.cell 4
      have r5 := br.cell 5
      have rf0 := br.unf 0
      have rf1 := br.unf 1
      have rf2 := br.unf 2
      have rf3 := br.unf 3
      have rf4 := br.unf 4
      have rf5 := br.unf 5
      simp only [List.getElem?_toArray, List.getElem?_cons_succ, List.getElem?_cons_zero] at r0 r1 r2 r3 r4 r5
      go_wp2_with fail
      refine bodyPost_ret (v := .tuple #[(Ix.nil : Ix).val, .bool false]) (by simp [results, Try.results20, go_sem, r0, r1, r2, r3, r4, r5]) rfl ?_
      rw [← HS.out, HE.out]
      exact ⟨Ix.nil, rfl, ⟨rfl, rfl, rfl⟩, ⟨rfl, rfl, rfl⟩, Ix.nil_ok _, set6_below bw (by omega)⟩
  · have HV1 : Hid (¬ x1.v) := hv1
    have HE : Hid (meetS x1 x2 = (nilF, nilF, false)) := Lib.hid (if_neg (fun e => hv1 e.1))
    clear hv1
    go_enter Try.func20, Try.ntmps20
    go_upto_region 1 with fail
    have bw := Below.refl w.heap.size w
    have a1 := (ia_alloc ok1).1
    have bb := (ia_alloc ok1).2
    have sz1 := size_box w (.cells x1.cells 35)
    clear ok1
    generalize (w.alloc (.cells x1.cells 35)) = wA at a1 bb sz1 ⊢
    try replace ok1 := ok1.below bb
    try replace ok2 := ok2.below bb
    try replace br := br.below bb
    try replace a1 := a1.below bb
    try replace a2 := a2.below bb
    try replace a6 := a6.below bb
    replace bw := below_on bw bb bw.size
    clear bb
    have a2 := (ia_alloc ok2).1
    have bb := (ia_alloc ok2).2
    have sz2 := size_box wA (.cells x2.cells 35)
    rw [sz1] at a2 sz2
    clear ok2 sz1
    generalize (wA.alloc (.cells x2.cells 35)) = wB at a2 bb sz2 ⊢
    try replace ok1 := ok1.below bb
    try replace ok2 := ok2.below bb
    try replace br := br.below bb
    try replace a1 := a1.below bb
    try replace a2 := a2.below bb
    try replace a6 := a6.below bb
    replace bw := below_on bw bb bw.size
    clear bb
    have br := (zr_alloc wB).1
    have bb := (zr_alloc wB).2
    rw [sz2] at br
    clear sz2
    generalize (wB.alloc (.cells zcells 35)) = wm at br bb ⊢
    try replace a1 := a1.below bb
    try replace a2 := a2.below bb
    try replace a6 := a6.below bb
    replace bw := below_on bw bb bw.size
    clear bb
    have ci0 := a1.c0
    have ci1 := a1.c1
    have ci2 := a1.c2
    have ci3 := a1.c3
    have ci4 := a1.c4
    have ci5 := a1.c5
    go_wp2_with fail
    clear ci0 ci1 ci2 ci3 ci4 ci5
    refine (rivalid_any _ x1 false a1.ok f1 (decide_eq_false HV1.out)).mono ?_
    rintro e wn ⟨rfl, bb⟩
    try replace br := br.below bb
    try replace a1 := a1.below bb
    try replace a2 := a2.below bb
    try replace a6 := a6.below bb
    replace bw := below_on bw bb bw.size
    clear bb
    have r0 := br.cell 0
    have r1 := br.cell 1
    have r2 := br.cell 2
    have r3 := br.cell 3
    have r4 := br.cell 4
    have r5 := br.cell 5
    have rf0 := br.unf 0
    have rf1 := br.unf 1
    have rf2 := br.unf 2
    have rf3 := br.unf 3
    have rf4 := br.unf 4
    have rf5 := br.unf 5
    simp only [List.getElem?_toArray, List.getElem?_cons_succ, List.getElem?_cons_zero] at r0 r1 r2 r3 r4 r5
    go_wp2_with fail
    refine bodyPost_ret (v := .tuple #[(Ix.nil : Ix).val, .bool false]) (by simp [results, Try.results20, go_sem, r0, r1, r2, r3, r4, r5]) rfl ?_
    rw [← HS.out, HE.out]
    exact ⟨Ix.nil, rfl, ⟨rfl, rfl, rfl⟩, ⟨rfl, rfl, rfl⟩, Ix.nil_ok _, set6_below bw (by omega)⟩
end Go.Proofs.Ytnmomigaedfdoaa
