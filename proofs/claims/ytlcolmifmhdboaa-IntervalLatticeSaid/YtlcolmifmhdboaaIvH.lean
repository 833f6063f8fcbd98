/- The walk of interval.Meet. -/
import Derived.Test.YtlcolmifmhdboaaIvG
import Derived.Test.YtlcolmifmhdboaaIvQ
namespace Go.Proofs.Ytlcolmifmhdboaa
open Go.RowKit

def maxR (p q : Rat) : Rat := if p ≤ q then q else p
def minR (p q : Rat) : Rat := if q ≤ p then q else p
def nilF : FqS := errF 0
/-- what two intervals have in common -/
def meetS (a b : Ix) : FqS × FqS × Bool := if a.v ∧ b.v ∧ maxR a.lo.q b.lo.q ≤ minR a.hi.q b.hi.q then (okS (maxR a.lo.q b.lo.q), okS (minR a.hi.q b.hi.q), true) else (nilF, nilF, false)
set_option maxHeartbeats 8000000 in
set_option maxRecDepth 100000 in
theorem imeet_any (w : World) (x1 x2 : Ix) (S : FqS × FqS × Bool) (ok1 : x1.ok w) (ok2 : x2.ok w) (f1 : x1.few) (f2 : x2.few) (hs : meetS x1 x2 = S) :
    Calls Try.prog 35 #[x1.val, x2.val] w (IvlOk w S.1 S.2.1 S.2.2) := by
  have HS := Lib.hid hs
  clear hs
  by_cases hv1 : x1.v
  · have HV1 := Lib.hid hv1
    by_cases hv2 : x2.v
    · have HV2 := Lib.hid hv2
      have HSP : Hid (S = if maxR x1.lo.q x2.lo.q ≤ minR x1.hi.q x2.hi.q then (okS (maxR x1.lo.q x2.lo.q), okS (minR x1.hi.q x2.hi.q), true) else (nilF, nilF, false)) := Lib.hid (by
        rw [← HS.out, meetS]
        by_cases h : maxR x1.lo.q x2.lo.q ≤ minR x1.hi.q x2.hi.q
        · rw [if_pos h, if_pos ⟨hv1, hv2, h⟩]
        · rw [if_neg h, if_neg (fun e => h e.2.2)])
      clear hv1 hv2
      go_enter Try.func35, Try.ntmps35
      go_upto_region 1 with fail
      have bw := Below.refl w.heap.size w
      have a1 := (ia_alloc ok1).1
      have bb := (ia_alloc ok1).2
      have sz1 := size_box w (.cells x1.cells 41)
      clear ok1
      generalize (w.alloc (.cells x1.cells 41)) = wA at a1 bb sz1 ⊢
      try replace ok1 := ok1.below bb
      try replace ok2 := ok2.below bb
      try replace a1 := a1.below bb
      replace bw := below_on bw bb bw.size
      clear bb
      have a2 := (ia_alloc ok2).1
      have bb := (ia_alloc ok2).2
      have sz2 := size_box wA (.cells x2.cells 41)
      rw [sz1] at a2 sz2
      clear ok2 sz1
      generalize (wA.alloc (.cells x2.cells 41)) = wB at a2 bb sz2 ⊢
      try replace ok1 := ok1.below bb
      try replace ok2 := ok2.below bb
      try replace a1 := a1.below bb
      try replace a2 := a2.below bb
      replace bw := below_on bw bb bw.size
      clear bb
      have br := (zr_alloc wB).1
      have bb := (zr_alloc wB).2
      rw [sz2] at br
      clear sz2
      generalize (wB.alloc (.cells zcells 41)) = wm at br bb ⊢
      try replace a1 := a1.below bb
      try replace a2 := a2.below bb
      replace bw := below_on bw bb bw.size
      clear bb
      have ci0 := a1.c0
      have ci1 := a1.c1
      have ci2 := a1.c2
      have ci3 := a1.c3
      have ci4 := a1.c4
      have ci5 := a1.c5
      go_wp2_with fail
      clear ci0 ci1 ci2 ci3 ci4 ci5
      refine (ivalid_any _ x1 true a1.ok f1 (decide_eq_true HV1.out)).mono ?_
      rintro e wn ⟨rfl, bb⟩
      try replace br := br.below bb
      try replace a1 := a1.below bb
      try replace a2 := a2.below bb
      replace bw := below_on bw bb bw.size
      clear bb
      have ci0 := a2.c0
      have ci1 := a2.c1
      have ci2 := a2.c2
      have ci3 := a2.c3
      have ci4 := a2.c4
      have ci5 := a2.c5
      go_wp2_with fail
      clear ci0 ci1 ci2 ci3 ci4 ci5
      refine (ivalid_any _ x2 true a2.ok f2 (decide_eq_true HV2.out)).mono ?_
      rintro e wn ⟨rfl, bb⟩
      try replace br := br.below bb
      try replace a1 := a1.below bb
      try replace a2 := a2.below bb
      replace bw := below_on bw bb bw.size
      clear bb
      go_upto_region 3 with fail
      have hsw : w.heap.size + 2 < wn.heap.size := br.lt
      go_cut [6, 7] from 8 (fun s6 s7 w' => ∃ G H : Nat, s6 = .pointer (some ⟨G, 0, none⟩) ∧ s7 = .pointer (some ⟨H, 0, none⟩) ∧ G ≠ H ∧ wn.heap.size ≤ G ∧ wn.heap.size ≤ H ∧ Fa w' G x1.lo ∧ Fa w' H x1.hi ∧ Below wn.heap.size wn w')
      case first =>
        obtain ⟨g1, g2, g3⟩ := fa_two a1.ok.lo a1.ok.hi
        obtain ⟨h1, h2, h3⟩ := fa_two a1.ok.hi a1.ok.lo
        have ci0 := a1.c0
        have ci1 := a1.c1
        have ci2 := a1.c2
        have ci3 := a1.c3
        have ci4 := a1.c4
        have ci5 := a1.c5
        have hal := a1.lt
        go_region
        · go_wp2_with fail
          go_meet
          case rel => exact ⟨_, _, rfl, rfl, by omega, by omega, by omega, g1, g2, g3⟩
        · go_wp2_with fail
          go_meet
          case rel => exact ⟨_, _, rfl, rfl, by omega, by omega, by omega, h2, h1, h3⟩
      case rest =>
        obtain ⟨G, H, rfl, rfl, hGH, hG, hH, a3, a4, bz⟩ := hcut
        try replace br := br.below bz
        try replace a1 := a1.below bz
        try replace a2 := a2.below bz
        try replace a3 := a3.below bz
        try replace a4 := a4.below bz
        replace bw := below_on bw bz bw.size
        clear bz
        have f3 := f1.lo
        have f4 := f1.hi
        have V3 := Lib.hid HV1.out.1
        have V4 := Lib.hid HV1.out.2.1
        have W3 := Lib.hid HV2.out.1
        have W4 := Lib.hid HV2.out.2.1
        obtain ⟨x3, hx3⟩ : ∃ x3, x1.lo = x3 := ⟨_, rfl⟩
        obtain ⟨x4, hx4⟩ : ∃ x4, x1.hi = x4 := ⟨_, rfl⟩
        rw [hx3] at a3 f3 V3
        rw [hx4] at a4 f4 V4
        replace HSP : Hid (S = if maxR x3.q x2.lo.q ≤ minR x4.q x2.hi.q then (okS (maxR x3.q x2.lo.q), okS (minR x4.q x2.hi.q), true) else (nilF, nilF, false)) := Lib.hid (by rw [← hx3, ← hx4]; exact HSP.out)
        clear hx3 hx4 a1
        generalize wc = wm at *
        by_cases h1 : x3.q ≤ x2.lo.q
        · by_cases h2 : x2.hi.q ≤ x4.q
          · by_cases h3 : x2.lo.q ≤ x2.hi.q
            · skip
              have HSQ : Hid (S = (okS x2.lo.q, okS x2.hi.q, true)) := Lib.hid (by rw [HSP.out, maxR, minR, if_pos h1, if_pos h2, if_pos h3])
              have H1 : Hid (x3.q ≤ x2.lo.q) := h1
              have H2 : Hid (x2.hi.q ≤ x4.q) := h2
              have H3 : Hid (x2.lo.q ≤ x2.hi.q) := h3
              clear h1 h2 h3
              have ci0 := a2.c0
              have ci1 := a2.c1
              have ci2 := a2.c2
              have ci3 := a2.c3
              have ci4 := a2.c4
              have ci5 := a2.c5
              have cj0 := a3.c0
              have cj1 := a3.c1
              have cj2 := a3.c2
              go_wp2_with fail
              clear ci0 ci1 ci2 ci3 ci4 ci5
              clear cj0 cj1 cj2
              refine (atmost_any _ x3 x2.lo true a3.ok a2.ok.lo f3.l f3.m f2.lo.l f2.lo.m (decide_eq_true ((leF_iff V3.out W3.out).2 H1.out))).mono ?_
              rintro e wn ⟨rfl, bb⟩
              try replace br := br.below bb
              try replace a1 := a1.below bb
              try replace a2 := a2.below bb
              try replace a3 := a3.below bb
              try replace a4 := a4.below bb
              replace bw := below_on bw bb bw.size
              clear bb
              have ci0 := a2.c0
              have ci1 := a2.c1
              have ci2 := a2.c2
              have ci3 := a2.c3
              have ci4 := a2.c4
              have ci5 := a2.c5
              have tk := a3.bk
              obtain ⟨k0, k1, k2, kf0, kf1, kf2, klt, kb⟩ := tk
              clear kb
              go_upto_region 6 with fail
              clear k0 k1 k2 kf0 kf1 kf2 klt
              clear ci0 ci1 ci2 ci3 ci4 ci5
              try have b1 := a1.far a3 (a := .bool x2.lo.b) (b := .slice x2.lo.A x2.lo.xs.length x2.lo.c) (c := .slice x2.lo.D x2.lo.ys.length x2.lo.d) (by omega)
              try have b2 := a2.far a3 (a := .bool x2.lo.b) (b := .slice x2.lo.A x2.lo.xs.length x2.lo.c) (c := .slice x2.lo.D x2.lo.ys.length x2.lo.d) (by omega)
              try have b3 := a3.far a3 (a := .bool x2.lo.b) (b := .slice x2.lo.A x2.lo.xs.length x2.lo.c) (c := .slice x2.lo.D x2.lo.ys.length x2.lo.d) (by omega)
              try have b4 := a4.far a3 (a := .bool x2.lo.b) (b := .slice x2.lo.A x2.lo.xs.length x2.lo.c) (c := .slice x2.lo.D x2.lo.ys.length x2.lo.d) (by omega)
              try have br1 := ((br.far (p := ⟨G, 0, none⟩) (by simp; omega) (.bool x2.lo.b)).far (p := ⟨G, 1, none⟩) (by simp; omega) (.slice x2.lo.A x2.lo.xs.length x2.lo.c)).far (p := ⟨G, 2, none⟩) (by simp; omega) (.slice x2.lo.D x2.lo.ys.length x2.lo.d)
              have bO := a3.put a2.ok.lo
              have bz := set3g (G := G) (a := .bool x2.lo.b) (b := .slice x2.lo.A x2.lo.xs.length x2.lo.c) (c := .slice x2.lo.D x2.lo.ys.length x2.lo.d) bw (by omega)
              clear a3 bw
              generalize ((World.setCell (World.setCell (World.setCell _ ⟨G, 0, none⟩ (.bool x2.lo.b)) ⟨G, 1, none⟩ (.slice x2.lo.A x2.lo.xs.length x2.lo.c)) ⟨G, 2, none⟩ (.slice x2.lo.D x2.lo.ys.length x2.lo.d))) = wm at *
              try replace a1 := b1
              try clear b1
              try replace a2 := b2
              try clear b2
              try replace a3 := b3
              try clear b3
              try replace a4 := b4
              try clear b4
              try replace br := br1
              try clear br1
              have a3 := bO
              have bw := bz
              clear bO bz
              have ci0 := a2.c0
              have ci1 := a2.c1
              have ci2 := a2.c2
              have ci3 := a2.c3
              have ci4 := a2.c4
              have ci5 := a2.c5
              have cj0 := a4.c0
              have cj1 := a4.c1
              have cj2 := a4.c2
              go_wp2_with fail
              clear ci0 ci1 ci2 ci3 ci4 ci5
              clear cj0 cj1 cj2
              refine (atmost_any _ x2.hi x4 true a2.ok.hi a4.ok f2.hi.l f2.hi.m f4.l f4.m (decide_eq_true ((leF_iff W4.out V4.out).2 H2.out))).mono ?_
              rintro e wn ⟨rfl, bb⟩
              try replace br := br.below bb
              try replace bk := bk.below bb
              try replace a1 := a1.below bb
              try replace a2 := a2.below bb
              try replace a3 := a3.below bb
              try replace a4 := a4.below bb
              replace bw := below_on bw bb bw.size
              clear bb
              have ci0 := a2.c0
              have ci1 := a2.c1
              have ci2 := a2.c2
              have ci3 := a2.c3
              have ci4 := a2.c4
              have ci5 := a2.c5
              have tk := a4.bk
              obtain ⟨k0, k1, k2, kf0, kf1, kf2, klt, kb⟩ := tk
              clear kb
              go_upto_region 8 with fail
              clear k0 k1 k2 kf0 kf1 kf2 klt
              clear ci0 ci1 ci2 ci3 ci4 ci5
              try have b1 := a1.far a4 (a := .bool x2.hi.b) (b := .slice x2.hi.A x2.hi.xs.length x2.hi.c) (c := .slice x2.hi.D x2.hi.ys.length x2.hi.d) (by omega)
              try have b2 := a2.far a4 (a := .bool x2.hi.b) (b := .slice x2.hi.A x2.hi.xs.length x2.hi.c) (c := .slice x2.hi.D x2.hi.ys.length x2.hi.d) (by omega)
              try have b3 := a3.far a4 (a := .bool x2.hi.b) (b := .slice x2.hi.A x2.hi.xs.length x2.hi.c) (c := .slice x2.hi.D x2.hi.ys.length x2.hi.d) (by omega)
              try have b4 := a4.far a4 (a := .bool x2.hi.b) (b := .slice x2.hi.A x2.hi.xs.length x2.hi.c) (c := .slice x2.hi.D x2.hi.ys.length x2.hi.d) (by omega)
              try have br1 := ((br.far (p := ⟨H, 0, none⟩) (by simp; omega) (.bool x2.hi.b)).far (p := ⟨H, 1, none⟩) (by simp; omega) (.slice x2.hi.A x2.hi.xs.length x2.hi.c)).far (p := ⟨H, 2, none⟩) (by simp; omega) (.slice x2.hi.D x2.hi.ys.length x2.hi.d)
              have bO := a4.put a2.ok.hi
              have bz := set3g (G := H) (a := .bool x2.hi.b) (b := .slice x2.hi.A x2.hi.xs.length x2.hi.c) (c := .slice x2.hi.D x2.hi.ys.length x2.hi.d) bw (by omega)
              clear a4 bw
              generalize ((World.setCell (World.setCell (World.setCell _ ⟨H, 0, none⟩ (.bool x2.hi.b)) ⟨H, 1, none⟩ (.slice x2.hi.A x2.hi.xs.length x2.hi.c)) ⟨H, 2, none⟩ (.slice x2.hi.D x2.hi.ys.length x2.hi.d))) = wm at *
              try replace a1 := b1
              try clear b1
              try replace a2 := b2
              try clear b2
              try replace a3 := b3
              try clear b3
              try replace a4 := b4
              try clear b4
              try replace br := br1
              try clear br1
              have a4 := bO
              have bw := bz
              clear bO bz
              have ci0 := a3.c0
              have ci1 := a3.c1
              have ci2 := a3.c2
              have cj0 := a4.c0
              have cj1 := a4.c1
              have cj2 := a4.c2
              go_wp2_with fail
              clear ci0 ci1 ci2 cj0 cj1 cj2
              refine (atmost_any _ x2.lo x2.hi true a3.ok a4.ok f2.lo.l f2.lo.m f2.hi.l f2.hi.m (decide_eq_true ((leF_iff W3.out W4.out).2 H3.out))).mono ?_
              rintro e wn ⟨rfl, bb⟩
              try replace br := br.below bb
              try replace bk := bk.below bb
              try replace a1 := a1.below bb
              try replace a2 := a2.below bb
              try replace a3 := a3.below bb
              try replace a4 := a4.below bb
              replace bw := below_on bw bb bw.size
              clear bb
              have ci0 := a3.c0
              have ci1 := a3.c1
              have ci2 := a3.c2
              have cj0 := a4.c0
              have cj1 := a4.c1
              have cj2 := a4.c2
              go_wp2_with fail
              clear ci0 ci1 ci2 cj0 cj1 cj2
              refine (ibetween_any _ x2.lo x2.hi (okS x2.lo.q) (okS x2.hi.q) a3.ok a4.ok f2.lo.l f2.lo.m f2.hi.l f2.hi.m (redS_okS W3.out) (redS_okS W4.out)).mono ?_
              rintro e wn ⟨a, rfl, h1, h2, oka, bb⟩
              try replace br := br.below bb
              try replace bk := bk.below bb
              try replace a1 := a1.below bb
              try replace a2 := a2.below bb
              try replace a3 := a3.below bb
              try replace a4 := a4.below bb
              replace bw := below_on bw bb bw.size
              clear bb
              have r0 := br.cell 0
              have r1 := br.cell 1
              have r2 := br.cell 2
              have r3 := br.cell 3
              have r4 := br.cell 4
              have r5 := br.cell 5
              have rf0 := br.unf 0
              have rf1 := br.unf 1
              have rf2 := br.unf 2
              have rf3 := br.unf 3
              have rf4 := br.unf 4
              have rf5 := br.unf 5
              simp only [List.getElem?_toArray, List.getElem?_cons_succ, List.getElem?_cons_zero] at r0 r1 r2 r3 r4 r5
              go_wp2_with fail
              refine bodyPost_ret (v := .tuple #[(a : Ix).val, .bool true]) (by simp [results, Try.results35, go_sem, r0, r1, r2, r3, r4, r5]) rfl ?_
              rw [HSQ.out]
              exact ⟨a, rfl, h1, h2, ⟨set6_ok oka.lo br noInt_z, set6_ok oka.hi br noInt_z⟩, set6_below bw (by omega)⟩
            · skip
              have HSQ : Hid (S = (nilF, nilF, false)) := Lib.hid (by rw [HSP.out, maxR, minR, if_pos h1, if_pos h2, if_neg h3])
              have H1 : Hid (x3.q ≤ x2.lo.q) := h1
              have H2 : Hid (x2.hi.q ≤ x4.q) := h2
              have H3 : Hid (¬ x2.lo.q ≤ x2.hi.q) := h3
              clear h1 h2 h3
              have ci0 := a2.c0
              have ci1 := a2.c1
              have ci2 := a2.c2
              have ci3 := a2.c3
              have ci4 := a2.c4
              have ci5 := a2.c5
              have cj0 := a3.c0
              have cj1 := a3.c1
              have cj2 := a3.c2
              go_wp2_with fail
              clear ci0 ci1 ci2 ci3 ci4 ci5
              clear cj0 cj1 cj2
              refine (atmost_any _ x3 x2.lo true a3.ok a2.ok.lo f3.l f3.m f2.lo.l f2.lo.m (decide_eq_true ((leF_iff V3.out W3.out).2 H1.out))).mono ?_
              rintro e wn ⟨rfl, bb⟩
              try replace br := br.below bb
              try replace bk := bk.below bb
              try replace a1 := a1.below bb
              try replace a2 := a2.below bb
              try replace a3 := a3.below bb
              try replace a4 := a4.below bb
              replace bw := below_on bw bb bw.size
              clear bb
              have ci0 := a2.c0
              have ci1 := a2.c1
              have ci2 := a2.c2
              have ci3 := a2.c3
              have ci4 := a2.c4
              have ci5 := a2.c5
              have tk := a3.bk
              obtain ⟨k0, k1, k2, kf0, kf1, kf2, klt, kb⟩ := tk
              clear kb
              go_upto_region 6 with fail
              clear k0 k1 k2 kf0 kf1 kf2 klt
              clear ci0 ci1 ci2 ci3 ci4 ci5
              try have b1 := a1.far a3 (a := .bool x2.lo.b) (b := .slice x2.lo.A x2.lo.xs.length x2.lo.c) (c := .slice x2.lo.D x2.lo.ys.length x2.lo.d) (by omega)
              try have b2 := a2.far a3 (a := .bool x2.lo.b) (b := .slice x2.lo.A x2.lo.xs.length x2.lo.c) (c := .slice x2.lo.D x2.lo.ys.length x2.lo.d) (by omega)
              try have b3 := a3.far a3 (a := .bool x2.lo.b) (b := .slice x2.lo.A x2.lo.xs.length x2.lo.c) (c := .slice x2.lo.D x2.lo.ys.length x2.lo.d) (by omega)
              try have b4 := a4.far a3 (a := .bool x2.lo.b) (b := .slice x2.lo.A x2.lo.xs.length x2.lo.c) (c := .slice x2.lo.D x2.lo.ys.length x2.lo.d) (by omega)
              try have br1 := ((br.far (p := ⟨G, 0, none⟩) (by simp; omega) (.bool x2.lo.b)).far (p := ⟨G, 1, none⟩) (by simp; omega) (.slice x2.lo.A x2.lo.xs.length x2.lo.c)).far (p := ⟨G, 2, none⟩) (by simp; omega) (.slice x2.lo.D x2.lo.ys.length x2.lo.d)
              have bO := a3.put a2.ok.lo
              have bz := set3g (G := G) (a := .bool x2.lo.b) (b := .slice x2.lo.A x2.lo.xs.length x2.lo.c) (c := .slice x2.lo.D x2.lo.ys.length x2.lo.d) bw (by omega)
              clear a3 bw
              generalize ((World.setCell (World.setCell (World.setCell _ ⟨G, 0, none⟩ (.bool x2.lo.b)) ⟨G, 1, none⟩ (.slice x2.lo.A x2.lo.xs.length x2.lo.c)) ⟨G, 2, none⟩ (.slice x2.lo.D x2.lo.ys.length x2.lo.d))) = wm at *
              try replace a1 := b1
              try clear b1
              try replace a2 := b2
              try clear b2
              try replace a3 := b3
              try clear b3
              try replace a4 := b4
              try clear b4
              try replace br := br1
              try clear br1
              have a3 := bO
              have bw := bz
              clear bO bz
              have ci0 := a2.c0
              have ci1 := a2.c1
              have ci2 := a2.c2
              have ci3 := a2.c3
              have ci4 := a2.c4
              have ci5 := a2.c5
              have cj0 := a4.c0
              have cj1 := a4.c1
              have cj2 := a4.c2
              go_wp2_with fail
              clear ci0 ci1 ci2 ci3 ci4 ci5
              clear cj0 cj1 cj2
              refine (atmost_any _ x2.hi x4 true a2.ok.hi a4.ok f2.hi.l f2.hi.m f4.l f4.m (decide_eq_true ((leF_iff W4.out V4.out).2 H2.out))).mono ?_
              rintro e wn ⟨rfl, bb⟩
              try replace br := br.below bb
              try replace bk := bk.below bb
              try replace a1 := a1.below bb
              try replace a2 := a2.below bb
              try replace a3 := a3.below bb
              try replace a4 := a4.below bb
              replace bw := below_on bw bb bw.size
              clear bb
              have ci0 := a2.c0
              have ci1 := a2.c1
              have ci2 := a2.c2
              have ci3 := a2.c3
              have ci4 := a2.c4
              have ci5 := a2.c5
              have tk := a4.bk
              obtain ⟨k0, k1, k2, kf0, kf1, kf2, klt, kb⟩ := tk
              clear kb
              go_upto_region 8 with fail
              clear k0 k1 k2 kf0 kf1 kf2 klt
              clear ci0 ci1 ci2 ci3 ci4 ci5
              try have b1 := a1.far a4 (a := .bool x2.hi.b) (b := .slice x2.hi.A x2.hi.xs.length x2.hi.c) (c := .slice x2.hi.D x2.hi.ys.length x2.hi.d) (by omega)
              try have b2 := a2.far a4 (a := .bool x2.hi.b) (b := .slice x2.hi.A x2.hi.xs.length x2.hi.c) (c := .slice x2.hi.D x2.hi.ys.length x2.hi.d) (by omega)
              try have b3 := a3.far a4 (a := .bool x2.hi.b) (b := .slice x2.hi.A x2.hi.xs.length x2.hi.c) (c := .slice x2.hi.D x2.hi.ys.length x2.hi.d) (by omega)
              try have b4 := a4.far a4 (a := .bool x2.hi.b) (b := .slice x2.hi.A x2.hi.xs.length x2.hi.c) (c := .slice x2.hi.D x2.hi.ys.length x2.hi.d) (by omega)
              try have br1 := ((br.far (p := ⟨H, 0, none⟩) (by simp; omega) (.bool x2.hi.b)).far (p := ⟨H, 1, none⟩) (by simp; omega) (.slice x2.hi.A x2.hi.xs.length x2.hi.c)).far (p := ⟨H, 2, none⟩) (by simp; omega) (.slice x2.hi.D x2.hi.ys.length x2.hi.d)
              have bO := a4.put a2.ok.hi
              have bz := set3g (G := H) (a := .bool x2.hi.b) (b := .slice x2.hi.A x2.hi.xs.length x2.hi.c) (c := .slice x2.hi.D x2.hi.ys.length x2.hi.d) bw (by omega)
              clear a4 bw
              generalize ((World.setCell (World.setCell (World.setCell _ ⟨H, 0, none⟩ (.bool x2.hi.b)) ⟨H, 1, none⟩ (.slice x2.hi.A x2.hi.xs.length x2.hi.c)) ⟨H, 2, none⟩ (.slice x2.hi.D x2.hi.ys.length x2.hi.d))) = wm at *
              try replace a1 := b1
              try clear b1
              try replace a2 := b2
              try clear b2
              try replace a3 := b3
              try clear b3
              try replace a4 := b4
              try clear b4
              try replace br := br1
              try clear br1
              have a4 := bO
              have bw := bz
              clear bO bz
              have ci0 := a3.c0
              have ci1 := a3.c1
              have ci2 := a3.c2
              have cj0 := a4.c0
              have cj1 := a4.c1
              have cj2 := a4.c2
              go_wp2_with fail
              clear ci0 ci1 ci2 cj0 cj1 cj2
              refine (atmost_any _ x2.lo x2.hi false a3.ok a4.ok f2.lo.l f2.lo.m f2.hi.l f2.hi.m (decide_eq_false (fun h => H3.out ((leF_iff W3.out W4.out).1 h)))).mono ?_
              rintro e wn ⟨rfl, bb⟩
              try replace br := br.below bb
              try replace bk := bk.below bb
              try replace a1 := a1.below bb
              try replace a2 := a2.below bb
              try replace a3 := a3.below bb
              try replace a4 := a4.below bb
              replace bw := below_on bw bb bw.size
              clear bb
              have r0 := br.cell 0
              have r1 := br.cell 1
              have r2 := br.cell 2
              have r3 := br.cell 3
              have r4 := br.cell 4
              have r5 := br.cell 5
              have rf0 := br.unf 0
              have rf1 := br.unf 1
              have rf2 := br.unf 2
              have rf3 := br.unf 3
              have rf4 := br.unf 4
              have rf5 := br.unf 5
              simp only [List.getElem?_toArray, List.getElem?_cons_succ, List.getElem?_cons_zero] at r0 r1 r2 r3 r4 r5
              go_wp2_with fail
              refine bodyPost_ret (v := .tuple #[(Ix.nil : Ix).val, .bool false]) (by simp [results, Try.results35, go_sem, r0, r1, r2, r3, r4, r5]) rfl ?_
              rw [HSQ.out]
              exact ⟨Ix.nil, rfl, ⟨rfl, rfl, rfl⟩, ⟨rfl, rfl, rfl⟩, Ix.nil_ok _, set6_below bw (by omega)⟩
          · by_cases h3 : x2.lo.q ≤ x4.q
            · skip
              have HSQ : Hid (S = (okS x2.lo.q, okS x4.q, true)) := Lib.hid (by rw [HSP.out, maxR, minR, if_pos h1, if_neg h2, if_pos h3])
              have H1 : Hid (x3.q ≤ x2.lo.q) := h1
              have H2 : Hid (¬ x2.hi.q ≤ x4.q) := h2
              have H3 : Hid (x2.lo.q ≤ x4.q) := h3
              clear h1 h2 h3
              have ci0 := a2.c0
              have ci1 := a2.c1
              have ci2 := a2.c2
              have ci3 := a2.c3
              have ci4 := a2.c4
              have ci5 := a2.c5
              have cj0 := a3.c0
              have cj1 := a3.c1
              have cj2 := a3.c2
              go_wp2_with fail
              clear ci0 ci1 ci2 ci3 ci4 ci5
              clear cj0 cj1 cj2
              refine (atmost_any _ x3 x2.lo true a3.ok a2.ok.lo f3.l f3.m f2.lo.l f2.lo.m (decide_eq_true ((leF_iff V3.out W3.out).2 H1.out))).mono ?_
              rintro e wn ⟨rfl, bb⟩
              try replace br := br.below bb
              try replace bk := bk.below bb
              try replace a1 := a1.below bb
              try replace a2 := a2.below bb
              try replace a3 := a3.below bb
              try replace a4 := a4.below bb
              replace bw := below_on bw bb bw.size
              clear bb
              have ci0 := a2.c0
              have ci1 := a2.c1
              have ci2 := a2.c2
              have ci3 := a2.c3
              have ci4 := a2.c4
              have ci5 := a2.c5
              have tk := a3.bk
              obtain ⟨k0, k1, k2, kf0, kf1, kf2, klt, kb⟩ := tk
              clear kb
              go_upto_region 6 with fail
              clear k0 k1 k2 kf0 kf1 kf2 klt
              clear ci0 ci1 ci2 ci3 ci4 ci5
              try have b1 := a1.far a3 (a := .bool x2.lo.b) (b := .slice x2.lo.A x2.lo.xs.length x2.lo.c) (c := .slice x2.lo.D x2.lo.ys.length x2.lo.d) (by omega)
              try have b2 := a2.far a3 (a := .bool x2.lo.b) (b := .slice x2.lo.A x2.lo.xs.length x2.lo.c) (c := .slice x2.lo.D x2.lo.ys.length x2.lo.d) (by omega)
              try have b3 := a3.far a3 (a := .bool x2.lo.b) (b := .slice x2.lo.A x2.lo.xs.length x2.lo.c) (c := .slice x2.lo.D x2.lo.ys.length x2.lo.d) (by omega)
              try have b4 := a4.far a3 (a := .bool x2.lo.b) (b := .slice x2.lo.A x2.lo.xs.length x2.lo.c) (c := .slice x2.lo.D x2.lo.ys.length x2.lo.d) (by omega)
              try have br1 := ((br.far (p := ⟨G, 0, none⟩) (by simp; omega) (.bool x2.lo.b)).far (p := ⟨G, 1, none⟩) (by simp; omega) (.slice x2.lo.A x2.lo.xs.length x2.lo.c)).far (p := ⟨G, 2, none⟩) (by simp; omega) (.slice x2.lo.D x2.lo.ys.length x2.lo.d)
              have bO := a3.put a2.ok.lo
              have bz := set3g (G := G) (a := .bool x2.lo.b) (b := .slice x2.lo.A x2.lo.xs.length x2.lo.c) (c := .slice x2.lo.D x2.lo.ys.length x2.lo.d) bw (by omega)
              clear a3 bw
              generalize ((World.setCell (World.setCell (World.setCell _ ⟨G, 0, none⟩ (.bool x2.lo.b)) ⟨G, 1, none⟩ (.slice x2.lo.A x2.lo.xs.length x2.lo.c)) ⟨G, 2, none⟩ (.slice x2.lo.D x2.lo.ys.length x2.lo.d))) = wm at *
              try replace a1 := b1
              try clear b1
              try replace a2 := b2
              try clear b2
              try replace a3 := b3
              try clear b3
              try replace a4 := b4
              try clear b4
              try replace br := br1
              try clear br1
              have a3 := bO
              have bw := bz
              clear bO bz
              have ci0 := a2.c0
              have ci1 := a2.c1
              have ci2 := a2.c2
              have ci3 := a2.c3
              have ci4 := a2.c4
              have ci5 := a2.c5
              have cj0 := a4.c0
              have cj1 := a4.c1
              have cj2 := a4.c2
              go_wp2_with fail
              clear ci0 ci1 ci2 ci3 ci4 ci5
              clear cj0 cj1 cj2
              refine (atmost_any _ x2.hi x4 false a2.ok.hi a4.ok f2.hi.l f2.hi.m f4.l f4.m (decide_eq_false (fun h => H2.out ((leF_iff W4.out V4.out).1 h)))).mono ?_
              rintro e wn ⟨rfl, bb⟩
              try replace br := br.below bb
              try replace bk := bk.below bb
              try replace a1 := a1.below bb
              try replace a2 := a2.below bb
              try replace a3 := a3.below bb
              try replace a4 := a4.below bb
              replace bw := below_on bw bb bw.size
              clear bb
              go_upto_region 8 with fail
              generalize wn = wm at *
              have ci0 := a3.c0
              have ci1 := a3.c1
              have ci2 := a3.c2
              have cj0 := a4.c0
              have cj1 := a4.c1
              have cj2 := a4.c2
              go_wp2_with fail
              clear ci0 ci1 ci2 cj0 cj1 cj2
              refine (atmost_any _ x2.lo x4 true a3.ok a4.ok f2.lo.l f2.lo.m f4.l f4.m (decide_eq_true ((leF_iff W3.out V4.out).2 H3.out))).mono ?_
              rintro e wn ⟨rfl, bb⟩
              try replace br := br.below bb
              try replace bk := bk.below bb
              try replace a1 := a1.below bb
              try replace a2 := a2.below bb
              try replace a3 := a3.below bb
              try replace a4 := a4.below bb
              replace bw := below_on bw bb bw.size
              clear bb
              have ci0 := a3.c0
              have ci1 := a3.c1
              have ci2 := a3.c2
              have cj0 := a4.c0
              have cj1 := a4.c1
              have cj2 := a4.c2
              go_wp2_with fail
              clear ci0 ci1 ci2 cj0 cj1 cj2
              refine (ibetween_any _ x2.lo x4 (okS x2.lo.q) (okS x4.q) a3.ok a4.ok f2.lo.l f2.lo.m f4.l f4.m (redS_okS W3.out) (redS_okS V4.out)).mono ?_
              rintro e wn ⟨a, rfl, h1, h2, oka, bb⟩
              try replace br := br.below bb
              try replace bk := bk.below bb
              try replace a1 := a1.below bb
              try replace a2 := a2.below bb
              try replace a3 := a3.below bb
              try replace a4 := a4.below bb
              replace bw := below_on bw bb bw.size
              clear bb
              have r0 := br.cell 0
              have r1 := br.cell 1
              have r2 := br.cell 2
              have r3 := br.cell 3
              have r4 := br.cell 4
              have r5 := br.cell 5
              have rf0 := br.unf 0
              have rf1 := br.unf 1
              have rf2 := br.unf 2
              have rf3 := br.unf 3
              have rf4 := br.unf 4
              have rf5 := br.unf 5
              simp only [List.getElem?_toArray, List.getElem?_cons_succ, List.getElem?_cons_zero] at r0 r1 r2 r3 r4 r5
              go_wp2_with fail
              refine bodyPost_ret (v := .tuple #[(a : Ix).val, .bool true]) (by simp [results, Try.results35, go_sem, r0, r1, r2, r3, r4, r5]) rfl ?_
              rw [HSQ.out]
              exact ⟨a, rfl, h1, h2, ⟨set6_ok oka.lo br noInt_z, set6_ok oka.hi br noInt_z⟩, set6_below bw (by omega)⟩
            · skip
              have HSQ : Hid (S = (nilF, nilF, false)) := Lib.hid (by rw [HSP.out, maxR, minR, if_pos h1, if_neg h2, if_neg h3])
              have H1 : Hid (x3.q ≤ x2.lo.q) := h1
              have H2 : Hid (¬ x2.hi.q ≤ x4.q) := h2
              have H3 : Hid (¬ x2.lo.q ≤ x4.q) := h3
              clear h1 h2 h3
              have ci0 := a2.c0
              have ci1 := a2.c1
              have ci2 := a2.c2
              have ci3 := a2.c3
              have ci4 := a2.c4
              have ci5 := a2.c5
              have cj0 := a3.c0
              have cj1 := a3.c1
              have cj2 := a3.c2
              go_wp2_with fail
              clear ci0 ci1 ci2 ci3 ci4 ci5
              clear cj0 cj1 cj2
              refine (atmost_any _ x3 x2.lo true a3.ok a2.ok.lo f3.l f3.m f2.lo.l f2.lo.m (decide_eq_true ((leF_iff V3.out W3.out).2 H1.out))).mono ?_
              rintro e wn ⟨rfl, bb⟩
              try replace br := br.below bb
              try replace bk := bk.below bb
              try replace a1 := a1.below bb
              try replace a2 := a2.below bb
              try replace a3 := a3.below bb
              try replace a4 := a4.below bb
              replace bw := below_on bw bb bw.size
              clear bb
              have ci0 := a2.c0
              have ci1 := a2.c1
              have ci2 := a2.c2
              have ci3 := a2.c3
              have ci4 := a2.c4
              have ci5 := a2.c5
              have tk := a3.bk
              obtain ⟨k0, k1, k2, kf0, kf1, kf2, klt, kb⟩ := tk
              clear kb
              go_upto_region 6 with fail
              clear k0 k1 k2 kf0 kf1 kf2 klt
              clear ci0 ci1 ci2 ci3 ci4 ci5
              try have b1 := a1.far a3 (a := .bool x2.lo.b) (b := .slice x2.lo.A x2.lo.xs.length x2.lo.c) (c := .slice x2.lo.D x2.lo.ys.length x2.lo.d) (by omega)
              try have b2 := a2.far a3 (a := .bool x2.lo.b) (b := .slice x2.lo.A x2.lo.xs.length x2.lo.c) (c := .slice x2.lo.D x2.lo.ys.length x2.lo.d) (by omega)
              try have b3 := a3.far a3 (a := .bool x2.lo.b) (b := .slice x2.lo.A x2.lo.xs.length x2.lo.c) (c := .slice x2.lo.D x2.lo.ys.length x2.lo.d) (by omega)
              try have b4 := a4.far a3 (a := .bool x2.lo.b) (b := .slice x2.lo.A x2.lo.xs.length x2.lo.c) (c := .slice x2.lo.D x2.lo.ys.length x2.lo.d) (by omega)
              try have br1 := ((br.far (p := ⟨G, 0, none⟩) (by simp; omega) (.bool x2.lo.b)).far (p := ⟨G, 1, none⟩) (by simp; omega) (.slice x2.lo.A x2.lo.xs.length x2.lo.c)).far (p := ⟨G, 2, none⟩) (by simp; omega) (.slice x2.lo.D x2.lo.ys.length x2.lo.d)
              have bO := a3.put a2.ok.lo
              have bz := set3g (G := G) (a := .bool x2.lo.b) (b := .slice x2.lo.A x2.lo.xs.length x2.lo.c) (c := .slice x2.lo.D x2.lo.ys.length x2.lo.d) bw (by omega)
              clear a3 bw
              generalize ((World.setCell (World.setCell (World.setCell _ ⟨G, 0, none⟩ (.bool x2.lo.b)) ⟨G, 1, none⟩ (.slice x2.lo.A x2.lo.xs.length x2.lo.c)) ⟨G, 2, none⟩ (.slice x2.lo.D x2.lo.ys.length x2.lo.d))) = wm at *
              try replace a1 := b1
              try clear b1
              try replace a2 := b2
              try clear b2
              try replace a3 := b3
              try clear b3
              try replace a4 := b4
              try clear b4
              try replace br := br1
              try clear br1
              have a3 := bO
              have bw := bz
              clear bO bz
              have ci0 := a2.c0
              have ci1 := a2.c1
              have ci2 := a2.c2
              have ci3 := a2.c3
              have ci4 := a2.c4
              have ci5 := a2.c5
              have cj0 := a4.c0
              have cj1 := a4.c1
              have cj2 := a4.c2
              go_wp2_with fail
              clear ci0 ci1 ci2 ci3 ci4 ci5
              clear cj0 cj1 cj2
              refine (atmost_any _ x2.hi x4 false a2.ok.hi a4.ok f2.hi.l f2.hi.m f4.l f4.m (decide_eq_false (fun h => H2.out ((leF_iff W4.out V4.out).1 h)))).mono ?_
              rintro e wn ⟨rfl, bb⟩
              try replace br := br.below bb
              try replace bk := bk.below bb
              try replace a1 := a1.below bb
              try replace a2 := a2.below bb
              try replace a3 := a3.below bb
              try replace a4 := a4.below bb
              replace bw := below_on bw bb bw.size
              clear bb
              go_upto_region 8 with fail
              generalize wn = wm at *
              have ci0 := a3.c0
              have ci1 := a3.c1
              have ci2 := a3.c2
              have cj0 := a4.c0
              have cj1 := a4.c1
              have cj2 := a4.c2
              go_wp2_with fail
              clear ci0 ci1 ci2 cj0 cj1 cj2
              refine (atmost_any _ x2.lo x4 false a3.ok a4.ok f2.lo.l f2.lo.m f4.l f4.m (decide_eq_false (fun h => H3.out ((leF_iff W3.out V4.out).1 h)))).mono ?_
              rintro e wn ⟨rfl, bb⟩
              try replace br := br.below bb
              try replace bk := bk.below bb
              try replace a1 := a1.below bb
              try replace a2 := a2.below bb
              try replace a3 := a3.below bb
              try replace a4 := a4.below bb
              replace bw := below_on bw bb bw.size
              clear bb
              have r0 := br.cell 0
              have r1 := br.cell 1
              have r2 := br.cell 2
              have r3 := br.cell 3
              have r4 := br.cell 4
              have r5 := br.cell 5
              have rf0 := br.unf 0
              have rf1 := br.unf 1
              have rf2 := br.unf 2
              have rf3 := br.unf 3
              have rf4 := br.unf 4
              have rf5 := br.unf 5
              simp only [List.getElem?_toArray, List.getElem?_cons_succ, List.getElem?_cons_zero] at r0 r1 r2 r3 r4 r5
              go_wp2_with fail
              refine bodyPost_ret (v := .tuple #[(Ix.nil : Ix).val, .bool false]) (by simp [results, Try.results35, go_sem, r0, r1, r2, r3, r4, r5]) rfl ?_
              rw [HSQ.out]
              exact ⟨Ix.nil, rfl, ⟨rfl, rfl, rfl⟩, ⟨rfl, rfl, rfl⟩, Ix.nil_ok _, set6_below bw (by omega)⟩
        · by_cases h2 : x2.hi.q ≤ x4.q
          · by_cases h3 : x3.q ≤ x2.hi.q
            · skip
              have HSQ : Hid (S = (okS x3.q, okS x2.hi.q, true)) := Lib.hid (by rw [HSP.out, maxR, minR, if_neg h1, if_pos h2, if_pos h3])
              have H1 : Hid (¬ x3.q ≤ x2.lo.q) := h1
              have H2 : Hid (x2.hi.q ≤ x4.q) := h2
              have H3 : Hid (x3.q ≤ x2.hi.q) := h3
              clear h1 h2 h3
              have ci0 := a2.c0
              have ci1 := a2.c1
              have ci2 := a2.c2
              have ci3 := a2.c3
              have ci4 := a2.c4
              have ci5 := a2.c5
              have cj0 := a3.c0
              have cj1 := a3.c1
              have cj2 := a3.c2
              go_wp2_with fail
              clear ci0 ci1 ci2 ci3 ci4 ci5
              clear cj0 cj1 cj2
              refine (atmost_any _ x3 x2.lo false a3.ok a2.ok.lo f3.l f3.m f2.lo.l f2.lo.m (decide_eq_false (fun h => H1.out ((leF_iff V3.out W3.out).1 h)))).mono ?_
              rintro e wn ⟨rfl, bb⟩
              try replace br := br.below bb
              try replace bk := bk.below bb
              try replace a1 := a1.below bb
              try replace a2 := a2.below bb
              try replace a3 := a3.below bb
              try replace a4 := a4.below bb
              replace bw := below_on bw bb bw.size
              clear bb
              go_upto_region 6 with fail
              generalize wn = wm at *
              have ci0 := a2.c0
              have ci1 := a2.c1
              have ci2 := a2.c2
              have ci3 := a2.c3
              have ci4 := a2.c4
              have ci5 := a2.c5
              have cj0 := a4.c0
              have cj1 := a4.c1
              have cj2 := a4.c2
              go_wp2_with fail
              clear ci0 ci1 ci2 ci3 ci4 ci5
              clear cj0 cj1 cj2
              refine (atmost_any _ x2.hi x4 true a2.ok.hi a4.ok f2.hi.l f2.hi.m f4.l f4.m (decide_eq_true ((leF_iff W4.out V4.out).2 H2.out))).mono ?_
              rintro e wn ⟨rfl, bb⟩
              try replace br := br.below bb
              try replace bk := bk.below bb
              try replace a1 := a1.below bb
              try replace a2 := a2.below bb
              try replace a3 := a3.below bb
              try replace a4 := a4.below bb
              replace bw := below_on bw bb bw.size
              clear bb
              have ci0 := a2.c0
              have ci1 := a2.c1
              have ci2 := a2.c2
              have ci3 := a2.c3
              have ci4 := a2.c4
              have ci5 := a2.c5
              have tk := a4.bk
              obtain ⟨k0, k1, k2, kf0, kf1, kf2, klt, kb⟩ := tk
              clear kb
              go_upto_region 8 with fail
              clear k0 k1 k2 kf0 kf1 kf2 klt
              clear ci0 ci1 ci2 ci3 ci4 ci5
              try have b1 := a1.far a4 (a := .bool x2.hi.b) (b := .slice x2.hi.A x2.hi.xs.length x2.hi.c) (c := .slice x2.hi.D x2.hi.ys.length x2.hi.d) (by omega)
              try have b2 := a2.far a4 (a := .bool x2.hi.b) (b := .slice x2.hi.A x2.hi.xs.length x2.hi.c) (c := .slice x2.hi.D x2.hi.ys.length x2.hi.d) (by omega)
              try have b3 := a3.far a4 (a := .bool x2.hi.b) (b := .slice x2.hi.A x2.hi.xs.length x2.hi.c) (c := .slice x2.hi.D x2.hi.ys.length x2.hi.d) (by omega)
              try have b4 := a4.far a4 (a := .bool x2.hi.b) (b := .slice x2.hi.A x2.hi.xs.length x2.hi.c) (c := .slice x2.hi.D x2.hi.ys.length x2.hi.d) (by omega)
              try have br1 := ((br.far (p := ⟨H, 0, none⟩) (by simp; omega) (.bool x2.hi.b)).far (p := ⟨H, 1, none⟩) (by simp; omega) (.slice x2.hi.A x2.hi.xs.length x2.hi.c)).far (p := ⟨H, 2, none⟩) (by simp; omega) (.slice x2.hi.D x2.hi.ys.length x2.hi.d)
              have bO := a4.put a2.ok.hi
              have bz := set3g (G := H) (a := .bool x2.hi.b) (b := .slice x2.hi.A x2.hi.xs.length x2.hi.c) (c := .slice x2.hi.D x2.hi.ys.length x2.hi.d) bw (by omega)
              clear a4 bw
              generalize ((World.setCell (World.setCell (World.setCell _ ⟨H, 0, none⟩ (.bool x2.hi.b)) ⟨H, 1, none⟩ (.slice x2.hi.A x2.hi.xs.length x2.hi.c)) ⟨H, 2, none⟩ (.slice x2.hi.D x2.hi.ys.length x2.hi.d))) = wm at *
              try replace a1 := b1
              try clear b1
              try replace a2 := b2
              try clear b2
              try replace a3 := b3
              try clear b3
              try replace a4 := b4
              try clear b4
              try replace br := br1
              try clear br1
              have a4 := bO
              have bw := bz
              clear bO bz
              have ci0 := a3.c0
              have ci1 := a3.c1
              have ci2 := a3.c2
              have cj0 := a4.c0
              have cj1 := a4.c1
              have cj2 := a4.c2
              go_wp2_with fail
              clear ci0 ci1 ci2 cj0 cj1 cj2
              refine (atmost_any _ x3 x2.hi true a3.ok a4.ok f3.l f3.m f2.hi.l f2.hi.m (decide_eq_true ((leF_iff V3.out W4.out).2 H3.out))).mono ?_
              rintro e wn ⟨rfl, bb⟩
              try replace br := br.below bb
              try replace bk := bk.below bb
              try replace a1 := a1.below bb
              try replace a2 := a2.below bb
              try replace a3 := a3.below bb
              try replace a4 := a4.below bb
              replace bw := below_on bw bb bw.size
              clear bb
              have ci0 := a3.c0
              have ci1 := a3.c1
              have ci2 := a3.c2
              have cj0 := a4.c0
              have cj1 := a4.c1
              have cj2 := a4.c2
              go_wp2_with fail
              clear ci0 ci1 ci2 cj0 cj1 cj2
              refine (ibetween_any _ x3 x2.hi (okS x3.q) (okS x2.hi.q) a3.ok a4.ok f3.l f3.m f2.hi.l f2.hi.m (redS_okS V3.out) (redS_okS W4.out)).mono ?_
              rintro e wn ⟨a, rfl, h1, h2, oka, bb⟩
              try replace br := br.below bb
              try replace bk := bk.below bb
              try replace a1 := a1.below bb
              try replace a2 := a2.below bb
              try replace a3 := a3.below bb
              try replace a4 := a4.below bb
              replace bw := below_on bw bb bw.size
              clear bb
              have r0 := br.cell 0
              have r1 := br.cell 1
              have r2 := br.cell 2
              have r3 := br.cell 3
              have r4 := br.cell 4
              have r5 := br.cell 5
              have rf0 := br.unf 0
              have rf1 := br.unf 1
              have rf2 := br.unf 2
              have rf3 := br.unf 3
              have rf4 := br.unf 4
              have rf5 := br.unf 5
              simp only [List.getElem?_toArray, List.getElem?_cons_succ, List.getElem?_cons_zero] at r0 r1 r2 r3 r4 r5
              go_wp2_with fail
              refine bodyPost_ret (v := .tuple #[(a : Ix).val, .bool true]) (by simp [results, Try.results35, go_sem, r0, r1, r2, r3, r4, r5]) rfl ?_
              rw [HSQ.out]
              exact ⟨a, rfl, h1, h2, ⟨set6_ok oka.lo br noInt_z, set6_ok oka.hi br noInt_z⟩, set6_below bw (by omega)⟩
            · skip
              have HSQ : Hid (S = (nilF, nilF, false)) := Lib.hid (by rw [HSP.out, maxR, minR, if_neg h1, if_pos h2, if_neg h3])
              have H1 : Hid (¬ x3.q ≤ x2.lo.q) := h1
              have H2 : Hid (x2.hi.q ≤ x4.q) := h2
              have H3 : Hid (¬ x3.q ≤ x2.hi.q) := h3
              clear h1 h2 h3
              have ci0 := a2.c0
              have ci1 := a2.c1
              have ci2 := a2.c2
              have ci3 := a2.c3
              have ci4 := a2.c4
              have ci5 := a2.c5
              have cj0 := a3.c0
              have cj1 := a3.c1
              have cj2 := a3.c2
              go_wp2_with fail
              clear ci0 ci1 ci2 ci3 ci4 ci5
              clear cj0 cj1 cj2
              refine (atmost_any _ x3 x2.lo false a3.ok a2.ok.lo f3.l f3.m f2.lo.l f2.lo.m (decide_eq_false (fun h => H1.out ((leF_iff V3.out W3.out).1 h)))).mono ?_
              rintro e wn ⟨rfl, bb⟩
              try replace br := br.below bb
              try replace bk := bk.below bb
              try replace a1 := a1.below bb
              try replace a2 := a2.below bb
              try replace a3 := a3.below bb
              try replace a4 := a4.below bb
              replace bw := below_on bw bb bw.size
              clear bb
              go_upto_region 6 with fail
              generalize wn = wm at *
              have ci0 := a2.c0
              have ci1 := a2.c1
              have ci2 := a2.c2
              have ci3 := a2.c3
              have ci4 := a2.c4
              have ci5 := a2.c5
              have cj0 := a4.c0
              have cj1 := a4.c1
              have cj2 := a4.c2
              go_wp2_with fail
              clear ci0 ci1 ci2 ci3 ci4 ci5
              clear cj0 cj1 cj2
              refine (atmost_any _ x2.hi x4 true a2.ok.hi a4.ok f2.hi.l f2.hi.m f4.l f4.m (decide_eq_true ((leF_iff W4.out V4.out).2 H2.out))).mono ?_
              rintro e wn ⟨rfl, bb⟩
              try replace br := br.below bb
              try replace bk := bk.below bb
              try replace a1 := a1.below bb
              try replace a2 := a2.below bb
              try replace a3 := a3.below bb
              try replace a4 := a4.below bb
              replace bw := below_on bw bb bw.size
              clear bb
              have ci0 := a2.c0
              have ci1 := a2.c1
              have ci2 := a2.c2
              have ci3 := a2.c3
              have ci4 := a2.c4
              have ci5 := a2.c5
              have tk := a4.bk
              obtain ⟨k0, k1, k2, kf0, kf1, kf2, klt, kb⟩ := tk
              clear kb
              go_upto_region 8 with fail
              clear k0 k1 k2 kf0 kf1 kf2 klt
              clear ci0 ci1 ci2 ci3 ci4 ci5
              try have b1 := a1.far a4 (a := .bool x2.hi.b) (b := .slice x2.hi.A x2.hi.xs.length x2.hi.c) (c := .slice x2.hi.D x2.hi.ys.length x2.hi.d) (by omega)
              try have b2 := a2.far a4 (a := .bool x2.hi.b) (b := .slice x2.hi.A x2.hi.xs.length x2.hi.c) (c := .slice x2.hi.D x2.hi.ys.length x2.hi.d) (by omega)
              try have b3 := a3.far a4 (a := .bool x2.hi.b) (b := .slice x2.hi.A x2.hi.xs.length x2.hi.c) (c := .slice x2.hi.D x2.hi.ys.length x2.hi.d) (by omega)
              try have b4 := a4.far a4 (a := .bool x2.hi.b) (b := .slice x2.hi.A x2.hi.xs.length x2.hi.c) (c := .slice x2.hi.D x2.hi.ys.length x2.hi.d) (by omega)
              try have br1 := ((br.far (p := ⟨H, 0, none⟩) (by simp; omega) (.bool x2.hi.b)).far (p := ⟨H, 1, none⟩) (by simp; omega) (.slice x2.hi.A x2.hi.xs.length x2.hi.c)).far (p := ⟨H, 2, none⟩) (by simp; omega) (.slice x2.hi.D x2.hi.ys.length x2.hi.d)
              have bO := a4.put a2.ok.hi
              have bz := set3g (G := H) (a := .bool x2.hi.b) (b := .slice x2.hi.A x2.hi.xs.length x2.hi.c) (c := .slice x2.hi.D x2.hi.ys.length x2.hi.d) bw (by omega)
              clear a4 bw
              generalize ((World.setCell (World.setCell (World.setCell _ ⟨H, 0, none⟩ (.bool x2.hi.b)) ⟨H, 1, none⟩ (.slice x2.hi.A x2.hi.xs.length x2.hi.c)) ⟨H, 2, none⟩ (.slice x2.hi.D x2.hi.ys.length x2.hi.d))) = wm at *
              try replace a1 := b1
              try clear b1
              try replace a2 := b2
              try clear b2
              try replace a3 := b3
              try clear b3
              try replace a4 := b4
              try clear b4
              try replace br := br1
              try clear br1
              have a4 := bO
              have bw := bz
              clear bO bz
              have ci0 := a3.c0
              have ci1 := a3.c1
              have ci2 := a3.c2
              have cj0 := a4.c0
              have cj1 := a4.c1
              have cj2 := a4.c2
              go_wp2_with fail
              clear ci0 ci1 ci2 cj0 cj1 cj2
              refine (atmost_any _ x3 x2.hi false a3.ok a4.ok f3.l f3.m f2.hi.l f2.hi.m (decide_eq_false (fun h => H3.out ((leF_iff V3.out W4.out).1 h)))).mono ?_
              rintro e wn ⟨rfl, bb⟩
              try replace br := br.below bb
              try replace bk := bk.below bb
              try replace a1 := a1.below bb
              try replace a2 := a2.below bb
              try replace a3 := a3.below bb
              try replace a4 := a4.below bb
              replace bw := below_on bw bb bw.size
              clear bb
              have r0 := br.cell 0
              have r1 := br.cell 1
              have r2 := br.cell 2
              have r3 := br.cell 3
              have r4 := br.cell 4
              have r5 := br.cell 5
              have rf0 := br.unf 0
              have rf1 := br.unf 1
              have rf2 := br.unf 2
              have rf3 := br.unf 3
              have rf4 := br.unf 4
              have rf5 := br.unf 5
              simp only [List.getElem?_toArray, List.getElem?_cons_succ, List.getElem?_cons_zero] at r0 r1 r2 r3 r4 r5
              go_wp2_with fail
              refine bodyPost_ret (v := .tuple #[(Ix.nil : Ix).val, .bool false]) (by simp [results, Try.results35, go_sem, r0, r1, r2, r3, r4, r5]) rfl ?_
              rw [HSQ.out]
              exact ⟨Ix.nil, rfl, ⟨rfl, rfl, rfl⟩, ⟨rfl, rfl, rfl⟩, Ix.nil_ok _, set6_below bw (by omega)⟩
          · by_cases h3 : x3.q ≤ x4.q
            · skip
              have HSQ : Hid (S = (okS x3.q, okS x4.q, true)) := Lib.hid (by rw [HSP.out, maxR, minR, if_neg h1, if_neg h2, if_pos h3])
              have H1 : Hid (¬ x3.q ≤ x2.lo.q) := h1
              have H2 : Hid (¬ x2.hi.q ≤ x4.q) := h2
              have H3 : Hid (x3.q ≤ x4.q) := h3
              clear h1 h2 h3
              have ci0 := a2.c0
              have ci1 := a2.c1
              have ci2 := a2.c2
              have ci3 := a2.c3
              have ci4 := a2.c4
              have ci5 := a2.c5
              have cj0 := a3.c0
              have cj1 := a3.c1
              have cj2 := a3.c2
              go_wp2_with fail
              clear ci0 ci1 ci2 ci3 ci4 ci5
              clear cj0 cj1 cj2
              refine (atmost_any _ x3 x2.lo false a3.ok a2.ok.lo f3.l f3.m f2.lo.l f2.lo.m (decide_eq_false (fun h => H1.out ((leF_iff V3.out W3.out).1 h)))).mono ?_
              rintro e wn ⟨rfl, bb⟩
              try replace br := br.below bb
              try replace bk := bk.below bb
              try replace a1 := a1.below bb
              try replace a2 := a2.below bb
              try replace a3 := a3.below bb
              try replace a4 := a4.below bb
              replace bw := below_on bw bb bw.size
              clear bb
              go_upto_region 6 with fail
              generalize wn = wm at *
              have ci0 := a2.c0
              have ci1 := a2.c1
              have ci2 := a2.c2
              have ci3 := a2.c3
              have ci4 := a2.c4
              have ci5 := a2.c5
              have cj0 := a4.c0
              have cj1 := a4.c1
              have cj2 := a4.c2
              go_wp2_with fail
              clear ci0 ci1 ci2 ci3 ci4 ci5
              clear cj0 cj1 cj2
              refine (atmost_any _ x2.hi x4 false a2.ok.hi a4.ok f2.hi.l f2.hi.m f4.l f4.m (decide_eq_false (fun h => H2.out ((leF_iff W4.out V4.out).1 h)))).mono ?_
              rintro e wn ⟨rfl, bb⟩
              try replace br := br.below bb
              try replace bk := bk.below bb
              try replace a1 := a1.below bb
              try replace a2 := a2.below bb
              try replace a3 := a3.below bb
              try replace a4 := a4.below bb
              replace bw := below_on bw bb bw.size
              clear bb
              go_upto_region 8 with fail
              generalize wn = wm at *
              have ci0 := a3.c0
              have ci1 := a3.c1
              have ci2 := a3.c2
              have cj0 := a4.c0
              have cj1 := a4.c1
              have cj2 := a4.c2
              go_wp2_with fail
              clear ci0 ci1 ci2 cj0 cj1 cj2
              refine (atmost_any _ x3 x4 true a3.ok a4.ok f3.l f3.m f4.l f4.m (decide_eq_true ((leF_iff V3.out V4.out).2 H3.out))).mono ?_
              rintro e wn ⟨rfl, bb⟩
              try replace br := br.below bb
              try replace bk := bk.below bb
              try replace a1 := a1.below bb
              try replace a2 := a2.below bb
              try replace a3 := a3.below bb
              try replace a4 := a4.below bb
              replace bw := below_on bw bb bw.size
              clear bb
              have ci0 := a3.c0
              have ci1 := a3.c1
              have ci2 := a3.c2
              have cj0 := a4.c0
              have cj1 := a4.c1
              have cj2 := a4.c2
              go_wp2_with fail
              clear ci0 ci1 ci2 cj0 cj1 cj2
              refine (ibetween_any _ x3 x4 (okS x3.q) (okS x4.q) a3.ok a4.ok f3.l f3.m f4.l f4.m (redS_okS V3.out) (redS_okS V4.out)).mono ?_
              rintro e wn ⟨a, rfl, h1, h2, oka, bb⟩
              try replace br := br.below bb
              try replace bk := bk.below bb
              try replace a1 := a1.below bb
              try replace a2 := a2.below bb
              try replace a3 := a3.below bb
              try replace a4 := a4.below bb
              replace bw := below_on bw bb bw.size
              clear bb
              have r0 := br.cell 0
              have r1 := br.cell 1
              have r2 := br.cell 2
              have r3 := br.cell 3
              have r4 := br.cell 4
              have r5 := br.cell 5
              have rf0 := br.unf 0
              have rf1 := br.unf 1
              have rf2 := br.unf 2
              have rf3 := br.unf 3
              have rf4 := br.unf 4
              have rf5 := br.unf 5
              simp only [List.getElem?_toArray, List.getElem?_cons_succ, List.getElem?_cons_zero] at r0 r1 r2 r3 r4 r5
              go_wp2_with fail
              refine bodyPost_ret (v := .tuple #[(a : Ix).val, .bool true]) (by simp [results, Try.results35, go_sem, r0, r1, r2, r3, r4, r5]) rfl ?_
              rw [HSQ.out]
              exact ⟨a, rfl, h1, h2, ⟨set6_ok oka.lo br noInt_z, set6_ok oka.hi br noInt_z⟩, set6_below bw (by omega)⟩
            · skip
              have HSQ : Hid (S = (nilF, nilF, false)) := Lib.hid (by rw [HSP.out, maxR, minR, if_neg h1, if_neg h2, if_neg h3])
              have H1 : Hid (¬ x3.q ≤ x2.lo.q) := h1
              have H2 : Hid (¬ x2.hi.q ≤ x4.q) := h2
              have H3 : Hid (¬ x3.q ≤ x4.q) := h3
              clear h1 h2 h3
              have ci0 := a2.c0
              have ci1 := a2.c1
              have ci2 := a2.c2
              have ci3 := a2.c3
              have ci4 := a2.c4
              have ci5 := a2.c5
              have cj0 := a3.c0
              have cj1 := a3.c1
              have cj2 := a3.c2
              go_wp2_with fail
              clear ci0 ci1 ci2 ci3 ci4 ci5
              clear cj0 cj1 cj2
              refine (atmost_any _ x3 x2.lo false a3.ok a2.ok.lo f3.l f3.m f2.lo.l f2.lo.m (decide_eq_false (fun h => H1.out ((leF_iff V3.out W3.out).1 h)))).mono ?_
              rintro e wn ⟨rfl, bb⟩
              try replace br := br.below bb
              try replace bk := bk.below bb
              try replace a1 := a1.below bb
              try replace a2 := a2.below bb
              try replace a3 := a3.below bb
              try replace a4 := a4.below bb
              replace bw := below_on bw bb bw.size
              clear bb
              go_upto_region 6 with fail
              generalize wn = wm at *
              have ci0 := a2.c0
              have ci1 := a2.c1
              have ci2 := a2.c2
              have ci3 := a2.c3
              have ci4 := a2.c4
              have ci5 := a2.c5
              have cj0 := a4.c0
              have cj1 := a4.c1
              have cj2 := a4.c2
              go_wp2_with fail
              clear ci0 ci1 ci2 ci3 ci4 ci5
              clear cj0 cj1 cj2
              refine (atmost_any _ x2.hi x4 false a2.ok.hi a4.ok f2.hi.l f2.hi.m f4.l f4.m (decide_eq_false (fun h => H2.out ((leF_iff W4.out V4.out).1 h)))).mono ?_
              rintro e wn ⟨rfl, bb⟩
              try replace br := br.below bb
              try replace bk := bk.below bb
              try replace a1 := a1.below bb
              try replace a2 := a2.below bb
              try replace a3 := a3.below bb
              try replace a4 := a4.below bb
              replace bw := below_on bw bb bw.size
              clear bb
              go_upto_region 8 with fail
              generalize wn = wm at *
              have ci0 := a3.c0
              have ci1 := a3.c1
              have ci2 := a3.c2
              have cj0 := a4.c0
              have cj1 := a4.c1
              have cj2 := a4.c2
              go_wp2_with fail
              clear ci0 ci1 ci2 cj0 cj1 cj2
              refine (atmost_any _ x3 x4 false a3.ok a4.ok f3.l f3.m f4.l f4.m (decide_eq_false (fun h => H3.out ((leF_iff V3.out V4.out).1 h)))).mono ?_
              rintro e wn ⟨rfl, bb⟩
              try replace br := br.below bb
              try replace bk := bk.below bb
              try replace a1 := a1.below bb
              try replace a2 := a2.below bb
              try replace a3 := a3.below bb
              try replace a4 := a4.below bb
              replace bw := below_on bw bb bw.size
              clear bb
              have r0 := br.cell 0
              have r1 := br.cell 1
              have r2 := br.cell 2
              have r3 := br.cell 3
              have r4 := br.cell 4
              have r5 := br.cell 5
              have rf0 := br.unf 0
              have rf1 := br.unf 1
              have rf2 := br.unf 2
              have rf3 := br.unf 3
              have rf4 := br.unf 4
              have rf5 := br.unf 5
              simp only [List.getElem?_toArray, List.getElem?_cons_succ, List.getElem?_cons_zero] at r0 r1 r2 r3 r4 r5
              go_wp2_with fail
              refine bodyPost_ret (v := .tuple #[(Ix.nil : Ix).val, .bool false]) (by simp [results, Try.results35, go_sem, r0, r1, r2, r3, r4, r5]) rfl ?_
              rw [HSQ.out]
              exact ⟨Ix.nil, rfl, ⟨rfl, rfl, rfl⟩, ⟨rfl, rfl, rfl⟩, Ix.nil_ok _, set6_below bw (by omega)⟩
    · have HV3 : Hid (¬ x2.v) := hv2
      have HE : Hid (meetS x1 x2 = (nilF, nilF, false)) := Lib.hid (if_neg (fun e => hv2 e.2.1))
      clear hv1 hv2
      go_enter Try.func35, Try.ntmps35
      go_upto_region 1 with fail
      have bw := Below.refl w.heap.size w
      have a1 := (ia_alloc ok1).1
      have bb := (ia_alloc ok1).2
      have sz1 := size_box w (.cells x1.cells 41)
      clear ok1
      generalize (w.alloc (.cells x1.cells 41)) = wA at a1 bb sz1 ⊢
      try replace ok1 := ok1.below bb
      try replace ok2 := ok2.below bb
      try replace br := br.below bb
      try replace bk := bk.below bb
      try replace a1 := a1.below bb
      try replace a2 := a2.below bb
      try replace a3 := a3.below bb
      try replace a4 := a4.below bb
      replace bw := below_on bw bb bw.size
      clear bb
      have a2 := (ia_alloc ok2).1
      have bb := (ia_alloc ok2).2
      have sz2 := size_box wA (.cells x2.cells 41)
      rw [sz1] at a2 sz2
      clear ok2 sz1
      generalize (wA.alloc (.cells x2.cells 41)) = wB at a2 bb sz2 ⊢
      try replace ok1 := ok1.below bb
      try replace ok2 := ok2.below bb
      try replace br := br.below bb
      try replace bk := bk.below bb
      try replace a1 := a1.below bb
      try replace a2 := a2.below bb
      try replace a3 := a3.below bb
      try replace a4 := a4.below bb
      replace bw := below_on bw bb bw.size
      clear bb
      have br := (zr_alloc wB).1
      have bb := (zr_alloc wB).2
      rw [sz2] at br
      clear sz2
      generalize (wB.alloc (.cells zcells 41)) = wm at br bb ⊢
      try replace a1 := a1.below bb
      try replace a2 := a2.below bb
      try replace a3 := a3.below bb
      try replace a4 := a4.below bb
      replace bw := below_on bw bb bw.size
      clear bb
      have ci0 := a1.c0
      have ci1 := a1.c1
      have ci2 := a1.c2
      have ci3 := a1.c3
      have ci4 := a1.c4
      have ci5 := a1.c5
      go_wp2_with fail
      clear ci0 ci1 ci2 ci3 ci4 ci5
      refine (ivalid_any _ x1 true a1.ok f1 (decide_eq_true HV1.out)).mono ?_
      rintro e wn ⟨rfl, bb⟩
      try replace br := br.below bb
      try replace bk := bk.below bb
      try replace a1 := a1.below bb
      try replace a2 := a2.below bb
      try replace a3 := a3.below bb
      try replace a4 := a4.below bb
      replace bw := below_on bw bb bw.size
      clear bb
      have ci0 := a2.c0
      have ci1 := a2.c1
      have ci2 := a2.c2
      have ci3 := a2.c3
      have ci4 := a2.c4
      have ci5 := a2.c5
      go_wp2_with fail
      clear ci0 ci1 ci2 ci3 ci4 ci5
      refine (ivalid_any _ x2 false a2.ok f2 (decide_eq_false HV3.out)).mono ?_
      rintro e wn ⟨rfl, bb⟩
      try replace br := br.below bb
      try replace bk := bk.below bb
      try replace a1 := a1.below bb
      try replace a2 := a2.below bb
      try replace a3 := a3.below bb
      try replace a4 := a4.below bb
      replace bw := below_on bw bb bw.size
      clear bb
      have r0 := br.cell 0
      have r1 := br.cell 1
      have r2 := br.cell 2
      have r3 := br.cell 3
      have r4 := br.cell 4
      have r5 := br.cell 5
      have rf0 := br.unf 0
      have rf1 := br.unf 1
      have rf2 := br.unf 2
      have rf3 := br.unf 3
      have rf4 := br.unf 4
      have rf5 := br.unf 5
      simp only [List.getElem?_toArray, List.getElem?_cons_succ, List.getElem?_cons_zero] at r0 r1 r2 r3 r4 r5
      go_wp2_with fail
      refine bodyPost_ret (v := .tuple #[(Ix.nil : Ix).val, .bool false]) (by simp [results, Try.results35, go_sem, r0, r1, r2, r3, r4, r5]) rfl ?_
      rw [← HS.out, HE.out]
      exact ⟨Ix.nil, rfl, ⟨rfl, rfl, rfl⟩, ⟨rfl, rfl, rfl⟩, Ix.nil_ok _, set6_below bw (by omega)⟩
  · have HV1 : Hid (¬ x1.v) := hv1
    have HE : Hid (meetS x1 x2 = (nilF, nilF, false)) := Lib.hid (if_neg (fun e => hv1 e.1))
    clear hv1
    go_enter Try.func35, Try.ntmps35
    go_upto_region 1 with fail
    have bw := Below.refl w.heap.size w
    have a1 := (ia_alloc ok1).1
    have bb := (ia_alloc ok1).2
    have sz1 := size_box w (.cells x1.cells 41)
    clear ok1
    generalize (w.alloc (.cells x1.cells 41)) = wA at a1 bb sz1 ⊢
    try replace ok1 := ok1.below bb
    try replace ok2 := ok2.below bb
    try replace br := br.below bb
    try replace bk := bk.below bb
    try replace a1 := a1.below bb
    try replace a2 := a2.below bb
    try replace a3 := a3.below bb
    try replace a4 := a4.below bb
    replace bw := below_on bw bb bw.size
    clear bb
    have a2 := (ia_alloc ok2).1
    have bb := (ia_alloc ok2).2
    have sz2 := size_box wA (.cells x2.cells 41)
    rw [sz1] at a2 sz2
    clear ok2 sz1
    generalize (wA.alloc (.cells x2.cells 41)) = wB at a2 bb sz2 ⊢
    try replace ok1 := ok1.below bb
    try replace ok2 := ok2.below bb
    try replace br := br.below bb
    try replace bk := bk.below bb
    try replace a1 := a1.below bb
    try replace a2 := a2.below bb
    try replace a3 := a3.below bb
    try replace a4 := a4.below bb
    replace bw := below_on bw bb bw.size
    clear bb
    have br := (zr_alloc wB).1
    have bb := (zr_alloc wB).2
    rw [sz2] at br
    clear sz2
    generalize (wB.alloc (.cells zcells 41)) = wm at br bb ⊢
    try replace a1 := a1.below bb
    try replace a2 := a2.below bb
    try replace a3 := a3.below bb
    try replace a4 := a4.below bb
    replace bw := below_on bw bb bw.size
    clear bb
    have ci0 := a1.c0
    have ci1 := a1.c1
    have ci2 := a1.c2
    have ci3 := a1.c3
    have ci4 := a1.c4
    have ci5 := a1.c5
    go_wp2_with fail
    clear ci0 ci1 ci2 ci3 ci4 ci5
    refine (ivalid_any _ x1 false a1.ok f1 (decide_eq_false HV1.out)).mono ?_
    rintro e wn ⟨rfl, bb⟩
    try replace br := br.below bb
    try replace bk := bk.below bb
    try replace a1 := a1.below bb
    try replace a2 := a2.below bb
    try replace a3 := a3.below bb
    try replace a4 := a4.below bb
    replace bw := below_on bw bb bw.size
    clear bb
    have r0 := br.cell 0
    have r1 := br.cell 1
    have r2 := br.cell 2
    have r3 := br.cell 3
    have r4 := br.cell 4
    have r5 := br.cell 5
    have rf0 := br.unf 0
    have rf1 := br.unf 1
    have rf2 := br.unf 2
    have rf3 := br.unf 3
    have rf4 := br.unf 4
    have rf5 := br.unf 5
    simp only [List.getElem?_toArray, List.getElem?_cons_succ, List.getElem?_cons_zero] at r0 r1 r2 r3 r4 r5
    go_wp2_with fail
    refine bodyPost_ret (v := .tuple #[(Ix.nil : Ix).val, .bool false]) (by simp [results, Try.results35, go_sem, r0, r1, r2, r3, r4, r5]) rfl ?_
    rw [← HS.out, HE.out]
    exact ⟨Ix.nil, rfl, ⟨rfl, rfl, rfl⟩, ⟨rfl, rfl, rfl⟩, Ix.nil_ok _, set6_below bw (by omega)⟩
end Go.Proofs.Ytlcolmifmhdboaa
