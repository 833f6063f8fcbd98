/- The walk of interval.span. -/
import Derived.Test.YtlcolmifmhdboaaIvD
import Derived.Test.YtlcolmifmhdboaaFrcA
namespace Go.Proofs.Ytlcolmifmhdboaa
open Go.RowKit

def loQ : List Fx → Rat → Rat
  | [], q => q
  | x :: vs, q => loQ vs (if x.q ≤ q then x.q else q)
def hiQ : List Fx → Rat → Rat
  | [], q => q
  | x :: vs, q => hiQ vs (if q ≤ x.q then x.q else q)
set_option maxRecDepth 100000 in
theorem loQ_step {vs : List Fx} {k : Nat} (h : k < vs.length) (q : Rat) : loQ (vs.drop k) q = loQ (vs.drop (k + 1)) (if vs[k].q ≤ q then vs[k].q else q) := by
  rw [List.drop_eq_getElem_cons h, loQ]
set_option maxRecDepth 100000 in
theorem hiQ_step {vs : List Fx} {k : Nat} (h : k < vs.length) (q : Rat) : hiQ (vs.drop k) q = hiQ (vs.drop (k + 1)) (if q ≤ vs[k].q then vs[k].q else q) := by
  rw [List.drop_eq_getElem_cons h, hiQ]
set_option maxRecDepth 100000 in
theorem leF_iff {x y : Fx} (hx : x.v) (hy : y.v) : leF x y ↔ x.q ≤ y.q := ⟨fun h => h.2.2, fun h => ⟨hx, hy, h⟩⟩
set_option maxRecDepth 100000 in
theorem add_lit (b o j : Nat) : (⟨b, o, none⟩ : Addr).add j = ⟨b, o + j, none⟩ := by
  unfold Addr.add
  split
  · rename_i h; rw [h]; rfl
  · rfl
set_option maxRecDepth 100000 in
theorem fa_two {w : World} {x y : Fx} (hx : x.ok w) (hy : y.ok w) : Fa ((w.alloc (.cells x.cells 25)).alloc (.cells y.cells 25)).drew w.heap.size x ∧ Fa ((w.alloc (.cells x.cells 25)).alloc (.cells y.cells 25)).drew (w.heap.size + 1) y ∧ Below w.heap.size w ((w.alloc (.cells x.cells 25)).alloc (.cells y.cells 25)).drew := by
  have b1 := (fa_alloc hx).2
  have f1 := (fa_alloc hx).1
  have sz := size_box w (.cells x.cells 25)
  have hy' := hy.below b1
  generalize w.alloc (.cells x.cells 25) = w1 at b1 f1 sz hy' ⊢
  have b2 := (fa_alloc hy').2
  have f2 := (fa_alloc hy').1
  rw [sz] at f2
  have b3 := b2.drew
  have f3 := f2.below ((Below.refl _ _).drew)
  exact ⟨f1.below b3, f3, below_on b1 b3 b1.size⟩
set_option maxHeartbeats 4000000 in
set_option maxRecDepth 100000 in
theorem ispan_any (w : World) (ad : Addr) (n c : Nat) (v0 : Fx) (vs : List Fx) (S T : FqS) (hrd : RdF w (some ad) (v0 :: vs)) (hok : OkF w (v0 :: vs)) (hv : ∀ v ∈ v0 :: vs, v.v) (hn : vs.length + 1 = n) (hn2 : 2 ≤ n) (hc : n ≤ c) (hm : n ≤ 1000) (_hcm : c ≤ maxLen) (hs : okS (loQ vs v0.q) = S) (ht : okS (hiQ vs v0.q) = T) :
    Calls Try.prog 80 #[.slice (some ad) n c] w (IvlNew w S T) := by
  have HS : Hid (okS (loQ (vs.drop 0) v0.q) = S) := Lib.hid hs
  have HT : Hid (okS (hiQ (vs.drop 0) v0.q) = T) := Lib.hid ht
  have HRD := Lib.hid hrd
  have HOK := Lib.hid hok
  have HV := Lib.hid hv
  have h1c : (1 : Int) ≤ (n : Int) := by omega
  have h2c : (n : Int) ≤ (c : Int) := by omega
  have HL0 := Lib.hid (hok v0 (by simp)).2
  have HV0 := Lib.hid (hv v0 (by simp))
  clear hs ht hrd hok hv
  go_enter Try.func80, Try.ntmps80
  go_upto_region 1 with fail
  have br := (zr_alloc w).1
  have bw := (zr_alloc w).2
  have hlw := br.lt
  generalize (w.alloc (.cells zcells 41)) = wm at br bw hlw ⊢
  obtain ⟨ad', e, hal, hcc⟩ := (HRD.out.below bw) (by simp)
  injection e with e
  subst e
  obtain ⟨hc0, hc1, hc2⟩ := hcc 0 (by simp)
  rw [Nat.zero_mul, show ad.add 0 = ad from if_pos rfl] at hc0 hc1 hc2
  simp only [List.getElem_cons_zero] at hc0 hc1 hc2
  have e0 := (HOK.out v0 (by simp)).1.below bw
  clear hcc
  go_cut [3, 4] from 8 (fun s3 s4 w' => ∃ G H : Nat, s3 = .pointer (some ⟨G, 0, none⟩) ∧ s4 = .pointer (some ⟨H, 0, none⟩) ∧ G ≠ H ∧ wm.heap.size ≤ G ∧ wm.heap.size ≤ H ∧ Fa w' G v0 ∧ Fa w' H v0 ∧ Below wm.heap.size wm w')
  case first =>
    obtain ⟨f1, f2, f3⟩ := fa_two e0 e0
    go_region
    · go_wp2_with fail
      go_meet
      case rel => exact ⟨_, _, rfl, rfl, by omega, by omega, by omega, f1, f2, f3⟩
    · go_wp2_with fail
      go_meet
      case rel => exact ⟨_, _, rfl, rfl, by omega, by omega, by omega, f2, f1, f3⟩
  case rest =>
    obtain ⟨G, H, rfl, rfl, hGH, hG, hH, a3, a4, bz⟩ := hcut
    replace br := br.below bz
    replace bw := below_on bw bz bw.size
    clear hc0 hc1 hc2 e0 bz hal
    have HRD1 : Hid (RdF w (some ⟨ad.block, ad.off + 3, none⟩) vs) := Lib.hid (by
      have h := HRD.out.drop 1
      rw [show ad.add (1 * 3) = ⟨ad.block, ad.off + 3, none⟩ from if_neg (by omega)] at h
      exact h)
    go_wp2_with fail
    go_loopw [16] (fun i wr => ∃ (k : Nat) (x y : Fx), k ≤ vs.length ∧ i = .int .i64 k ∧ okS (loQ (vs.drop k) x.q) = S ∧ okS (hiQ (vs.drop k) y.q) = T ∧ x.v ∧ y.v ∧ x.few ∧ y.few ∧ Fa wr G x ∧ Fa wr H y ∧ Blk wr w.heap.size zcells ∧ Below w.heap.size w wr) (fun i _ => vs.length - (intOf i).toNat)
    case atStart => exact ⟨0, v0, v0, by omega, rfl, HS.out, HT.out, HV0.out, HV0.out, ⟨HL0.out.1, HL0.out.2⟩, ⟨HL0.out.1, HL0.out.2⟩, a3, a4, br, bw⟩
    case round =>
      clear a3 a4 br bw HS HT HL0 HV0
      obtain ⟨k, x3, x4, hkl, rfl, hS, hT, v3, v4, f3, f4, a3, a4, br, bw⟩ := hrel
      have HS := Lib.hid hS
      have HT := Lib.hid hT
      have V3 := Lib.hid v3
      have V4 := Lib.hid v4
      clear hS hT v3 v4
      by_cases hlt : k < vs.length
      · have hltn : k < n - 1 := by omega
        obtain ⟨_, e, _, hcc⟩ := (HRD1.out.below bw) (by omega)
        injection e with e
        subst e
        obtain ⟨hc0, hc1, hc2⟩ := hcc k hlt
        rw [add_lit] at hc0 hc1 hc2
        obtain ⟨ok2, l2, m2⟩ := (HOK.out.below bw) _ (List.mem_cons_of_mem v0 (List.getElem_mem hlt))
        have V2 := Lib.hid (HV.out _ (List.mem_cons_of_mem v0 (List.getElem_mem hlt)))
        have HS2 := loQ_step hlt x3.q
        have HT2 := hiQ_step hlt x4.q
        obtain ⟨x2, hx2⟩ : ∃ x2, vs[k] = x2 := ⟨_, rfl⟩
        rw [hx2] at hc0 hc1 hc2 ok2 l2 m2 V2 HS2 HT2
        have f2 : x2.few := ⟨l2, m2⟩
        replace HS2 := Lib.hid HS2
        replace HT2 := Lib.hid HT2
        clear hcc hx2 l2 m2
        go_upto_region 5 with fail
        clear hc0 hc1 hc2
        have a2 := (fa_alloc ok2).1
        have bb := (fa_alloc ok2).2
        clear ok2
        generalize (wr.alloc (.cells #[.bool x2.b, .slice x2.A x2.xs.length x2.c, .slice x2.D x2.ys.length x2.d] 25)) = wm at a2 bb ⊢
        replace br := br.below bb
        have hg2G : G < wr.heap.size := a3.lt
        have hg2H : H < wr.heap.size := a4.lt
        try replace a2 := a2.below bb
        try replace a3 := a3.below bb
        try replace a4 := a4.below bb
        replace bw := below_on bw bb bw.size
        clear bb
        generalize wr.heap.size = g2 at a2 hg2G hg2H ⊢
        replace HS2 : Hid (okS (loQ (vs.drop (k + 1)) (if x2.q ≤ x3.q then x2.q else x3.q)) = S) := Lib.hid (by rw [← HS2.out]; exact HS.out)
        replace HT2 : Hid (okS (hiQ (vs.drop (k + 1)) (if x4.q ≤ x2.q then x2.q else x4.q)) = T) := Lib.hid (by rw [← HT2.out]; exact HT.out)
        by_cases h1 : x2.q ≤ x3.q
        · by_cases h2 : x4.q ≤ x2.q
          · skip
            rw [if_pos h1] at HS2
            rw [if_pos h2] at HT2
            have H1 : Hid (x2.q ≤ x3.q) := h1
            have H2 : Hid (x4.q ≤ x2.q) := h2
            clear h1 h2
            skip
            have ci0 := a2.c0
            have ci1 := a2.c1
            have ci2 := a2.c2
            have cj0 := a3.c0
            have cj1 := a3.c1
            have cj2 := a3.c2
            go_wp2_with fail
            clear ci0 ci1 ci2 cj0 cj1 cj2
            refine (atmost_any _ x2 x3 true a2.ok a3.ok f2.l f2.m f3.l f3.m (decide_eq_true ((leF_iff V2.out V3.out).2 H1.out))).mono ?_
            rintro e wn ⟨rfl, bb⟩
            try replace br := br.below bb
            try replace a2 := a2.below bb
            try replace a3 := a3.below bb
            try replace a4 := a4.below bb
            replace bw := below_on bw bb bw.size
            clear bb
            have ci0 := a2.c0
            have ci1 := a2.c1
            have ci2 := a2.c2
            have tk := a3.bk
            obtain ⟨k0, k1, k2, kf0, kf1, kf2, klt, kb⟩ := tk
            clear kb
            go_upto_region 7 with fail
            clear k0 k1 k2 kf0 kf1 kf2 klt
            clear ci0 ci1 ci2
            try have b2 := a2.far a3 (a := .bool x2.b) (b := .slice x2.A x2.xs.length x2.c) (c := .slice x2.D x2.ys.length x2.d) (by omega)
            try have b3 := a3.far a3 (a := .bool x2.b) (b := .slice x2.A x2.xs.length x2.c) (c := .slice x2.D x2.ys.length x2.d) (by omega)
            try have b4 := a4.far a3 (a := .bool x2.b) (b := .slice x2.A x2.xs.length x2.c) (c := .slice x2.D x2.ys.length x2.d) (by omega)
            try have br1 := ((br.far (p := ⟨G, 0, none⟩) (by simp; omega) (.bool x2.b)).far (p := ⟨G, 1, none⟩) (by simp; omega) (.slice x2.A x2.xs.length x2.c)).far (p := ⟨G, 2, none⟩) (by simp; omega) (.slice x2.D x2.ys.length x2.d)
            have bO := a3.put a2.ok
            have bz := set3g (G := G) (a := .bool x2.b) (b := .slice x2.A x2.xs.length x2.c) (c := .slice x2.D x2.ys.length x2.d) bw (by omega)
            clear a3 bw
            generalize ((World.setCell (World.setCell (World.setCell _ ⟨G, 0, none⟩ (.bool x2.b)) ⟨G, 1, none⟩ (.slice x2.A x2.xs.length x2.c)) ⟨G, 2, none⟩ (.slice x2.D x2.ys.length x2.d))) = wm at *
            try replace a2 := b2
            try clear b2
            try replace a3 := b3
            try clear b3
            try replace a4 := b4
            try clear b4
            try replace br := br1
            try clear br1
            have a3 := bO
            have bw := bz
            clear bO bz
            have ci0 := a4.c0
            have ci1 := a4.c1
            have ci2 := a4.c2
            have cj0 := a2.c0
            have cj1 := a2.c1
            have cj2 := a2.c2
            go_wp2_with fail
            clear ci0 ci1 ci2 cj0 cj1 cj2
            refine (atmost_any _ x4 x2 true a4.ok a2.ok f4.l f4.m f2.l f2.m (decide_eq_true ((leF_iff V4.out V2.out).2 H2.out))).mono ?_
            rintro e wn ⟨rfl, bb⟩
            try replace br := br.below bb
            try replace bk := bk.below bb
            try replace a2 := a2.below bb
            try replace a3 := a3.below bb
            try replace a4 := a4.below bb
            replace bw := below_on bw bb bw.size
            clear bb
            have ci0 := a2.c0
            have ci1 := a2.c1
            have ci2 := a2.c2
            have tk := a4.bk
            obtain ⟨k0, k1, k2, kf0, kf1, kf2, klt, kb⟩ := tk
            clear kb
            go_upto_region 9 with fail
            clear k0 k1 k2 kf0 kf1 kf2 klt
            clear ci0 ci1 ci2
            try have b2 := a2.far a4 (a := .bool x2.b) (b := .slice x2.A x2.xs.length x2.c) (c := .slice x2.D x2.ys.length x2.d) (by omega)
            try have b3 := a3.far a4 (a := .bool x2.b) (b := .slice x2.A x2.xs.length x2.c) (c := .slice x2.D x2.ys.length x2.d) (by omega)
            try have b4 := a4.far a4 (a := .bool x2.b) (b := .slice x2.A x2.xs.length x2.c) (c := .slice x2.D x2.ys.length x2.d) (by omega)
            try have br1 := ((br.far (p := ⟨H, 0, none⟩) (by simp; omega) (.bool x2.b)).far (p := ⟨H, 1, none⟩) (by simp; omega) (.slice x2.A x2.xs.length x2.c)).far (p := ⟨H, 2, none⟩) (by simp; omega) (.slice x2.D x2.ys.length x2.d)
            have bO := a4.put a2.ok
            have bz := set3g (G := H) (a := .bool x2.b) (b := .slice x2.A x2.xs.length x2.c) (c := .slice x2.D x2.ys.length x2.d) bw (by omega)
            clear a4 bw
            generalize ((World.setCell (World.setCell (World.setCell _ ⟨H, 0, none⟩ (.bool x2.b)) ⟨H, 1, none⟩ (.slice x2.A x2.xs.length x2.c)) ⟨H, 2, none⟩ (.slice x2.D x2.ys.length x2.d))) = wm at *
            try replace a2 := b2
            try clear b2
            try replace a3 := b3
            try clear b3
            try replace a4 := b4
            try clear b4
            try replace br := br1
            try clear br1
            have a4 := bO
            have bw := bz
            clear bO bz
            go_wp2_with fail
            go_roundw
            case rel => exact ⟨k + 1, x2, x2, by omega, by go_num, HS2.out, HT2.out, V2.out, V2.out, f2, f2, a3, a4, br, bw⟩
            case measure => simp [intOf]; omega
          · skip
            rw [if_pos h1] at HS2
            rw [if_neg h2] at HT2
            have H1 : Hid (x2.q ≤ x3.q) := h1
            have H2 : Hid (¬ x4.q ≤ x2.q) := h2
            clear h1 h2
            skip
            have ci0 := a2.c0
            have ci1 := a2.c1
            have ci2 := a2.c2
            have cj0 := a3.c0
            have cj1 := a3.c1
            have cj2 := a3.c2
            go_wp2_with fail
            clear ci0 ci1 ci2 cj0 cj1 cj2
            refine (atmost_any _ x2 x3 true a2.ok a3.ok f2.l f2.m f3.l f3.m (decide_eq_true ((leF_iff V2.out V3.out).2 H1.out))).mono ?_
            rintro e wn ⟨rfl, bb⟩
            try replace br := br.below bb
            try replace bk := bk.below bb
            try replace a2 := a2.below bb
            try replace a3 := a3.below bb
            try replace a4 := a4.below bb
            replace bw := below_on bw bb bw.size
            clear bb
            have ci0 := a2.c0
            have ci1 := a2.c1
            have ci2 := a2.c2
            have tk := a3.bk
            obtain ⟨k0, k1, k2, kf0, kf1, kf2, klt, kb⟩ := tk
            clear kb
            go_upto_region 7 with fail
            clear k0 k1 k2 kf0 kf1 kf2 klt
            clear ci0 ci1 ci2
            try have b2 := a2.far a3 (a := .bool x2.b) (b := .slice x2.A x2.xs.length x2.c) (c := .slice x2.D x2.ys.length x2.d) (by omega)
            try have b3 := a3.far a3 (a := .bool x2.b) (b := .slice x2.A x2.xs.length x2.c) (c := .slice x2.D x2.ys.length x2.d) (by omega)
            try have b4 := a4.far a3 (a := .bool x2.b) (b := .slice x2.A x2.xs.length x2.c) (c := .slice x2.D x2.ys.length x2.d) (by omega)
            try have br1 := ((br.far (p := ⟨G, 0, none⟩) (by simp; omega) (.bool x2.b)).far (p := ⟨G, 1, none⟩) (by simp; omega) (.slice x2.A x2.xs.length x2.c)).far (p := ⟨G, 2, none⟩) (by simp; omega) (.slice x2.D x2.ys.length x2.d)
            have bO := a3.put a2.ok
            have bz := set3g (G := G) (a := .bool x2.b) (b := .slice x2.A x2.xs.length x2.c) (c := .slice x2.D x2.ys.length x2.d) bw (by omega)
            clear a3 bw
            generalize ((World.setCell (World.setCell (World.setCell _ ⟨G, 0, none⟩ (.bool x2.b)) ⟨G, 1, none⟩ (.slice x2.A x2.xs.length x2.c)) ⟨G, 2, none⟩ (.slice x2.D x2.ys.length x2.d))) = wm at *
            try replace a2 := b2
            try clear b2
            try replace a3 := b3
            try clear b3
            try replace a4 := b4
            try clear b4
            try replace br := br1
            try clear br1
            have a3 := bO
            have bw := bz
            clear bO bz
            have ci0 := a4.c0
            have ci1 := a4.c1
            have ci2 := a4.c2
            have cj0 := a2.c0
            have cj1 := a2.c1
            have cj2 := a2.c2
            go_wp2_with fail
            clear ci0 ci1 ci2 cj0 cj1 cj2
            refine (atmost_any _ x4 x2 false a4.ok a2.ok f4.l f4.m f2.l f2.m (decide_eq_false (fun h => H2.out ((leF_iff V4.out V2.out).1 h)))).mono ?_
            rintro e wn ⟨rfl, bb⟩
            try replace br := br.below bb
            try replace bk := bk.below bb
            try replace a2 := a2.below bb
            try replace a3 := a3.below bb
            try replace a4 := a4.below bb
            replace bw := below_on bw bb bw.size
            clear bb
            go_wp2_with fail
            go_roundw
            case rel => exact ⟨k + 1, x2, x4, by omega, by go_num, HS2.out, HT2.out, V2.out, V4.out, f2, f4, a3, a4, br, bw⟩
            case measure => simp [intOf]; omega
        · by_cases h2 : x4.q ≤ x2.q
          · skip
            rw [if_neg h1] at HS2
            rw [if_pos h2] at HT2
            have H1 : Hid (¬ x2.q ≤ x3.q) := h1
            have H2 : Hid (x4.q ≤ x2.q) := h2
            clear h1 h2
            skip
            have ci0 := a2.c0
            have ci1 := a2.c1
            have ci2 := a2.c2
            have cj0 := a3.c0
            have cj1 := a3.c1
            have cj2 := a3.c2
            go_wp2_with fail
            clear ci0 ci1 ci2 cj0 cj1 cj2
            refine (atmost_any _ x2 x3 false a2.ok a3.ok f2.l f2.m f3.l f3.m (decide_eq_false (fun h => H1.out ((leF_iff V2.out V3.out).1 h)))).mono ?_
            rintro e wn ⟨rfl, bb⟩
            try replace br := br.below bb
            try replace bk := bk.below bb
            try replace a2 := a2.below bb
            try replace a3 := a3.below bb
            try replace a4 := a4.below bb
            replace bw := below_on bw bb bw.size
            clear bb
            go_upto_region 7 with fail
            generalize wn = wm at *
            have ci0 := a4.c0
            have ci1 := a4.c1
            have ci2 := a4.c2
            have cj0 := a2.c0
            have cj1 := a2.c1
            have cj2 := a2.c2
            go_wp2_with fail
            clear ci0 ci1 ci2 cj0 cj1 cj2
            refine (atmost_any _ x4 x2 true a4.ok a2.ok f4.l f4.m f2.l f2.m (decide_eq_true ((leF_iff V4.out V2.out).2 H2.out))).mono ?_
            rintro e wn ⟨rfl, bb⟩
            try replace br := br.below bb
            try replace bk := bk.below bb
            try replace a2 := a2.below bb
            try replace a3 := a3.below bb
            try replace a4 := a4.below bb
            replace bw := below_on bw bb bw.size
            clear bb
            have ci0 := a2.c0
            have ci1 := a2.c1
            have ci2 := a2.c2
            have tk := a4.bk
            obtain ⟨k0, k1, k2, kf0, kf1, kf2, klt, kb⟩ := tk
            clear kb
            go_upto_region 9 with fail
            clear k0 k1 k2 kf0 kf1 kf2 klt
            clear ci0 ci1 ci2
            try have b2 := a2.far a4 (a := .bool x2.b) (b := .slice x2.A x2.xs.length x2.c) (c := .slice x2.D x2.ys.length x2.d) (by omega)
            try have b3 := a3.far a4 (a := .bool x2.b) (b := .slice x2.A x2.xs.length x2.c) (c := .slice x2.D x2.ys.length x2.d) (by omega)
            try have b4 := a4.far a4 (a := .bool x2.b) (b := .slice x2.A x2.xs.length x2.c) (c := .slice x2.D x2.ys.length x2.d) (by omega)
            try have br1 := ((br.far (p := ⟨H, 0, none⟩) (by simp; omega) (.bool x2.b)).far (p := ⟨H, 1, none⟩) (by simp; omega) (.slice x2.A x2.xs.length x2.c)).far (p := ⟨H, 2, none⟩) (by simp; omega) (.slice x2.D x2.ys.length x2.d)
            have bO := a4.put a2.ok
            have bz := set3g (G := H) (a := .bool x2.b) (b := .slice x2.A x2.xs.length x2.c) (c := .slice x2.D x2.ys.length x2.d) bw (by omega)
            clear a4 bw
            generalize ((World.setCell (World.setCell (World.setCell _ ⟨H, 0, none⟩ (.bool x2.b)) ⟨H, 1, none⟩ (.slice x2.A x2.xs.length x2.c)) ⟨H, 2, none⟩ (.slice x2.D x2.ys.length x2.d))) = wm at *
            try replace a2 := b2
            try clear b2
            try replace a3 := b3
            try clear b3
            try replace a4 := b4
            try clear b4
            try replace br := br1
            try clear br1
            have a4 := bO
            have bw := bz
            clear bO bz
            go_wp2_with fail
            go_roundw
            case rel => exact ⟨k + 1, x3, x2, by omega, by go_num, HS2.out, HT2.out, V3.out, V2.out, f3, f2, a3, a4, br, bw⟩
            case measure => simp [intOf]; omega
          · skip
            rw [if_neg h1] at HS2
            rw [if_neg h2] at HT2
            have H1 : Hid (¬ x2.q ≤ x3.q) := h1
            have H2 : Hid (¬ x4.q ≤ x2.q) := h2
            clear h1 h2
            skip
            have ci0 := a2.c0
            have ci1 := a2.c1
            have ci2 := a2.c2
            have cj0 := a3.c0
            have cj1 := a3.c1
            have cj2 := a3.c2
            go_wp2_with fail
            clear ci0 ci1 ci2 cj0 cj1 cj2
            refine (atmost_any _ x2 x3 false a2.ok a3.ok f2.l f2.m f3.l f3.m (decide_eq_false (fun h => H1.out ((leF_iff V2.out V3.out).1 h)))).mono ?_
            rintro e wn ⟨rfl, bb⟩
            try replace br := br.below bb
            try replace bk := bk.below bb
            try replace a2 := a2.below bb
            try replace a3 := a3.below bb
            try replace a4 := a4.below bb
            replace bw := below_on bw bb bw.size
            clear bb
            go_upto_region 7 with fail
            generalize wn = wm at *
            have ci0 := a4.c0
            have ci1 := a4.c1
            have ci2 := a4.c2
            have cj0 := a2.c0
            have cj1 := a2.c1
            have cj2 := a2.c2
            go_wp2_with fail
            clear ci0 ci1 ci2 cj0 cj1 cj2
            refine (atmost_any _ x4 x2 false a4.ok a2.ok f4.l f4.m f2.l f2.m (decide_eq_false (fun h => H2.out ((leF_iff V4.out V2.out).1 h)))).mono ?_
            rintro e wn ⟨rfl, bb⟩
            try replace br := br.below bb
            try replace bk := bk.below bb
            try replace a2 := a2.below bb
            try replace a3 := a3.below bb
            try replace a4 := a4.below bb
            replace bw := below_on bw bb bw.size
            clear bb
            go_wp2_with fail
            go_roundw
            case rel => exact ⟨k + 1, x3, x4, by omega, by go_num, HS2.out, HT2.out, V3.out, V4.out, f3, f4, a3, a4, br, bw⟩
            case measure => simp [intOf]; omega
      · have hltn : ¬ k < n - 1 := by omega
        have hS2 := HS.out
        have hT2 := HT.out
        rw [List.drop_of_length_le (by omega), loQ] at hS2
        rw [List.drop_of_length_le (by omega), hiQ] at hT2
        have HS2 : Hid (redS x3 = S) := Lib.hid ((redS_okS V3.out).trans hS2)
        have HT2 : Hid (redS x4 = T) := Lib.hid ((redS_okS V4.out).trans hT2)
        clear hS2 hT2
        have ci0 := a3.c0
        have ci1 := a3.c1
        have ci2 := a3.c2
        have cj0 := a4.c0
        have cj1 := a4.c1
        have cj2 := a4.c2
        go_wp2_with fail
        clear ci0 ci1 ci2 cj0 cj1 cj2
        refine (ibetween_any _ x3 x4 S T a3.ok a4.ok f3.l f3.m f4.l f4.m HS2.out HT2.out).mono ?_
        rintro e wn ⟨a, rfl, h1, h2, oka, bb⟩
        try replace br := br.below bb
        try replace bk := bk.below bb
        try replace a2 := a2.below bb
        try replace a3 := a3.below bb
        try replace a4 := a4.below bb
        replace bw := below_on bw bb bw.size
        clear bb
        have r0 := br.cell 0
        have r1 := br.cell 1
        have r2 := br.cell 2
        have r3 := br.cell 3
        have r4 := br.cell 4
        have r5 := br.cell 5
        have rf0 := br.unf 0
        have rf1 := br.unf 1
        have rf2 := br.unf 2
        have rf3 := br.unf 3
        have rf4 := br.unf 4
        have rf5 := br.unf 5
        simp only [List.getElem?_toArray, List.getElem?_cons_succ, List.getElem?_cons_zero] at r0 r1 r2 r3 r4 r5
        go_wp2_with fail
        refine bodyPost_ret (v := a.val) (by simp [results, Try.results80, go_sem, r0, r1, r2, r3, r4, r5]) rfl ?_
        exact ⟨a, rfl, h1, h2, ⟨set6_ok oka.lo br noInt_z, set6_ok oka.hi br noInt_z⟩, set6_below bw (by omega)⟩
end Go.Proofs.Ytlcolmifmhdboaa
