/- The walk of drydockref03.span. -/
import Derived.Test.YtnmomigaedfdoaaRfI
import Derived.Test.YtnmomigaedfdoaaRfS
import Derived.Test.YtnmomigaedfdoaaRfC
namespace Go.Proofs.Ytnmomigaedfdoaa
set_option maxRecDepth 100000
open Go.RowKit

set_option maxHeartbeats 8000000 in
theorem rispan_any (w : World) (A D : Option Addr) (n c d : Nat) (xs ys : List Fx) (ps : List Rat) (S : IvS) (hrx : RdF w A xs) (hry : RdF w D ys) (hox : OkF w xs) (hoy : OkF w ys) (hvx : ∀ v ∈ xs, v.v) (hvy : ∀ v ∈ ys, v.v) (hn : n = xs.length) (hm : xs.length = ys.length) (hl : ps.length = xs.length) (h0 : 1 ≤ n) (h1 : n ≤ 100)
    (hps : ∀ k (hk : k < xs.length) (hk' : k < ys.length), ps[k]? = some (xs[k].q * ys[k].q)) (hs : mulsS ps = S) :
    Calls Try.prog 50 #[.slice A n c, .slice D n d] w (IvlRes w S) := by
  have HRX := Lib.hid hrx
  have HRY := Lib.hid hry
  have HOX := Lib.hid hox
  have HOY := Lib.hid hoy
  have HVX := Lib.hid hvx
  have HVY := Lib.hid hvy
  have HPS := Lib.hid hps
  have HS := Lib.hid hs
  have HM := Lib.hid hm
  have HL := Lib.hid hl
  have HN := Lib.hid hn
  clear hrx hry hox hoy hvx hvy hps hs hm hl hn
  go_enter Try.func50, Try.ntmps50
  go_upto_region 1 with fail
  have br := (zr_alloc w).1
  have bw := (zr_alloc w).2
  generalize (w.alloc (.cells zcells 35)) = wm at br bw ⊢
  go_upto_region 2 with fail
  have a6 : Ia _ _ Ix.nil := (ia_alloc (Ix.nil_ok wm)).1
  have bb := (ia_alloc (Ix.nil_ok wm)).2
  have g6l := br.lt
  generalize (wm.alloc (.cells zcells 35)) = wn at a6 bb ⊢
  replace br := br.below bb
  replace bw := below_on bw bb bw.size
  clear bb
  generalize wm.heap.size = g6 at a6 g6l ⊢
  go_wp2_with fail
  go_loopw [7] (fun i wr => ∃ (k : Nat) (cur : Ix), k ≤ n ∧ i = .int .i64 k ∧ Ia wr g6 cur ∧ NoBig ps k ∧ (k = 0 ∨ (0 < k ∧ IsP cur.lo (loP (ps.take k)) ∧ IsP cur.hi (hiP (ps.take k)))) ∧ Blk wr w.heap.size zcells ∧ Below w.heap.size w wr) (fun i _ => n - (intOf i).toNat)
  case atStart => exact ⟨0, Ix.nil, by omega, rfl, a6, (fun j hj => by omega), .inl rfl, br, bw⟩
  case round =>
    clear a6 br bw
    obtain ⟨k, cur, hkl, rfl, a6, hnb, hcur, br, bw⟩ := hrel
    have HNB := Lib.hid hnb
    have HCUR := Lib.hid hcur
    clear hnb hcur
    by_cases hlt : k < n
    · have hkx : k < xs.length := by rw [← HN.out]; exact hlt
      have hky : k < ys.length := by rw [← HM.out]; exact hkx
      obtain ⟨ad, rfl, hadl, hcc⟩ := (HRX.out.below bw) (by omega)
      have el := And.intro hadl (hcc k hkx)
      obtain ⟨ae, rfl, hael, hce⟩ := (HRY.out.below bw) (by omega)
      have fl := And.intro hael (hce k hky)
      obtain ⟨ok2, l2, m2⟩ := (HOX.out.below bw) _ (List.getElem_mem hkx)
      obtain ⟨ok3, l3, m3⟩ := (HOY.out.below bw) _ (List.getElem_mem hky)
      have V2 := Lib.hid (HVX.out _ (List.getElem_mem hkx))
      have V3 := Lib.hid (HVY.out _ (List.getElem_mem hky))
      have hpk := HPS.out k hkx hky
      obtain ⟨x2, hx2⟩ : ∃ x2, xs[k] = x2 := ⟨_, rfl⟩
      obtain ⟨x3, hx3⟩ : ∃ x3, ys[k] = x3 := ⟨_, rfl⟩
      rw [hx2] at el ok2 l2 m2 V2 hpk
      rw [hx3] at fl ok3 l3 m3 V3 hpk
      have HPK := Lib.hid hpk
      have f2 : x2.few := ⟨l2, m2⟩
      have f3 : x3.few := ⟨l3, m3⟩
      clear hcc hce hadl hael hx2 hx3 hpk l2 m2 l3 m3 hkx hky
      go_upto_region 5 with fail
      obtain ⟨p, hp⟩ : ∃ p, x2.q * x3.q = p := ⟨_, rfl⟩
      by_cases hb : bigQ p
      · have HE := Lib.hid (mulF_b V2.out V3.out hp hb)
        have HS2 : Hid (mulsS ps = errI 2) := Lib.hid (big_at HPK.out (by rw [hp]; exact hb))
        have e0 : (errF 2).2.2.2 = 2 := rfl
        clear hb hp
        skip
        go_region_held3 (fun w' => w'.cell? (ad.add (k * 3)) = some (.bool x2.b) ∧ w'.cell? ⟨(ad.add (k * 3)).block, (ad.add (k * 3)).off + 1, none⟩ = some (.slice x2.A x2.xs.length x2.c) ∧ w'.cell? ⟨(ad.add (k * 3)).block, (ad.add (k * 3)).off + 2, none⟩ = some (.slice x2.D x2.ys.length x2.d) ∧ w'.cell? (ae.add (k * 3)) = some (.bool x3.b) ∧ w'.cell? ⟨(ae.add (k * 3)).block, (ae.add (k * 3)).off + 1, none⟩ = some (.slice x3.A x3.xs.length x3.c) ∧ w'.cell? ⟨(ae.add (k * 3)).block, (ae.add (k * 3)).off + 2, none⟩ = some (.slice x3.D x3.ys.length x3.d))
          (first | with_reducible exact ⟨(El.below el (by with_reducible first | exact Below.refl _ _ | exact (Below.refl _ _).drew | exact (Below.refl _ _).alloc (Nat.le_refl _) _ | exact ((Below.refl _ _).alloc (Nat.le_refl _) _).drew | exact ((Below.refl _ _).drew).alloc (Nat.le_refl _) _)).2.1, (El.below el (by with_reducible first | exact Below.refl _ _ | exact (Below.refl _ _).drew | exact (Below.refl _ _).alloc (Nat.le_refl _) _ | exact ((Below.refl _ _).alloc (Nat.le_refl _) _).drew | exact ((Below.refl _ _).drew).alloc (Nat.le_refl _) _)).2.2.1, (El.below el (by with_reducible first | exact Below.refl _ _ | exact (Below.refl _ _).drew | exact (Below.refl _ _).alloc (Nat.le_refl _) _ | exact ((Below.refl _ _).alloc (Nat.le_refl _) _).drew | exact ((Below.refl _ _).drew).alloc (Nat.le_refl _) _)).2.2.2, (El.below fl (by with_reducible first | exact Below.refl _ _ | exact (Below.refl _ _).drew | exact (Below.refl _ _).alloc (Nat.le_refl _) _ | exact ((Below.refl _ _).alloc (Nat.le_refl _) _).drew | exact ((Below.refl _ _).drew).alloc (Nat.le_refl _) _)).2.1, (El.below fl (by with_reducible first | exact Below.refl _ _ | exact (Below.refl _ _).drew | exact (Below.refl _ _).alloc (Nat.le_refl _) _ | exact ((Below.refl _ _).alloc (Nat.le_refl _) _).drew | exact ((Below.refl _ _).drew).alloc (Nat.le_refl _) _)).2.2.1, (El.below fl (by with_reducible first | exact Below.refl _ _ | exact (Below.refl _ _).drew | exact (Below.refl _ _).alloc (Nat.le_refl _) _ | exact ((Below.refl _ _).alloc (Nat.le_refl _) _).drew | exact ((Below.refl _ _).drew).alloc (Nat.le_refl _) _)).2.2.2⟩ | with_reducible exact ⟨(El.far el (by omega)).1, (El.far el (by omega)).2.1, (El.far el (by omega)).2.2, (El.far fl (by omega)).1, (El.far fl (by omega)).2.1, (El.far fl (by omega)).2.2⟩ | go_keep)
          (first
              | (go_at_call 76
                 have o1 := a6.lt
                 have o2 := el.1
                 have o4 := fl.1
                 have o3 := br.lt
                 with_reducible refine (rfmul_any _ x2 x3 (errF 2) (ok2.below (by with_reducible first | exact Below.refl _ _ | exact (Below.refl _ _).drew | exact (Below.refl _ _).alloc (Nat.le_refl _) _ | exact ((Below.refl _ _).alloc (Nat.le_refl _) _).drew | exact ((Below.refl _ _).drew).alloc (Nat.le_refl _) _)) (ok3.below (by with_reducible first | exact Below.refl _ _ | exact (Below.refl _ _).drew | exact (Below.refl _ _).alloc (Nat.le_refl _) _ | exact ((Below.refl _ _).alloc (Nat.le_refl _) _).drew | exact ((Below.refl _ _).drew).alloc (Nat.le_refl _) _)) f2.l f2.m f3.l f3.m HE.out).mono ?_
                 rintro e wq ⟨x5, rfl, hs5, ok5, bb⟩
                 have HS5 := Lib.hid hs5
                 clear hs5
                 repeat replace bb := below_undrew bb
                 try have nk := (bk3_new _).below bb
                 repeat (first | replace bb := below_unalloc bb | replace bb := below_undrew bb)
                 replace a6 := a6.below bb
                 replace el := El.below el bb
                 replace fl := El.below fl bb
                 replace br := br.below bb
                 replace bw := below_on bw bb bw.size
                 clear bb
                 try (have tk := nk; obtain ⟨k0, k1, k2, kf0, kf1, kf2, klt, _⟩ := tk)))
        all_goals (try go_upto_region 6 with fail)
        all_goals first
          | (have hk : Fa wq wr.heap.size Fx.nil := ⟨nk, Fx.nil_ok _⟩
             have a5 := hk.put ok5
             have b1 := a6.far hk (a := .bool x5.b) (b := .slice x5.A x5.xs.length x5.c) (c := .slice x5.D x5.ys.length x5.d) (by omega)
             have b2 := ((br.far (p := ⟨wr.heap.size, 0, none⟩) (by simp; omega) (.bool x5.b)).far (p := ⟨wr.heap.size, 1, none⟩) (by simp; omega) (.slice x5.A x5.xs.length x5.c)).far (p := ⟨wr.heap.size, 2, none⟩) (by simp; omega) (.slice x5.D x5.ys.length x5.d)
             have bz := set3g (G := wr.heap.size) (a := .bool x5.b) (b := .slice x5.A x5.xs.length x5.c) (c := .slice x5.D x5.ys.length x5.d) bw (by omega)
             have hne6 : wr.heap.size ≠ g6 := by omega
             have hneB : wr.heap.size ≠ w.heap.size := by omega
             clear a6 el fl bw k0 k1 k2 kf0 kf1 kf2 ok2 ok3 ok5
             generalize (((wq.setCell ⟨wr.heap.size, 0, none⟩ (.bool x5.b)).setCell ⟨wr.heap.size, 1, none⟩ (.slice x5.A x5.xs.length x5.c)).setCell ⟨wr.heap.size, 2, none⟩ (.slice x5.D x5.ys.length x5.d)) = wm at *
             have a6 := b1
             replace br := b2
             have bw := bz
             clear b1 b2 bz hk nk
             generalize wr.heap.size = g5 at *)
          | (have a5 := (fa_alloc ok5).1
             have bb := (fa_alloc ok5).2
             have hne6 : wq.heap.size ≠ g6 := by have := a6.lt; omega
             have hneB : wq.heap.size ≠ w.heap.size := by have := br.lt; omega
             clear ok3 ok2 ok5 el fl
             generalize (wq.alloc (.cells #[.bool x5.b, .slice x5.A x5.xs.length x5.c, .slice x5.D x5.ys.length x5.d] 26)) = wm at a5 bb ⊢
             replace br := br.below bb
             try replace a5 := a5.below bb
             try replace a6 := a6.below bb
             replace bw := below_on bw bb bw.size
             clear bb
             generalize wq.heap.size = g5 at a5 hne6 hneB ⊢)
        all_goals
          have r0 := br.cell 0
          have r1 := br.cell 1
          have r2 := br.cell 2
          have r3 := br.cell 3
          have r4 := br.cell 4
          have r5 := br.cell 5
          have rf0 := br.unf 0
          have rf1 := br.unf 1
          have rf2 := br.unf 2
          have rf3 := br.unf 3
          have rf4 := br.unf 4
          have rf5 := br.unf 5
          simp only [List.getElem?_toArray, List.getElem?_cons_succ, List.getElem?_cons_zero] at r0 r1 r2 r3 r4 r5
          go_wp2_with fail
          refine bodyPost_ret (v := .tuple #[(Ix.nil : Ix).val, .int .i64 2]) (by simp [results, Try.results50, go_sem, r0, r1, r2, r3, r4, r5]) rfl ?_
          rw [← HS.out, HS2.out]
          exact ⟨Ix.nil, rfl, ⟨rfl, rfl, rfl⟩, ⟨rfl, rfl, rfl⟩, Ix.nil_ok _, set6_below bw (by omega)⟩
      · have HE := Lib.hid (mulF_q V2.out V3.out hp hb)
        have HPK2 : Hid (ps[k]? = some p) := Lib.hid (by rw [← hp]; exact HPK.out)
        have HB : Hid (¬ bigQ p) := hb
        have e0 : (okS p).2.2.2 = 0 := rfl
        clear hb hp
        skip
        go_region_held3 (fun w' => w'.cell? (ad.add (k * 3)) = some (.bool x2.b) ∧ w'.cell? ⟨(ad.add (k * 3)).block, (ad.add (k * 3)).off + 1, none⟩ = some (.slice x2.A x2.xs.length x2.c) ∧ w'.cell? ⟨(ad.add (k * 3)).block, (ad.add (k * 3)).off + 2, none⟩ = some (.slice x2.D x2.ys.length x2.d) ∧ w'.cell? (ae.add (k * 3)) = some (.bool x3.b) ∧ w'.cell? ⟨(ae.add (k * 3)).block, (ae.add (k * 3)).off + 1, none⟩ = some (.slice x3.A x3.xs.length x3.c) ∧ w'.cell? ⟨(ae.add (k * 3)).block, (ae.add (k * 3)).off + 2, none⟩ = some (.slice x3.D x3.ys.length x3.d))
          (first | with_reducible exact ⟨(El.below el (by with_reducible first | exact Below.refl _ _ | exact (Below.refl _ _).drew | exact (Below.refl _ _).alloc (Nat.le_refl _) _ | exact ((Below.refl _ _).alloc (Nat.le_refl _) _).drew | exact ((Below.refl _ _).drew).alloc (Nat.le_refl _) _)).2.1, (El.below el (by with_reducible first | exact Below.refl _ _ | exact (Below.refl _ _).drew | exact (Below.refl _ _).alloc (Nat.le_refl _) _ | exact ((Below.refl _ _).alloc (Nat.le_refl _) _).drew | exact ((Below.refl _ _).drew).alloc (Nat.le_refl _) _)).2.2.1, (El.below el (by with_reducible first | exact Below.refl _ _ | exact (Below.refl _ _).drew | exact (Below.refl _ _).alloc (Nat.le_refl _) _ | exact ((Below.refl _ _).alloc (Nat.le_refl _) _).drew | exact ((Below.refl _ _).drew).alloc (Nat.le_refl _) _)).2.2.2, (El.below fl (by with_reducible first | exact Below.refl _ _ | exact (Below.refl _ _).drew | exact (Below.refl _ _).alloc (Nat.le_refl _) _ | exact ((Below.refl _ _).alloc (Nat.le_refl _) _).drew | exact ((Below.refl _ _).drew).alloc (Nat.le_refl _) _)).2.1, (El.below fl (by with_reducible first | exact Below.refl _ _ | exact (Below.refl _ _).drew | exact (Below.refl _ _).alloc (Nat.le_refl _) _ | exact ((Below.refl _ _).alloc (Nat.le_refl _) _).drew | exact ((Below.refl _ _).drew).alloc (Nat.le_refl _) _)).2.2.1, (El.below fl (by with_reducible first | exact Below.refl _ _ | exact (Below.refl _ _).drew | exact (Below.refl _ _).alloc (Nat.le_refl _) _ | exact ((Below.refl _ _).alloc (Nat.le_refl _) _).drew | exact ((Below.refl _ _).drew).alloc (Nat.le_refl _) _)).2.2.2⟩ | with_reducible exact ⟨(El.far el (by omega)).1, (El.far el (by omega)).2.1, (El.far el (by omega)).2.2, (El.far fl (by omega)).1, (El.far fl (by omega)).2.1, (El.far fl (by omega)).2.2⟩ | go_keep)
          (first
              | (go_at_call 76
                 have o1 := a6.lt
                 have o2 := el.1
                 have o4 := fl.1
                 have o3 := br.lt
                 with_reducible refine (rfmul_any _ x2 x3 (okS p) (ok2.below (by with_reducible first | exact Below.refl _ _ | exact (Below.refl _ _).drew | exact (Below.refl _ _).alloc (Nat.le_refl _) _ | exact ((Below.refl _ _).alloc (Nat.le_refl _) _).drew | exact ((Below.refl _ _).drew).alloc (Nat.le_refl _) _)) (ok3.below (by with_reducible first | exact Below.refl _ _ | exact (Below.refl _ _).drew | exact (Below.refl _ _).alloc (Nat.le_refl _) _ | exact ((Below.refl _ _).alloc (Nat.le_refl _) _).drew | exact ((Below.refl _ _).drew).alloc (Nat.le_refl _) _)) f2.l f2.m f3.l f3.m HE.out).mono ?_
                 rintro e wq ⟨x5, rfl, hs5, ok5, bb⟩
                 have HS5 := Lib.hid hs5
                 clear hs5
                 repeat replace bb := below_undrew bb
                 try have nk := (bk3_new _).below bb
                 repeat (first | replace bb := below_unalloc bb | replace bb := below_undrew bb)
                 replace a6 := a6.below bb
                 replace el := El.below el bb
                 replace fl := El.below fl bb
                 replace br := br.below bb
                 replace bw := below_on bw bb bw.size
                 clear bb
                 try (have tk := nk; obtain ⟨k0, k1, k2, kf0, kf1, kf2, klt, _⟩ := tk)))
        all_goals (try go_upto_region 6 with fail)
        all_goals first
          | (have hk : Fa wq wr.heap.size Fx.nil := ⟨nk, Fx.nil_ok _⟩
             have a5 := hk.put ok5
             have b1 := a6.far hk (a := .bool x5.b) (b := .slice x5.A x5.xs.length x5.c) (c := .slice x5.D x5.ys.length x5.d) (by omega)
             have b2 := ((br.far (p := ⟨wr.heap.size, 0, none⟩) (by simp; omega) (.bool x5.b)).far (p := ⟨wr.heap.size, 1, none⟩) (by simp; omega) (.slice x5.A x5.xs.length x5.c)).far (p := ⟨wr.heap.size, 2, none⟩) (by simp; omega) (.slice x5.D x5.ys.length x5.d)
             have bz := set3g (G := wr.heap.size) (a := .bool x5.b) (b := .slice x5.A x5.xs.length x5.c) (c := .slice x5.D x5.ys.length x5.d) bw (by omega)
             have hne6 : wr.heap.size ≠ g6 := by omega
             have hneB : wr.heap.size ≠ w.heap.size := by omega
             clear a6 el fl bw k0 k1 k2 kf0 kf1 kf2 ok2 ok3 ok5
             generalize (((wq.setCell ⟨wr.heap.size, 0, none⟩ (.bool x5.b)).setCell ⟨wr.heap.size, 1, none⟩ (.slice x5.A x5.xs.length x5.c)).setCell ⟨wr.heap.size, 2, none⟩ (.slice x5.D x5.ys.length x5.d)) = wm at *
             have a6 := b1
             replace br := b2
             have bw := bz
             clear b1 b2 bz hk nk
             generalize wr.heap.size = g5 at *)
          | (have a5 := (fa_alloc ok5).1
             have bb := (fa_alloc ok5).2
             have hne6 : wq.heap.size ≠ g6 := by have := a6.lt; omega
             have hneB : wq.heap.size ≠ w.heap.size := by have := br.lt; omega
             clear ok3 ok2 ok5 el fl
             generalize (wq.alloc (.cells #[.bool x5.b, .slice x5.A x5.xs.length x5.c, .slice x5.D x5.ys.length x5.d] 26)) = wm at a5 bb ⊢
             replace br := br.below bb
             try replace a5 := a5.below bb
             try replace a6 := a6.below bb
             replace bw := below_on bw bb bw.size
             clear bb
             generalize wq.heap.size = g5 at a5 hne6 hneB ⊢)
        all_goals
          have P5 := IsP.of HS5.out HB.out
          rcases HCUR.out with hk0 | hk0
          · subst hk0
            have ci0 := a6.c0
            have ci1 := a6.c1
            have ci2 := a6.c2
            have ci3 := a6.c3
            have ci4 := a6.c4
            have ci5 := a6.c5
            have af0 := a6.unf 0
            have af1 := a6.unf 1
            have af2 := a6.unf 2
            have af3 := a6.unf 3
            have af4 := a6.unf 4
            have af5 := a6.unf 5
            have tk := a5.bk
            obtain ⟨k0, k1, k2, kf0, kf1, kf2, klt, kb⟩ := tk
            clear kb
            go_upto_region 10 with fail
            clear ci0 ci1 ci2 ci3 ci4 ci5
            clear k0 k1 k2 kf0 kf1 kf2 klt
            clear af0 af1 af2 af3 af4 af5
            have b5 := a5.farB (i := 0) (j := 1) (k := 2) a6.bk (noInt_i _) (by omega) (a := .bool x5.b) (b := .slice x5.A x5.xs.length x5.c) (c := .slice x5.D x5.ys.length x5.d)
            have b6 := a6.putLo a5.ok
            have b2 := ((br.far (p := ⟨g6, 0, none⟩) (by simp; omega) (.bool x5.b)).far (p := ⟨g6, 1, none⟩) (by simp; omega) (.slice x5.A x5.xs.length x5.c)).far (p := ⟨g6, 2, none⟩) (by simp; omega) (.slice x5.D x5.ys.length x5.d)
            have bz := set3h (G := g6) (i := 0) (j := 1) (k := 2) (a := .bool x5.b) (b := .slice x5.A x5.xs.length x5.c) (c := .slice x5.D x5.ys.length x5.d) bw (by omega)
            clear a5 a6 br bw
            generalize ((World.setCell (World.setCell (World.setCell _ ⟨g6, 0, none⟩ (.bool x5.b)) ⟨g6, 1, none⟩ (.slice x5.A x5.xs.length x5.c)) ⟨g6, 2, none⟩ (.slice x5.D x5.ys.length x5.d))) = wm at *
            have a5 := b5
            have a6 := b6
            have br := b2
            have bw := bz
            clear b5 b6 b2 bz
            have ci0 := a6.c0
            have ci1 := a6.c1
            have ci2 := a6.c2
            have ci3 := a6.c3
            have ci4 := a6.c4
            have ci5 := a6.c5
            have af0 := a6.unf 0
            have af1 := a6.unf 1
            have af2 := a6.unf 2
            have af3 := a6.unf 3
            have af4 := a6.unf 4
            have af5 := a6.unf 5
            have tk := a5.bk
            obtain ⟨k0, k1, k2, kf0, kf1, kf2, klt, kb⟩ := tk
            clear kb
            go_upto_region 4 with fail
            clear ci0 ci1 ci2 ci3 ci4 ci5
            clear k0 k1 k2 kf0 kf1 kf2 klt
            clear af0 af1 af2 af3 af4 af5
            have b5 := a5.farB (i := 3) (j := 4) (k := 5) a6.bk (noInt_i _) (by omega) (a := .bool x5.b) (b := .slice x5.A x5.xs.length x5.c) (c := .slice x5.D x5.ys.length x5.d)
            have b6 := a6.putHi a5.ok
            have b2 := ((br.far (p := ⟨g6, 3, none⟩) (by simp; omega) (.bool x5.b)).far (p := ⟨g6, 4, none⟩) (by simp; omega) (.slice x5.A x5.xs.length x5.c)).far (p := ⟨g6, 5, none⟩) (by simp; omega) (.slice x5.D x5.ys.length x5.d)
            have bz := set3h (G := g6) (i := 3) (j := 4) (k := 5) (a := .bool x5.b) (b := .slice x5.A x5.xs.length x5.c) (c := .slice x5.D x5.ys.length x5.d) bw (by omega)
            clear a5 a6 br bw
            generalize ((World.setCell (World.setCell (World.setCell _ ⟨g6, 3, none⟩ (.bool x5.b)) ⟨g6, 4, none⟩ (.slice x5.A x5.xs.length x5.c)) ⟨g6, 5, none⟩ (.slice x5.D x5.ys.length x5.d))) = wm at *
            have a5 := b5
            have a6 := b6
            have br := b2
            have bw := bz
            clear b5 b6 b2 bz
            go_wp2_with fail
            go_roundw
            case rel => exact ⟨1, ⟨x5, x5⟩, by omega, rfl, a6, HNB.out.next HPK2.out HB.out, .inr ⟨by omega, by rw [loP_one HPK2.out]; exact P5, by rw [hiP_one HPK2.out]; exact P5⟩, br, bw⟩
            case measure => simp [intOf]; omega
          · obtain ⟨hkp, PL, PH⟩ := hk0
            have hk1 : ((k : Int) == 0) = false := beq_eq_false_iff_ne.2 (by omega)
            have hlo := loP_take hkp HPK2.out
            have hhi := hiP_take hkp HPK2.out
            obtain ⟨ql, hql⟩ : ∃ q, loP (ps.take k) = q := ⟨_, rfl⟩
            obtain ⟨qh, hqh⟩ : ∃ q, hiP (ps.take k) = q := ⟨_, rfl⟩
            rw [hql] at PL hlo
            rw [hqh] at PH hhi
            have QL := Lib.hid PL.rp.q
            have QH := Lib.hid PH.rp.q
            have Q5 := Lib.hid P5.rp.q
            have HLO := Lib.hid hlo
            have HHI := Lib.hid hhi
            have HP5 := Lib.hid P5
            have HPL := Lib.hid PL
            have HPH := Lib.hid PH
            clear hql hqh hlo hhi P5 PL PH
            by_cases h1 : p < ql
            · by_cases h2 : qh < p
              · skip
                have HLO2 : Hid (loP (ps.take (k + 1)) = _) := Lib.hid (HLO.out.trans (if_pos h1))
                have HHI2 : Hid (hiP (ps.take (k + 1)) = _) := Lib.hid (HHI.out.trans (if_pos h2))
                have HL1 : Hid (decide (x5.q < cur.lo.q) = true) := Lib.hid (by rw [Q5.out, QL.out]; exact decide_eq_true h1)
                clear h1
                have ci0 := a6.c0
                have ci1 := a6.c1
                have ci2 := a6.c2
                have ci3 := a6.c3
                have ci4 := a6.c4
                have ci5 := a6.c5
                have af0 := a6.unf 0
                have af1 := a6.unf 1
                have af2 := a6.unf 2
                have af3 := a6.unf 3
                have af4 := a6.unf 4
                have af5 := a6.unf 5
                have tk := a5.bk
                obtain ⟨k0, k1, k2, kf0, kf1, kf2, klt, kb⟩ := tk
                clear kb
                go_wp2_with fail
                clear ci0 ci1 ci2 ci3 ci4 ci5
                clear k0 k1 k2 kf0 kf1 kf2 klt
                clear af0 af1 af2 af3 af4 af5
                refine (rless_any _ x5 cur.lo true a5.ok a6.ok.lo HP5.out.v HPL.out.v HP5.out.f HPL.out.f HL1.out).mono ?_
                rintro e wn ⟨rfl, bb⟩
                replace a5 := a5.below bb
                replace a6 := a6.below bb
                try replace br := br.below bb
                try replace bk := bk.below bb
                try replace a5 := a5.below bb
                try replace a6 := a6.below bb
                replace bw := below_on bw bb bw.size
                clear bb
                have ci0 := a6.c0
                have ci1 := a6.c1
                have ci2 := a6.c2
                have ci3 := a6.c3
                have ci4 := a6.c4
                have ci5 := a6.c5
                have af0 := a6.unf 0
                have af1 := a6.unf 1
                have af2 := a6.unf 2
                have af3 := a6.unf 3
                have af4 := a6.unf 4
                have af5 := a6.unf 5
                have tk := a5.bk
                obtain ⟨k0, k1, k2, kf0, kf1, kf2, klt, kb⟩ := tk
                clear kb
                go_upto_region 10 with fail
                clear ci0 ci1 ci2 ci3 ci4 ci5
                clear k0 k1 k2 kf0 kf1 kf2 klt
                clear af0 af1 af2 af3 af4 af5
                have b5 := a5.farB (i := 0) (j := 1) (k := 2) a6.bk (noInt_i _) (by omega) (a := .bool x5.b) (b := .slice x5.A x5.xs.length x5.c) (c := .slice x5.D x5.ys.length x5.d)
                have b6 := a6.putLo a5.ok
                have b2 := ((br.far (p := ⟨g6, 0, none⟩) (by simp; omega) (.bool x5.b)).far (p := ⟨g6, 1, none⟩) (by simp; omega) (.slice x5.A x5.xs.length x5.c)).far (p := ⟨g6, 2, none⟩) (by simp; omega) (.slice x5.D x5.ys.length x5.d)
                have bz := set3h (G := g6) (i := 0) (j := 1) (k := 2) (a := .bool x5.b) (b := .slice x5.A x5.xs.length x5.c) (c := .slice x5.D x5.ys.length x5.d) bw (by omega)
                clear a5 a6 br bw
                generalize ((World.setCell (World.setCell (World.setCell _ ⟨g6, 0, none⟩ (.bool x5.b)) ⟨g6, 1, none⟩ (.slice x5.A x5.xs.length x5.c)) ⟨g6, 2, none⟩ (.slice x5.D x5.ys.length x5.d))) = wm at *
                have a5 := b5
                have a6 := b6
                have br := b2
                have bw := bz
                clear b5 b6 b2 bz
                have HL2 : Hid (decide (cur.hi.q < x5.q) = true) := Lib.hid (by rw [Q5.out, QH.out]; exact decide_eq_true h2)
                clear h2
                have ci0 := a6.c0
                have ci1 := a6.c1
                have ci2 := a6.c2
                have ci3 := a6.c3
                have ci4 := a6.c4
                have ci5 := a6.c5
                have af0 := a6.unf 0
                have af1 := a6.unf 1
                have af2 := a6.unf 2
                have af3 := a6.unf 3
                have af4 := a6.unf 4
                have af5 := a6.unf 5
                have tk := a5.bk
                obtain ⟨k0, k1, k2, kf0, kf1, kf2, klt, kb⟩ := tk
                clear kb
                go_wp2_with fail
                clear ci0 ci1 ci2 ci3 ci4 ci5
                clear k0 k1 k2 kf0 kf1 kf2 klt
                clear af0 af1 af2 af3 af4 af5
                refine (rless_any _ cur.hi x5 true a6.ok.hi a5.ok HPH.out.v HP5.out.v HPH.out.f HP5.out.f HL2.out).mono ?_
                rintro e wn ⟨rfl, bb⟩
                replace a5 := a5.below bb
                replace a6 := a6.below bb
                try replace br := br.below bb
                try replace bk := bk.below bb
                try replace a5 := a5.below bb
                try replace a6 := a6.below bb
                replace bw := below_on bw bb bw.size
                clear bb
                have ci0 := a6.c0
                have ci1 := a6.c1
                have ci2 := a6.c2
                have ci3 := a6.c3
                have ci4 := a6.c4
                have ci5 := a6.c5
                have af0 := a6.unf 0
                have af1 := a6.unf 1
                have af2 := a6.unf 2
                have af3 := a6.unf 3
                have af4 := a6.unf 4
                have af5 := a6.unf 5
                have tk := a5.bk
                obtain ⟨k0, k1, k2, kf0, kf1, kf2, klt, kb⟩ := tk
                clear kb
                go_upto_region 4 with fail
                clear ci0 ci1 ci2 ci3 ci4 ci5
                clear k0 k1 k2 kf0 kf1 kf2 klt
                clear af0 af1 af2 af3 af4 af5
                have b5 := a5.farB (i := 3) (j := 4) (k := 5) a6.bk (noInt_i _) (by omega) (a := .bool x5.b) (b := .slice x5.A x5.xs.length x5.c) (c := .slice x5.D x5.ys.length x5.d)
                have b6 := a6.putHi a5.ok
                have b2 := ((br.far (p := ⟨g6, 3, none⟩) (by simp; omega) (.bool x5.b)).far (p := ⟨g6, 4, none⟩) (by simp; omega) (.slice x5.A x5.xs.length x5.c)).far (p := ⟨g6, 5, none⟩) (by simp; omega) (.slice x5.D x5.ys.length x5.d)
                have bz := set3h (G := g6) (i := 3) (j := 4) (k := 5) (a := .bool x5.b) (b := .slice x5.A x5.xs.length x5.c) (c := .slice x5.D x5.ys.length x5.d) bw (by omega)
                clear a5 a6 br bw
                generalize ((World.setCell (World.setCell (World.setCell _ ⟨g6, 3, none⟩ (.bool x5.b)) ⟨g6, 4, none⟩ (.slice x5.A x5.xs.length x5.c)) ⟨g6, 5, none⟩ (.slice x5.D x5.ys.length x5.d))) = wm at *
                have a5 := b5
                have a6 := b6
                have br := b2
                have bw := bz
                clear b5 b6 b2 bz
                go_wp2_with fail
                go_roundw
                case rel => exact ⟨k + 1, ⟨x5, x5⟩, by omega, by go_num, a6, HNB.out.next HPK2.out HB.out, .inr ⟨by omega, by rw [HLO2.out]; exact HP5.out, by rw [HHI2.out]; exact HP5.out⟩, br, bw⟩
                case measure => simp [intOf]; omega
              · skip
                have HLO2 : Hid (loP (ps.take (k + 1)) = _) := Lib.hid (HLO.out.trans (if_pos h1))
                have HHI2 : Hid (hiP (ps.take (k + 1)) = _) := Lib.hid (HHI.out.trans (if_neg h2))
                have HL1 : Hid (decide (x5.q < cur.lo.q) = true) := Lib.hid (by rw [Q5.out, QL.out]; exact decide_eq_true h1)
                clear h1
                have ci0 := a6.c0
                have ci1 := a6.c1
                have ci2 := a6.c2
                have ci3 := a6.c3
                have ci4 := a6.c4
                have ci5 := a6.c5
                have af0 := a6.unf 0
                have af1 := a6.unf 1
                have af2 := a6.unf 2
                have af3 := a6.unf 3
                have af4 := a6.unf 4
                have af5 := a6.unf 5
                have tk := a5.bk
                obtain ⟨k0, k1, k2, kf0, kf1, kf2, klt, kb⟩ := tk
                clear kb
                go_wp2_with fail
                clear ci0 ci1 ci2 ci3 ci4 ci5
                clear k0 k1 k2 kf0 kf1 kf2 klt
                clear af0 af1 af2 af3 af4 af5
                refine (rless_any _ x5 cur.lo true a5.ok a6.ok.lo HP5.out.v HPL.out.v HP5.out.f HPL.out.f HL1.out).mono ?_
                rintro e wn ⟨rfl, bb⟩
                replace a5 := a5.below bb
                replace a6 := a6.below bb
                try replace br := br.below bb
                try replace bk := bk.below bb
                try replace a5 := a5.below bb
                try replace a6 := a6.below bb
                replace bw := below_on bw bb bw.size
                clear bb
                have ci0 := a6.c0
                have ci1 := a6.c1
                have ci2 := a6.c2
                have ci3 := a6.c3
                have ci4 := a6.c4
                have ci5 := a6.c5
                have af0 := a6.unf 0
                have af1 := a6.unf 1
                have af2 := a6.unf 2
                have af3 := a6.unf 3
                have af4 := a6.unf 4
                have af5 := a6.unf 5
                have tk := a5.bk
                obtain ⟨k0, k1, k2, kf0, kf1, kf2, klt, kb⟩ := tk
                clear kb
                go_upto_region 10 with fail
                clear ci0 ci1 ci2 ci3 ci4 ci5
                clear k0 k1 k2 kf0 kf1 kf2 klt
                clear af0 af1 af2 af3 af4 af5
                have b5 := a5.farB (i := 0) (j := 1) (k := 2) a6.bk (noInt_i _) (by omega) (a := .bool x5.b) (b := .slice x5.A x5.xs.length x5.c) (c := .slice x5.D x5.ys.length x5.d)
                have b6 := a6.putLo a5.ok
                have b2 := ((br.far (p := ⟨g6, 0, none⟩) (by simp; omega) (.bool x5.b)).far (p := ⟨g6, 1, none⟩) (by simp; omega) (.slice x5.A x5.xs.length x5.c)).far (p := ⟨g6, 2, none⟩) (by simp; omega) (.slice x5.D x5.ys.length x5.d)
                have bz := set3h (G := g6) (i := 0) (j := 1) (k := 2) (a := .bool x5.b) (b := .slice x5.A x5.xs.length x5.c) (c := .slice x5.D x5.ys.length x5.d) bw (by omega)
                clear a5 a6 br bw
                generalize ((World.setCell (World.setCell (World.setCell _ ⟨g6, 0, none⟩ (.bool x5.b)) ⟨g6, 1, none⟩ (.slice x5.A x5.xs.length x5.c)) ⟨g6, 2, none⟩ (.slice x5.D x5.ys.length x5.d))) = wm at *
                have a5 := b5
                have a6 := b6
                have br := b2
                have bw := bz
                clear b5 b6 b2 bz
                have HL2 : Hid (decide (cur.hi.q < x5.q) = false) := Lib.hid (by rw [Q5.out, QH.out]; exact decide_eq_false h2)
                clear h2
                have ci0 := a6.c0
                have ci1 := a6.c1
                have ci2 := a6.c2
                have ci3 := a6.c3
                have ci4 := a6.c4
                have ci5 := a6.c5
                have af0 := a6.unf 0
                have af1 := a6.unf 1
                have af2 := a6.unf 2
                have af3 := a6.unf 3
                have af4 := a6.unf 4
                have af5 := a6.unf 5
                have tk := a5.bk
                obtain ⟨k0, k1, k2, kf0, kf1, kf2, klt, kb⟩ := tk
                clear kb
                go_wp2_with fail
                clear ci0 ci1 ci2 ci3 ci4 ci5
                clear k0 k1 k2 kf0 kf1 kf2 klt
                clear af0 af1 af2 af3 af4 af5
                refine (rless_any _ cur.hi x5 false a6.ok.hi a5.ok HPH.out.v HP5.out.v HPH.out.f HP5.out.f HL2.out).mono ?_
                rintro e wn ⟨rfl, bb⟩
                replace a5 := a5.below bb
                replace a6 := a6.below bb
                try replace br := br.below bb
                try replace bk := bk.below bb
                try replace a5 := a5.below bb
                try replace a6 := a6.below bb
                replace bw := below_on bw bb bw.size
                clear bb
                go_upto_region 4 with fail
                generalize wn = wm at *
                go_wp2_with fail
                go_roundw
                case rel => exact ⟨k + 1, ⟨x5, cur.hi⟩, by omega, by go_num, a6, HNB.out.next HPK2.out HB.out, .inr ⟨by omega, by rw [HLO2.out]; exact HP5.out, by rw [HHI2.out]; exact HPH.out⟩, br, bw⟩
                case measure => simp [intOf]; omega
            · by_cases h2 : qh < p
              · skip
                have HLO2 : Hid (loP (ps.take (k + 1)) = _) := Lib.hid (HLO.out.trans (if_neg h1))
                have HHI2 : Hid (hiP (ps.take (k + 1)) = _) := Lib.hid (HHI.out.trans (if_pos h2))
                have HL1 : Hid (decide (x5.q < cur.lo.q) = false) := Lib.hid (by rw [Q5.out, QL.out]; exact decide_eq_false h1)
                clear h1
                have ci0 := a6.c0
                have ci1 := a6.c1
                have ci2 := a6.c2
                have ci3 := a6.c3
                have ci4 := a6.c4
                have ci5 := a6.c5
                have af0 := a6.unf 0
                have af1 := a6.unf 1
                have af2 := a6.unf 2
                have af3 := a6.unf 3
                have af4 := a6.unf 4
                have af5 := a6.unf 5
                have tk := a5.bk
                obtain ⟨k0, k1, k2, kf0, kf1, kf2, klt, kb⟩ := tk
                clear kb
                go_wp2_with fail
                clear ci0 ci1 ci2 ci3 ci4 ci5
                clear k0 k1 k2 kf0 kf1 kf2 klt
                clear af0 af1 af2 af3 af4 af5
                refine (rless_any _ x5 cur.lo false a5.ok a6.ok.lo HP5.out.v HPL.out.v HP5.out.f HPL.out.f HL1.out).mono ?_
                rintro e wn ⟨rfl, bb⟩
                replace a5 := a5.below bb
                replace a6 := a6.below bb
                try replace br := br.below bb
                try replace bk := bk.below bb
                try replace a5 := a5.below bb
                try replace a6 := a6.below bb
                replace bw := below_on bw bb bw.size
                clear bb
                go_upto_region 10 with fail
                generalize wn = wm at *
                have HL2 : Hid (decide (cur.hi.q < x5.q) = true) := Lib.hid (by rw [Q5.out, QH.out]; exact decide_eq_true h2)
                clear h2
                have ci0 := a6.c0
                have ci1 := a6.c1
                have ci2 := a6.c2
                have ci3 := a6.c3
                have ci4 := a6.c4
                have ci5 := a6.c5
                have af0 := a6.unf 0
                have af1 := a6.unf 1
                have af2 := a6.unf 2
                have af3 := a6.unf 3
                have af4 := a6.unf 4
                have af5 := a6.unf 5
                have tk := a5.bk
                obtain ⟨k0, k1, k2, kf0, kf1, kf2, klt, kb⟩ := tk
                clear kb
                go_wp2_with fail
                clear ci0 ci1 ci2 ci3 ci4 ci5
                clear k0 k1 k2 kf0 kf1 kf2 klt
                clear af0 af1 af2 af3 af4 af5
                refine (rless_any _ cur.hi x5 true a6.ok.hi a5.ok HPH.out.v HP5.out.v HPH.out.f HP5.out.f HL2.out).mono ?_
                rintro e wn ⟨rfl, bb⟩
                replace a5 := a5.below bb
                replace a6 := a6.below bb
                try replace br := br.below bb
                try replace bk := bk.below bb
                try replace a5 := a5.below bb
                try replace a6 := a6.below bb
                replace bw := below_on bw bb bw.size
                clear bb
                have ci0 := a6.c0
                have ci1 := a6.c1
                have ci2 := a6.c2
                have ci3 := a6.c3
                have ci4 := a6.c4
                have ci5 := a6.c5
                have af0 := a6.unf 0
                have af1 := a6.unf 1
                have af2 := a6.unf 2
                have af3 := a6.unf 3
                have af4 := a6.unf 4
                have af5 := a6.unf 5
                have tk := a5.bk
                obtain ⟨k0, k1, k2, kf0, kf1, kf2, klt, kb⟩ := tk
                clear kb
                go_upto_region 4 with fail
                clear ci0 ci1 ci2 ci3 ci4 ci5
                clear k0 k1 k2 kf0 kf1 kf2 klt
                clear af0 af1 af2 af3 af4 af5
                have b5 := a5.farB (i := 3) (j := 4) (k := 5) a6.bk (noInt_i _) (by omega) (a := .bool x5.b) (b := .slice x5.A x5.xs.length x5.c) (c := .slice x5.D x5.ys.length x5.d)
                have b6 := a6.putHi a5.ok
                have b2 := ((br.far (p := ⟨g6, 3, none⟩) (by simp; omega) (.bool x5.b)).far (p := ⟨g6, 4, none⟩) (by simp; omega) (.slice x5.A x5.xs.length x5.c)).far (p := ⟨g6, 5, none⟩) (by simp; omega) (.slice x5.D x5.ys.length x5.d)
                have bz := set3h (G := g6) (i := 3) (j := 4) (k := 5) (a := .bool x5.b) (b := .slice x5.A x5.xs.length x5.c) (c := .slice x5.D x5.ys.length x5.d) bw (by omega)
                clear a5 a6 br bw
                generalize ((World.setCell (World.setCell (World.setCell _ ⟨g6, 3, none⟩ (.bool x5.b)) ⟨g6, 4, none⟩ (.slice x5.A x5.xs.length x5.c)) ⟨g6, 5, none⟩ (.slice x5.D x5.ys.length x5.d))) = wm at *
                have a5 := b5
                have a6 := b6
                have br := b2
                have bw := bz
                clear b5 b6 b2 bz
                go_wp2_with fail
                go_roundw
                case rel => exact ⟨k + 1, ⟨cur.lo, x5⟩, by omega, by go_num, a6, HNB.out.next HPK2.out HB.out, .inr ⟨by omega, by rw [HLO2.out]; exact HPL.out, by rw [HHI2.out]; exact HP5.out⟩, br, bw⟩
                case measure => simp [intOf]; omega
              · skip
                have HLO2 : Hid (loP (ps.take (k + 1)) = _) := Lib.hid (HLO.out.trans (if_neg h1))
                have HHI2 : Hid (hiP (ps.take (k + 1)) = _) := Lib.hid (HHI.out.trans (if_neg h2))
                have HL1 : Hid (decide (x5.q < cur.lo.q) = false) := Lib.hid (by rw [Q5.out, QL.out]; exact decide_eq_false h1)
                clear h1
                have ci0 := a6.c0
                have ci1 := a6.c1
                have ci2 := a6.c2
                have ci3 := a6.c3
                have ci4 := a6.c4
                have ci5 := a6.c5
                have af0 := a6.unf 0
                have af1 := a6.unf 1
                have af2 := a6.unf 2
                have af3 := a6.unf 3
                have af4 := a6.unf 4
                have af5 := a6.unf 5
                have tk := a5.bk
                obtain ⟨k0, k1, k2, kf0, kf1, kf2, klt, kb⟩ := tk
                clear kb
                go_wp2_with fail
                clear ci0 ci1 ci2 ci3 ci4 ci5
                clear k0 k1 k2 kf0 kf1 kf2 klt
                clear af0 af1 af2 af3 af4 af5
                refine (rless_any _ x5 cur.lo false a5.ok a6.ok.lo HP5.out.v HPL.out.v HP5.out.f HPL.out.f HL1.out).mono ?_
                rintro e wn ⟨rfl, bb⟩
                replace a5 := a5.below bb
                replace a6 := a6.below bb
                try replace br := br.below bb
                try replace bk := bk.below bb
                try replace a5 := a5.below bb
                try replace a6 := a6.below bb
                replace bw := below_on bw bb bw.size
                clear bb
                go_upto_region 10 with fail
                generalize wn = wm at *
                have HL2 : Hid (decide (cur.hi.q < x5.q) = false) := Lib.hid (by rw [Q5.out, QH.out]; exact decide_eq_false h2)
                clear h2
                have ci0 := a6.c0
                have ci1 := a6.c1
                have ci2 := a6.c2
                have ci3 := a6.c3
                have ci4 := a6.c4
                have ci5 := a6.c5
                have af0 := a6.unf 0
                have af1 := a6.unf 1
                have af2 := a6.unf 2
                have af3 := a6.unf 3
                have af4 := a6.unf 4
                have af5 := a6.unf 5
                have tk := a5.bk
                obtain ⟨k0, k1, k2, kf0, kf1, kf2, klt, kb⟩ := tk
                clear kb
                go_wp2_with fail
                clear ci0 ci1 ci2 ci3 ci4 ci5
                clear k0 k1 k2 kf0 kf1 kf2 klt
                clear af0 af1 af2 af3 af4 af5
                refine (rless_any _ cur.hi x5 false a6.ok.hi a5.ok HPH.out.v HP5.out.v HPH.out.f HP5.out.f HL2.out).mono ?_
                rintro e wn ⟨rfl, bb⟩
                replace a5 := a5.below bb
                replace a6 := a6.below bb
                try replace br := br.below bb
                try replace bk := bk.below bb
                try replace a5 := a5.below bb
                try replace a6 := a6.below bb
                replace bw := below_on bw bb bw.size
                clear bb
                go_upto_region 4 with fail
                generalize wn = wm at *
                go_wp2_with fail
                go_roundw
                case rel => exact ⟨k + 1, ⟨cur.lo, cur.hi⟩, by omega, by go_num, a6, HNB.out.next HPK2.out HB.out, .inr ⟨by omega, by rw [HLO2.out]; exact HPL.out, by rw [HHI2.out]; exact HPH.out⟩, br, bw⟩
                case measure => simp [intOf]; omega
    · have hkn : k = n := by omega
      have hnb : ¬ anyBig ps := NoBig.all (by rw [HL.out, ← HN.out, ← hkn]; exact HNB.out)
      have htk : ps.take k = ps := List.take_of_length_le (by rw [HL.out]; have := HN.out; omega)
      have hP : IsP cur.lo (loP ps) ∧ IsP cur.hi (hiP ps) := by
        rcases HCUR.out with h | h
        · omega
        · rw [htk] at h; exact h.2
      have HP := Lib.hid hP
      have HS2 : Hid ((okS (loP ps), okS (hiP ps), (0 : Int)) = S) := Lib.hid (by rw [← HS.out, mulsS, if_neg hnb])
      clear hnb htk hP
      have ci0 := a6.c0
      have ci1 := a6.c1
      have ci2 := a6.c2
      have ci3 := a6.c3
      have ci4 := a6.c4
      have ci5 := a6.c5
      have r0 := br.cell 0
      have r1 := br.cell 1
      have r2 := br.cell 2
      have r3 := br.cell 3
      have r4 := br.cell 4
      have r5 := br.cell 5
      have rf0 := br.unf 0
      have rf1 := br.unf 1
      have rf2 := br.unf 2
      have rf3 := br.unf 3
      have rf4 := br.unf 4
      have rf5 := br.unf 5
      simp only [List.getElem?_toArray, List.getElem?_cons_succ, List.getElem?_cons_zero] at r0 r1 r2 r3 r4 r5
      go_wp2_with fail
      refine bodyPost_ret (v := .tuple #[(cur : Ix).val, .int .i64 0]) (by simp [results, Try.results50, go_sem, r0, r1, r2, r3, r4, r5]) rfl ?_
      rw [← HS2.out]
      exact ⟨cur, rfl, HP.out.1.is, HP.out.2.is, ⟨set6_ok a6.ok.lo br noInt_z, set6_ok a6.ok.hi br noInt_z⟩, set6_below bw (by omega)⟩
end Go.Proofs.Ytnmomigaedfdoaa
