/- The walk of the reference's Rates. -/
import Derived.Test.YthdfflbhogfejaaFhN
import Derived.Test.YthdfflbhogfejaaFsR
namespace Go.Proofs.Ythdfflbhogfejaa
set_option maxRecDepth 100000
open Go.RowKit

set_option maxHeartbeats 6400000 in
theorem rrates_ok (w : World) (A : Option Addr) (n c : Nat) (caps : List Int) (D : Option Addr) (m d : Nat) (fs : List Fm) (hA : Is w A c caps) (hD : Ws w D d fs) (hn : n = caps.length) (hm : m = fs.length) (hv : validFl caps (fs.map Fm.fl)) (h14 : fs.length ≤ 14) :
 Calls Try.prog 26 #[.slice A n c, .slice D m d] w fun e w' => ∃ (A' : Option Addr) (vs : List Fx), e = .returned (.tuple #[.slice A' vs.length vs.length, .int .i64 0]) ∧ Qr w' w.heap.size A' vs ∧ vs.length = fs.length ∧ (∀ i (h : i < vs.length), Rp vs[i] ((ratesM (cpF caps) (fs.map Fm.fl) caps.length).getD i 0) ∧ Vq vs[i] ((ratesM (cpF caps) (fs.map Fm.fl) caps.length).getD i 0)) ∧ Below w.heap.size w w' := by
 have HA := Lib.hid hA; clear hA
 have HD := Lib.hid hD; clear hD
 have HV := Lib.hid hv; clear hv
 obtain ⟨l, hl⟩ : ∃ l, fs.map Fm.fl = l := ⟨_, rfl⟩
 obtain ⟨cp, hcp⟩ : ∃ cp, cpF caps = cp := ⟨_, rfl⟩
 have hlen : l.length = fs.length := by rw [← hl, List.length_map]
 have HOK : Hid (OkR cp l caps.length) := Lib.hid (by rw [← hl, ← hcp]; exact HV.out.okR)
 have HLM : Hid (∀ i, i < l.length → 0 ≤ lmA l i ∧ lmA l i ≤ 4096) := Lib.hid (by rw [← hl]; exact HV.out.lm)
 have HCB : Hid (∀ k : Nat, k < caps.length → 0 ≤ cp (k : Int) ∧ cp (k : Int) ≤ 4096) := Lib.hid (by rw [← hcp]; exact HV.out.cb)
 have hcl : caps.length ≤ 64 := HV.out.1
 rw [hl, hcp]
 have HL := Lib.hid hl
 have HCP := Lib.hid hcp
 have HLEN := Lib.hid hlen
 have HGL : Hid (∀ k (h : k < fs.length), lkA l k = fs[k].ls ∧ lmA l k = fs[k].m) := Lib.hid (fun k h => by rw [← hl]; exact fl_get h)
 have hdcap := HD.out.cap
 have hdmax := HD.out.max
 clear hl hcp hlen
 subst hn hm
 obtain ⟨i2, hj, hj0, hj1, hj2⟩ := info_parts bool_info
 obtain ⟨N, hN⟩ : ∃ N, fs.length = N := ⟨_, rfl⟩
 obtain ⟨M, hM⟩ : ∃ M, caps.length = M := ⟨_, rfl⟩
 have HN := Lib.hid hN
 have HM := Lib.hid hM
 rw [hN] at h14 HLEN hdcap ⊢
 rw [hM] at hcl HOK HCB ⊢
 clear hN hM
 go_enter Try.func26, Try.ntmps26
 go_wp2_with fail
 refine (rvalid_any w A _ c caps D _ d fs true HA.out HD.out HM.out.symm HN.out.symm (decide_eq_true HV.out)).mono ?_
 rintro e w1 ⟨rfl, rfl⟩
 go_upto_region 3 with fail
 go_cut [6, 7] (fun s6 s7 w' => ∃ g6 g7 : Nat, s6 = .slice (some ⟨g6, 0, none⟩) N N ∧ s7 = .slice (some ⟨g7, 0, none⟩) N N ∧ g6 ≠ g7 ∧ w.heap.size ≤ g6 ∧ w.heap.size ≤ g7 ∧ Qr w' w.heap.size (some ⟨g6, 0, none⟩) (List.replicate N Fx.nil) ∧ Gr Value.bool 4 w' w.heap.size (some ⟨g7, 0, none⟩) N (List.replicate N false) ∧ Below w.heap.size w w')
 case first =>
--D{
  have hmk1 := run_make_fracs N (by omega)
  have hmk2 := fun w => run_make_row' (P := Try.prog) 56 4 (.bool false) 1 Try.underlying56 bool_info rfl .i64 .i64 N (by omega) (by omega) w
  have e0 : w.drew.heap.size = w.heap.size := rfl
  go_region
  ·go_wp2_with fail
   go_meet
   case rel =>
    have q1 := qr_make w.drew N w.heap.size (by omega) (Nat.le_refl _)
    have b1 := (below_drew (Below.refl w.heap.size w)).alloc (Nat.le_refl _) (.cells (madeCells Fx.nil.val.cells (N * 3)) 41)
    have z1 := size_alloc w.drew (.cells (madeCells Fx.nil.val.cells (N * 3)) 41)
    have g2 := gr_mk0 (mk := Value.bool) (w.drew.alloc (.cells (madeCells Fx.nil.val.cells (N * 3)) 41)) 4 false N (by simp only [maxLen]; omega)
    have b2 := (Below.refl (w.drew.alloc (.cells (madeCells Fx.nil.val.cells (N * 3)) 41)).heap.size (w.drew.alloc (.cells (madeCells Fx.nil.val.cells (N * 3)) 41))).alloc (Nat.le_refl _) (.cells (madeCells #[Value.bool false] N) 4)
    refine ⟨w.heap.size, w.heap.size + 1, rfl, rfl, by omega, Nat.le_refl _, by omega, q1.below b2, ?_, below_on b1 b2 b1.size⟩
    rw [z1, e0] at g2
    exact g2.more (fun ad e => by injection e with e; subst e; show w.heap.size ≤ w.heap.size + 1; omega)
  ·go_wp2_with fail
   go_meet
   case rel =>
    have g1 := gr_mk0 (mk := Value.bool) w.drew 4 false N (by simp only [maxLen]; omega)
    have b1 := (below_drew (Below.refl w.heap.size w)).alloc (Nat.le_refl _) (.cells (madeCells #[Value.bool false] N) 4)
    have z1 := size_alloc w.drew (.cells (madeCells #[Value.bool false] N) 4)
    have q2 := qr_make (w.drew.alloc (.cells (madeCells #[Value.bool false] N) 4)) N w.heap.size (by omega) (by omega)
    have b2 := (Below.refl (w.drew.alloc (.cells (madeCells #[Value.bool false] N) 4)).heap.size (w.drew.alloc (.cells (madeCells #[Value.bool false] N) 4))).alloc (Nat.le_refl _) (.cells (madeCells Fx.nil.val.cells (N * 3)) 41)
    refine ⟨w.heap.size + 1, w.heap.size, rfl, rfl, by omega, by omega, Nat.le_refl _, ?_, g1.below b2, below_on b1 b2 b1.size⟩
    rw [z1, e0] at q2
    exact q2
--D}
 obtain ⟨g6, g7, rfl, rfl, n67, d6, d7, Q0, G0, bw⟩ := hcut
 have n76 : ¬ g7 = g6 := fun e => n67 e.symm
 go_wp2_with fail
 go_loopw [8] (fun i wr => ∃ (k : Nat) (vs : List Fx), k ≤ N ∧ i = .int .i64 k ∧ Qr wr w.heap.size (some ⟨g6, 0, none⟩) vs ∧ vs.length = N ∧ (∀ i (h : i < vs.length), i < k → Vq vs[i] 0 ∧ Rp vs[i] 0) ∧ Gr Value.bool 4 wr w.heap.size (some ⟨g7, 0, none⟩) N (List.replicate N false) ∧ Below w.heap.size w wr) (fun i _ => N - (intOf i).toNat)
 case atStart => exact ⟨0, _, by omega, rfl, Q0, by simp, (fun i _ h => by omega), G0, bw⟩
 case round =>
  clear Q0 G0 bw
  obtain ⟨k, vs, hk, rfl, hq, hvl, hvq, hb, bw⟩ := hrel
  by_cases hlt : k < N
  ·--D{
   have HVQ := Lib.hid hvq
   have HVL := Lib.hid hvl
   clear hvq hvl
   go_wp2_with fail
   refine (rwhole_any wr 0 (by omega) (by omega)).mono ?_
   rintro e wn ⟨x1, rfl, r1, n1, bb⟩
   replace hq := hq.below bb
   replace hb := hb.below bb
   replace bw := below_on bw bb bw.size
   clear bb
   obtain ⟨c0, c1, c2⟩ := hq.cells k (by rw [HVL.out]; exact hlt)
   have f0 := hq.free (k * 3)
   have f1 := hq.free (k * 3 + 1)
   have f2 := hq.free (k * 3 + 2)
   go_wp2_with fail
   go_roundw
   case rel =>
    have hb2 := hb.far3 (i := k * 3) (j := k * 3 + 1) (k := k * 3 + 2) (v0 := .bool x1.b) (v1 := .slice x1.A x1.xs.length x1.c) (v2 := .slice x1.D x1.ys.length x1.d) (off_row n76)
    refine ⟨k + 1, vs.set k x1, by omega, by go_num, hq.put k n1.ok, by rw [List.length_set]; exact HVL.out, fun i hi hik => ?_, hb2, q3_below bw (by omega)⟩
    rw [List.getElem_set]
    by_cases e : k = i
    ·rw [if_pos e]; exact ⟨n1.vq, r1⟩
    ·rw [if_neg e]; exact HVQ.out i (by simpa using hi) (by omega)
   case measure => simp [intOf]; omega
--D}
  ·obtain rfl : k = N := by omega
   have W0 : RN k w wr g6 g7 l (List.replicate l.length 0) (List.replicate l.length false) vs := by
    have e : List.replicate l.length false = List.replicate k false := by rw [HLEN.out]
    rw [e]
    refine ⟨⟨hq, hb, by simp, HLEN.out, hvl, by simp, fun i hi => ?_, rfl, bw⟩, fun i hi => ?_⟩
    ·show Vq vs[i] ((List.replicate l.length (0 : Rat)).getD i 0)
     rw [getD_rep _ _ _ _ (by rw [HLEN.out]; omega)]
     exact (hvq i hi (by omega)).1
    ·rw [getD_rep _ _ _ _ (by rw [HLEN.out]; omega)]
     exact (hvq i hi (by omega)).2
   have S0 : ∃ Dn, SmQ l (List.replicate l.length 0) Dn := ⟨1, by simp, by omega, by omega, fun i hi => by rw [getD_rep _ _ _ _ hi]; exact Qd.zero _ _⟩
   clear hq hb hvl hvq bw hlt hk
   go_wp2_with fail
   go_loopw [9] (fun i wr => ∃ (r : Nat) (vs : List Fx) (R : List Rat) (st : List Bool), r ≤ k ∧ i = .int .i64 r ∧ RN k w wr g6 g7 l R st vs ∧ Agr l (itR cp l M r) R st ∧ ∃ Dn, SmQ l R Dn) (fun i _ => k + 1 - (intOf i).toNat)
   case atStart => exact ⟨0, vs, _, _, by omega, rfl, W0, agr_start cp l M, S0⟩
   case round =>
    clear W0 S0 vs
    obtain ⟨r, vs, R, st, hrk, rfl, W, hag, hsm⟩ := hrel
    have HW := Lib.hid W
    have HAG := Lib.hid hag
    have HSMQ := Lib.hid hsm
    have hwb := W.W.bw
    have hlv := W.W.lv
    have hlb := W.W.lb
    clear W hag hsm
    go_wp2_with fail
    obtain ⟨Dn, hDn⟩ := HSMQ.out
    refine (rnext_any wr A M c caps D k d fs (some ⟨g6, 0, none⟩) k k vs (some ⟨g7, 0, none⟩) k k st cp l (ofSt R st) Dn (HA.out.below hwb) (HD.out.below hwb) HW.out.W.q.fr.rd HW.out.okf HW.out.vv HW.out.W.b.rd HM.out.symm HN.out.symm hlv.symm hlb.symm (by rw [hlv]; exact HN.out.symm) (by rw [hlb]; exact HN.out.symm) (by rw [HN.out]; exact h14) HCP.out HL.out (hDn.smr (by rw [List.length_map, hlb]; exact HLEN.out.symm)) HW.out.q (fun i hi => getD_map_not st hi |>.trans (by rw [getD_lt _ _ _ hi])) (by rw [HM.out]; exact HCB.out) HLM.out).mono ?_
    rw [HAG.out.lowH, HM.out]
    rintro e wn ⟨x, rfl, rx, n1, bb⟩
    replace HW := Lib.hid (HW.out.below bb)
    clear hwb hlv hlb bb hDn
    have HRX := Lib.hid rx
    clear rx
    by_cases hact : true ∈ (itR cp l M r).a
    ·have hrk2 : r < k := by have := act_lt HOK.out hact; rw [HLEN.out] at this; exact this
     obtain ⟨p, hp1, hp2, hp3⟩ := ref_round HOK.out hact
     obtain ⟨Dn, hDn⟩ := SmQ.up HOK.out (by rw [HLEN.out]; exact h14) (fun i hi => (HLM.out i hi).2) hact hp2 hp3
     have HSM2 := Lib.hid hDn
     have HP2 := Lib.hid hp2
     have HP3 := Lib.hid hp3
     have HUP : Hid (upP R st p k = upR l (itR cp l M r) p) := Lib.hid (by rw [← upP_end HAG.out, HLEN.out])
     have HLR : Hid ((itR cp l M r).r.length = l.length ∧ (itR cp l M r).a.length = l.length) := Lib.hid (by
      obtain ⟨q, hq⟩ := (itR_inv HOK.out r).1
      exact ⟨hq.lr, hq.la⟩)
     rw [hp1, Option.getD_some] at n1
     rw [hp1, Option.getD_some] at HRX
     rw [hp1, Option.isSome_some]
     clear hact hp1 hp2 hp3 hDn HSMQ
     go_upto_region 12 with fail
     have v10 := (nv_alloc n1).1
     have bb := (nv_alloc n1).2
     have h6 : g6 < wn.heap.size := HW.out.W.q.lt.2
     have h7 : g7 < wn.heap.size := (HW.out.W.b.form.2.2 _ rfl).2
     have W1 := HW.out.below bb
     clear n1 bb HW
     generalize (wn.alloc (.cells #[.bool x.b, .slice x.A x.xs.length x.c, .slice x.D x.ys.length x.d] 41)) = wm at v10 W1 ⊢
     generalize wn.heap.size = g10 at v10 h6 h7 ⊢
     go_wp2_with fail
     go_loopw [12] (fun i wr => ∃ (t : Nat) (vs : List Fx), t ≤ k ∧ i = .int .i64 t ∧ RN k w wr g6 g7 l (upP R st p t) st vs ∧ Nv wr g10 x p) (fun i _ => k - (intOf i).toNat)
     case atStart => exact ⟨0, vs, by omega, rfl, W1, v10⟩
     case round =>
      clear W1 v10 vs
      obtain ⟨t, vs, htk, rfl, W, v10⟩ := hrel
      by_cases ht : t < k
      ·--D{
       have hkb : t < st.length := by rw [W.W.lb]; exact ht
       have hbk := W.W.b.cell t hkb
       have hgs : st.getD t false = st[t] := getD_lt _ _ _ hkb
       obtain ⟨b1, hb1⟩ : ∃ b1, st[t] = b1 := ⟨_, rfl⟩
       rw [hb1] at hbk hgs
       have HGS := Lib.hid hgs
       clear hb1 hgs
       cases b1 with
       | true =>
         have HU : Hid (upP R st p (t + 1) = upP R st p t) := Lib.hid (by rw [upP, if_neg (by rw [HGS.out]; simp)])
         go_wp2_with fail
         go_roundw
         case rel => exact ⟨t + 1, vs, by omega, by go_num, by rw [HU.out]; exact W, v10⟩
         case measure => simp [intOf]; omega
       | false =>
         have HU : Hid (upP R st p (t + 1) = (upP R st p t).set t p) := Lib.hid (by rw [upP, if_pos HGS.out])
         obtain ⟨c0, c1, c2⟩ := W.W.q.cells t (by rw [W.W.lv]; exact ht)
         have f0 := W.W.q.free (t * 3)
         have f1 := W.W.q.free (t * 3 + 1)
         have f2 := W.W.q.free (t * 3 + 2)
         have ci0 := v10.c0
         have ci1 := v10.c1
         have ci2 := v10.c2
         go_wp2_with fail
         go_roundw
         case rel => exact ⟨t + 1, vs.set t x, by omega, by go_num, by rw [HU.out]; exact W.putR n67 t v10.nm.ok v10.nm.vq HRX.out, v10.farQ W.W.q.blk (by omega)⟩
         case measure => simp [intOf]; omega
--D}
      ·obtain rfl : t = k := by omega
       rw [HUP.out] at W
       clear HUP htk ht v10 HRX
       obtain ⟨R1, hR1⟩ : ∃ R1, upR l (itR cp l M r) p = R1 := ⟨_, rfl⟩
       have HR1 := Lib.hid hR1
       rw [hR1] at W HSM2
       clear hR1
       have HW := Lib.hid W
       have hlb := W.W.lb
       have hrd := W.W.b.rd
       have hwb := W.W.bw
       clear W
       have h7 : g7 < wr.heap.size := (HW.out.W.b.form.2.2 _ rfl).2
       go_upto_region 19 with (at_builtin; refine wpList_append_rd _ (mk := Value.bool) (fun _ => rfl) rfl _ _ 56 rfl 4 i2 (.bool false) 1 Try.underlying56 hj hj0 hj1 hj2 rfl (B := wr.heap.size) (xs := []) rfl rfl (Gr.nil _ _) (some ⟨g7, 0, none⟩) t t st rfl hlb.symm hrd (by simp only [maxLen]; omega) (by omega) (Nat.le_refl _) ?_; intro AL cL w2 hgA _ hbA _)
       rw [List.nil_append] at hgA
       have HAL : Hid (∀ ad, AL = some ad → ad.block ≠ g7) := Lib.hid (fun ad e h => by have := (hgA.form.2.2 ad e).1; omega)
       have W2 := HW.out.below hbA
       have G2 := hgA.more (B' := w.heap.size) (fun ad e => Nat.le_trans hwb.size (hgA.form.2.2 ad e).1)
       have HLB := Lib.hid hlb
       clear hgA hbA HW hlb hrd hwb h7
       go_wp2_with fail
       go_loopw [14] (fun i wr => ∃ (u : Nat), u ≤ t ∧ i = .int .i64 u ∧ RN t w wr g6 g7 l R1 (stP cp l R1 st t u) vs ∧ Gr Value.bool 4 wr w.heap.size AL cL st) (fun i _ => t - (intOf i).toNat)
       case atStart => exact ⟨0, by omega, rfl, by rw [stP_zero _ _ _ HLB.out]; exact W2, G2⟩
       case round =>
        clear W2 G2
        obtain ⟨u, hu, rfl, W, G⟩ := hrel
        by_cases hut : u < t
        ·--D{
         obtain ⟨ad, rfl, _, hcc⟩ := HD.out.rd (by rw [HN.out]; omega)
         obtain ⟨hc0, hc1⟩ := hcc u (by rw [HN.out]; exact hut)
         have hxo := HD.out.ok _ (List.getElem_mem (show u < fs.length by rw [HN.out]; exact hut))
         have hgl := HGL.out u (by rw [HN.out]; exact hut)
         obtain ⟨x3, hx3⟩ : ∃ x3, fs[u]'(by rw [HN.out]; exact hut) = x3 := ⟨_, rfl⟩
         rw [hx3] at hc0 hc1 hgl hxo
         have HXL := Lib.hid hgl
         have HXO := Lib.hid hxo
         have HXM : Hid (0 ≤ x3.m ∧ x3.m ≤ 4096) := Lib.hid (by
          have := HLM.out u (by rw [HLEN.out]; exact hut)
          rw [hgl.2] at this; exact this)
         have HC0 : Hid (∀ w', Below w.heap.size w w' → w'.cell? (ad.add (u * 2)) = some (.slice x3.A x3.ls.length x3.c)) := Lib.hid (fun w' hb => (hb.cell (p := ad.add (u * 2)) (World.block_lt_of_cell? w _ hc0)).trans hc0)
         have HC1 : Hid (∀ w', Below w.heap.size w w' → w'.cell? ⟨(ad.add (u * 2)).block, (ad.add (u * 2)).off + 1, none⟩ = some (.int .i64 x3.m)) := Lib.hid (fun w' hb => (hb.cell (p := ⟨(ad.add (u * 2)).block, (ad.add (u * 2)).off + 1, none⟩) (World.block_lt_of_cell? w _ hc1)).trans hc1)
         clear hcc hx3 hc0 hc1 hgl hxo
         have hus : u < st.length := by rw [HLB.out]; exact hut
         obtain ⟨aw, rfl, _, hce⟩ := G.rd (by omega)
         have hsb : st.getD u false = st[u] := getD_lt _ _ _ hus
         obtain ⟨b1, hb1⟩ : ∃ b1, st[u] = b1 := ⟨_, rfl⟩
         rw [hb1] at hsb
         have huv : u < vs.length := by rw [W.W.lv]; exact hut
         have hxq := W.q u huv
         obtain ⟨x2, hx2⟩ : ∃ x2, vs[u] = x2 := ⟨_, rfl⟩
         rw [hx2] at hxq
         have HSP : Hid (∀ w', Qr w' w.heap.size (some ⟨g6, 0, none⟩) vs → Gr Value.bool 4 w' w.heap.size (some aw) cL st → Below w.heap.size w w' → w'.cell? (aw.add u) = some (.bool b1) ∧ w'.cell? ⟨(ad.add (u * 2)).block, (ad.add (u * 2)).off + 1, none⟩ = some (.int .i64 x3.m) ∧ (w'.cell? ⟨g6, u * 3, none⟩ = some (.bool x2.b) ∧ w'.cell? ⟨g6, u * 3 + 1, none⟩ = some (.slice x2.A x2.xs.length x2.c) ∧ w'.cell? ⟨g6, u * 3 + 2, none⟩ = some (.slice x2.D x2.ys.length x2.d))) := Lib.hid (fun w' hq hg hb => by
          refine ⟨?_, HC1.out w' hb, ?_⟩
          ·obtain ⟨aw', e, _, h⟩ := hg.rd (by omega)
           injection e with e
           subst e
           have := h u hus
           rw [hb1] at this; exact this
          ·have := hq.cells u huv
           rw [hx2] at this; exact this)
         have HN2 : Hid (∀ w', OkF w' vs → Nm w' x2 x2.q) := Lib.hid (fun w' ho => by
          have := okf_nm ho W.vv huv
          rw [hx2] at this; exact this)
         have HRN := Lib.hid W
         have HGW := Lib.hid G
         obtain ⟨b2, hb2⟩ : ∃ b2, decide ((x3.m : Rat) ≤ x2.q) = b2 := ⟨_, rfl⟩
         have HU : Hid (decide (x2.q < (x3.m : Rat)) = !b2) := Lib.hid (by
          rw [← hb2]
          by_cases h : x2.q < (x3.m : Rat)
          ·rw [decide_eq_true h, decide_eq_false (by grind)]; rfl
          ·rw [decide_eq_false h, decide_eq_true (by grind)]; rfl)
         have HV0 : Hid (stV cp l R1 st u 0 = (b1 || b2)) := Lib.hid (by rw [stV_zero, hsb, HXL.out.2, ← hxq, hb2])
         clear hce hsb hb1 hxq hx2 hb2 W G
         go_upto_region 22 with fail
         go_cut [] (fun w3 => RN t w w3 g6 g7 l R1 ((stP cp l R1 st t u).set u (stV cp l R1 st u 0)) vs ∧ Gr Value.bool 4 w3 w.heap.size (some aw) cL st)
         case first =>
          cases b1 with
          | true =>
            refine wp_region_held_drew (S := fun w' => w'.cell? (aw.add u) = some (.bool true) ∧ w'.cell? ⟨(ad.add (u * 2)).block, (ad.add (u * 2)).off + 1, none⟩ = some (.int .i64 x3.m) ∧ (w'.cell? ⟨g6, u * 3, none⟩ = some (.bool x2.b) ∧ w'.cell? ⟨g6, u * 3 + 1, none⟩ = some (.slice x2.A x2.xs.length x2.c) ∧ w'.cell? ⟨g6, u * 3 + 2, none⟩ = some (.slice x2.D x2.ys.length x2.d))) (by kernel_rfl) (HSP.out _ (HRN.out.below ((Below.refl wr.heap.size wr).drew)).W.q (HGW.out.below ((Below.refl wr.heap.size wr).drew)) (HRN.out.below ((Below.refl wr.heap.size wr).drew)).W.bw) (fun hHeld => ?_)
            have bz := (Below.refl wr.heap.size wr).drew
            generalize wr.drew = wd at *
            refine tkw 0 (.slice (some ⟨g7, 0, none⟩) t t) rfl (by kernel_rfl) (by kernel_rfl) (by kernel_rfl) (fun _ _ _ h => h) ⟨by rfl, ?_⟩ (by assumption) ?_
            ·intro w hSw; go_simp; (try with_reducible rfl)
            try simp only [Act.put, tzA, tzB, tzD, tzE, tzF]
            refine tkw 1 (.int .i64 (u : Int)) rfl (by kernel_rfl) (by kernel_rfl) (by kernel_rfl) (fun _ _ _ h => h) ⟨by rfl, ?_⟩ (by assumption) ?_
            ·intro w hSw; go_simp; (try with_reducible rfl)
            try simp only [Act.put, tzA, tzB, tzC, tzD, tzE, tzF]
            refine tkw 2 (.slice (some aw) t cL) rfl (by kernel_rfl) (by kernel_rfl) (by kernel_rfl) (fun _ _ _ h => h) ⟨by rfl, ?_⟩ (by assumption) ?_
            ·intro w hSw; go_simp; (try with_reducible rfl)
            try simp only [Act.put, tzA, tzB, tzC, tzD, tzE, tzF]
            refine tkw 3 (.int .i64 (u : Int)) rfl (by kernel_rfl) (by kernel_rfl) (by kernel_rfl) (fun _ _ _ h => h) ⟨by rfl, ?_⟩ (by assumption) ?_
            ·intro w hSw; go_simp; (try with_reducible rfl)
            try simp only [Act.put, tzA, tzB, tzC, tzD, tzE, tzF]
            refine tkw 4 (.pointer (some (aw.add u))) rfl (by kernel_rfl) (by kernel_rfl) (by kernel_rfl) (fun _ _ _ h => h) ⟨by rfl, ?_⟩ (by assumption) ?_
            ·intro w hSw; go_simp; (try with_reducible rfl)
            try simp only [Act.put, tzA, tzB, tzC, tzD, tzE, tzF]
            refine tkw 5 (.bool true) rfl (by kernel_rfl) (by kernel_rfl) (by kernel_rfl) (fun _ _ _ h => h) ⟨by rfl, ?_⟩ (by assumption) ?_
            ·intro w hSw; (try dsimp only at hSw); obtain ⟨s0, _⟩ := hSw; go_simp; (try with_reducible rfl)
            try simp only [Act.put, tzA, tzB, tzC, tzD, tzE, tzF]
            refine tkw 6 (.bool true) rfl (by kernel_rfl) (by kernel_rfl) (by kernel_rfl) (fun _ _ _ h => h) ⟨by rfl, ?_⟩ (by assumption) ?_
            ·intro w hSw; go_simp; (try with_reducible rfl)
            try simp only [Act.put, tzA, tzB, tzC, tzD, tzE, tzF]
            refine tku 7 rfl (by kernel_rfl) (by kernel_rfl) (by kernel_rfl) (fun _ _ _ h => h) (by kernel_rfl) (by assumption) ?_
            try simp only [Act.put, tzA, tzB, tzC, tzD, tzE, tzF]
            refine tku 8 rfl (by kernel_rfl) (by kernel_rfl) (by kernel_rfl) (fun _ _ _ h => h) (by kernel_rfl) (by assumption) ?_
            try simp only [Act.put, tzA, tzB, tzC, tzD, tzE, tzF]
            refine tku 9 rfl (by kernel_rfl) (by kernel_rfl) (by kernel_rfl) (fun _ _ _ h => h) (by kernel_rfl) (by assumption) ?_
            try simp only [Act.put, tzA, tzB, tzC, tzD, tzE, tzF]
            refine tku 10 rfl (by kernel_rfl) (by kernel_rfl) (by kernel_rfl) (fun _ _ _ h => h) (by kernel_rfl) (by assumption) ?_
            try simp only [Act.put, tzA, tzB, tzC, tzD, tzE, tzF]
            refine tku 11 rfl (by kernel_rfl) (by kernel_rfl) (by kernel_rfl) (fun _ _ _ h => h) (by kernel_rfl) (by assumption) ?_
            try simp only [Act.put, tzA, tzB, tzC, tzD, tzE, tzF]
            refine tku 12 rfl (by kernel_rfl) (by kernel_rfl) (by kernel_rfl) (fun _ _ _ h => h) (by kernel_rfl) (by assumption) ?_
            try simp only [Act.put, tzA, tzB, tzC, tzD, tzE, tzF]
            refine tku 13 rfl (by kernel_rfl) (by kernel_rfl) (by kernel_rfl) (fun _ _ _ h => h) (by kernel_rfl) (by assumption) ?_
            try simp only [Act.put, tzA, tzB, tzC, tzD, tzE, tzF]
            refine tku 14 rfl (by kernel_rfl) (by kernel_rfl) (by kernel_rfl) (fun _ _ _ h => h) (by kernel_rfl) (by assumption) ?_
            try simp only [Act.put, tzA, tzB, tzC, tzD, tzE, tzF]
            refine tku 15 rfl (by kernel_rfl) (by kernel_rfl) (by kernel_rfl) (fun _ _ _ h => h) (by kernel_rfl) (by assumption) ?_
            try simp only [Act.put, tzA, tzB, tzC, tzD, tzE, tzF]
            refine tku 16 rfl (by kernel_rfl) (by kernel_rfl) (by kernel_rfl) (fun _ _ _ h => h) (by kernel_rfl) (by assumption) ?_
            try simp only [Act.put, tzA, tzB, tzC, tzD, tzE, tzF]
            refine tku 17 rfl (by kernel_rfl) (by kernel_rfl) (by kernel_rfl) (fun _ _ _ h => h) (by kernel_rfl) (by assumption) ?_
            try simp only [Act.put, tzA, tzB, tzC, tzD, tzE, tzF]
            refine tku 18 rfl (by kernel_rfl) (by kernel_rfl) (by kernel_rfl) (fun _ _ _ h => h) (by kernel_rfl) (by assumption) ?_
            try simp only [Act.put, tzA, tzB, tzC, tzD, tzE, tzF]
            refine tkw 19 (.bool true) rfl (by kernel_rfl) (by kernel_rfl) (by kernel_rfl) (fun _ _ _ h => h) ⟨by rfl, ?_⟩ (by assumption) ?_
            ·intro w hSw; go_simp; (try with_reducible rfl)
            try simp only [Act.put, tzA, tzB, tzC, tzD, tzE, tzF]
            refine tkw 20 (.pointer (some ⟨g7, u, none⟩)) rfl (by kernel_rfl) (by kernel_rfl) (by kernel_rfl) (fun _ _ _ h => h) ⟨by rfl, ?_⟩ (by assumption) ?_
            ·intro w hSw; go_simp; (try with_reducible rfl)
            try simp only [Act.put, tzA, tzB, tzC, tzD, tzE, tzF]
            refine wpAnyH_ready (rs := [21]) (by kernel_rfl) (by simp) ?_
            refine AllReadyH.cons rfl (fun K hK => ?_) ?_
            ·have hd := HRN.out.below bz
             have hg := HGW.out.below bz
             have e0 := hd.W.b.cell u (by rw [stP_len]; exact hut)
             have e1 := hd.W.b.free u
             go_simp
             clear e0 e1
             have n4 := hd.putS n67 u true
             have h4 := hg.far (p := ⟨g7, u, none⟩) HAL.out (.bool true)
             clear hd hg bz hHeld
             generalize (wd.setCell ⟨g7, u, none⟩ (.bool true)) = we at *
             generalize we = wd at *
             refine hK.out _ _ (HSP.out _ (by first | exact n4.W.q | exact (HRN.out.below bz).W.q) (by first | exact h4 | exact HGW.out.below bz) (by first | exact n4.W.bw | exact (HRN.out.below bz).W.bw)) (fun hHeld => ?_)
             clear hK K
             try simp only [Act.put]
             try simp only [tzD, tzE, tzF]
             refine wpAnyH_done (by kernel_rfl) ?_ _
             go_wp2_with fail
             go_meet
             case rel => exact ⟨by rw [HV0.out]; exact n4, h4⟩
            exact AllReadyH.nil
          | false =>
            refine wp_region_held_drew (S := fun w' => w'.cell? (aw.add u) = some (.bool false) ∧ w'.cell? ⟨(ad.add (u * 2)).block, (ad.add (u * 2)).off + 1, none⟩ = some (.int .i64 x3.m) ∧ (w'.cell? ⟨g6, u * 3, none⟩ = some (.bool x2.b) ∧ w'.cell? ⟨g6, u * 3 + 1, none⟩ = some (.slice x2.A x2.xs.length x2.c) ∧ w'.cell? ⟨g6, u * 3 + 2, none⟩ = some (.slice x2.D x2.ys.length x2.d))) (by kernel_rfl) (HSP.out _ (HRN.out.below ((Below.refl wr.heap.size wr).drew)).W.q (HGW.out.below ((Below.refl wr.heap.size wr).drew)) (HRN.out.below ((Below.refl wr.heap.size wr).drew)).W.bw) (fun hHeld => ?_)
            have bz := (Below.refl wr.heap.size wr).drew
            generalize wr.drew = wd at *
            refine tkw 0 (.slice (some ⟨g7, 0, none⟩) t t) rfl (by kernel_rfl) (by kernel_rfl) (by kernel_rfl) (fun _ _ _ h => h) ⟨by rfl, ?_⟩ (by assumption) ?_
            ·intro w hSw; go_simp; (try with_reducible rfl)
            try simp only [Act.put, tzA, tzB, tzD, tzE, tzF]
            refine tkw 1 (.int .i64 (u : Int)) rfl (by kernel_rfl) (by kernel_rfl) (by kernel_rfl) (fun _ _ _ h => h) ⟨by rfl, ?_⟩ (by assumption) ?_
            ·intro w hSw; go_simp; (try with_reducible rfl)
            try simp only [Act.put, tzA, tzB, tzC, tzD, tzE, tzF]
            refine tkw 2 (.slice (some aw) t cL) rfl (by kernel_rfl) (by kernel_rfl) (by kernel_rfl) (fun _ _ _ h => h) ⟨by rfl, ?_⟩ (by assumption) ?_
            ·intro w hSw; go_simp; (try with_reducible rfl)
            try simp only [Act.put, tzA, tzB, tzC, tzD, tzE, tzF]
            refine tkw 3 (.int .i64 (u : Int)) rfl (by kernel_rfl) (by kernel_rfl) (by kernel_rfl) (fun _ _ _ h => h) ⟨by rfl, ?_⟩ (by assumption) ?_
            ·intro w hSw; go_simp; (try with_reducible rfl)
            try simp only [Act.put, tzA, tzB, tzC, tzD, tzE, tzF]
            refine tkw 4 (.pointer (some (aw.add u))) rfl (by kernel_rfl) (by kernel_rfl) (by kernel_rfl) (fun _ _ _ h => h) ⟨by rfl, ?_⟩ (by assumption) ?_
            ·intro w hSw; go_simp; (try with_reducible rfl)
            try simp only [Act.put, tzA, tzB, tzC, tzD, tzE, tzF]
            refine tkw 5 (.bool false) rfl (by kernel_rfl) (by kernel_rfl) (by kernel_rfl) (fun _ _ _ h => h) ⟨by rfl, ?_⟩ (by assumption) ?_
            ·intro w hSw; (try dsimp only at hSw); obtain ⟨s0, _⟩ := hSw; go_simp; (try with_reducible rfl)
            try simp only [Act.put, tzA, tzB, tzC, tzD, tzE, tzF]
            refine tkw 6 (.bool false) rfl (by kernel_rfl) (by kernel_rfl) (by kernel_rfl) (fun _ _ _ h => h) ⟨by rfl, ?_⟩ (by assumption) ?_
            ·intro w hSw; go_simp; (try with_reducible rfl)
            try simp only [Act.put, tzA, tzB, tzC, tzD, tzE, tzF]
            refine tkw 7 (.slice (some ⟨g6, 0, none⟩) t t) rfl (by kernel_rfl) (by kernel_rfl) (by kernel_rfl) (fun _ _ _ h => h) ⟨by kernel_rfl, ?_⟩ (by assumption) ?_
            ·intro w hSw; go_simp; (try with_reducible rfl)
            try simp only [Act.put, tzA, tzB, tzC, tzD, tzE, tzF]
            refine tkw 8 (.int .i64 (u : Int)) rfl (by kernel_rfl) (by kernel_rfl) (by kernel_rfl) (fun _ _ _ h => h) ⟨by kernel_rfl, ?_⟩ (by assumption) ?_
            ·intro w hSw; go_simp; (try with_reducible rfl)
            try simp only [Act.put, tzA, tzB, tzC, tzD, tzE, tzF]
            refine tkw 9 (.pointer (some ⟨g6, u * 3, none⟩)) rfl (by kernel_rfl) (by kernel_rfl) (by kernel_rfl) (fun _ _ _ h => h) ⟨by kernel_rfl, ?_⟩ (by assumption) ?_
            ·intro w hSw; go_simp; (try with_reducible rfl)
            try simp only [Act.put, tzA, tzB, tzC, tzD, tzE, tzF]
            refine tkw 10 (x2.val) rfl (by kernel_rfl) (by kernel_rfl) (by kernel_rfl) (fun _ _ _ h => h) ⟨by kernel_rfl, ?_⟩ (by assumption) ?_
            ·intro w hSw; (try dsimp only at hSw); obtain ⟨_, _, s0, s1, s2⟩ := hSw; go_simp; (try with_reducible rfl)
            try simp only [Act.put, tzA, tzB, tzC, tzD, tzE, tzF]
            refine tkw 11 (.slice (some ad) t d) rfl (by kernel_rfl) (by kernel_rfl) (by kernel_rfl) (fun _ _ _ h => h) ⟨by kernel_rfl, ?_⟩ (by assumption) ?_
            ·intro w hSw; go_simp; (try with_reducible rfl)
            try simp only [Act.put, tzA, tzB, tzC, tzD, tzE, tzF]
            refine tkw 12 (.int .i64 (u : Int)) rfl (by kernel_rfl) (by kernel_rfl) (by kernel_rfl) (fun _ _ _ h => h) ⟨by kernel_rfl, ?_⟩ (by assumption) ?_
            ·intro w hSw; go_simp; (try with_reducible rfl)
            try simp only [Act.put, tzA, tzB, tzC, tzD, tzE, tzF]
            refine tkw 13 (.pointer (some (ad.add (u * 2)))) rfl (by kernel_rfl) (by kernel_rfl) (by kernel_rfl) (fun _ _ _ h => h) ⟨by kernel_rfl, ?_⟩ (by assumption) ?_
            ·intro w hSw; go_simp; (try with_reducible rfl)
            try simp only [Act.put, tzA, tzB, tzC, tzD, tzE, tzF]
            refine tkw 14 (.pointer (some ⟨(ad.add (u * 2)).block, (ad.add (u * 2)).off + 1, none⟩)) rfl (by kernel_rfl) (by kernel_rfl) (by kernel_rfl) (fun _ _ _ h => h) ⟨by kernel_rfl, ?_⟩ (by assumption) ?_
            ·intro w hSw; go_simp; (try with_reducible rfl)
            try simp only [Act.put, tzA, tzB, tzC, tzD, tzE, tzF]
            refine tkw 15 (.int .i64 x3.m) rfl (by kernel_rfl) (by kernel_rfl) (by kernel_rfl) (fun _ _ _ h => h) ⟨by kernel_rfl, ?_⟩ (by assumption) ?_
            ·intro w hSw; (try dsimp only at hSw); obtain ⟨_, s0, _⟩ := hSw; go_simp; (try with_reducible rfl)
            try simp only [Act.put, tzA, tzB, tzC, tzD, tzE, tzF]
            refine wpAnyH_ready (rs := [16]) (by kernel_rfl) (by simp) ?_
            refine AllReadyH.cons rfl (fun K hK => ?_) ?_
            ·go_simp
             go_at_call 34
             refine (rwhole_any wd x3.m (by have := HXM.out; omega) (by have := HXM.out; omega)).mono ?_
             rintro e wd ⟨y, rfl, _, n5, bb⟩
             try replace n5 := n5.below bb
             replace bz := below_on bz bb bz.size
             clear bb
             refine hK.out _ _ (HSP.out _ (by first | exact n4.W.q | exact (HRN.out.below bz).W.q) (by first | exact h4 | exact HGW.out.below bz) (by first | exact n4.W.bw | exact (HRN.out.below bz).W.bw)) (fun hHeld => ?_)
             clear hK K
             try simp only [Act.put]
             try simp only [tzD, tzE, tzF]
             refine wpAnyH_ready (rs := [17]) (by kernel_rfl) (by simp) ?_
             refine AllReadyH.cons rfl (fun K hK => ?_) ?_
             ·go_simp
              go_at_call 33
              refine (rless_any wd x2 y x2.q (x3.m : Rat) (!b2) (HN2.out _ (HRN.out.below bz).okf) n5 HU.out).mono ?_
              rintro e wd ⟨rfl, bb⟩
              clear n5
              try replace n5 := n5.below bb
              replace bz := below_on bz bb bz.size
              clear bb
              refine hK.out _ _ (HSP.out _ (by first | exact n4.W.q | exact (HRN.out.below bz).W.q) (by first | exact h4 | exact HGW.out.below bz) (by first | exact n4.W.bw | exact (HRN.out.below bz).W.bw)) (fun hHeld => ?_)
              clear hK K
              try simp only [Act.put]
              try simp only [tzD, tzE, tzF]
              refine tkw 18 (.bool b2) rfl (by kernel_rfl) (by kernel_rfl) (by kernel_rfl) (fun _ _ _ h => h) ⟨by kernel_rfl, ?_⟩ (by assumption) ?_
              ·intro w hSw; go_simp; (try simp)
              try simp only [Act.put, tzA, tzB, tzC, tzD, tzE, tzF]
              refine tkw 19 (.bool b2) rfl (by kernel_rfl) (by kernel_rfl) (by kernel_rfl) (fun _ _ _ h => h) ⟨by rfl, ?_⟩ (by assumption) ?_
              ·intro w hSw; go_simp; (try with_reducible rfl)
              try simp only [Act.put, tzA, tzB, tzC, tzD, tzE, tzF]
              refine tkw 20 (.pointer (some ⟨g7, u, none⟩)) rfl (by kernel_rfl) (by kernel_rfl) (by kernel_rfl) (fun _ _ _ h => h) ⟨by rfl, ?_⟩ (by assumption) ?_
              ·intro w hSw; go_simp; (try with_reducible rfl)
              try simp only [Act.put, tzA, tzB, tzC, tzD, tzE, tzF]
              refine wpAnyH_ready (rs := [21]) (by kernel_rfl) (by simp) ?_
              refine AllReadyH.cons rfl (fun K hK => ?_) ?_
              ·have hd := HRN.out.below bz
               have hg := HGW.out.below bz
               have e0 := hd.W.b.cell u (by rw [stP_len]; exact hut)
               have e1 := hd.W.b.free u
               go_simp
               clear e0 e1
               have n4 := hd.putS n67 u b2
               have h4 := hg.far (p := ⟨g7, u, none⟩) HAL.out (.bool b2)
               clear hd hg bz hHeld
               generalize (wd.setCell ⟨g7, u, none⟩ (.bool b2)) = we at *
               generalize we = wd at *
               refine hK.out _ _ (HSP.out _ (by first | exact n4.W.q | exact (HRN.out.below bz).W.q) (by first | exact h4 | exact HGW.out.below bz) (by first | exact n4.W.bw | exact (HRN.out.below bz).W.bw)) (fun hHeld => ?_)
               clear hK K
               try simp only [Act.put]
               try simp only [tzD, tzE, tzF]
               refine wpAnyH_done (by kernel_rfl) ?_ _
               go_wp2_with fail
               go_meet
               case rel => exact ⟨by rw [HV0.out]; exact n4, h4⟩
              exact AllReadyH.nil
             exact AllReadyH.nil
            exact AllReadyH.nil
         case rest =>
          obtain ⟨W, G⟩ := hcut
          clear HRN HGW HSP HN2 HU HV0
          go_wp2_with fail
          go_loopw [15] (fun jv wr => ∃ (v : Nat), v ≤ x3.ls.length ∧ jv = .int .i64 v ∧ RN t w wr g6 g7 l R1 ((stP cp l R1 st t u).set u (stV cp l R1 st u v)) vs ∧ Gr Value.bool 4 wr w.heap.size (some aw) cL st) (fun jv _ => x3.ls.length - (intOf jv).toNat)
          case atStart => exact ⟨0, by omega, rfl, W, G⟩
          case round =>
           clear W G
           obtain ⟨v, hv, rfl, W, G⟩ := hrel
           have hc0 := HC0.out _ W.W.bw
           by_cases hvx : v < x3.ls.length
           ·have hmem : x3.ls[v] ∈ lkA l u := by rw [HXL.out.1]; exact List.getElem_mem hvx
            have hlk := HOK.out.lk u (by rw [HLEN.out]; exact hut) _ hmem
            obtain ⟨ax, hax, _, hcx⟩ := (HXO.out.is.below W.W.bw).at v hvx
            obtain ⟨e0, he0⟩ : ∃ e0 : Nat, x3.ls[v] = (e0 : Int) := ⟨(x3.ls[v]).toNat, by omega⟩
            have hnx : stV cp l R1 st u (v + 1) = (stV cp l R1 st u v || decide ((cp (e0 : Int) : Rat) ≤ ldq l R1 (e0 : Int))) := by
             have hvl : v < (lkA l u).length := by rw [HXL.out.1]; exact hvx
             have e : (lkA l u)[v] = (e0 : Int) := by rw [← he0]; simp only [HXL.out.1]
             rw [stV_next _ _ _ _ _ hvl, e]
            rw [he0] at hcx hlk
            have hxcap := HXO.out.is.cap
            have hxlen := HXO.out.is.len
            obtain ⟨b3, hb3⟩ : ∃ b3, decide ((cp (e0 : Int) : Rat) ≤ ldq l R1 (e0 : Int)) = b3 := ⟨_, rfl⟩
            rw [hb3] at hnx
            obtain ⟨bv, hbv⟩ : ∃ bv, stV cp l R1 st u v = bv := ⟨_, rfl⟩
            rw [hbv] at hnx W
            have HNX := Lib.hid hnx
            have HB3 := Lib.hid hb3
            have huL : u < ((stP cp l R1 st t u).set u bv).length := by rw [List.length_set, stP_len]; exact hut
            have e0c := W.W.b.cell u huL
            rw [List.getElem_set_self] at e0c
            have e1c := W.W.b.free u
            clear hnx hmem hb3 hbv
            cases bv with
            | true =>
              have HN1 : Hid (stV cp l R1 st u (v + 1) = true) := Lib.hid (by rw [HNX.out]; rfl)
              clear hax hcx
              go_wp2_with fail
              go_roundw
              case rel =>
               have n4 := W.putS n67 u true
               rw [List.set_set] at n4
               exact ⟨v + 1, by omega, by go_num, by rw [HN1.out]; exact n4, G.far (p := ⟨g7, u, none⟩) HAL.out _⟩
              case measure => simp [intOf]; omega
            | false =>
              have HN1 : Hid (stV cp l R1 st u (v + 1) = b3) := Lib.hid (by rw [HNX.out]; rfl)
              have HWL := Lib.hid W
              have HGL2 := Lib.hid G
              have hwb := W.W.bw
              have hlv := W.W.lv
              clear W G
              rw [hax] at hc0
              clear hax
              go_wp2_with fail
              refine (rfull_any wr A M c caps (some ad) t d fs (some ⟨g6, 0, none⟩) t t vs e0 (ldq l R1 (e0 : Int)) b3 (HA.out.below hwb) (HD.out.below hwb) HWL.out.W.q.fr.rd HWL.out.okf HWL.out.vv HM.out.symm HN.out.symm hlv.symm (by rw [hlv]; exact HN.out.symm) (by rw [HN.out]; omega) (by rw [HM.out]; omega) (by
               rw [HL.out, HWL.out.map, HN.out, ← HLEN.out, HSM2.out.load (by rw [HLEN.out]; omega) _ (Nat.le_refl _)]; rfl) (by rw [HCP.out]; exact HB3.out)).mono ?_
              rintro e wn ⟨rfl, bb⟩
              clear e0c e1c
              have W := HWL.out.below bb
              have G := HGL2.out.below bb
              have e0c := W.W.b.cell u huL
              rw [List.getElem_set_self] at e0c
              have e1c := W.W.b.free u
              clear HWL HGL2 hwb hlv bb hcx hc0
              go_wp2_with fail
              go_roundw
              case rel =>
               have n4 := W.putS n67 u b3
               rw [List.set_set] at n4
               exact ⟨v + 1, by omega, by go_num, by rw [HN1.out]; exact n4, G.far (p := ⟨g7, u, none⟩) HAL.out _⟩
              case measure => simp [intOf]; omega
           ·obtain rfl : v = x3.ls.length := by omega
            have HSN := stV_all cp l R1 st u
            rw [HXL.out.1] at HSN
            rw [HSN, stP_next] at W
            clear HSN
            go_wp2_with fail
            go_roundw
            case rel => exact ⟨u + 1, by omega, by go_num, W, G⟩
            case measure => simp [intOf]; omega
--D}
        ·obtain rfl : u = t := by omega
         have hfin : stP cp l R1 st u u = (partR cp l (itR cp l M r) p l.length).a.map (!·) := by
          rw [stP_end, ← HLEN.out, ← HR1.out, HAG.out.st]
          exact stN_round HOK.out.lk HLR.out.1 HLR.out.2 HP2.out
         have hag2 : Agr l (itR cp l M (r + 1)) R1 (stP cp l R1 st u u) := by
          rw [HP3.out, hfin, ← HR1.out]
          exact Agr.round HLR.out.1 HLR.out.2
         have HAG2 := Lib.hid hag2
         clear hfin hag2
         go_wp2_with fail
         go_roundw
         case rel => exact ⟨r + 1, vs, R1, _, by omega, by go_num, W, HAG2.out, _, HSM2.out⟩
         case measure => simp [intOf]; omega
    ·have hnone : (lowH cp l (itR cp l M r) M).isSome = false := by
      obtain ⟨q, hq⟩ := (itR_inv HOK.out r).1
      rw [lowH_isSome, lowG_none hq.la hact]; rfl
     have HR := Lib.hid (HAG.out.done HOK.out hact)
     rw [hnone]
     clear hnone hact HSMQ
     go_upto_region 12 with fail
     have bb := (nv_alloc n1).2
     have W1 := HW.out.below bb
     clear n1 bb HW
     generalize (wn.alloc (.cells #[.bool x.b, .slice x.A x.xs.length x.c, .slice x.D x.ys.length x.d] 41)) = wm at W1 ⊢
     have hlv := W1.W.lv
     go_wp2_with fail
     go_ret2
     exact ⟨some ⟨g6, 0, none⟩, vs, by rw [hlv]; rfl, W1.W.q, hlv, fun i hi => (by rw [← HR.out]; exact ⟨W1.rp i hi, W1.W.at_ i hi⟩), W1.W.bw⟩
end Go.Proofs.Ythdfflbhogfejaa
