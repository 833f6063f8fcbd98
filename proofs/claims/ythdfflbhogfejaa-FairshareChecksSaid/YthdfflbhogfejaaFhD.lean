/- The walk of fairshare.Rates. -/
import Derived.Test.YthdfflbhogfejaaFsV
import Derived.Test.YthdfflbhogfejaaFsU
import Derived.BigQuiet
import Derived.Deep.QuietTactic
namespace Go.Proofs.Ythdfflbhogfejaa
set_option maxRecDepth 100000
open Go.RowKit

theorem validFl.okR {caps : List Int} {fs : List Fl} (h : validFl caps fs) : OkR (cpF caps) fs caps.length := by
  refine ⟨fun i hi k hk => ?_, fun k hk => ?_, fun i hi => ?_⟩
  · rw [lkA_get hi] at hk
    exact (h.2.2.2 _ (List.getElem_mem hi)).2.2.mem hk
  · rw [cpF, Int.toNat_natCast, getD_lt _ _ _ hk]
    exact (h.2.2.1 _ (List.getElem_mem hk)).1
  · rw [lmA_get hi]; exact (h.2.2.2 _ (List.getElem_mem hi)).1
theorem validFl.lm {caps : List Int} {fs : List Fl} (h : validFl caps fs) : ∀ i, i < fs.length → 0 ≤ lmA fs i ∧ lmA fs i ≤ 4096 := fun i hi => by
  rw [lmA_get hi]; exact ⟨(h.2.2.2 _ (List.getElem_mem hi)).1, (h.2.2.2 _ (List.getElem_mem hi)).2.1⟩
theorem validFl.cb {caps : List Int} {fs : List Fl} (h : validFl caps fs) : ∀ k : Nat, k < caps.length → 0 ≤ cpF caps (k : Int) ∧ cpF caps (k : Int) ≤ 4096 := fun k hk => by
  rw [cpF, Int.toNat_natCast, getD_lt _ _ _ hk]; exact h.2.2.1 _ (List.getElem_mem hk)
set_option maxHeartbeats 4000000 in
theorem frates_ok (w : World) (A : Option Addr) (n c : Nat) (caps : List Int) (D : Option Addr) (m d : Nat) (fs : List Fm) (hA : Is w A c caps) (hD : Ws w D d fs) (hn : n = caps.length) (hm : m = fs.length) (hv : validFl caps (fs.map Fm.fl)) (h14 : fs.length ≤ 14) :
    Calls Try.prog 19 #[.slice A n c, .slice D m d] w fun e w' => ∃ (A' : Option Addr) (vs : List Fx), e = .returned (.tuple #[.slice A' vs.length vs.length, .int .i64 0]) ∧ Qr w' w.heap.size A' vs ∧ vs.length = fs.length ∧ (∀ i (h : i < vs.length), Rp vs[i] ((ratesM (cpF caps) (fs.map Fm.fl) caps.length).getD i 0) ∧ Vq vs[i] ((ratesM (cpF caps) (fs.map Fm.fl) caps.length).getD i 0)) ∧ Below w.heap.size w w' := by
  have HA := Lib.hid hA; clear hA
  have HD := Lib.hid hD; clear hD
  have HV := Lib.hid hv; clear hv
  obtain ⟨l, hl⟩ : ∃ l, fs.map Fm.fl = l := ⟨_, rfl⟩
  obtain ⟨cp, hcp⟩ : ∃ cp, cpF caps = cp := ⟨_, rfl⟩
  have hlen : l.length = fs.length := by rw [← hl, List.length_map]
  have HOK : Hid (OkR cp l caps.length) := Lib.hid (by rw [← hl, ← hcp]; exact HV.out.okR)
  have HLM : Hid (∀ i, i < l.length → 0 ≤ lmA l i ∧ lmA l i ≤ 4096) := Lib.hid (by rw [← hl]; exact HV.out.lm)
  have HCB : Hid (∀ k : Nat, k < caps.length → 0 ≤ cp (k : Int) ∧ cp (k : Int) ≤ 4096) := Lib.hid (by rw [← hcp]; exact HV.out.cb)
  have hcl : caps.length ≤ 64 := HV.out.1
  rw [hl, hcp]
  have HL := Lib.hid hl
  have HCP := Lib.hid hcp
  have HLEN := Lib.hid hlen
  clear hl hcp hlen
  subst hn hm
  obtain ⟨i1, hi, hi0, hi1, hi2⟩ := info_parts frac_info3
  obtain ⟨i2, hj, hj0, hj1, hj2⟩ := info_parts bool_info
  obtain ⟨N, hN⟩ : ∃ N, fs.length = N := ⟨_, rfl⟩
  obtain ⟨M, hM⟩ : ∃ M, caps.length = M := ⟨_, rfl⟩
  have HN := Lib.hid hN
  have HM := Lib.hid hM
  rw [hN] at h14 HLEN ⊢
  rw [hM] at hcl HOK HCB ⊢
  clear hN hM
  go_enter Try.func19, Try.ntmps19
  go_wp2_with fail
  refine (flvalid_any w A _ c caps D _ d fs true HA.out HD.out HM.out.symm HN.out.symm (decide_eq_true HV.out)).mono ?_
  rintro e w1 ⟨rfl, bw⟩
  go_upto_region 4 with (refine wpList_make_full w1 rfl _ _ 29 rfl w.heap.size 41 i1 Fx.nil.val 3 Try.underlying29 hi hi0 hi1 .i64 .i64 _ _ N rfl rfl (by omega) (by omega) (by rw [hi2]; omega) (by simp only [maxLen]; omega) bw.size ?_; intro w2 hg2 hb2)
  have b12 : Below w.heap.size w w2 := bw.grown hb2 bw.size (by intro k hk; cases hk)
  have Q0 : Qr w2 w.heap.size (some ⟨w1.heap.size, 0, none⟩) (List.replicate N Fx.nil) := by
    refine ⟨?_, fun v hv => by rw [List.eq_of_mem_replicate hv]; exact Fx.nil_ok _⟩
    unfold Fr
    rw [List.length_replicate, ← make3_cells]
    exact hg2
  have d1 : w1.heap.size < w2.heap.size := Q0.lt.2
  have d0 := bw.size
  clear hg2 hb2 bw
  go_upto_region 5 with (refine wpList_make_rd w2 (mk := Value.bool) false rfl _ _ 56 rfl 4 i2 1 Try.underlying56 hj hj0 hj1 hj2 rfl .i64 .i64 _ _ N rfl rfl (by omega) (by omega) (by omega) (by simp only [maxLen]; omega) ?_; intro w5 hg5 hb5 hs5)
  replace hg5 := hg5.more (B' := w.heap.size) (fun ad e => by injection e with e; subst e; show w.heap.size ≤ w2.heap.size; omega)
  replace Q0 := Q0.below hb5
  have bw := below_on b12 hb5 (by omega)
  clear b12 hb5
  generalize w1.heap.size = g6 at *
  generalize w2.heap.size = g7 at *
  have n67 : ¬ g6 = g7 := by omega
  have n76 : ¬ g7 = g6 := by omega
  go_wp2_with fail
  go_loopw [40] (fun i wr => ∃ (k : Nat) (vs : List Fx) (bs : List Bool), k ≤ N ∧ i = .int .i64 k ∧ Qr wr w.heap.size (some ⟨g6, 0, none⟩) vs ∧ vs.length = N ∧ (∀ i (h : i < vs.length), i < k → Vq vs[i] 0) ∧ Gr Value.bool 4 wr w.heap.size (some ⟨g7, 0, none⟩) N bs ∧ bs.length = N ∧ (∀ i (h : i < bs.length), i < k → bs[i] = true) ∧ Below w.heap.size w wr) (fun i _ => N - (intOf i).toNat)
  case atStart => exact ⟨0, _, _, by omega, rfl, Q0, by simp, (fun i _ h => by omega), hg5, by simp, (fun i _ h => by omega), bw⟩
  case round =>
    clear Q0 hg5 bw
    obtain ⟨k, vs, bs, hk, rfl, hq, hvl, hvq, hb, hbl, hbq, bw⟩ := hrel
    by_cases hlt : k < N
    · --D{
      have HVQ := Lib.hid hvq
      have HBQ := Lib.hid hbq
      have HVL := Lib.hid hvl
      have HBL := Lib.hid hbl
      clear hvq hbq hvl hbl
      go_wp2_with fail
      refine (whole_any wr 0 (by omega) (by omega)).mono ?_
      rintro e wn ⟨x1, rfl, _, n1, bb⟩
      replace hq := hq.below bb
      replace hb := hb.below bb
      replace bw := below_on bw bb bw.size
      clear bb
      obtain ⟨c0, c1, c2⟩ := hq.cells k (by rw [HVL.out]; exact hlt)
      have f0 := hq.free (k * 3)
      have f1 := hq.free (k * 3 + 1)
      have f2 := hq.free (k * 3 + 2)
      have e0 := hb.cell k (by rw [HBL.out]; exact hlt)
      have e1 := hb.free k
      go_wp2_with fail
      go_roundw
      case rel =>
        have hb2 := hb.far3 (i := k * 3) (j := k * 3 + 1) (k := k * 3 + 2) (v0 := .bool x1.b) (v1 := .slice x1.A x1.xs.length x1.c) (v2 := .slice x1.D x1.ys.length x1.d) (off_row n76)
        have k7 := bool_blk hb2 HBL.out.symm
        refine ⟨k + 1, vs.set k x1, bs.set k true, by omega, by go_num, (hq.put k n1.ok).far1 k7 (off_row n67), by rw [List.length_set]; exact HVL.out, fun i hi hik => ?_, hb2.store k true, by rw [List.length_set]; exact HBL.out, fun i hi hik => ?_, (q3_below bw (by omega)).setCell (p := ⟨g7, k, none⟩) (by show w.heap.size ≤ g7; omega) _⟩
        · rw [List.getElem_set]
          by_cases e : k = i
          · rw [if_pos e]; exact n1.vq
          · rw [if_neg e]; exact HVQ.out i (by simpa using hi) (by omega)
        · rw [List.getElem_set]
          by_cases e : k = i
          · rw [if_pos e]
          · rw [if_neg e]; exact HBQ.out i (by simpa using hi) (by omega)
      case measure => simp [intOf]; omega
      --D}
    · obtain rfl : k = N := by omega
      have W0 : RW w.heap.size k w wr g6 g7 l (itR cp l M 0) vs bs := by
        have hla : bs = List.replicate l.length true := by
          apply List.ext_getElem (by rw [hbl, List.length_replicate, HLEN.out])
          intro i h1 h2
          rw [hbq i h1 (by omega), List.getElem_replicate]
        refine ⟨hq, hb, by simp [itR], HLEN.out, hvl, hbl, fun i hi => ?_, hla, bw⟩
        show Vq vs[i] ((List.replicate l.length (0 : Rat)).getD i 0)
        rw [getD_rep _ _ _ _ (by rw [HLEN.out]; omega)]
        exact hvq i hi (by omega)
      clear hq hb hvl hbl hvq hbq bw
      have HK0 := Lib.hid HN
      go_wp2_with fail
      go_loopg [] 15 (fun kn wr => ∃ (r : Nat) (vs : List Fx) (bs : List Bool), kn + r = 15 ∧ r ≤ k ∧ RW w.heap.size k w wr g6 g7 l (itR cp l M r) vs bs)
      case atStart => exact ⟨0, vs, bs, by omega, by omega, W0⟩
      case round =>
        clear W0 vs bs
        obtain ⟨r, vs, bs, hr, hrk, W⟩ := hrel
        have HW := Lib.hid W
        have hbl := W.lb
        have hrd := W.b.rd
        clear W
        by_cases ht : true ∈ bs
        · have hrlt : r < k := by
            rcases Nat.lt_or_ge r k with h1 | h1
            · exact h1
            · exfalso
              rw [HW.out.bs] at ht
              exact itR_done HOK.out r (by rw [HLEN.out]; exact h1) ht
          have HT := Lib.hid ht
          clear ht
          go_wp2_with fail
          refine (contains_b wr _ _ k bs true hrd hbl.symm (by omega) (decide_eq_true HT.out)).mono ?_
          rintro e wn ⟨rfl, rfl⟩
          clear hrd hbl
          go_upto_region 12 with fail
          have a9 := (fa_alloc (Fx.nil_ok wr)).1
          have bb := (fa_alloc (Fx.nil_ok wr)).2
          have HW1 := Lib.hid (HW.out.below bb HW.out.bw.size)
          have d9 : g7 < wr.heap.size := (HW.out.b.form.2.2 _ rfl).2
          clear HW bb
          generalize (wr.alloc (.cells #[.bool false, .slice none 0 0, .slice none 0 0] 41)) = w9 at a9 HW1 ⊢
          generalize wr.heap.size = g9 at a9 d9 ⊢
          go_upto_region 13 with (refine wpList_make_full w9 rfl _ _ 29 rfl w.heap.size 41 i1 Fx.nil.val 3 Try.underlying29 hi hi0 hi1 .i64 .i64 _ _ M rfl rfl (by omega) (by omega) (by rw [hi2]; omega) (by simp only [maxLen]; omega) HW1.out.bw.size ?_; intro w11 hg11 hb11)
          have b911 : Below w9.heap.size w9 w11 := (Below.refl _ _).grown hb11 (Nat.le_refl _) (by intro k hk; cases hk)
          have Q0 : Qr w11 w.heap.size (some ⟨w9.heap.size, 0, none⟩) (List.replicate M Fx.nil) := by
            refine ⟨?_, fun v hv => by rw [List.eq_of_mem_replicate hv]; exact Fx.nil_ok _⟩
            unfold Fr
            rw [List.length_replicate, ← make3_cells]
            exact hg11
          have d11 : g9 < w9.heap.size := a9.lt
          have d12 : w9.heap.size < w11.heap.size := Q0.lt.2
          replace a9 := a9.below b911
          have HW2 := Lib.hid (HW1.out.below b911 HW1.out.bw.size)
          clear hg11 hb11 b911 HW1
          go_upto_region 14 with (refine wpList_make_rd w11 (mk := Value.bool) false rfl _ _ 56 rfl 4 i2 1 Try.underlying56 hj hj0 hj1 hj2 rfl .i64 .i64 _ _ M rfl rfl (by omega) (by omega) (by omega) (by simp only [maxLen]; omega) ?_; intro w12 hg12 hb12 hs12)
          replace hg12 := hg12.more (B' := w.heap.size) (fun ad e => by injection e with e; subst e; exact HW2.out.bw.size)
          have HW3 := Lib.hid (HW2.out.below hb12 HW2.out.bw.size)
          have L0 : LW w.heap.size M w12 g9 w9.heap.size w11.heap.size (fun i => lev cp l (itR cp l M r) (i : Int)) Fx.nil none (List.replicate M Fx.nil) (List.replicate M false) 0 :=
            ⟨a9.below hb12, (fun q h => by cases h), Q0.below hb12, by simp, (fun i _ h => by omega), hg12, by simp, (fun i _ h => by omega)⟩
          have hB6 : w.heap.size ≤ g6 := HW3.out.q.lt.1
          clear a9 Q0 hb12 hs12 hg12 HW2
          generalize w9.heap.size = g11 at *
          generalize w11.heap.size = g12 at *
          obtain ⟨s, hs⟩ : ∃ s, itR cp l M r = s := ⟨_, rfl⟩
          have HSM : Hid (∃ D, SmR cp l s D) := Lib.hid (by rw [← hs]; exact itR_sm HOK.out (by rw [HLEN.out]; exact h14) (fun i hi => (HLM.out i hi).2) r (by omega))
          have HT2 : Hid (true ∈ s.a) := Lib.hid (by rw [← hs, ← HW3.out.bs]; exact HT.out)
          rw [hs] at HW3 L0
          have HS := Lib.hid hs
          have n69 : ¬ g6 = g9 := by omega
          have n6b : ¬ g6 = g11 := by omega
          have n6c : ¬ g6 = g12 := by omega
          have n79 : ¬ g7 = g9 := by omega
          have n7b : ¬ g7 = g11 := by omega
          have n7c : ¬ g7 = g12 := by omega
          have n9b : ¬ g9 = g11 := by omega
          have n9c : ¬ g9 = g12 := by omega
          have nbc : ¬ g11 = g12 := by omega
          have ncb : ¬ g12 = g11 := by omega
          have nb9 : ¬ g11 = g9 := by omega
          have nc9 : ¬ g12 = g9 := by omega
          clear HT hs
          go_wp2_with fail
          go_loopw [10, 62] (fun fv i wr => ∃ (j : Nat) (xl : Fx) (lv : List Fx) (hs : List Bool), j ≤ M ∧ i = .int .i64 j ∧ fv = .bool (lowK cp l s j).isSome ∧ LW w.heap.size M wr g9 g11 g12 (fun i => lev cp l s (i : Int)) xl (lowK cp l s j) lv hs j ∧ RW w.heap.size k w wr g6 g7 l s vs bs) (fun _ i _ => M - (intOf i).toNat)
          case atStart => exact ⟨0, _, _, _, by omega, rfl, rfl, L0, HW3.out⟩
          case round =>
            clear L0 HW3
            obtain ⟨j, xl, lv, hs, hj, rfl, rfl, L, W⟩ := hrel
            have HLW := Lib.hid L
            have HW := Lib.hid W
            clear L W
            by_cases hjM : j < M
            · --D{
              have hwb := HW.out.bw
              have hcall := level_any wr A M c caps D k d fs (some ⟨g6, 0, none⟩) k k vs (some ⟨g7, 0, none⟩) k k bs j s (HA.out.below hwb) (HD.out.below hwb) (HW.out.q.fr.rd) HW.out.b.rd (by rw [HL.out]; exact HW.out.rv) HM.out.symm HN.out.symm HW.out.lv.symm HW.out.lb.symm (by rw [HN.out]; exact h14) (by rw [HM.out]; exact hjM) (by
                obtain ⟨D0, hD0⟩ := HSM.out
                rw [HL.out, HCP.out]
                exact hD0.lvs (by rw [HLEN.out]; exact h14) _ (HCB.out j hjM))
              rw [HL.out, HCP.out, HN.out] at hcall
              have hsome := lev_isSome (cp := cp) (l := l) (s := s) (k := (j : Int))
              rw [HLEN.out] at hsome
              rw [hsome] at hcall
              obtain ⟨b, hb⟩ : ∃ b, (lev cp l s (j : Int)).isSome = b := ⟨_, rfl⟩
              rw [hb] at hcall
              obtain ⟨fb, hfb⟩ : ∃ fb, (lowK cp l s j).isSome = fb := ⟨_, rfl⟩
              rw [hfb]
              have HCALL := Lib.hid hcall
              have HB := Lib.hid hb
              have HFB := Lib.hid hfb
              clear hsome hcall hb hfb
              go_wp2_with fail
              refine HCALL.out.mono ?_
              rintro e wn ⟨x, rfl, hx, okx, bb⟩
              have HX : Hid (∀ q, lev cp l s (j : Int) = some q → Vq x q) := Lib.hid (fun q hq => (hx q hq).vq)
              have HW1 := Lib.hid (HW.out.below bb HW.out.bw.size)
              have HL1 := Lib.hid (HLW.out.below bb)
              clear HCALL hx HW HLW bb hwb
              go_upto_region 18 with fail
              have a14 := (fa_alloc okx).1
              have bb := (fa_alloc okx).2
              have HW := Lib.hid (HW1.out.below bb HW1.out.bw.size)
              have HLW := Lib.hid (HL1.out.below bb)
              have d14 : g12 < wn.heap.size := (HL1.out.ha.form.2.2 _ rfl).2
              clear HW1 HL1 bb okx
              generalize (wn.alloc (.cells #[.bool x.b, .slice x.A x.xs.length x.c, .slice x.D x.ys.length x.d] 41)) = wm at a14 HW HLW ⊢
              generalize wn.heap.size = g14 at a14 d14 ⊢
              have n14b : ¬ g11 = g14 := by omega
              have n14c : ¬ g12 = g14 := by omega
              have n149 : ¬ g9 = g14 := by omega
              obtain ⟨c0, c1, c2⟩ := HLW.out.le.cells j (by rw [HLW.out.ll]; exact hjM)
              have f0 := HLW.out.le.free (j * 3)
              have f1 := HLW.out.le.free (j * 3 + 1)
              have f2 := HLW.out.le.free (j * 3 + 2)
              have e0 := HLW.out.ha.cell j (by rw [HLW.out.hl]; exact hjM)
              have e1 := HLW.out.ha.free j
              have ci0 := a14.c0
              have ci1 := a14.c1
              have ci2 := a14.c2
              go_upto_region 21 with fail
              have h2 := HLW.out.level (x := x) (b := b) n9b n9c nbc a14.ok HX.out HB.out.symm
              have k11 := HLW.out.le.blk
              have hx14 := a14.farQ (i := j * 3) (j := j * 3 + 1) (k := j * 3 + 2) (v0 := .bool x.b) (v1 := .slice x.A x.xs.length x.c) (v2 := .slice x.D x.ys.length x.d) k11 n14b
              have hw14 := HW.out.far3 (i := j * 3) (j := j * 3 + 1) (k := j * 3 + 2) (v0 := .bool x.b) (v1 := .slice x.A x.xs.length x.c) (v2 := .slice x.D x.ys.length x.d) k11 n6b n7b (by omega)
              have k12 := bool_blk (HLW.out.ha.far3 (i := j * 3) (j := j * 3 + 1) (k := j * 3 + 2) (v0 := .bool x.b) (v1 := .slice x.A x.xs.length x.c) (v2 := .slice x.D x.ys.length x.d) (off_row ncb)) HLW.out.hl.symm
              replace hx14 := hx14.far1 (k := j) (v := .bool b) k12 n14c
              replace hw14 := hw14.far1 (k := j) (v := .bool b) k12 n6c n7c (by omega)
              clear a14 HW HLW c0 c1 c2 f0 f1 f2 e0 e1 ci0 ci1 ci2 k11 k12
              generalize ((((wm.setCell ⟨g11, j * 3, none⟩ (.bool x.b)).setCell ⟨g11, j * 3 + 1, none⟩ (.slice x.A x.xs.length x.c)).setCell ⟨g11, j * 3 + 2, none⟩ (.slice x.D x.ys.length x.d)).setCell ⟨g12, j, none⟩ (.bool b)) = wq at *
              have HW := Lib.hid hw14
              have HLW := Lib.hid h2
              have HA14 := Lib.hid hx14
              clear hw14 h2 hx14
              cases b with
              | false =>
                have HLV : Hid (lev cp l s (j : Int) = none) := Lib.hid (by have := HB.out; simpa using this)
                clear HB
                go_wp2_with fail
                go_roundw
                case rel =>
                  have hl := HLW.out
                  rw [← lowK_none HLV.out] at hl
                  exact ⟨j + 1, _, _, _, by omega, by go_num, by rw [lowK_none HLV.out, HFB.out], hl, HW.out⟩
                case measure => simp [intOf]; omega
              | true =>
                obtain ⟨q, hq⟩ : ∃ q, lev cp l s (j : Int) = some q := Option.isSome_iff_exists.1 HB.out
                have HLV := Lib.hid hq
                have HXQ := Lib.hid (HX.out q hq)
                clear HB hq HX
                cases fb with
                | false =>
                  have HLK : Hid (lowK cp l s j = none) := Lib.hid (by have := HFB.out; simpa using this)
                  clear HFB
                  have ci0 := HA14.out.c0
                  have ci1 := HA14.out.c1
                  have ci2 := HA14.out.c2
                  have tk := HLW.out.lo.bk
                  obtain ⟨k0, k1, k2, kf0, kf1, kf2, klt, kb⟩ := tk
                  clear kb
                  go_wp2_with fail
                  go_roundw
                  case rel =>
                    have hl := HLW.out.lower nb9 nc9 HA14.out.ok HXQ.out
                    rw [← lowK_first HLV.out HLK.out] at hl
                    exact ⟨j + 1, _, _, _, by omega, by go_num, by rw [lowK_first HLV.out HLK.out]; rfl, hl, HW.out.far3 HLW.out.lo.blk n69 n79 (by omega)⟩
                  case measure => simp [intOf]; omega
                | true =>
                  obtain ⟨y, hy⟩ : ∃ y, lowK cp l s j = some y := Option.isSome_iff_exists.1 HFB.out
                  have HLK := Lib.hid hy
                  have HYQ := Lib.hid (HLW.out.lq y hy)
                  clear HFB hy
                  have ci0 := HA14.out.c0
                  have ci1 := HA14.out.c1
                  have ci2 := HA14.out.c2
                  have tk := HLW.out.lo.bk
                  obtain ⟨k0, k1, k2, kf0, kf1, kf2, klt, kb⟩ := tk
                  clear kb
                  obtain ⟨z, hz⟩ : ∃ z, cmpQ q y = z := ⟨_, rfl⟩
                  have HZ := Lib.hid hz
                  clear hz
                  by_cases hqy : q < y
                  · have hz0 : z = -1 := by rw [← HZ.out]; exact cmpQ_lt hqy
                    subst hz0
                    have HQY := Lib.hid hqy
                    clear hqy
                    go_wp2_with fail
                    refine (compare_any wq x xl q y (-1) (HXQ.out.nm HA14.out.ok) (HYQ.out.nm HLW.out.lo.ok) HZ.out).mono ?_
                    rintro e wn ⟨rfl, bb⟩
                    have HW1 := Lib.hid (HW.out.below bb HW.out.bw.size)
                    have HL1 := Lib.hid (HLW.out.below bb)
                    have HA1 := Lib.hid (HA14.out.below bb)
                    clear k0 k1 k2 kf0 kf1 kf2 klt
                    clear ci0 ci1 ci2 HW HLW HA14 bb
                    have ci0 := HA1.out.c0
                    have ci1 := HA1.out.c1
                    have ci2 := HA1.out.c2
                    have tk := HL1.out.lo.bk
                    obtain ⟨k0, k1, k2, kf0, kf1, kf2, klt, kb⟩ := tk
                    clear kb
                    go_wp2_with fail
                    go_roundw
                    case rel =>
                      have hl := HL1.out.lower nb9 nc9 HA1.out.ok HXQ.out
                      rw [← lowK_less HLV.out HLK.out HQY.out] at hl
                      exact ⟨j + 1, _, _, _, by omega, by go_num, by rw [lowK_less HLV.out HLK.out HQY.out]; rfl, hl, HW1.out.far3 HL1.out.lo.blk n69 n79 (by omega)⟩
                    case measure => simp [intOf]; omega
                  · have hz0 : 0 ≤ z := by
                      rw [← HZ.out]
                      rcases cmpQ_cases q y with ⟨h1, _⟩ | ⟨_, h2⟩ | ⟨_, h2⟩
                      · exact absurd h1 hqy
                      · rw [h2]; omega
                      · rw [h2]; omega
                    have hz1 : decide (z < 0) = false := decide_eq_false (by omega)
                    have HQY : Hid (¬ q < y) := hqy
                    clear hqy
                    go_wp2_with fail
                    refine (compare_any wq x xl q y z (HXQ.out.nm HA14.out.ok) (HYQ.out.nm HLW.out.lo.ok) HZ.out).mono ?_
                    rintro e wn ⟨rfl, bb⟩
                    go_wp2_with fail
                    go_roundw
                    case rel =>
                      have hl := HLW.out.below bb
                      rw [HLK.out, ← lowK_keep HLV.out HLK.out HQY.out] at hl
                      exact ⟨j + 1, _, _, _, by omega, by go_num, by rw [lowK_keep HLV.out HLK.out HQY.out]; rfl, hl, HW.out.below bb HW.out.bw.size⟩
                    case measure => simp [intOf]; omega
              --D}
            · obtain rfl : j = M := by omega
              clear hj hjM
              go_wp2_with fail
              go_loopw [10, 101] (fun fv i wr => ∃ (i' : Nat) (xl : Fx), i' ≤ k ∧ i = .int .i64 i' ∧ fv = .bool (lowF cp l s j i').isSome ∧ LW w.heap.size j wr g9 g11 g12 (fun i => lev cp l s (i : Int)) xl (lowF cp l s j i') lv hs j ∧ RW w.heap.size k w wr g6 g7 l s vs bs) (fun _ i _ => k - (intOf i).toNat)
              case atStart => exact ⟨0, xl, by omega, rfl, rfl, HLW.out, HW.out⟩
              case round =>
                clear HLW HW
                obtain ⟨i', xl, hi', rfl, rfl, L, W⟩ := hrel
                have HLW := Lib.hid L
                have HW := Lib.hid W
                clear L W
                by_cases hik : i' < k
                · --D{
                  have hW := HD.out.below HW.out.bw
                  obtain ⟨ad, rfl, _, hcc⟩ := hW.rd (by rw [HN.out]; omega)
                  obtain ⟨hc0, hc1⟩ := hcc i' (by rw [HN.out]; exact hik)
                  have hgl := (fl_get (fs := fs) (k := i') (by rw [HN.out]; exact hik)).2
                  obtain ⟨x, hx⟩ : ∃ x, fs[i']'(by rw [HN.out]; exact hik) = x := ⟨_, rfl⟩
                  rw [hx] at hc0 hc1 hgl
                  rw [HL.out] at hgl
                  have HGL := Lib.hid hgl
                  have hxm := HLM.out i' (by rw [HLEN.out]; exact hik)
                  rw [hgl] at hxm
                  have HXM := Lib.hid hxm
                  clear hcc hx hW hgl hxm
                  obtain ⟨fb, hfb⟩ : ∃ fb, (lowF cp l s j i').isSome = fb := ⟨_, rfl⟩
                  rw [hfb]
                  have HFB := Lib.hid hfb
                  clear hfb
                  go_upto_region 27 with fail
                  have fb0 := (fb_alloc wr x 48).1
                  have bb := (fb_alloc wr x 48).2
                  have HW1 := Lib.hid (HW.out.below bb HW.out.bw.size)
                  have HL1 := Lib.hid (HLW.out.below bb)
                  clear hc0 hc1 HW HLW bb
                  generalize (wr.alloc (.cells #[.slice x.A x.ls.length x.c, .int .i64 x.m] 48)) = wx at fb0 HW1 HL1 ⊢
                  have fc0 := fb0.c0
                  have fc1 := fb0.c1
                  go_wp2_with fail
                  refine (whole_any wx x.m (by have := HXM.out; omega) (by have := HXM.out; omega)).mono ?_
                  rintro e wn ⟨y, rfl, _, n1, bb⟩
                  have HW2 := Lib.hid (HW1.out.below bb HW1.out.bw.size)
                  have HL2 := Lib.hid (HL1.out.below bb)
                  have HYQ := Lib.hid n1.vq
                  have oky := n1.ok
                  clear n1 HW1 HL1 bb fc0 fc1 fb0
                  go_upto_region 28 with fail
                  have a19 := (fa_alloc oky).1
                  have bb := (fa_alloc oky).2
                  have HW := Lib.hid (HW2.out.below bb HW2.out.bw.size)
                  have HLW := Lib.hid (HL2.out.below bb)
                  clear HW2 HL2 bb oky
                  generalize (wn.alloc (.cells #[.bool y.b, .slice y.A y.xs.length y.c, .slice y.D y.ys.length y.d] 41)) = wm at a19 HW HLW ⊢
                  generalize wn.heap.size = g19 at a19 ⊢
                  have HA19 := Lib.hid a19
                  clear a19
                  have hkb : i' < bs.length := by rw [HW.out.lb]; exact hik
                  have hbk := HW.out.b.cell i' hkb
                  have hba : s.a.getD i' false = bs[i'] := by rw [← HW.out.bs, getD_lt _ _ _ hkb]
                  obtain ⟨b1, hb1⟩ : ∃ b1, bs[i'] = b1 := ⟨_, rfl⟩
                  rw [hb1] at hbk hba
                  have HBA := Lib.hid hba
                  clear hb1 hba
                  cases b1 with
                  | false =>
                    go_wp2_with fail
                    go_roundw
                    case rel => exact ⟨i' + 1, xl, by omega, by go_num, by rw [lowF_skip HBA.out, HFB.out], by rw [lowF_skip HBA.out]; exact HLW.out, HW.out⟩
                    case measure => simp [intOf]; omega
                  | true =>
                    cases fb with
                    | false =>
                      have HLK : Hid (lowF cp l s j i' = none) := Lib.hid (by have := HFB.out; simpa using this)
                      clear HFB
                      have ci0 := HA19.out.c0
                      have ci1 := HA19.out.c1
                      have ci2 := HA19.out.c2
                      have tk := HLW.out.lo.bk
                      obtain ⟨k0, k1, k2, kf0, kf1, kf2, klt, kb⟩ := tk
                      clear kb
                      go_wp2_with fail
                      go_roundw
                      case rel =>
                        have hl := HLW.out.lower nb9 nc9 HA19.out.ok HYQ.out
                        rw [← HGL.out, ← lowF_first HBA.out HLK.out] at hl
                        exact ⟨i' + 1, y, by omega, by go_num, by rw [lowF_first HBA.out HLK.out]; rfl, hl, HW.out.far3 HLW.out.lo.blk n69 n79 (by omega)⟩
                      case measure => simp [intOf]; omega
                    | true =>
                      obtain ⟨p, hp⟩ : ∃ p, lowF cp l s j i' = some p := Option.isSome_iff_exists.1 HFB.out
                      have HLK := Lib.hid hp
                      have HPQ := Lib.hid (HLW.out.lq p hp)
                      clear HFB hp
                      have ci0 := HA19.out.c0
                      have ci1 := HA19.out.c1
                      have ci2 := HA19.out.c2
                      have tk := HLW.out.lo.bk
                      obtain ⟨k0, k1, k2, kf0, kf1, kf2, klt, kb⟩ := tk
                      clear kb
                      obtain ⟨z, hz⟩ : ∃ z, cmpQ (x.m : Rat) p = z := ⟨_, rfl⟩
                      have HZ := Lib.hid hz
                      clear hz
                      by_cases hqy : (x.m : Rat) < p
                      · have hz0 : z = -1 := by rw [← HZ.out]; exact cmpQ_lt hqy
                        subst hz0
                        have HQY : Hid ((lmA l i' : Rat) < p) := Lib.hid (by rw [HGL.out]; exact hqy)
                        clear hqy
                        go_wp2_with fail
                        refine (compare_any wm y xl (x.m : Rat) p (-1) (HYQ.out.nm HA19.out.ok) (HPQ.out.nm HLW.out.lo.ok) HZ.out).mono ?_
                        rintro e wn ⟨rfl, bb⟩
                        have HW1 := Lib.hid (HW.out.below bb HW.out.bw.size)
                        have HL1 := Lib.hid (HLW.out.below bb)
                        have HA1 := Lib.hid (HA19.out.below bb)
                        clear k0 k1 k2 kf0 kf1 kf2 klt
                        clear ci0 ci1 ci2 HW HLW HA19 bb hbk
                        have ci0 := HA1.out.c0
                        have ci1 := HA1.out.c1
                        have ci2 := HA1.out.c2
                        have tk := HL1.out.lo.bk
                        obtain ⟨k0, k1, k2, kf0, kf1, kf2, klt, kb⟩ := tk
                        clear kb
                        go_wp2_with fail
                        go_roundw
                        case rel =>
                          have hl := HL1.out.lower nb9 nc9 HA1.out.ok HYQ.out
                          rw [← HGL.out, ← lowF_less HBA.out HLK.out HQY.out] at hl
                          exact ⟨i' + 1, y, by omega, by go_num, by rw [lowF_less HBA.out HLK.out HQY.out]; rfl, hl, HW1.out.far3 HL1.out.lo.blk n69 n79 (by omega)⟩
                        case measure => simp [intOf]; omega
                      · have hz0 : 0 ≤ z := by
                          rw [← HZ.out]
                          rcases cmpQ_cases (x.m : Rat) p with ⟨h1, _⟩ | ⟨_, h2⟩ | ⟨_, h2⟩
                          · exact absurd h1 hqy
                          · rw [h2]; omega
                          · rw [h2]; omega
                        have hz1 : decide (z < 0) = false := decide_eq_false (by omega)
                        have HQY : Hid (¬ (lmA l i' : Rat) < p) := Lib.hid (by rw [HGL.out]; exact hqy)
                        clear hqy
                        go_wp2_with fail
                        refine (compare_any wm y xl (x.m : Rat) p z (HYQ.out.nm HA19.out.ok) (HPQ.out.nm HLW.out.lo.ok) HZ.out).mono ?_
                        rintro e wn ⟨rfl, bb⟩
                        go_wp2_with fail
                        go_roundw
                        case rel =>
                          have hl := HLW.out.below bb
                          rw [HLK.out, ← lowF_keep HBA.out HLK.out HQY.out] at hl
                          exact ⟨i' + 1, xl, by omega, by go_num, by rw [lowF_keep HBA.out HLK.out HQY.out]; rfl, hl, HW.out.below bb HW.out.bw.size⟩
                        case measure => simp [intOf]; omega
                  --D}
                · obtain rfl : i' = k := by omega
                  clear hi' hik
                  obtain ⟨q, hlow⟩ := low_some (cp := cp) (l := l) (s := s) (n := j) (by obtain ⟨D0, hD0⟩ := HSM.out; exact hD0.la) HT2.out
                  have hq' : lowF cp l s j i' = some q := by rw [← HLEN.out]; exact hlow
                  have HLOW := Lib.hid hlow
                  rw [hq', Option.isSome_some]
                  rw [hq'] at HLW
                  have HLQ := Lib.hid (HLW.out.lq q rfl)
                  have HLA : Hid (s.r.length = l.length ∧ s.a.length = l.length) := Lib.hid (by obtain ⟨D0, hD0⟩ := HSM.out; exact ⟨hD0.lr, hD0.la⟩)
                  clear hlow hq'
                  go_wp2_with fail
                  go_loopw [127] (fun i wr => ∃ (t : Nat) (vs : List Fx) (bs : List Bool), t ≤ i' ∧ i = .int .i64 t ∧ LW w.heap.size j wr g9 g11 g12 (fun i => lev cp l s (i : Int)) xl (some q) lv hs j ∧ RW w.heap.size i' w wr g6 g7 l (partR cp l s q t) vs bs) (fun i _ => i' - (intOf i).toNat)
                  case atStart => exact ⟨0, vs, bs, by omega, rfl, HLW.out, HW.out⟩
                  case round =>
                    clear HLW HW
                    obtain ⟨t, vs, bs, hti, rfl, L, W⟩ := hrel
                    have HLW := Lib.hid L
                    have HW := Lib.hid W
                    clear L W
                    by_cases htk : t < i'
                    · have hW := HD.out.below HW.out.bw
                      obtain ⟨ad, rfl, _, hcc⟩ := hW.rd (by rw [HN.out]; omega)
                      obtain ⟨hc0, hc1⟩ := hcc t (by rw [HN.out]; exact htk)
                      have hok := hW.ok _ (List.getElem_mem (show t < fs.length by rw [HN.out]; exact htk))
                      have hgl := fl_get (fs := fs) (k := t) (by rw [HN.out]; exact htk)
                      obtain ⟨x, hx⟩ : ∃ x, fs[t]'(by rw [HN.out]; exact htk) = x := ⟨_, rfl⟩
                      rw [hx] at hc0 hc1 hgl hok
                      rw [HL.out] at hgl
                      have HGL := Lib.hid hgl
                      have hxm := HLM.out t (by rw [HLEN.out]; exact htk)
                      rw [hgl.2] at hxm
                      have HXM := Lib.hid hxm
                      clear hcc hx hW hgl hxm
                      go_upto_region 34 with fail
                      have fb0 := (fb_alloc wr x 48).1
                      have bb := (fb_alloc wr x 48).2
                      have HIS := Lib.hid (hok.below bb).is
                      have HW1 := Lib.hid (HW.out.below bb HW.out.bw.size)
                      have HL1 := Lib.hid (HLW.out.below bb)
                      clear hc0 hc1 HW HLW bb hok
                      generalize (wr.alloc (.cells #[.slice x.A x.ls.length x.c, .int .i64 x.m] 48)) = wm at fb0 HW1 HL1 HIS ⊢
                      generalize wr.heap.size = gF at fb0 ⊢
                      have HW := Lib.hid HW1.out
                      have HLW := Lib.hid HL1.out
                      have HFB := Lib.hid fb0
                      clear HW1 HL1 fb0
                      have hkb : t < bs.length := by rw [HW.out.lb]; exact htk
                      have hbk := HW.out.b.cell t hkb
                      have hba : s.a.getD t false = bs[t] := by
                        rw [← partR_self (cp := cp) (q := q) HLA.out.1 HLA.out.2 (i := t) (by rw [HLEN.out]; exact htk), ← HW.out.bs, getD_lt _ _ _ hkb]
                      obtain ⟨b1, hb1⟩ : ∃ b1, bs[t] = b1 := ⟨_, rfl⟩
                      rw [hb1] at hbk hba
                      have HBA := Lib.hid hba
                      clear hb1 hba
                      cases b1 with
                      | false =>
                        go_wp2_with fail
                        go_roundw
                        case rel => exact ⟨t + 1, vs, bs, by omega, by go_num, HLW.out, by rw [partR_skip (fun h => by rw [HBA.out] at h; exact absurd h.1 (by simp))]; exact HW.out⟩
                        case measure => simp [intOf]; omega
                      | true =>
                        go_upto_region 35 with fail
                        clear hbk
                        obtain ⟨z, hz⟩ : ∃ z, cmpQ (x.m : Rat) q = z := ⟨_, rfl⟩
                        have HZ := Lib.hid hz
                        clear hz
                        go_cut [22] (fun s22 wx => s22 = .bool (z == 0) ∧ Below wm.heap.size wm wx)
                        case first =>
                          --D{
                          refine wp_region_held_drew (S := fun w' => w'.cell? ⟨gF, 1, none⟩ = some (.int .i64 x.m) ∧ w'.cell? ⟨g9, 0, none⟩ = some (.bool xl.b) ∧ w'.cell? ⟨g9, 1, none⟩ = some (.slice xl.A xl.xs.length xl.c) ∧ w'.cell? ⟨g9, 2, none⟩ = some (.slice xl.D xl.ys.length xl.d)) (by kernel_rfl) ⟨(HFB.out.below ((Below.refl wm.heap.size wm).drew)).c1, (HLW.out.lo.below ((Below.refl wm.heap.size wm).drew)).c0, (HLW.out.lo.below ((Below.refl wm.heap.size wm).drew)).c1, (HLW.out.lo.below ((Below.refl wm.heap.size wm).drew)).c2⟩ (fun hHeld => ?_)
                          have bz := (Below.refl wm.heap.size wm).drew
                          generalize wm.drew = wd at *
                          refine tkw 0 (.pointer (some ⟨gF, 1, none⟩)) rfl (by kernel_rfl) (by kernel_rfl) (by kernel_rfl) (fun _ _ _ h => h) ⟨by rfl, ?_⟩ (by assumption) ?_
                          ·intro w hSw; go_simp; (try with_reducible rfl)
                          try simp only [Act.put, tzD]
                          refine tkw 1 (.int .i64 x.m) rfl (by kernel_rfl) (by kernel_rfl) (by kernel_rfl) (fun _ _ _ h => h) ⟨by rfl, ?_⟩ (by assumption) ?_
                          ·intro w hSw; (try dsimp only at hSw); obtain ⟨s0, _, _, _⟩ := hSw; go_simp; (try with_reducible rfl)
                          try simp only [Act.put]
                          refine tkw 3 (xl.val) rfl (by kernel_rfl) (by kernel_rfl) (by kernel_rfl) (fun _ _ _ h => h) ⟨by rfl, ?_⟩ (by assumption) ?_
                          ·intro w hSw; (try dsimp only at hSw); obtain ⟨_, s0, s1, s2⟩ := hSw; go_simp; (try with_reducible rfl)
                          try simp only [Act.put]
                          refine wpAnyH_ready (rs := [2]) (by kernel_rfl) (by simp) ?_
                          refine AllReadyH.cons rfl (fun K hK => ?_) ?_
                          ·go_simp
                           go_at_call 38
                           refine (whole_any wd x.m (by have := HXM.out; omega) (by have := HXM.out; omega)).mono ?_
                           rintro e wd ⟨y, rfl, _, n4, bb⟩
                           try replace n4 := n4.below bb
                           replace bz := below_on bz bb bz.size
                           clear bb
                           refine hK.out _ _ ⟨(HFB.out.below bz).c1, (HLW.out.lo.below bz).c0, (HLW.out.lo.below bz).c1, (HLW.out.lo.below bz).c2⟩ (fun hHeld => ?_)
                           clear hK K
                           try simp only [Act.put, tzD, tzE, tzF]
                           refine wpAnyH_ready (rs := [4]) (by kernel_rfl) (by simp) ?_
                           refine AllReadyH.cons rfl (fun K hK => ?_) ?_
                           ·go_simp
                            go_at_call 41
                            refine (compare_any wd y xl (x.m : Rat) q z n4 (HLQ.out.nm (HLW.out.lo.ok.below bz)) HZ.out).mono ?_
                            rintro e wd ⟨rfl, bb⟩
                            clear n4
                            try replace n4 := n4.below bb
                            replace bz := below_on bz bb bz.size
                            clear bb
                            refine hK.out _ _ ⟨(HFB.out.below bz).c1, (HLW.out.lo.below bz).c0, (HLW.out.lo.below bz).c1, (HLW.out.lo.below bz).c2⟩ (fun hHeld => ?_)
                            clear hK K
                            try simp only [Act.put, tzD, tzE, tzF]
                            refine tkw 5 (.bool (z == 0)) rfl (by kernel_rfl) (by kernel_rfl) (by kernel_rfl) (fun _ _ _ h => h) ⟨by rfl, ?_⟩ (by assumption) ?_
                            ·intro w hSw; go_simp; (try with_reducible rfl)
                            try simp only [Act.put, tzD]
                            refine wpAnyH_ready (rs := [6]) (by kernel_rfl) (by simp) ?_
                            refine AllReadyH.cons rfl (fun K hK => ?_) ?_
                            ·go_simp
                             refine hK.out _ _ ⟨(HFB.out.below bz).c1, (HLW.out.lo.below bz).c0, (HLW.out.lo.below bz).c1, (HLW.out.lo.below bz).c2⟩ (fun hHeld => ?_)
                             clear hK K
                             try simp only [Act.put, tzD, tzE, tzF]
                             refine wpAnyH_done (by kernel_rfl) ?_ _
                             go_wp2_with fail
                             go_meet
                             case rel => exact ⟨rfl, bz⟩
                            exact AllReadyH.nil
                           exact AllReadyH.nil
                          exact AllReadyH.nil
                          --D}
                        case rest =>
                          obtain ⟨rfl, bb⟩ := hcut
                          have HB0 := Lib.hid bb
                          have HZ2 := Lib.hid (cmp_zero HZ.out)
                          clear bb HZ
                          have fc0 := (HFB.out.below HB0.out).c0
                          obtain ⟨s0, hs0⟩ : ∃ s0, (z == 0) = s0 := ⟨_, rfl⟩
                          rw [hs0] at HZ2 ⊢
                          have his := (HIS.out.below HB0.out)
                          have hxl := his.len
                          clear hs0 his
                          go_wp2_with fail
                          go_loopw [22, 146] (fun sv jv wz => ∃ (u : Nat) (st : Bool), u ≤ x.ls.length ∧ jv = .int .i64 u ∧ sv = .bool st ∧ st = hitQ cp l s q (x.m : Rat) (x.ls.take u) ∧ Below wm.heap.size wm wz) (fun _ jv _ => x.ls.length - (intOf jv).toNat)
                          case atStart => exact ⟨0, s0, by omega, rfl, rfl, by rw [HZ2.out, hitQ_nil], HB0.out⟩
                          case round =>
                            clear HB0 HZ2 fc0
                            obtain ⟨u, st, hu, rfl, rfl, hst, bz⟩ := hrel
                            have HST := Lib.hid hst
                            have HBZ := Lib.hid bz
                            clear hst bz
                            by_cases hux : u < x.ls.length
                            · obtain ⟨ax, hax, _, hcx⟩ := (HIS.out.below HBZ.out).at u hux
                              have hmem : x.ls[u] ∈ lkA l t := by rw [HGL.out.1]; exact List.getElem_mem hux
                              have hlk := HOK.out.lk t (by rw [HLEN.out]; exact htk) _ hmem
                              obtain ⟨e0, he0⟩ : ∃ e0 : Nat, x.ls[u] = (e0 : Int) := ⟨(x.ls[u]).toNat, by omega⟩
                              have HNXT : Hid (hitQ cp l s q (x.m : Rat) (x.ls.take (u + 1)) = (st || decide (lev cp l s (e0 : Int) = some q))) := Lib.hid (by rw [hitQ_next _ _ _ _ _ hux, he0, HST.out])
                              rw [he0] at hcx hlk
                              have hej : e0 < j := by omega
                              have hex : e0 < hs.length := by rw [HLW.out.hl]; exact hej
                              have hlx : e0 < lv.length := by rw [HLW.out.ll]; exact hej
                              have hhq := HLW.out.hq e0 hex hej
                              have HLV := Lib.hid (HLW.out.lvq e0 hlx hej)
                              obtain ⟨hb0, hhb⟩ : ∃ hb0, hs[e0] = hb0 := ⟨_, rfl⟩
                              obtain ⟨xv, hxv⟩ : ∃ xv, lv[e0] = xv := ⟨_, rfl⟩
                              rw [hhb] at hhq
                              rw [hxv] at HLV
                              have HHC2 : Hid (∀ w', Below wr.heap.size wr w' → w'.cell? ⟨g12, e0, none⟩ = some (.bool hb0)) := Lib.hid (fun w' hb => by
                                have := (HLW.out.ha.below (below_on HBZ.out hb HBZ.out.size)).cell e0 hex
                                rw [hhb] at this; exact this)
                              have HHV2 : Hid (∀ w', Below wr.heap.size wr w' → w'.cell? ⟨g11, e0 * 3, none⟩ = some (.bool xv.b) ∧ w'.cell? ⟨g11, e0 * 3 + 1, none⟩ = some (.slice xv.A xv.xs.length xv.c) ∧ w'.cell? ⟨g11, e0 * 3 + 2, none⟩ = some (.slice xv.D xv.ys.length xv.d)) := Lib.hid (fun w' hb => by
                                have := (HLW.out.le.below (below_on HBZ.out hb HBZ.out.size)).cells e0 hlx
                                rw [hxv] at this; exact this)
                              have HXO : Hid (xv.ok wr) := Lib.hid ((HLW.out.le.below HBZ.out).ok xv (by rw [← hxv]; exact List.getElem_mem hlx))
                              have HHQ := Lib.hid hhq
                              clear hex hlx hhb hxv hhq hmem hlk he0
                              go_upto_region 39 with fail
                              clear hcx
                              clear hax
                              have HLW0 := HLW
                              clear HLW
                              have HLW := Lib.hid (HLW0.out.below HBZ.out)
                              cases st with
                              | true =>
                                have HP : Hid (true = hitQ cp l s q (x.m : Rat) (x.ls.take (u + 1))) := Lib.hid (by rw [HNXT.out]; rfl)
                                refine wp_region_held_drew (S := fun w' => True) (by kernel_rfl) trivial (fun hHeld => ?_)
                                have bz := (Below.refl wr.heap.size wr).drew
                                generalize wr.drew = wd at *
                                refine tkw 0 (.bool true) rfl (by kernel_rfl) (by kernel_rfl) (by kernel_rfl) (fun _ _ _ h => h) ⟨by rfl, ?_⟩ (by assumption) ?_
                                ·intro w hSw; go_simp; (try with_reducible rfl)
                                try simp only [Act.put]
                                try simp only [tzD]
                                refine tkw 1 (.bool true) rfl (by kernel_rfl) (by kernel_rfl) (by kernel_rfl) (fun _ _ _ h => h) ⟨by rfl, ?_⟩ (by assumption) ?_
                                ·intro w hSw; go_simp; (try with_reducible rfl)
                                try simp only [Act.put]
                                try simp only [tzD, tzE, tzF]
                                refine tku 2 rfl (by kernel_rfl) (by kernel_rfl) (by kernel_rfl) (fun _ _ _ h => h) (by kernel_rfl) (by assumption) ?_
                                try simp only [Act.put]
                                try simp only [tzD, tzE, tzF]
                                refine tku 3 rfl (by kernel_rfl) (by kernel_rfl) (by kernel_rfl) (fun _ _ _ h => h) (by kernel_rfl) (by assumption) ?_
                                try simp only [Act.put]
                                try simp only [tzD, tzE, tzF]
                                refine tku 4 rfl (by kernel_rfl) (by kernel_rfl) (by kernel_rfl) (fun _ _ _ h => h) (by kernel_rfl) (by assumption) ?_
                                try simp only [Act.put]
                                try simp only [tzD, tzE, tzF]
                                refine tku 5 rfl (by kernel_rfl) (by kernel_rfl) (by kernel_rfl) (fun _ _ _ h => h) (by kernel_rfl) (by assumption) ?_
                                try simp only [Act.put]
                                try simp only [tzD, tzE, tzF]
                                refine tku 6 rfl (by kernel_rfl) (by kernel_rfl) (by kernel_rfl) (fun _ _ _ h => h) (by kernel_rfl) (by assumption) ?_
                                try simp only [Act.put]
                                try simp only [tzD, tzE, tzF]
                                refine tku 7 rfl (by kernel_rfl) (by kernel_rfl) (by kernel_rfl) (fun _ _ _ h => h) (by kernel_rfl) (by assumption) ?_
                                try simp only [Act.put]
                                try simp only [tzD, tzE, tzF]
                                refine tku 8 rfl (by kernel_rfl) (by kernel_rfl) (by kernel_rfl) (fun _ _ _ h => h) (by kernel_rfl) (by assumption) ?_
                                try simp only [Act.put]
                                try simp only [tzD, tzE, tzF]
                                refine tku 9 rfl (by kernel_rfl) (by kernel_rfl) (by kernel_rfl) (fun _ _ _ h => h) (by kernel_rfl) (by assumption) ?_
                                try simp only [Act.put]
                                try simp only [tzD, tzE, tzF]
                                refine tku 10 rfl (by kernel_rfl) (by kernel_rfl) (by kernel_rfl) (fun _ _ _ h => h) (by kernel_rfl) (by assumption) ?_
                                try simp only [Act.put]
                                try simp only [tzD, tzE, tzF]
                                refine tku 11 rfl (by kernel_rfl) (by kernel_rfl) (by kernel_rfl) (fun _ _ _ h => h) (by kernel_rfl) (by assumption) ?_
                                try simp only [Act.put]
                                try simp only [tzD, tzE, tzF]
                                refine tku 12 rfl (by kernel_rfl) (by kernel_rfl) (by kernel_rfl) (fun _ _ _ h => h) (by kernel_rfl) (by assumption) ?_
                                try simp only [Act.put]
                                try simp only [tzD, tzE, tzF]
                                refine tku 13 rfl (by kernel_rfl) (by kernel_rfl) (by kernel_rfl) (fun _ _ _ h => h) (by kernel_rfl) (by assumption) ?_
                                try simp only [Act.put]
                                try simp only [tzD, tzE, tzF]
                                refine tku 14 rfl (by kernel_rfl) (by kernel_rfl) (by kernel_rfl) (fun _ _ _ h => h) (by kernel_rfl) (by assumption) ?_
                                try simp only [Act.put]
                                try simp only [tzD, tzE, tzF]
                                refine tkw 15 (.bool true) rfl (by kernel_rfl) (by kernel_rfl) (by kernel_rfl) (fun _ _ _ h => h) ⟨by rfl, ?_⟩ (by assumption) ?_
                                ·intro w hSw; go_simp; (try with_reducible rfl)
                                try simp only [Act.put]
                                try simp only [tzD, tzE, tzF]
                                refine wpAnyH_ready (rs := [16]) (by kernel_rfl) (by simp) ?_
                                refine AllReadyH.cons rfl (fun K hK => ?_) ?_
                                ·go_simp
                                 refine hK.out _ _ trivial (fun hHeld => ?_)
                                 clear hK K
                                 try simp only [Act.put]
                                 try simp only [tzD, tzE, tzF]
                                 refine wpAnyH_done (by kernel_rfl) ?_ _
                                 go_wp2_with fail
                                 go_roundw
                                 case rel => exact ⟨u + 1, _, by omega, by go_num, rfl, HP.out, below_on HBZ.out bz HBZ.out.size⟩
                                 case measure => simp [intOf]; omega
                                exact AllReadyH.nil
                              | false =>
                                cases hb0 with
                                | false =>
                                  have HP : Hid (false = hitQ cp l s q (x.m : Rat) (x.ls.take (u + 1))) := Lib.hid (by
                                    rw [HNXT.out, decide_eq_false (fun h => by have := HHQ.out; rw [h] at this; cases this)]; rfl)
                                  refine wp_region_held_drew (S := fun w' => w'.cell? ⟨g12, e0, none⟩ = some (.bool false)) (by kernel_rfl) (HHC2.out _ ((Below.refl wr.heap.size wr).drew)) (fun hHeld => ?_)
                                  have bz := (Below.refl wr.heap.size wr).drew
                                  generalize wr.drew = wd at *
                                  refine tkw 0 (.bool false) rfl (by kernel_rfl) (by kernel_rfl) (by kernel_rfl) (fun _ _ _ h => h) ⟨by rfl, ?_⟩ (by assumption) ?_
                                  ·intro w hSw; go_simp; (try with_reducible rfl)
                                  try simp only [Act.put]
                                  try simp only [tzD]
                                  refine tkw 1 (.bool false) rfl (by kernel_rfl) (by kernel_rfl) (by kernel_rfl) (fun _ _ _ h => h) ⟨by rfl, ?_⟩ (by assumption) ?_
                                  ·intro w hSw; go_simp; (try with_reducible rfl)
                                  try simp only [Act.put]
                                  try simp only [tzD, tzE, tzF]
                                  refine tkw 2 (.slice (some ⟨g12, 0, none⟩) j j) rfl (by kernel_rfl) (by kernel_rfl) (by kernel_rfl) (fun _ _ _ h => h) ⟨by kernel_rfl, ?_⟩ (by assumption) ?_
                                  ·intro w hSw; go_simp; (try with_reducible rfl)
                                  try simp only [Act.put]
                                  try simp only [tzD, tzE, tzF]
                                  refine tkw 3 (.int .i64 (e0 : Int)) rfl (by kernel_rfl) (by kernel_rfl) (by kernel_rfl) (fun _ _ _ h => h) ⟨by kernel_rfl, ?_⟩ (by assumption) ?_
                                  ·intro w hSw; go_simp; (try with_reducible rfl)
                                  try simp only [Act.put]
                                  try simp only [tzD, tzE, tzF]
                                  refine tkw 4 (.pointer (some ⟨g12, e0, none⟩)) rfl (by kernel_rfl) (by kernel_rfl) (by kernel_rfl) (fun _ _ _ h => h) ⟨by kernel_rfl, ?_⟩ (by assumption) ?_
                                  ·intro w hSw; go_simp; (try with_reducible rfl)
                                  try simp only [Act.put]
                                  try simp only [tzD, tzE, tzF]
                                  refine tkw 5 (.bool false) rfl (by kernel_rfl) (by kernel_rfl) (by kernel_rfl) (fun _ _ _ h => h) ⟨by kernel_rfl, ?_⟩ (by assumption) ?_
                                  ·intro w hSw; go_simp; (try with_reducible rfl)
                                  try simp only [Act.put]
                                  try simp only [tzD, tzE, tzF]
                                  refine tkw 6 (.bool false) rfl (by kernel_rfl) (by kernel_rfl) (by kernel_rfl) (fun _ _ _ h => h) ⟨by kernel_rfl, ?_⟩ (by assumption) ?_
                                  ·intro w hSw; go_simp; (try with_reducible rfl)
                                  try simp only [Act.put]
                                  try simp only [tzD, tzE, tzF]
                                  refine tku 7 rfl (by kernel_rfl) (by kernel_rfl) (by kernel_rfl) (fun _ _ _ h => h) (by kernel_rfl) (by assumption) ?_
                                  try simp only [Act.put]
                                  try simp only [tzD, tzE, tzF]
                                  refine tku 8 rfl (by kernel_rfl) (by kernel_rfl) (by kernel_rfl) (fun _ _ _ h => h) (by kernel_rfl) (by assumption) ?_
                                  try simp only [Act.put]
                                  try simp only [tzD, tzE, tzF]
                                  refine tku 9 rfl (by kernel_rfl) (by kernel_rfl) (by kernel_rfl) (fun _ _ _ h => h) (by kernel_rfl) (by assumption) ?_
                                  try simp only [Act.put]
                                  try simp only [tzD, tzE, tzF]
                                  refine tku 10 rfl (by kernel_rfl) (by kernel_rfl) (by kernel_rfl) (fun _ _ _ h => h) (by kernel_rfl) (by assumption) ?_
                                  try simp only [Act.put]
                                  try simp only [tzD, tzE, tzF]
                                  refine tku 11 rfl (by kernel_rfl) (by kernel_rfl) (by kernel_rfl) (fun _ _ _ h => h) (by kernel_rfl) (by assumption) ?_
                                  try simp only [Act.put]
                                  try simp only [tzD, tzE, tzF]
                                  refine tku 12 rfl (by kernel_rfl) (by kernel_rfl) (by kernel_rfl) (fun _ _ _ h => h) (by kernel_rfl) (by assumption) ?_
                                  try simp only [Act.put]
                                  try simp only [tzD, tzE, tzF]
                                  refine tku 13 rfl (by kernel_rfl) (by kernel_rfl) (by kernel_rfl) (fun _ _ _ h => h) (by kernel_rfl) (by assumption) ?_
                                  try simp only [Act.put]
                                  try simp only [tzD, tzE, tzF]
                                  refine tkw 14 (.bool false) rfl (by kernel_rfl) (by kernel_rfl) (by kernel_rfl) (fun _ _ _ h => h) ⟨by kernel_rfl, ?_⟩ (by assumption) ?_
                                  ·intro w hSw; go_simp; (try with_reducible rfl)
                                  try simp only [Act.put]
                                  try simp only [tzD, tzE, tzF]
                                  refine tkw 15 (.bool false) rfl (by kernel_rfl) (by kernel_rfl) (by kernel_rfl) (fun _ _ _ h => h) ⟨by rfl, ?_⟩ (by assumption) ?_
                                  ·intro w hSw; go_simp; (try with_reducible rfl)
                                  try simp only [Act.put]
                                  try simp only [tzD, tzE, tzF]
                                  refine wpAnyH_ready (rs := [16]) (by kernel_rfl) (by simp) ?_
                                  refine AllReadyH.cons rfl (fun K hK => ?_) ?_
                                  ·go_simp
                                   refine hK.out _ _ (HHC2.out _ bz) (fun hHeld => ?_)
                                   clear hK K
                                   try simp only [Act.put]
                                   try simp only [tzD, tzE, tzF]
                                   refine wpAnyH_done (by kernel_rfl) ?_ _
                                   go_wp2_with fail
                                   go_roundw
                                   case rel => exact ⟨u + 1, _, by omega, by go_num, rfl, HP.out, below_on HBZ.out bz HBZ.out.size⟩
                                   case measure => simp [intOf]; omega
                                  exact AllReadyH.nil
                                | true =>
                                  obtain ⟨qe, hqe⟩ : ∃ qe, lev cp l s (e0 : Int) = some qe := Option.isSome_iff_exists.1 HHQ.out.symm
                                  obtain ⟨z, hz⟩ : ∃ z, cmpQ qe q = z := ⟨_, rfl⟩
                                  have HZ := Lib.hid hz
                                  have HXV := Lib.hid (HLV.out qe hqe)
                                  have HP : Hid ((z == 0) = hitQ cp l s q (x.m : Rat) (x.ls.take (u + 1))) := Lib.hid (by
                                    rw [cmp_zero hz, HNXT.out, hqe, Bool.false_or]; simp)
                                  clear hqe hz
                                  refine wp_region_held_drew (S := fun w' => w'.cell? ⟨g12, e0, none⟩ = some (.bool true) ∧ (w'.cell? ⟨g11, e0 * 3, none⟩ = some (.bool xv.b) ∧ w'.cell? ⟨g11, e0 * 3 + 1, none⟩ = some (.slice xv.A xv.xs.length xv.c) ∧ w'.cell? ⟨g11, e0 * 3 + 2, none⟩ = some (.slice xv.D xv.ys.length xv.d)) ∧ w'.cell? ⟨g9, 0, none⟩ = some (.bool xl.b) ∧ w'.cell? ⟨g9, 1, none⟩ = some (.slice xl.A xl.xs.length xl.c) ∧ w'.cell? ⟨g9, 2, none⟩ = some (.slice xl.D xl.ys.length xl.d)) (by kernel_rfl) ⟨HHC2.out _ ((Below.refl wr.heap.size wr).drew), HHV2.out _ ((Below.refl wr.heap.size wr).drew), (HLW.out.lo.below ((Below.refl wr.heap.size wr).drew)).c0, (HLW.out.lo.below ((Below.refl wr.heap.size wr).drew)).c1, (HLW.out.lo.below ((Below.refl wr.heap.size wr).drew)).c2⟩ (fun hHeld => ?_)
                                  have bz := (Below.refl wr.heap.size wr).drew
                                  generalize wr.drew = wd at *
                                  refine tkw 0 (.bool false) rfl (by kernel_rfl) (by kernel_rfl) (by kernel_rfl) (fun _ _ _ h => h) ⟨by rfl, ?_⟩ (by assumption) ?_
                                  ·intro w hSw; go_simp; (try with_reducible rfl)
                                  try simp only [Act.put]
                                  try simp only [tzD]
                                  refine tkw 1 (.bool false) rfl (by kernel_rfl) (by kernel_rfl) (by kernel_rfl) (fun _ _ _ h => h) ⟨by rfl, ?_⟩ (by assumption) ?_
                                  ·intro w hSw; go_simp; (try with_reducible rfl)
                                  try simp only [Act.put]
                                  try simp only [tzD, tzE, tzF]
                                  refine tkw 2 (.slice (some ⟨g12, 0, none⟩) j j) rfl (by kernel_rfl) (by kernel_rfl) (by kernel_rfl) (fun _ _ _ h => h) ⟨by kernel_rfl, ?_⟩ (by assumption) ?_
                                  ·intro w hSw; go_simp; (try with_reducible rfl)
                                  try simp only [Act.put]
                                  try simp only [tzD, tzE, tzF]
                                  refine tkw 3 (.int .i64 (e0 : Int)) rfl (by kernel_rfl) (by kernel_rfl) (by kernel_rfl) (fun _ _ _ h => h) ⟨by kernel_rfl, ?_⟩ (by assumption) ?_
                                  ·intro w hSw; go_simp; (try with_reducible rfl)
                                  try simp only [Act.put]
                                  try simp only [tzD, tzE, tzF]
                                  refine tkw 4 (.pointer (some ⟨g12, e0, none⟩)) rfl (by kernel_rfl) (by kernel_rfl) (by kernel_rfl) (fun _ _ _ h => h) ⟨by kernel_rfl, ?_⟩ (by assumption) ?_
                                  ·intro w hSw; go_simp; (try with_reducible rfl)
                                  try simp only [Act.put]
                                  try simp only [tzD, tzE, tzF]
                                  refine tkw 5 (.bool true) rfl (by kernel_rfl) (by kernel_rfl) (by kernel_rfl) (fun _ _ _ h => h) ⟨by kernel_rfl, ?_⟩ (by assumption) ?_
                                  ·intro w hSw; (try dsimp only at hSw); obtain ⟨s0, _⟩ := hSw; go_simp; (try with_reducible rfl)
                                  try simp only [Act.put]
                                  try simp only [tzD, tzE, tzF]
                                  refine tkw 6 (.bool true) rfl (by kernel_rfl) (by kernel_rfl) (by kernel_rfl) (fun _ _ _ h => h) ⟨by kernel_rfl, ?_⟩ (by assumption) ?_
                                  ·intro w hSw; go_simp; (try with_reducible rfl)
                                  try simp only [Act.put]
                                  try simp only [tzD, tzE, tzF]
                                  refine tkw 7 (.slice (some ⟨g11, 0, none⟩) j j) rfl (by kernel_rfl) (by kernel_rfl) (by kernel_rfl) (fun _ _ _ h => h) ⟨by kernel_rfl, ?_⟩ (by assumption) ?_
                                  ·intro w hSw; go_simp; (try with_reducible rfl)
                                  try simp only [Act.put]
                                  try simp only [tzD, tzE, tzF]
                                  refine tkw 8 (.int .i64 (e0 : Int)) rfl (by kernel_rfl) (by kernel_rfl) (by kernel_rfl) (fun _ _ _ h => h) ⟨by kernel_rfl, ?_⟩ (by assumption) ?_
                                  ·intro w hSw; go_simp; (try with_reducible rfl)
                                  try simp only [Act.put]
                                  try simp only [tzD, tzE, tzF]
                                  refine tkw 9 (.pointer (some ⟨g11, e0 * 3, none⟩)) rfl (by kernel_rfl) (by kernel_rfl) (by kernel_rfl) (fun _ _ _ h => h) ⟨by kernel_rfl, ?_⟩ (by assumption) ?_
                                  ·intro w hSw; go_simp; (try with_reducible rfl)
                                  try simp only [Act.put]
                                  try simp only [tzD, tzE, tzF]
                                  refine tkw 10 (xv.val) rfl (by kernel_rfl) (by kernel_rfl) (by kernel_rfl) (fun _ _ _ h => h) ⟨by kernel_rfl, ?_⟩ (by assumption) ?_
                                  ·intro w hSw; (try dsimp only at hSw); obtain ⟨_, ⟨s0, s1, s2⟩, _⟩ := hSw; go_simp; (try with_reducible rfl)
                                  try simp only [Act.put]
                                  try simp only [tzD, tzE, tzF]
                                  refine tkw 11 (xl.val) rfl (by kernel_rfl) (by kernel_rfl) (by kernel_rfl) (fun _ _ _ h => h) ⟨by kernel_rfl, ?_⟩ (by assumption) ?_
                                  ·intro w hSw; (try dsimp only at hSw); obtain ⟨_, _, s0, s1, s2⟩ := hSw; go_simp; (try with_reducible rfl)
                                  try simp only [Act.put]
                                  try simp only [tzD, tzE, tzF]
                                  refine wpAnyH_ready (rs := [12]) (by kernel_rfl) (by simp) ?_
                                  refine AllReadyH.cons rfl (fun K hK => ?_) ?_
                                  ·go_simp
                                   go_at_call 41
                                   refine (compare_any wd xv xl qe q z (HXV.out.nm (HXO.out.below bz)) (HLQ.out.nm (HLW.out.lo.ok.below bz)) HZ.out).mono ?_
                                   rintro e wd ⟨rfl, bb⟩
                                   replace bz := below_on bz bb bz.size
                                   clear bb
                                   refine hK.out _ _ ⟨HHC2.out _ bz, HHV2.out _ bz, (HLW.out.lo.below bz).c0, (HLW.out.lo.below bz).c1, (HLW.out.lo.below bz).c2⟩ (fun hHeld => ?_)
                                   clear hK K
                                   try simp only [Act.put]
                                   try simp only [tzD, tzE, tzF]
                                   refine tkw 13 (.bool (z == 0)) rfl (by kernel_rfl) (by kernel_rfl) (by kernel_rfl) (fun _ _ _ h => h) ⟨by kernel_rfl, ?_⟩ (by assumption) ?_
                                   ·intro w hSw; go_simp; (try with_reducible rfl)
                                   try simp only [Act.put]
                                   try simp only [tzD]
                                   refine tkw 14 (.bool (z == 0)) rfl (by kernel_rfl) (by kernel_rfl) (by kernel_rfl) (fun _ _ _ h => h) ⟨by kernel_rfl, ?_⟩ (by assumption) ?_
                                   ·intro w hSw; go_simp; (try with_reducible rfl)
                                   try simp only [Act.put]
                                   try simp only [tzD, tzE, tzF]
                                   refine tkw 15 (.bool (z == 0)) rfl (by kernel_rfl) (by kernel_rfl) (by kernel_rfl) (fun _ _ _ h => h) ⟨by rfl, ?_⟩ (by assumption) ?_
                                   ·intro w hSw; go_simp; (try with_reducible rfl)
                                   try simp only [Act.put]
                                   try simp only [tzD, tzE, tzF]
                                   refine wpAnyH_ready (rs := [16]) (by kernel_rfl) (by simp) ?_
                                   refine AllReadyH.cons rfl (fun K hK => ?_) ?_
                                   ·go_simp
                                    refine hK.out _ _ ⟨HHC2.out _ bz, HHV2.out _ bz, (HLW.out.lo.below bz).c0, (HLW.out.lo.below bz).c1, (HLW.out.lo.below bz).c2⟩ (fun hHeld => ?_)
                                    clear hK K
                                    try simp only [Act.put]
                                    try simp only [tzD, tzE, tzF]
                                    refine wpAnyH_done (by kernel_rfl) ?_ _
                                    go_wp2_with fail
                                    go_roundw
                                    case rel => exact ⟨u + 1, _, by omega, by go_num, rfl, HP.out, below_on HBZ.out bz HBZ.out.size⟩
                                    case measure => simp [intOf]; omega
                                   exact AllReadyH.nil
                                  exact AllReadyH.nil
                            · obtain rfl : u = x.ls.length := by omega
                              rw [List.take_of_length_le (Nat.le_refl _)] at HST
                              have HSQ : Hid (st = true ↔ stopQ cp l s q t) := Lib.hid (by rw [HST.out, ← HGL.out.1, ← HGL.out.2]; exact hitQ_all)
                              have HW2 := Lib.hid (HW.out.below HBZ.out HW.out.bw.size)
                              have HL2 := Lib.hid (HLW.out.below HBZ.out)
                              clear HW HLW HST
                              cases st with
                              | false =>
                                have HNS : Hid (¬ (s.a.getD t false = true ∧ stopQ cp l s q t)) := Lib.hid (fun h => by have := HSQ.out.2 h.2; cases this)
                                go_wp2_with fail
                                go_roundw
                                case rel => exact ⟨t + 1, vs, bs, by omega, by go_num, HL2.out, by rw [partR_skip HNS.out]; exact HW2.out⟩
                                case measure => simp [intOf]; omega
                              | true =>
                                have HNS : Hid (s.a.getD t false = true ∧ stopQ cp l s q t) := Lib.hid ⟨HBA.out, HSQ.out.1 rfl⟩
                                obtain ⟨c0, c1, c2⟩ := HW2.out.q.cells t (by rw [HW2.out.lv]; exact htk)
                                have f0 := HW2.out.q.free (t * 3)
                                have f1 := HW2.out.q.free (t * 3 + 1)
                                have f2 := HW2.out.q.free (t * 3 + 2)
                                have e0 := HW2.out.b.cell t (by rw [HW2.out.lb]; exact htk)
                                have e1 := HW2.out.b.free t
                                have ci0 := HL2.out.lo.c0
                                have ci1 := HL2.out.lo.c1
                                have ci2 := HL2.out.lo.c2
                                go_wp2_with fail
                                go_roundw
                                case rel =>
                                  have hp := HW2.out.put n67 t false HL2.out.lo.ok HLQ.out
                                  rw [← partR_stop HNS.out] at hp
                                  have h1 := HL2.out.far3 (i := t * 3) (j := t * 3 + 1) (k := t * 3 + 2) (v0 := .bool xl.b) (v1 := .slice xl.A xl.xs.length xl.c) (v2 := .slice xl.D xl.ys.length xl.d) HW2.out.blk6 (by omega) (by omega) (by omega)
                                  have h2 := h1.far1 (k := t) (v := .bool false) (bool_blk (HW2.out.b.far3 (i := t * 3) (j := t * 3 + 1) (k := t * 3 + 2) (v0 := .bool xl.b) (v1 := .slice xl.A xl.xs.length xl.c) (v2 := .slice xl.D xl.ys.length xl.d) (off_row n76)) HW2.out.lb.symm) (by omega) (by omega) (by omega)
                                  exact ⟨t + 1, _, _, by omega, by go_num, h2, hp⟩
                                case measure => simp [intOf]; omega
                    · obtain rfl : t = i' := by omega
                      go_wp2_with fail
                      go_roundg (15 - (r + 1))
                      case rel =>
                        refine ⟨r + 1, vs, bs, by omega, by omega, ?_⟩
                        rw [itR_next (by rw [HS.out]; exact HT2.out) (by rw [HS.out]; exact HLOW.out), HS.out, HLEN.out]
                        exact HW.out
                      case measure => omega
        · have HT : Hid (¬ true ∈ (itR cp l M r).a) := Lib.hid (by rw [← HW.out.bs]; exact ht)
          have HT0 : Hid (decide (true ∈ bs) = false) := Lib.hid (decide_eq_false ht)
          clear ht
          go_wp2_with fail
          refine (contains_b wr _ _ k bs false hrd hbl.symm (by omega) HT0.out).mono ?_
          rintro e wn ⟨rfl, rfl⟩
          clear hrd hbl
          have hq := HW.out.q
          have hvl := HW.out.lv
          have hbw := HW.out.bw
          obtain ⟨R, hR⟩ : ∃ R, ratesM cp l M = R := ⟨_, rfl⟩
          have hvq : ∀ m (h : m < vs.length), Vq vs[m] (R.getD m 0) := fun m hm => by
            rw [← hR, ← itR_rates HOK.out HT.out]; exact HW.out.at_ m hm
          have HR := Lib.hid hR
          have d6 : w.heap.size ≤ g6 := hq.lt.1
          clear HW HT HT0 hR hr hrk
          go_wp2_with fail
          go_loopw [178] (fun i wr => ∃ (t : Nat) (vs : List Fx), t ≤ k ∧ i = .int .i64 t ∧ Qr wr w.heap.size (some ⟨g6, 0, none⟩) vs ∧ vs.length = k ∧ (∀ m (h : m < vs.length), Vq vs[m] (R.getD m 0)) ∧ (∀ m (h : m < vs.length), m < t → Rp vs[m] (R.getD m 0)) ∧ Below w.heap.size w wr) (fun i _ => k - (intOf i).toNat)
          case atStart => exact ⟨0, vs, by omega, rfl, hq, hvl, hvq, fun m _ h => by omega, hbw⟩
          case round =>
            clear hq hvl hbw hvq
            obtain ⟨t, vs, ht, rfl, hq, hvl, hvq, hrp, bw⟩ := hrel
            by_cases htk : t < k
            · obtain ⟨c0, c1, c2⟩ := hq.cells t (by rw [hvl]; exact htk)
              have n1 : Nm wr vs[t] (R.getD t 0) := (hvq t (by rw [hvl]; exact htk)).nm (hq.ok _ (List.getElem_mem _))
              obtain ⟨x1, hx1⟩ : ∃ x1, vs[t]'(by rw [hvl]; exact htk) = x1 := ⟨_, rfl⟩
              rw [hx1] at c0 c1 c2 n1
              have HVQ := Lib.hid hvq
              have HRP := Lib.hid hrp
              have HVL := Lib.hid hvl
              clear hvq hrp hvl hx1
              go_wp2_with fail
              refine (freduce_nm wr x1 _ n1).mono ?_
              rintro e wn ⟨y, rfl, hry, ny, bb⟩
              replace hq := hq.below bb
              replace bw := below_on bw bb bw.size
              have HRY := Lib.hid hry
              clear c0 c1 c2 n1 bb hry
              go_upto_region 49 with fail
              have a26 := (fa_alloc ny.ok).1
              have bb := (fa_alloc ny.ok).2
              have HYQ := Lib.hid ny.vq
              have d26 : g6 < wn.heap.size := hq.lt.2
              replace hq := hq.below bb
              replace bw := below_on bw bb bw.size
              clear ny bb
              generalize (wn.alloc (.cells #[.bool y.b, .slice y.A y.xs.length y.c, .slice y.D y.ys.length y.d] 41)) = wm at a26 hq bw ⊢
              generalize wn.heap.size = g26 at a26 d26 ⊢
              obtain ⟨c0, c1, c2⟩ := hq.cells t (by rw [HVL.out]; exact htk)
              have f0 := hq.free (t * 3)
              have f1 := hq.free (t * 3 + 1)
              have f2 := hq.free (t * 3 + 2)
              have ci0 := a26.c0
              have ci1 := a26.c1
              have ci2 := a26.c2
              go_wp2_with fail
              go_roundw
              case rel =>
                refine ⟨t + 1, vs.set t y, by omega, by go_num, hq.put t a26.ok, by rw [List.length_set]; exact HVL.out, fun m hm => ?_, fun m hm hmt => ?_, q3_below bw d6⟩
                · rw [List.getElem_set]
                  by_cases e : t = m
                  · subst e; rw [if_pos rfl]; exact HYQ.out
                  · rw [if_neg e]; exact HVQ.out m (by simpa using hm)
                · rw [List.getElem_set]
                  by_cases e : t = m
                  · subst e; rw [if_pos rfl]; exact HRY.out
                  · rw [if_neg e]; exact HRP.out m (by simpa using hm) (by omega)
              case measure => simp [intOf]; omega
            · obtain rfl : t = k := by omega
              go_wp2_with fail
              go_ret2
              exact ⟨some ⟨g6, 0, none⟩, vs, by rw [hvl]; rfl, hq, hvl, fun m hm => (by rw [HR.out]; exact ⟨hrp m hm (by omega), hvq m hm⟩), bw⟩
end Go.Proofs.Ythdfflbhogfejaa
