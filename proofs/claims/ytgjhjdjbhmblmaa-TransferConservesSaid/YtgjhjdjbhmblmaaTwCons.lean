/- The walk of TransferConserves. -/
import Derived.Test.YtgjhjdjbhmblmaaTwCQ
import Derived.Test.YtgjhjdjbhmblmaaTwBounds
namespace Go.Proofs.Ytgjhjdjbhmblmaa
open Go.RowKit

set_option maxRecDepth 100000 in
set_option maxHeartbeats 1600000 in
theorem cons_walk (w : World) (A : Option Addr) (c : Nat) (cs : List Int) (D : Option Addr) (d : Nat) (xs : List Int) (hA : Is w A c cs) (hB : Is w D d xs) :
    Calls Try.prog 7 #[.slice A cs.length c, .slice D xs.length d] w fun e w' => e = .returned (.bool true) ∧ Below w.heap.size w w' := by
  have hmade := made_ticks cs xs
  have htwo := checkM_two (made_valid cs xs)
  skip
  have HA := Lib.hid hA; clear hA
  have HB := Lib.hid hB; clear hB
  have bw := Below.refl w.heap.size w
  go_enter Try.func7, Try.ntmps7
  go_wp2_with fail
  refine (caps_any w A _ c cs HA.out rfl).mono ?_
  rintro e wn ⟨A', c', rfl, hI, bb⟩
  have HI := Lib.hid hI
  replace bw := below_on bw bb bw.size
  clear bb hI
  go_wp2_with fail
  refine (trans_any wn D _ d xs (capsM cs).length (HB.out.below bw) rfl (by have := (capsM_len cs).2; omega)).mono ?_
  rintro e wt ⟨D', d', ts, rfl, htr, hT, bb⟩
  have HTR := Lib.hid htr
  have HT := Lib.hid hT
  have HI := Lib.hid (HI.out.below bb)
  replace bw := below_on bw bb bw.size
  have h60 : ts.length ≤ 60 := by
    have h1 := congrArg List.length htr
    rw [List.length_map] at h1
    have h2 := transM_len xs (capsM cs).length
    omega
  have HV := Lib.hid (made_valid cs xs)
  rw [← htr] at HV
  clear bb hT htr
  obtain ⟨caps, hcaps⟩ : ∃ caps, capsM cs = caps := ⟨_, rfl⟩
  have HCAPS := Lib.hid hcaps
  rw [hcaps] at HI HV HTR ⊢
  clear hcaps
  rw [HCAPS.out, ← HTR.out] at hmade htwo
  have HMADE := Lib.hid hmade
  clear hmade
  go_wp2_with fail
  refine (trun_any wt A' _ c' caps D' _ d' ts HI.out HT.out rfl rfl h60).mono ?_
  obtain ⟨S, hS⟩ : ∃ S, runS caps (ts.map Tm.tr) = S := ⟨_, rfl⟩
  rw [hS]
  have HS := Lib.hid hS
  rcases htwo with hE | hE
  · have HE := Lib.hid hE
    rw [hE]
    clear hS hE
    rintro e w1 ⟨AF, cF, rfl, hf1, bb⟩
    have HF1 := Lib.hid hf1
    replace HI := Lib.hid (HI.out.below bb)
    replace HT := Lib.hid (HT.out.below bb)
    replace bw := below_on bw bb bw.size
    clear bb hf1
    skip
    go_upto_region 4 with fail
    obtain ⟨bk1, bb, _⟩ := bk2_alloc w1 (.slice AF S.fn.length cF) (.int .i64 S.tk) 29
    have HB9 := Lib.hid bk1
    clear bk1
    replace HI := Lib.hid (HI.out.below bb)
    replace HT := Lib.hid (HT.out.below bb)
    try replace bk1 := bk1.below bb
    try replace bk2 := bk2.below bb
    try replace bk3 := bk3.below bb
    try replace HF1 := Lib.hid (HF1.out.below bb)
    try replace HF2 := Lib.hid (HF2.out.below bb)
    try replace HF3 := Lib.hid (HF3.out.below bb)
    replace bw := below_on bw bb bw.size
    clear bb
    have bk1 := HB9.out
    clear HB9
    generalize (w1.alloc (.cells #[.slice AF S.fn.length cF, .int .i64 S.tk] 29)) = wm at *
    generalize w1.heap.size = g1 at bk1 ⊢
    obtain ⟨T, hT1, hT2, hT3, hT4⟩ := HMADE.out HE.out
    rw [HS.out] at hT1 hT3
    have hfl : S.fn.length = ts.length := by rw [hT3, (simM_len _ _ _).2, List.length_map]
    have k0 := bk1.c0
    have k1 := bk1.c1
    rw [hT1] at k1
    have h500 : decide ((500 : Int) < (T : Int)) = false := decide_eq_false (by omega)
    have h0T : decide ((T : Int) < 0) = false := decide_eq_false (by omega)
    have HT3 := Lib.hid hT3
    have HT4 := Lib.hid hT4
    have HT1 := Lib.hid hT1
    have HFL := Lib.hid hfl
    clear hT1 hT3 hT4
    obtain ⟨l, hl⟩ : ∃ l, ts.map Tm.tr = l := ⟨_, rfl⟩
    have HL := Lib.hid hl
    rw [hl] at HT3 HT4 HE HS HV
    have hll : l.length = ts.length := by rw [← hl, List.length_map]
    have HLL := Lib.hid hll
    clear hl hll
    obtain ⟨i1, hi, hi0, hi1, hi2⟩ := info_parts int_info
    have HBK := Lib.hid bk1
    clear bk1
    go_wp2_with fail
    clear k0 k1 hfl
    go_loopw [9, 10] (fun s i wr => ∃ (k : Nat) (AL : Option Addr) (cL : Nat), k ≤ ts.length ∧ i = .int .i64 (k : Int) ∧ s = .slice AL k cL ∧ Gr iv 3 wr wm.heap.size AL cL ((bytesM l).take k) ∧ Below wm.heap.size wm wr) (fun _ i _ => ts.length - (intOf i).toNat)
    case atStart => exact ⟨0, none, 0, by omega, rfl, rfl, Gr.nil _ _, Below.refl _ _⟩
    case round =>
      obtain ⟨k, AL, cL, hk, rfl, rfl, hG, bwr⟩ := hrel
      have HG := Lib.hid hG
      clear hG
      have hbl : (bytesM l).length = ts.length := by rw [bytesM_len, HLL.out]
      have HKL : Hid (((bytesM l).take k).length = k) := Lib.hid (by rw [List.length_take, hbl]; omega)
      by_cases hlt : k < ts.length
      · obtain ⟨ad, rfl, _, tc1, _, _⟩ := (HT.out.below bwr).at k hlt
        have HNX : Hid ((bytesM l).take k ++ [ts[k].b] = (bytesM l).take (k + 1)) := Lib.hid (by
          rw [List.take_succ_eq_append_getElem (by omega)]
          congr 2
          simp only [bytesM, ← HL.out, List.getElem_map])
        have hdc := HT.out.cap
        have hdm := HT.out.max
        clear hbl
        go_wp2_with (at_builtin; refine wpList_append_rd _ (mk := iv) (fun _ => rfl) rfl _ _ 22 rfl 3 i1 (iv 0) 8 Try.underlying22 hi hi0 hi1 hi2 rfl (B := wm.heap.size) rfl HKL.out.symm (HG.out.below ((Below.refl _ _).alloc (Nat.le_refl _) _)) (some ⟨wr.heap.size, 0, none⟩) 1 1 [ts[k].b] rfl rfl (Rd.one wr _ _) (by simp only [maxLen]; omega) (by omega) (by have := bwr.size; simp; omega) ?_; intro A2 c2 w2 hg2 _ hb2 _)
        go_roundw
        case rel =>
          have bl := (Below.refl wr.heap.size wr).alloc (Nat.le_refl _) (.cells #[.int .i64 ts[k].b] 3)
          exact ⟨k + 1, A2, c2, by omega, by go_num, rfl, by rw [← HNX.out]; exact hg2, (below_on bwr bl bwr.size).trans hb2⟩
        case measure => simp [intOf]; omega
      · obtain rfl : k = ts.length := by omega
        have HG2 : Hid (Gr iv 3 wr wm.heap.size AL cL (simM caps l 0).left) := Lib.hid (by
          have := HG.out
          rwa [List.take_of_length_le (by omega)] at this)
        clear HG HKL hbl
        have hvl : ∀ u ∈ l, (∀ e ∈ u.1, 0 ≤ e ∧ e < caps.length) := fun u hu e he => by
          obtain ⟨j, hj, rfl⟩ := List.getElem_of_mem hu
          have h1 := (HV.out.2.2.2.2 _ (List.getElem_mem (show j < (flT l fun _ => 0).length by rw [flT_len]; exact hj))).2.2
          rw [flT_get hj] at h1
          exact h1.mem he
        have HVL := Lib.hid hvl
        have HBW := Lib.hid bwr
        have hcl5 : caps.length ≤ 5 := by rw [← HCAPS.out]; exact (capsM_len cs).2
        have HC5 := Lib.hid hcl5
        clear hvl hcl5
        go_wp2_with fail
        go_loopw [11] (fun tv wz => ∃ t : Nat, t ≤ T ∧ tv = .int .i64 (t : Int) ∧ Gr iv 3 wz wm.heap.size AL cL (simM caps l t).left ∧ Below wm.heap.size wm wz) (fun tv _ => T - (intOf tv).toNat)
        case atStart => exact ⟨0, by omega, rfl, HG2.out, bwr⟩
        case round =>
          clear bwr
          obtain ⟨t, ht, rfl, hL, bz⟩ := hrel
          have HLF := Lib.hid hL
          have HBZ := Lib.hid bz
          clear hL bz
          have bkz := HBK.out.below HBZ.out
          have k0 := bkz.c0
          have k1 := bkz.c1
          rw [HT1.out] at k1
          clear bkz
          by_cases htT : t < T
          · have HIS := Lib.hid (SInv.sim HV.out t (caps := caps))
            have HOK := Lib.hid (HIS.out.ok HV.out t)
            have HOK2 : Hid (stepOk caps (ts.map Tm.tr) (simM caps l t).left t) := Lib.hid (by rw [HL.out]; exact HOK.out)
            have his := HLF.out.is (fun x hx => by have := HIS.out.mem (fun t ht => (HV.out.1 t ht).2.1) x hx; omega)
            have hll2 : (simM caps l t).left.length = ts.length := by rw [HIS.out.ll, HLL.out]
            have HLL2 := Lib.hid hll2
            clear hll2
            go_wp2_with fail
            refine (tstep_any wr A' _ c' caps D' _ d' ts AL _ cL (simM caps l t).left t (HI.out.below HBZ.out) (HT.out.below HBZ.out) his rfl rfl HLL2.out.symm h60).mono ?_
            rintro e wn hres
            rw [StepRes, if_pos HOK2.out] at hres
            obtain ⟨A2, c2, rfl, hgu, bb⟩ := hres
            rw [HL.out] at hgu ⊢
            obtain ⟨u, hu⟩ : ∃ u, sentM caps l (simM caps l t).left t = u := ⟨_, rfl⟩
            rw [hu] at hgu ⊢
            have HUU := Lib.hid hu
            have hul : u.length = ts.length := by rw [← hu, sentM_len, HLL.out]
            have HUL := Lib.hid hul
            have HGU := Lib.hid hgu
            have HLF2 := Lib.hid (HLF.out.below bb)
            have HBZ2 := Lib.hid (below_on HBZ.out bb HBZ.out.size)
            have HSZ := Lib.hid HBZ.out.size
            have HSB := Lib.hid bb.size
            clear hgu hu bb his k0 k1
            rw [hul]
            clear hul
            go_upto_region 20 with (refine wpList_make_rd wn (mk := iv) 0 rfl _ _ 22 rfl 3 i1 8 Try.underlying22 hi hi0 hi1 hi2 rfl .i64 .i64 _ _ (caps.length) rfl rfl (by omega) (by omega) (by have := HC5.out; omega) (by have := HC5.out; simp only [maxLen]; omega) ?_; intro w4 hg4 hb4 hs4)
            have HLD := Lib.hid ((hg4.more (B' := wn.heap.size) (fun ad e => (hg4.form.2.2 ad e).1)))
            have HGU4 := Lib.hid (HGU.out.below hb4)
            have HLF4 := Lib.hid (HLF2.out.below hb4)
            have HBZ4 := Lib.hid (below_on HBZ2.out hb4 HBZ2.out.size)
            have HS4 := Lib.hid hs4
            have HA2 : Hid (∀ ad, A2 = some ad → wr.heap.size ≤ ad.block ∧ ad.block < wn.heap.size) := Lib.hid (fun ad e => HGU.out.form.2.2 ad e)
            have HAL : Hid (∀ ad, AL = some ad → wm.heap.size ≤ ad.block ∧ ad.block < wr.heap.size) := Lib.hid (fun ad e => HLF.out.form.2.2 ad e)
            obtain ⟨gd, hgd⟩ : ∃ gd, wn.heap.size = gd := ⟨_, rfl⟩
            obtain ⟨gr, hgr⟩ : ∃ gr, wr.heap.size = gr := ⟨_, rfl⟩
            rw [hgd] at HLD HA2 HSB HS4 hg4 hb4 hs4 ⊢
            rw [hgr] at HA2 HAL HGU4 HSZ HSB
            clear hg4 hb4 hs4 hgd hgr HGU HLF HLF2 HBZ HBZ2
            have hbd : ∀ j, ∀ hj : j < u.length, 0 ≤ u[j] ∧ u[j] ≤ (simM caps l t).left.getD j 0 := fun j hj => by
              have hj' : j < l.length := by have := HUL.out; have := HLL.out; omega
              have h1 := sentM_bd HOK.out j hj'
              rw [HUU.out, getD_lt _ _ _ hj] at h1
              have h2 := limT_le (l := l) (t := (t : Int)) (HIS.out.bd j hj').1
              omega
            have HBD := Lib.hid hbd
            clear hbd
            go_wp2_with fail
            go_loopw [15] (fun iv' wz => ∃ i : Nat, i ≤ ts.length ∧ iv' = .int .i64 (i : Int) ∧ Gr iv 3 wz wm.heap.size AL cL (fpart u t (simM caps l t) i).left ∧ Gr iv 3 wz gr A2 c2 u ∧ Gr iv 3 wz gd (some ⟨gd, 0, none⟩) caps.length (loadL caps.length l u i 0) ∧ Below wm.heap.size wm wz) (fun iv' _ => ts.length - (intOf iv').toNat)
            case atStart => exact ⟨0, by omega, rfl, HLF4.out, HGU4.out, by rw [loadL_zero]; exact HLD.out, HBZ4.out⟩
            case round =>
              clear HLD HGU4 HLF4 HBZ4
              obtain ⟨i, hi', rfl, hL, hU, hD, bz⟩ := hrel
              have HLF := Lib.hid hL
              have HGU := Lib.hid hU
              have HLD := Lib.hid hD
              have HBZ := Lib.hid bz
              clear hL hU hD bz
              by_cases hit : i < ts.length
              · have hiu : i < u.length := by have := HUL.out; omega
                have hil : i < l.length := by have := HLL.out; omega
                obtain ⟨ga, ha⟩ := HGU.out.some_ (by omega)
                subst ha
                have hsl : (fpart u t (simM caps l t) i).left.length = ts.length := by rw [(fpart_len _ _ _ _).1]; exact HLL2.out
                obtain ⟨gl, ha⟩ := HLF.out.some_ (by omega)
                subst ha
                obtain ⟨lf, hlf⟩ : ∃ lf, (fpart u t (simM caps l t) i).left = lf := ⟨_, rfl⟩
                have hlj : lf.getD i 0 = (simM caps l t).left.getD i 0 := by
                  have := fpart_left u t (simM caps l t) i (by rw [HLL2.out]; exact hi') i
                  rw [hlf, if_neg (Nat.lt_irrefl _)] at this
                  exact this
                rw [hlf] at hsl HLF
                have HLF0 := Lib.hid hlf
                clear hlf
                have hilf : i < lf.length := by omega
                rw [getD_lt _ _ _ hilf] at hlj
                have uc := HGU.out.cell i hiu
                have lc := HLF.out.cell i hilf
                have lfr := HLF.out.free i
                have hucap : ts.length ≤ c2 := by have := HGU.out.form.1; have := HUL.out; omega
                have hlcap : ts.length ≤ cL := by have := HLF.out.form.1; omega
                obtain ⟨b1, b2⟩ := HBD.out i hiu
                rw [← hlj] at b2
                have hends : (S.fn[i]'(by rw [HFL.out]; exact hit) = (t : Int)) ↔ (0 < u[i] ∧ lf[i] - u[i] = 0) := by
                  have h1 := fn_iff (caps := caps) HV.out t (T - (t + 1)) i hil
                  rw [show t + 1 + (T - (t + 1)) = T by omega, ← HT3.out, getD_lt _ _ _ (by rw [HFL.out]; exact hit)] at h1
                  rw [h1, endsT, HUU.out, getD_lt _ _ _ hiu, ← hlj]
                obtain ⟨fi, hfi⟩ : ∃ fi, S.fn[i]'(by rw [HFL.out]; exact hit) = fi := ⟨_, rfl⟩
                obtain ⟨aF, rfl, _, fc⟩ := (HF1.out.below HBZ.out).at i (by rw [HFL.out]; exact hit)
                rw [hfi] at fc hends
                obtain ⟨ad, rfl, tc0, tc1, tc2, hok⟩ := (HT.out.below HBZ.out).at i hit
                have hts : (ts[i].ls, ts[i].b, ts[i].s) = l[i] := by
                  have : ts[i].tr = l[i] := by simp only [← HL.out, List.getElem_map]
                  exact this
                have hst : 0 < u[i] → ts[i].s ≤ (t : Int) := fun h0 => by
                  have h1 := sentM_bd HOK.out i hil
                  rw [HUU.out, getD_lt _ _ _ hiu] at h1
                  rw [limT, getD_lt _ _ _ hil, ← hts] at h1
                  simp only at h1
                  split at h1
                  · omega
                  · omega
                have bk := HBK.out.below HBZ.out
                have k0 := bk.c0
                rw [HFL.out] at k0
                obtain ⟨ui, hui⟩ : ∃ ui, u[i] = ui := ⟨_, rfl⟩
                obtain ⟨li, hli⟩ : ∃ li, lf[i] = li := ⟨_, rfl⟩
                have hl4 : li ≤ 4096 := by
                  rw [← hli, hlj]
                  have h1 := (HIS.out.bd i hil).2
                  have h2 := (HV.out.1 _ (List.getElem_mem hil)).2.1
                  omega
                rw [hui] at uc hends hst b1 b2
                rw [hli] at lc hends b2
                have HUI := Lib.hid hui
                have HLI := Lib.hid hli
                have HFI := Lib.hid hfi
                have HLJ := Lib.hid hlj
                have HEN := Lib.hid hends
                have HST := Lib.hid hst
                have HTS := Lib.hid hts
                have HOKX := Lib.hid hok
                have hiI : (i : Int) < (ts.length : Int) := by omega
                have hcap2 := HF1.out.cap
                rw [HFL.out] at hcap2
                have q1 : decide (ui < 0) = false := decide_eq_false (by omega)
                have q2 : decide (li < ui) = false := decide_eq_false (by omega)
                clear hui hli hfi hlj hends hst hts hok bk
                go_upto_region 23 with fail
                go_cut [157] (fun v wx => v = .bool false ∧ ∃ q, wx = wr.drewN q)
                case first =>
                  --D{
                  by_cases h0 : 0 < ui
                  · have q3 : decide (0 < ui) = true := decide_eq_true h0
                    have q4 : decide ((t : Int) < ts[i].s) = false := decide_eq_false (by have := HST.out h0; omega)
                    by_cases h1 : ui = li
                    · have q5 : (ui == li) = true := by simp [h1]
                      have q6 : (fi == (t : Int)) = true := by rw [HEN.out.2 ⟨h0, by omega⟩]; exact beq_self_eq_true _
                      clear h1
                      go_quiet (fail)
                      go_wp2
                      go_meet
                      case rel => exact ⟨rfl, nq, rfl⟩
                    · have q5 : (ui == li) = false := beq_eq_false_iff_ne.2 h1
                      have q6 : (fi == (t : Int)) = false := beq_eq_false_iff_ne.2 (fun h => by have := HEN.out.1 h; omega)
                      clear h1
                      go_quiet (fail)
                      go_wp2
                      go_meet
                      case rel => exact ⟨rfl, nq, rfl⟩
                  · have q3 : decide (0 < ui) = false := decide_eq_false h0
                    have q6 : (fi == (t : Int)) = false := beq_eq_false_iff_ne.2 (fun h => by have := HEN.out.1 h; omega)
                    go_quiet (fail)
                    go_wp2
                    go_meet
                    case rel => exact ⟨rfl, nq, rfl⟩
                  --D}
                case rest =>
                  obtain ⟨rfl, nq, rfl⟩ := hcut
                  clear q1 q2
                  have hqb := below_drewN (Below.refl wr.heap.size wr) nq
                  replace HLF := Lib.hid (HLF.out.below hqb)
                  replace HGU := Lib.hid (HGU.out.below hqb)
                  replace HLD := Lib.hid (HLD.out.below hqb)
                  replace HBZ := Lib.hid (below_on HBZ.out hqb HBZ.out.size)
                  clear uc lc lfr fc tc0 tc1 tc2 k0 hqb
                  generalize wr.drewN nq = wq at *
                  have uc := HGU.out.cell i hiu
                  have lc := HLF.out.cell i hilf
                  have lfr := HLF.out.free i
                  rw [HUI.out] at uc
                  rw [HLI.out] at lc
                  have b4 : IntKind.i64.wrap (li - ui) = li - ui := IntWalk.i64_in _ (by omega)
                  have hne1 : ¬ gl = ga := by have h1 := (HA2.out _ rfl).1; have h2 := (HAL.out _ rfl).2; simp only at h1 h2; omega
                  have HNE1 := Lib.hid hne1
                  have HNE2 : Hid (ga ≠ gd) := Lib.hid (by have h1 := (HA2.out _ rfl).2; simp only at h1; omega)
                  have HNE3 : Hid (gl ≠ gd) := Lib.hid (by have h1 := (HAL.out _ rfl).2; have := HSB.out; simp only at h1; omega)
                  have HNE4 : Hid (wm.heap.size ≤ gl) := Lib.hid (by have h1 := (HAL.out _ rfl).1; simpa using h1)
                  have HNE5 : Hid (wm.heap.size ≤ gd) := Lib.hid (by have := HSB.out; have := HSZ.out; omega)
                  go_upto_region 25 with fail
                  go_region
                  have hdr := fun (v : World) => below_drew (Below.refl v.heap.size v)
                  have HLF1 : Hid (Gr iv 3 ((wq.setCell ⟨gl, i, none⟩ (.int .i64 (li - ui))).drew) wm.heap.size (some ⟨gl, 0, none⟩) cL (lf.set i (li - ui))) := Lib.hid ((HLF.out.store i (li - ui)).below (hdr _))
                  have HGU1 : Hid (Gr iv 3 ((wq.setCell ⟨gl, i, none⟩ (.int .i64 (li - ui))).drew) gr (some ⟨ga, 0, none⟩) c2 u) := Lib.hid ((HGU.out.far (p := ⟨gl, i, none⟩) (by intro ad e; injection e with e; subst e; exact fun e => hne1 e.symm) _).below (hdr _))
                  have HLD1 : Hid (Gr iv 3 ((wq.setCell ⟨gl, i, none⟩ (.int .i64 (li - ui))).drew) gd (some ⟨gd, 0, none⟩) caps.length (loadL caps.length l u i 0)) := Lib.hid ((HLD.out.far (p := ⟨gl, i, none⟩) (by intro ad e; injection e with e; subst e; exact fun e => HNE3.out e.symm) _).below (hdr _))
                  have hst0 := HBZ.out.setCell (p := ⟨gl, i, none⟩) HNE4.out (.int .i64 (li - ui))
                  have HBZ1 : Hid (Below wm.heap.size wm ((wq.setCell ⟨gl, i, none⟩ (.int .i64 (li - ui))).drew)) := Lib.hid (below_on hst0 (hdr _) hst0.size)
                  obtain ⟨lf1, hlf1⟩ : ∃ lf1, lf.set i (li - ui) = lf1 := ⟨_, rfl⟩
                  have HNX : Hid ((fpart u t (simM caps l t) (i + 1)).left = lf1) := Lib.hid (by
                    rw [fpart, ← hlf1]
                    have e1 : ∀ s : Sm, (fstep u t s i).left = s.left.set i (s.left.getD i 0 - u.getD i 0) := fun s => by
                      unfold fstep
                      split <;> rfl
                    rw [e1, HLF0.out, getD_lt _ _ _ hilf, getD_lt _ _ _ hiu, HLI.out, HUI.out])
                  rw [hlf1] at HLF1
                  clear hlf1 hst0 hdr uc lc lfr b4 hne1 HLF HGU HLD HBZ
                  generalize (wq.setCell ⟨gl, i, none⟩ (.int .i64 (li - ui))).drew = wy at HLF1 HGU1 HLD1 HBZ1 ⊢
                  obtain ⟨ad0, had, tc0, _, _, _⟩ := (HT.out.below HBZ1.out).at i hit
                  injection had with had
                  subst had
                  go_wp2_with fail
                  go_loopw [16] (fun kv wz => ∃ k : Nat, k ≤ ts[i].ls.length ∧ kv = .int .i64 (k : Int) ∧ Gr iv 3 wz wm.heap.size (some ⟨gl, 0, none⟩) cL lf1 ∧ Gr iv 3 wz gr (some ⟨ga, 0, none⟩) c2 u ∧ Gr iv 3 wz gd (some ⟨gd, 0, none⟩) caps.length (loadL caps.length l u i k) ∧ Below wm.heap.size wm wz) (fun kv _ => ts[i].ls.length - (intOf kv).toNat)
                  case atStart => exact ⟨0, by omega, rfl, HLF1.out, HGU1.out, HLD1.out, HBZ1.out⟩
                  case round =>
                    clear HLF1 HGU1 HLD1 HBZ1 tc0
                    obtain ⟨k, hk, rfl, hL, hU, hD, bz⟩ := hrel
                    have HLF := Lib.hid hL
                    have HGU := Lib.hid hU
                    have HLD := Lib.hid hD
                    have HBZ := Lib.hid bz
                    clear hL hU hD bz
                    obtain ⟨ad0, had, tc0, _, _, hokx⟩ := (HT.out.below HBZ.out).at i hit
                    injection had with had
                    subst had
                    obtain ⟨x, hx⟩ : ∃ x, ts[i] = x := ⟨_, rfl⟩
                    rw [hx] at tc0 hokx hk HTS
                    have HX := Lib.hid hx
                    clear hx
                    by_cases hkx : k < x.ls.length
                    · obtain ⟨ae, hae, _, ce⟩ := hokx.is.at k hkx
                      have hel := HVL.out _ (List.getElem_mem hil) x.ls[k] (by rw [← HTS.out]; exact List.getElem_mem hkx)
                      obtain ⟨e, he⟩ : ∃ e : Nat, x.ls[k] = (e : Int) := ⟨x.ls[k].toNat, by omega⟩
                      have hen : e < caps.length := by omega
                      have hxc := hokx.is.cap
                      have hxl := hokx.is.len
                      rw [he] at ce
                      rw [hae] at tc0
                      have dc := HLD.out.cell e (by rw [loadL_len]; exact hen)
                      rw [loadL_get hen] at dc
                      have dfr := HLD.out.free e
                      have uc := HGU.out.cell i hiu
                      rw [HUI.out] at uc
                      have hlb := loadTo_bd (l := l) (u := u) (i := i) (k := k) (e : Int) (fun j => by rw [← HUU.out]; exact sentM_nn HOK.out j) (by rw [HUL.out, HLL.out]; exact Nat.le_refl _) hil
                      have hcap := sent_cap' HOK.out e hen
                      rw [HUU.out] at hcap
                      have hc4 := HV.out.2.2.2.1 _ (List.getElem_mem hen)
                      obtain ⟨v0, hv0⟩ : ∃ v, loadTo l u i k (e : Int) = v := ⟨_, rfl⟩
                      rw [hv0] at dc hlb
                      have g1 : 0 ≤ v0 := hlb.1
                      have g2 : v0 ≤ 4096 := by omega
                      have hlk : (l.getD i ([], 0, 0)).1 = x.ls := by rw [getD_lt _ _ _ hil, ← HTS.out]
                      have HLK : Hid ((loadL caps.length l u i k).set e (v0 + ui) = loadL caps.length l u i (k + 1)) := Lib.hid (loadL_link (by rw [hlk]; exact hkx) (by simp only [hlk]; exact he) hen _ (by rw [hv0, getD_lt _ _ _ hiu, HUI.out]))
                      have b4 : IntKind.i64.wrap (v0 + ui) = v0 + ui := IntWalk.i64_in _ (by omega)
                      have n1 : ¬ gd = ga := fun e => HNE2.out e.symm
                      have HHE := Lib.hid he
                      clear hae hel he hlb hcap hc4 hv0 hlk
                      go_upto_region 29 with fail
                      go_region
                      have hdr := fun (v : World) => below_drew (Below.refl v.heap.size v)
                      have HLF1 := Lib.hid ((HLF.out.far (p := ⟨gd, e, none⟩) (by intro ad e; injection e with e; subst e; exact HNE3.out) (.int .i64 (v0 + ui))).below (hdr _))
                      have HGU1 := Lib.hid ((HGU.out.far (p := ⟨gd, e, none⟩) (by intro ad e; injection e with e; subst e; exact HNE2.out) (.int .i64 (v0 + ui))).below (hdr _))
                      have HLD1 := Lib.hid ((HLD.out.store e (v0 + ui)).below (hdr _))
                      have hst0 := HBZ.out.setCell (p := ⟨gd, e, none⟩) HNE5.out (.int .i64 (v0 + ui))
                      have HBZ1 := Lib.hid (below_on hst0 (hdr _) hst0.size)
                      clear tc0 ce dc dfr uc b4 n1 hst0 hdr HLF HGU HLD HBZ
                      go_wp2_with fail
                      go_roundw
                      case rel => exact ⟨k + 1, by rw [HX.out]; omega, by go_num, HLF1.out, HGU1.out, by rw [← HLK.out]; exact HLD1.out, HBZ1.out⟩
                      case measure =>
                        have e2 : ts[i].ls.length = x.ls.length := congrArg (fun y : Tm => y.ls.length) HX.out
                        simp [intOf]; omega
                    · obtain rfl : k = x.ls.length := by omega
                      have HLN : Hid (loadL caps.length l u (i + 1) 0 = loadL caps.length l u i x.ls.length) := Lib.hid (by rw [loadL_next hil hiu, ← HTS.out])
                      go_wp2_with fail
                      go_roundw
                      case rel => exact ⟨i + 1, by omega, by go_num, by rw [HNX.out]; exact HLF.out, HGU.out, by rw [HLN.out]; exact HLD.out, HBZ.out⟩
                      case measure => simp [intOf]; omega
              · have HIE : Hid (i = l.length) := Lib.hid (by rw [HLL.out]; omega)
                have HNX : Hid ((fpart u t (simM caps l t) i).left = (simM caps l (t + 1)).left) := Lib.hid (by rw [simM, tickM, HUU.out, HIE.out])
                rw [HNX.out] at HLF
                go_wp2_with fail
                go_loopw [17] (fun cv wz => ∃ c : Nat, c ≤ caps.length ∧ cv = .int .i64 (c : Int) ∧ Gr iv 3 wz wm.heap.size AL cL (simM caps l (t + 1)).left ∧ Gr iv 3 wz gd (some ⟨gd, 0, none⟩) caps.length (loadL caps.length l u i 0) ∧ Below wm.heap.size wm wz) (fun cv _ => caps.length - (intOf cv).toNat)
                case atStart => exact ⟨0, by omega, rfl, HLF.out, HLD.out, HBZ.out⟩
                case round =>
                  clear HLF HGU HLD HBZ
                  obtain ⟨c3, hc3, rfl, hL, hD, bz⟩ := hrel
                  have HLF := Lib.hid hL
                  have HLD := Lib.hid hD
                  have HBZ := Lib.hid bz
                  clear hL hD bz
                  by_cases hcc : c3 < caps.length
                  · obtain ⟨ac, rfl, _, cc⟩ := (HI.out.below HBZ.out).at c3 hcc
                    have hcapc := HI.out.cap
                    have hc5 := HC5.out
                    have dc := HLD.out.cell c3 (by rw [loadL_len]; exact hcc)
                    rw [loadL_get hcc, HIE.out, loadTo_all] at dc
                    have hcap := sent_cap' HOK.out c3 hcc
                    rw [HUU.out] at hcap
                    have q1 : decide (caps[c3] < ld (l.map fun t => (t.1, (0 : Int))) u (c3 : Int)) = false := decide_eq_false (by omega)
                    have hcI : (c3 : Int) < (caps.length : Int) := by omega
                    clear hcap
                    go_upto_region 33 with fail
                    go_quiet (fail)
                    have hqb := below_drewN (Below.refl wr.heap.size wr) nq
                    have HLF1 := Lib.hid (HLF.out.below hqb)
                    have HLD1 := Lib.hid (HLD.out.below hqb)
                    have HBZ1 := Lib.hid (below_on HBZ.out hqb HBZ.out.size)
                    clear cc dc hqb HLF HLD HBZ
                    go_wp2_with fail
                    go_roundw
                    case rel => exact ⟨c3 + 1, by omega, by go_num, HLF1.out, HLD1.out, HBZ1.out⟩
                    case measure => simp [intOf]; omega
                  · go_wp2_with fail
                    go_roundw
                    case rel => exact ⟨t + 1, by omega, by go_num, HLF.out, HBZ.out⟩
                    case measure => simp [intOf]; omega
          · obtain rfl : t = T := by omega
            go_wp2_with fail
            go_loopw [18] (fun iv' wz => ∃ i : Nat, i ≤ ts.length ∧ iv' = .int .i64 (i : Int) ∧ Gr iv 3 wz wm.heap.size AL cL (simM caps l t).left ∧ Below wm.heap.size wm wz) (fun iv' _ => ts.length - (intOf iv').toNat)
            case atStart => exact ⟨0, by omega, rfl, HLF.out, HBZ.out⟩
            case round =>
              clear HLF HBZ k0 k1
              obtain ⟨i, hi', rfl, hL, bz⟩ := hrel
              have HLF := Lib.hid hL
              have HBZ := Lib.hid bz
              clear hL bz
              by_cases hit : i < ts.length
              · have hil : i < l.length := by have := HLL.out; omega
                have hsl : (simM caps l t).left.length = ts.length := by rw [(simM_len caps l t).1]; exact HLL.out
                have hil2 : i < (simM caps l t).left.length := by omega
                have HGL := Lib.hid (HLF.out.some_ (by omega))
                obtain ⟨gl, ha⟩ := HGL.out
                subst ha
                have lc := HLF.out.cell i hil2
                have hz : (simM caps l t).left[i] = 0 := by
                  have h1 := HT4.out i hil2
                  rwa [getD_lt _ _ _ hil2] at h1
                rw [hz] at lc
                have hlcap : ts.length ≤ cL := by have := HLF.out.form.1; omega
                have hng := fn_neg (caps := caps) HV.out t i hil
                rw [← HT3.out, getD_lt _ _ _ (by rw [HFL.out]; exact hit)] at hng
                obtain ⟨fi, hfi⟩ : ∃ fi, S.fn[i]'(by rw [HFL.out]; exact hit) = fi := ⟨_, rfl⟩
                obtain ⟨aF, rfl, _, fc⟩ := (HF1.out.below HBZ.out).at i (by rw [HFL.out]; exact hit)
                rw [hfi] at fc hng
                have hS0 : S.left.getD i 0 = 0 := by rw [HT3.out, getD_lt _ _ _ hil2]; exact hz
                obtain ⟨ad, rfl, tc0, tc1, tc2, hok⟩ := (HT.out.below HBZ.out).at i hit
                have hts : (ts[i].ls, ts[i].b, ts[i].s) = l[i] := by
                  have : ts[i].tr = l[i] := by simp only [← HL.out, List.getElem_map]
                  exact this
                rw [← hts] at hng
                simp only at hng
                have bk := HBK.out.below HBZ.out
                have k0 := bk.c0
                rw [HFL.out] at k0
                have hcap2 := HF1.out.cap
                rw [HFL.out] at hcap2
                have hiI : (i : Int) < (ts.length : Int) := by omega
                have HNG : Hid (fi < 0 ↔ ts[i].b = 0) := Lib.hid (by omega)
                clear hz hS0 hng hts hok bk hfi
                go_upto_region 38 with fail
                go_cut [235] (fun v wx => v = .bool false ∧ ∃ q, wx = wr.drewN q)
                case first =>
                  --D{
                  by_cases h0 : ts[i].b = 0
                  · have q3 : (ts[i].b == 0) = true := by simp [h0]
                    have q4 : decide (fi < 0) = true := decide_eq_true (HNG.out.2 h0)
                    clear h0
                    go_quiet (fail)
                    go_wp2
                    go_meet
                    case rel => exact ⟨rfl, nq, rfl⟩
                  · have q3 : (ts[i].b == 0) = false := beq_eq_false_iff_ne.2 h0
                    have q4 : decide (fi < 0) = false := decide_eq_false (fun h => h0 (HNG.out.1 h))
                    clear h0
                    go_quiet (fail)
                    go_wp2
                    go_meet
                    case rel => exact ⟨rfl, nq, rfl⟩
                  --D}
                case rest =>
                  obtain ⟨rfl, nq, rfl⟩ := hcut
                  have hqb := below_drewN (Below.refl wr.heap.size wr) nq
                  replace HLF := Lib.hid (HLF.out.below hqb)
                  replace HBZ := Lib.hid (below_on HBZ.out hqb HBZ.out.size)
                  clear lc fc tc0 tc1 tc2 k0 hqb
                  go_wp2_with fail
                  go_roundw
                  case rel => exact ⟨i + 1, by omega, by go_num, HLF.out, HBZ.out⟩
                  case measure => simp [intOf]; omega
              · go_wp2_with fail
                refine (awake_any _).mono ?_
                rintro e w9 ⟨rfl, bb⟩
                go_wp2_with fail
                go_ret
                have h1 := below_on HBZ.out bb HBZ.out.size
                exact ⟨rfl, below_on bw h1 bw.size⟩
  · have HE := Lib.hid hE
    rw [hE]
    clear hS hE
    rintro e w1 ⟨AF, cF, rfl, hf1, bb⟩
    have HF1 := Lib.hid hf1
    replace HI := Lib.hid (HI.out.below bb)
    replace HT := Lib.hid (HT.out.below bb)
    replace bw := below_on bw bb bw.size
    clear bb hf1
    skip
    go_upto_region 4 with fail
    obtain ⟨bk1, bb, _⟩ := bk2_alloc w1 (.slice AF S.fn.length cF) (.int .i64 S.tk) 29
    have HB9 := Lib.hid bk1
    clear bk1
    replace HI := Lib.hid (HI.out.below bb)
    replace HT := Lib.hid (HT.out.below bb)
    try replace bk1 := bk1.below bb
    try replace bk2 := bk2.below bb
    try replace bk3 := bk3.below bb
    try replace HF1 := Lib.hid (HF1.out.below bb)
    try replace HF2 := Lib.hid (HF2.out.below bb)
    try replace HF3 := Lib.hid (HF3.out.below bb)
    replace bw := below_on bw bb bw.size
    clear bb
    have bk1 := HB9.out
    clear HB9
    generalize (w1.alloc (.cells #[.slice AF S.fn.length cF, .int .i64 S.tk] 29)) = wm at *
    generalize w1.heap.size = g1 at bk1 ⊢
    go_wp2_with fail
    refine (awake_any _).mono ?_
    rintro e w4 ⟨rfl, bb⟩
    skip
    replace HI := Lib.hid (HI.out.below bb)
    replace HT := Lib.hid (HT.out.below bb)
    try replace bk1 := bk1.below bb
    try replace bk2 := bk2.below bb
    try replace bk3 := bk3.below bb
    try replace HF1 := Lib.hid (HF1.out.below bb)
    try replace HF2 := Lib.hid (HF2.out.below bb)
    try replace HF3 := Lib.hid (HF3.out.below bb)
    replace bw := below_on bw bb bw.size
    clear bb
    go_wp2_with fail
    go_ret
    exact ⟨rfl, bw⟩
end Go.Proofs.Ytgjhjdjbhmblmaa
