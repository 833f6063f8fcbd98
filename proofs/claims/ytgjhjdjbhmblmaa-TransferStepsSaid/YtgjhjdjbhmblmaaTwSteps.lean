/- The walk of TransferSteps. -/
import Derived.Test.YtgjhjdjbhmblmaaTrK
namespace Go.Proofs.Ytgjhjdjbhmblmaa
open Go.RowKit

/-- what Step answers, as a list and an error -/
def stepR (caps : List Int) (l : List Tr) (left : List Int) (tick : Int) : List Int := if stepOk caps l left tick then sentM caps l left tick else []
def stepE (caps : List Int) (l : List Tr) (left : List Int) (tick : Int) : Int := if stepOk caps l left tick then 0 else 1
theorem sentM_mem {caps : List Int} {l : List Tr} {left : List Int} {t : Int} (h : stepOk caps l left t) : ∀ x ∈ sentM caps l left t, 0 ≤ x ∧ x ≤ 4096 := by
  intro x hx
  obtain ⟨j, hj, rfl⟩ := List.getElem_of_mem hx
  have hj' : j < l.length := by rwa [sentM_len] at hj
  have h1 := sentM_bd h j hj'
  have h2 := limT_bd h j hj'
  rw [getD_lt _ _ _ hj] at h1
  omega
theorem step_res {caps : List Int} {l : List Tr} {left : List Int} {tick : Int} {w w' : World} {e : Ending} (h : StepRes caps l left tick w e w') :
    ∃ A' c', e = .returned (.tuple #[.slice A' (stepR caps l left tick).length c', .int .i64 (stepE caps l left tick)]) ∧ Is w' A' c' (stepR caps l left tick) ∧ Below w.heap.size w w' := by
  unfold StepRes at h
  unfold stepR stepE
  by_cases hs : stepOk caps l left tick
  · rw [if_pos hs] at h ⊢
    rw [if_pos hs]
    obtain ⟨A', c', rfl, hg, hb⟩ := h
    exact ⟨A', c', rfl, hg.is (fun x hx => by have := sentM_mem hs x hx; omega), hb⟩
  · rw [if_neg hs] at h ⊢
    rw [if_neg hs]
    obtain ⟨rfl, hb⟩ := h
    exact ⟨none, 0, rfl, Is.nil _ _ _ (by omega), hb⟩
set_option maxRecDepth 100000 in
set_option maxHeartbeats 4000000 in
theorem steps_walk (w : World) (A : Option Addr) (c : Nat) (cs : List Int) (D : Option Addr) (d : Nat) (xs : List Int) (F : Option Addr) (f : Nat) (left : List Int) (tick : Int) (raw : Bool) (hA : Is w A c cs) (hB : Is w D d xs) (hC : Is w F f left) (htk0 : (Lit.int .i64 tick).wf = true) :
    Calls Try.prog 4 #[.slice A cs.length c, .slice D xs.length d, .slice F left.length f, .int .i64 tick, .bool raw] w fun e w' => e = .returned (.bool true) ∧ Below w.heap.size w w' := by
  have HC := Lib.hid hC; clear hC
  have htk : -9223372036854775808 ≤ tick ∧ tick ≤ 9223372036854775807 := by
    simp [Lit.wf, IntKind.min, IntKind.max, IntKind.signed, IntKind.bits] at htk0
    omega
  have HTK := Lib.hid htk; clear htk htk0
  have hll := HC.out.len
  by_cases hl60 : 60 < left.length
  · have h1 : decide ((60 : Int) < (left.length : Int)) = true := decide_eq_true (by omega)
    go_enter Try.func4, Try.ntmps4
    go_wp2_with fail
    refine (awake_any _).mono ?_
    rintro e wn ⟨rfl, bb⟩
    go_wp2_with fail
    go_ret
    exact ⟨rfl, bb⟩
  · have h1 : decide ((60 : Int) < (left.length : Int)) = false := decide_eq_false (by omega)
    obtain ⟨i1, hi, hi0, hi1, hi2⟩ := info_parts int_info
    skip
    have HA := Lib.hid hA; clear hA
    have HB := Lib.hid hB; clear hB
    have bw := Below.refl w.heap.size w
    go_enter Try.func4, Try.ntmps4
    go_wp2_with fail
    refine (caps_any w A _ c cs HA.out rfl).mono ?_
    rintro e wn ⟨A', c', rfl, hI, bb⟩
    have HI := Lib.hid hI
    replace bw := below_on bw bb bw.size
    clear bb hI
    go_wp2_with fail
    refine (trans_any wn D _ d xs (capsM cs).length (HB.out.below bw) rfl (by have := (capsM_len cs).2; omega)).mono ?_
    rintro e wt ⟨D', d', ts, rfl, htr, hT, bb⟩
    have HTR := Lib.hid htr
    have HT := Lib.hid hT
    have HI := Lib.hid (HI.out.below bb)
    replace bw := below_on bw bb bw.size
    have h60 : ts.length ≤ 60 := by
      have h1 := congrArg List.length htr
      rw [List.length_map] at h1
      have h2 := transM_len xs (capsM cs).length
      omega
    have HV := Lib.hid (made_valid cs xs)
    rw [← htr] at HV
    clear bb hT htr
    obtain ⟨caps, hcaps⟩ : ∃ caps, capsM cs = caps := ⟨_, rfl⟩
    have HCAPS := Lib.hid hcaps
    rw [hcaps] at HI HV HTR ⊢
    clear hcaps
    cases raw with
    | true =>
      go_upto_region 15 with (at_builtin; refine wpList_append_rd _ (mk := iv) (fun _ => rfl) rfl _ _ 22 rfl 3 i1 (iv 0) 8 Try.underlying22 hi hi0 hi1 hi2 rfl (B := wt.heap.size) (xs := []) rfl rfl (Gr.nil _ _) F _ _ left rfl rfl (HC.out.below bw).rd (by simp only [maxLen]; omega) (by omega) (Nat.le_refl _) ?_; intro AX cX wx hgX _ hbX _)
      rw [List.nil_append] at hgX
      have hXw := HC.out.wf
      obtain ⟨X, hX⟩ : ∃ X, left = X := ⟨_, rfl⟩
      rw [hX] at hgX hXw ⊢
      have HX := Lib.hid (hgX.is hXw)
      replace HI := Lib.hid (HI.out.below hbX)
      replace HT := Lib.hid (HT.out.below hbX)
      replace bw := below_on bw hbX bw.size
      clear hbX hgX hXw hX
      skip
      obtain ⟨RA, hRA⟩ : ∃ R, stepR caps (ts.map Tm.tr) X tick = R := ⟨_, rfl⟩
      obtain ⟨EA, hEA⟩ : ∃ R, stepE caps (ts.map Tm.tr) X tick = R := ⟨_, rfl⟩
      obtain ⟨RB, hRB⟩ : ∃ R, stepR caps (ts.map Tm.tr) X (withinM tick 14) = R := ⟨_, rfl⟩
      obtain ⟨EB, hEB⟩ : ∃ R, stepE caps (ts.map Tm.tr) X (withinM tick 14) = R := ⟨_, rfl⟩
      have HRA := Lib.hid hRA
      have HEA := Lib.hid hEA
      have HRB := Lib.hid hRB
      have HEB := Lib.hid hEB
      clear hRA hEA hRB hEB
      go_wp2_with fail
      refine (tstep_any _ A' _ c' caps D' _ d' ts AX _ cX X tick HI.out HT.out HX.out rfl rfl rfl h60).mono ?_
      rintro e w1 hres
      obtain ⟨B1, b1, rfl, r1, bb⟩ := step_res hres
      have Q1 := Lib.hid r1
      clear r1 hres
      skip
      replace HI := Lib.hid (HI.out.below bb)
      replace HT := Lib.hid (HT.out.below bb)
      replace HX := Lib.hid (HX.out.below bb)
      try replace R1 := Lib.hid (R1.out.below bb)
      try replace R2 := Lib.hid (R2.out.below bb)
      try replace R3 := Lib.hid (R3.out.below bb)
      replace bw := below_on bw bb bw.size
      clear bb
      have R1 := Q1
      clear Q1
      rw [HRA.out, HEA.out]
      rw [HRA.out] at R1
      go_wp2_with fail
      refine (trstep_any _ A' _ c' caps D' _ d' ts AX _ cX X tick HI.out HT.out HX.out rfl rfl rfl h60).mono ?_
      rintro e w2 hres
      obtain ⟨B2, b2, rfl, r2, bb⟩ := step_res hres
      have Q2 := Lib.hid r2
      clear r2 hres
      skip
      replace HI := Lib.hid (HI.out.below bb)
      replace HT := Lib.hid (HT.out.below bb)
      replace HX := Lib.hid (HX.out.below bb)
      try replace R1 := Lib.hid (R1.out.below bb)
      try replace R2 := Lib.hid (R2.out.below bb)
      try replace R3 := Lib.hid (R3.out.below bb)
      replace bw := below_on bw bb bw.size
      clear bb
      have R2 := Q2
      clear Q2
      rw [HRA.out, HEA.out]
      rw [HRA.out] at R2
      go_wp2_with fail
      refine (within_any _ tick 14 HTK.out (by omega)).mono ?_
      rintro e wn ⟨rfl, rfl⟩
      go_wp2_with fail
      refine (tstep_any _ A' _ c' caps D' _ d' ts AX _ cX X (withinM tick 14) HI.out HT.out HX.out rfl rfl rfl h60).mono ?_
      rintro e w3 hres
      obtain ⟨B3, b3, rfl, r3, bb⟩ := step_res hres
      have Q3 := Lib.hid r3
      clear r3 hres
      skip
      replace HI := Lib.hid (HI.out.below bb)
      replace HT := Lib.hid (HT.out.below bb)
      replace HX := Lib.hid (HX.out.below bb)
      try replace R1 := Lib.hid (R1.out.below bb)
      try replace R2 := Lib.hid (R2.out.below bb)
      try replace R3 := Lib.hid (R3.out.below bb)
      replace bw := below_on bw bb bw.size
      clear bb
      have R3 := Q3
      clear Q3
      rw [HRB.out, HEB.out]
      rw [HRB.out] at R3
      go_wp2_with fail
      refine (within_any _ tick 14 HTK.out (by omega)).mono ?_
      rintro e wn ⟨rfl, rfl⟩
      go_wp2_with fail
      refine (trstep_any _ A' _ c' caps D' _ d' ts AX _ cX X (withinM tick 14) HI.out HT.out HX.out rfl rfl rfl h60).mono ?_
      rintro e w4 hres
      obtain ⟨B4, b4, rfl, r4, bb⟩ := step_res hres
      have Q4 := Lib.hid r4
      clear r4 hres
      skip
      replace HI := Lib.hid (HI.out.below bb)
      replace HT := Lib.hid (HT.out.below bb)
      replace HX := Lib.hid (HX.out.below bb)
      try replace R1 := Lib.hid (R1.out.below bb)
      try replace R2 := Lib.hid (R2.out.below bb)
      try replace R3 := Lib.hid (R3.out.below bb)
      replace bw := below_on bw bb bw.size
      clear bb
      rw [HRB.out, HEB.out]
      rw [HRB.out] at Q4
      go_wp2_with fail
      refine (awake_any _).mono ?_
      rintro e w5 ⟨rfl, bb⟩
      replace Q4 := Lib.hid (Q4.out.below bb)
      skip
      replace HI := Lib.hid (HI.out.below bb)
      replace HT := Lib.hid (HT.out.below bb)
      replace HX := Lib.hid (HX.out.below bb)
      try replace R1 := Lib.hid (R1.out.below bb)
      try replace R2 := Lib.hid (R2.out.below bb)
      try replace R3 := Lib.hid (R3.out.below bb)
      replace bw := below_on bw bb bw.size
      clear bb
      go_wp2_with fail
      refine (same_any _ B1 _ b1 RA B2 _ b2 RA true R1.out R2.out rfl rfl (decide_eq_true rfl)).mono ?_
      rintro e w6 ⟨rfl, bb⟩
      replace Q4 := Lib.hid (Q4.out.below bb)
      skip
      replace HI := Lib.hid (HI.out.below bb)
      replace HT := Lib.hid (HT.out.below bb)
      replace HX := Lib.hid (HX.out.below bb)
      try replace R1 := Lib.hid (R1.out.below bb)
      try replace R2 := Lib.hid (R2.out.below bb)
      try replace R3 := Lib.hid (R3.out.below bb)
      replace bw := below_on bw bb bw.size
      clear bb
      have e1 : (EA == EA) = true := beq_self_eq_true _
      have e2 : (EB == EB) = true := beq_self_eq_true _
      go_wp2_with fail
      refine (same_any _ B3 _ b3 RB B4 _ b4 RB true R3.out Q4.out rfl rfl (decide_eq_true rfl)).mono ?_
      rintro e w7 ⟨rfl, bb⟩
      skip
      replace HI := Lib.hid (HI.out.below bb)
      replace HT := Lib.hid (HT.out.below bb)
      replace HX := Lib.hid (HX.out.below bb)
      try replace R1 := Lib.hid (R1.out.below bb)
      try replace R2 := Lib.hid (R2.out.below bb)
      try replace R3 := Lib.hid (R3.out.below bb)
      replace bw := below_on bw bb bw.size
      clear bb
      go_wp2_with fail
      go_ret
      exact ⟨rfl, bw⟩
    | false =>
      go_wp2_with fail
      go_loopw [13, 14] (fun xv i wr => ∃ (k : Nat) (AX : Option Addr) (cX : Nat) (X : List Int), k ≤ ts.length ∧ i = .int .i64 k ∧ xv = .slice AX X.length cX ∧ X.length = k ∧ (∀ v ∈ X, 0 ≤ v ∧ v ≤ 4096) ∧ Gr iv 3 wr wt.heap.size AX cX X ∧ Below wt.heap.size wt wr) (fun _ i _ => ts.length - (intOf i).toNat)
      case atStart => exact ⟨0, none, 0, [], by omega, rfl, rfl, rfl, by simp, Gr.nil _ _, Below.refl _ _⟩
      case round =>
        obtain ⟨k, AX, cX, X, hk, rfl, rfl, hXl, hXb, hX, bl⟩ := hrel
        have HXG := Lib.hid hX
        have HXB := Lib.hid hXb
        have HXL := Lib.hid hXl
        have hx60 : X.length ≤ 60 := by omega
        clear hX hXb hXl
        by_cases hlt : k < ts.length
        · obtain ⟨ad, rfl, _, hc1, _, _⟩ := (HT.out.below bl).at k hlt
          have hvb := HV.out.1 ts[k].tr (List.mem_map_of_mem (List.getElem_mem hlt))
          have v1 : 0 ≤ ts[k].b := hvb.1
          have v2 : ts[k].b ≤ 4096 := hvb.2.1
          obtain ⟨nb, hnb⟩ : ∃ nb, ts[k].b = nb := ⟨_, rfl⟩
          rw [hnb] at hc1 v1 v2
          clear hvb hnb
          by_cases hlk : k < left.length
          · obtain ⟨fd, rfl, _, hfc⟩ := (HC.out.below (bw.trans (bl.mono bw.size))).at k hlk
            have hfcap := HC.out.cap
            have hwf := Lib.hid (HC.out.wf _ (List.getElem_mem hlk))
            have hwb := withinM_bd left[k] (show (1 : Int) ≤ nb + 1 by omega)
            obtain ⟨nv, hnv⟩ : ∃ nv, withinM left[k] (nb + 1) = nv := ⟨_, rfl⟩
            have HNV := Lib.hid hnv
            rw [hnv] at hwb
            have HWB := Lib.hid hwb
            clear hwb hnv
            go_wp2_with fail
            refine (within_any wr left[k] (nb + 1) hwf.out (by omega)).mono ?_
            rintro e wn ⟨rfl, rfl⟩
            rw [HNV.out]
            go_upto_region 14 with fail
            skip
            have hrow := int_one wr (nv) 3
            have b1 := (Below.refl wr.heap.size wr).alloc (Nat.le_refl _) (.cells #[.int .i64 (nv)] 3)
            have hg1 := HXG.out.below b1
            have bl2 := below_on bl b1 bl.size
            go_wp2_with (at_builtin; refine wpList_append_rd _ (mk := iv) (fun _ => rfl) rfl _ _ 22 rfl 3 i1 (iv 0) 8 Try.underlying22 hi hi0 hi1 hi2 rfl (B := wt.heap.size) rfl rfl hg1 (some ⟨wr.heap.size, 0, none⟩) 1 1 [nv] rfl rfl hrow (by simp only [maxLen]; omega) (by omega) bl2.size ?_; intro AX2 cX2 wq hgq _ hbq _)
            go_roundw
            case rel =>
              refine ⟨k + 1, AX2, cX2, X ++ [nv], by omega, by go_num, by simp, by have := HXL.out; simp [this], ?_, hgq, bl2.trans hbq⟩
              intro v hv
              rcases List.mem_append.1 hv with hv | hv
              · exact HXB.out v hv
              · rw [List.mem_singleton] at hv
                rw [hv]; exact ⟨HWB.out.1, (by have := HWB.out.2; omega)⟩
            case measure => simp [intOf]; omega
          · have hlk' : decide ((k : Int) < (left.length : Int)) = false := decide_eq_false (by omega)
            go_upto_region 14 with fail
            skip
            have hrow := int_one wr (nb) 3
            have b1 := (Below.refl wr.heap.size wr).alloc (Nat.le_refl _) (.cells #[.int .i64 (nb)] 3)
            have hg1 := HXG.out.below b1
            have bl2 := below_on bl b1 bl.size
            go_wp2_with (at_builtin; refine wpList_append_rd _ (mk := iv) (fun _ => rfl) rfl _ _ 22 rfl 3 i1 (iv 0) 8 Try.underlying22 hi hi0 hi1 hi2 rfl (B := wt.heap.size) rfl rfl hg1 (some ⟨wr.heap.size, 0, none⟩) 1 1 [nb] rfl rfl hrow (by simp only [maxLen]; omega) (by omega) bl2.size ?_; intro AX2 cX2 wq hgq _ hbq _)
            go_roundw
            case rel =>
              refine ⟨k + 1, AX2, cX2, X ++ [nb], by omega, by go_num, by simp, by have := HXL.out; simp [this], ?_, hgq, bl2.trans hbq⟩
              intro v hv
              rcases List.mem_append.1 hv with hv | hv
              · exact HXB.out v hv
              · rw [List.mem_singleton] at hv
                rw [hv]; exact ⟨v1, v2⟩
            case measure => simp [intOf]; omega
        · have HX := Lib.hid (HXG.out.is (fun v hv => by have := HXB.out v hv; omega))
          replace HI := Lib.hid (HI.out.below bl)
          replace HT := Lib.hid (HT.out.below bl)
          replace bw := below_on bw bl bw.size
          clear HXG bl
          skip
          obtain ⟨RA, hRA⟩ : ∃ R, stepR caps (ts.map Tm.tr) X tick = R := ⟨_, rfl⟩
          obtain ⟨EA, hEA⟩ : ∃ R, stepE caps (ts.map Tm.tr) X tick = R := ⟨_, rfl⟩
          obtain ⟨RB, hRB⟩ : ∃ R, stepR caps (ts.map Tm.tr) X (withinM tick 14) = R := ⟨_, rfl⟩
          obtain ⟨EB, hEB⟩ : ∃ R, stepE caps (ts.map Tm.tr) X (withinM tick 14) = R := ⟨_, rfl⟩
          have HRA := Lib.hid hRA
          have HEA := Lib.hid hEA
          have HRB := Lib.hid hRB
          have HEB := Lib.hid hEB
          clear hRA hEA hRB hEB
          go_wp2_with fail
          refine (tstep_any _ A' _ c' caps D' _ d' ts AX _ cX X tick HI.out HT.out HX.out rfl rfl rfl h60).mono ?_
          rintro e w1 hres
          obtain ⟨B1, b1, rfl, r1, bb⟩ := step_res hres
          have Q1 := Lib.hid r1
          clear r1 hres
          skip
          replace HI := Lib.hid (HI.out.below bb)
          replace HT := Lib.hid (HT.out.below bb)
          replace HX := Lib.hid (HX.out.below bb)
          try replace R1 := Lib.hid (R1.out.below bb)
          try replace R2 := Lib.hid (R2.out.below bb)
          try replace R3 := Lib.hid (R3.out.below bb)
          replace bw := below_on bw bb bw.size
          clear bb
          have R1 := Q1
          clear Q1
          rw [HRA.out, HEA.out]
          rw [HRA.out] at R1
          go_wp2_with fail
          refine (trstep_any _ A' _ c' caps D' _ d' ts AX _ cX X tick HI.out HT.out HX.out rfl rfl rfl h60).mono ?_
          rintro e w2 hres
          obtain ⟨B2, b2, rfl, r2, bb⟩ := step_res hres
          have Q2 := Lib.hid r2
          clear r2 hres
          skip
          replace HI := Lib.hid (HI.out.below bb)
          replace HT := Lib.hid (HT.out.below bb)
          replace HX := Lib.hid (HX.out.below bb)
          try replace R1 := Lib.hid (R1.out.below bb)
          try replace R2 := Lib.hid (R2.out.below bb)
          try replace R3 := Lib.hid (R3.out.below bb)
          replace bw := below_on bw bb bw.size
          clear bb
          have R2 := Q2
          clear Q2
          rw [HRA.out, HEA.out]
          rw [HRA.out] at R2
          go_wp2_with fail
          refine (within_any _ tick 14 HTK.out (by omega)).mono ?_
          rintro e wn ⟨rfl, rfl⟩
          go_wp2_with fail
          refine (tstep_any _ A' _ c' caps D' _ d' ts AX _ cX X (withinM tick 14) HI.out HT.out HX.out rfl rfl rfl h60).mono ?_
          rintro e w3 hres
          obtain ⟨B3, b3, rfl, r3, bb⟩ := step_res hres
          have Q3 := Lib.hid r3
          clear r3 hres
          skip
          replace HI := Lib.hid (HI.out.below bb)
          replace HT := Lib.hid (HT.out.below bb)
          replace HX := Lib.hid (HX.out.below bb)
          try replace R1 := Lib.hid (R1.out.below bb)
          try replace R2 := Lib.hid (R2.out.below bb)
          try replace R3 := Lib.hid (R3.out.below bb)
          replace bw := below_on bw bb bw.size
          clear bb
          have R3 := Q3
          clear Q3
          rw [HRB.out, HEB.out]
          rw [HRB.out] at R3
          go_wp2_with fail
          refine (within_any _ tick 14 HTK.out (by omega)).mono ?_
          rintro e wn ⟨rfl, rfl⟩
          go_wp2_with fail
          refine (trstep_any _ A' _ c' caps D' _ d' ts AX _ cX X (withinM tick 14) HI.out HT.out HX.out rfl rfl rfl h60).mono ?_
          rintro e w4 hres
          obtain ⟨B4, b4, rfl, r4, bb⟩ := step_res hres
          have Q4 := Lib.hid r4
          clear r4 hres
          skip
          replace HI := Lib.hid (HI.out.below bb)
          replace HT := Lib.hid (HT.out.below bb)
          replace HX := Lib.hid (HX.out.below bb)
          try replace R1 := Lib.hid (R1.out.below bb)
          try replace R2 := Lib.hid (R2.out.below bb)
          try replace R3 := Lib.hid (R3.out.below bb)
          replace bw := below_on bw bb bw.size
          clear bb
          rw [HRB.out, HEB.out]
          rw [HRB.out] at Q4
          go_wp2_with fail
          refine (awake_any _).mono ?_
          rintro e w5 ⟨rfl, bb⟩
          replace Q4 := Lib.hid (Q4.out.below bb)
          skip
          replace HI := Lib.hid (HI.out.below bb)
          replace HT := Lib.hid (HT.out.below bb)
          replace HX := Lib.hid (HX.out.below bb)
          try replace R1 := Lib.hid (R1.out.below bb)
          try replace R2 := Lib.hid (R2.out.below bb)
          try replace R3 := Lib.hid (R3.out.below bb)
          replace bw := below_on bw bb bw.size
          clear bb
          go_wp2_with fail
          refine (same_any _ B1 _ b1 RA B2 _ b2 RA true R1.out R2.out rfl rfl (decide_eq_true rfl)).mono ?_
          rintro e w6 ⟨rfl, bb⟩
          replace Q4 := Lib.hid (Q4.out.below bb)
          skip
          replace HI := Lib.hid (HI.out.below bb)
          replace HT := Lib.hid (HT.out.below bb)
          replace HX := Lib.hid (HX.out.below bb)
          try replace R1 := Lib.hid (R1.out.below bb)
          try replace R2 := Lib.hid (R2.out.below bb)
          try replace R3 := Lib.hid (R3.out.below bb)
          replace bw := below_on bw bb bw.size
          clear bb
          have e1 : (EA == EA) = true := beq_self_eq_true _
          have e2 : (EB == EB) = true := beq_self_eq_true _
          go_wp2_with fail
          refine (same_any _ B3 _ b3 RB B4 _ b4 RB true R3.out Q4.out rfl rfl (decide_eq_true rfl)).mono ?_
          rintro e w7 ⟨rfl, bb⟩
          skip
          replace HI := Lib.hid (HI.out.below bb)
          replace HT := Lib.hid (HT.out.below bb)
          replace HX := Lib.hid (HX.out.below bb)
          try replace R1 := Lib.hid (R1.out.below bb)
          try replace R2 := Lib.hid (R2.out.below bb)
          try replace R3 := Lib.hid (R3.out.below bb)
          replace bw := below_on bw bb bw.size
          clear bb
          go_wp2_with fail
          go_ret
          exact ⟨rfl, bw⟩
end Go.Proofs.Ytgjhjdjbhmblmaa
