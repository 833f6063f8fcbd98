/- The walk of transfer.Step. -/
import Derived.Test.YtgjhjdjbhmblmaaTrV
namespace Go.Proofs.Ytgjhjdjbhmblmaa
open Go.RowKit

/-- what Step hands back -/
def StepRes (caps : List Int) (l : List Tr) (left : List Int) (tick : Int) (w : World) (e : Ending) (w' : World) : Prop :=
  if stepOk caps l left tick then ∃ A' c', e = .returned (.tuple #[.slice A' (sentM caps l left tick).length c', .int .i64 0]) ∧ Gr iv 3 w' w.heap.size A' c' (sentM caps l left tick) ∧ Below w.heap.size w w'
  else e = .returned (.tuple #[.slice none 0 0, .int .i64 1]) ∧ Below w.heap.size w w'
theorem StepRes.bad {caps : List Int} {l : List Tr} {left : List Int} {tick : Int} {w w' : World} {e : Ending} (h : ¬ stepOk caps l left tick) (he : e = .returned (.tuple #[.slice none 0 0, .int .i64 1])) (hb : Below w.heap.size w w') : StepRes caps l left tick w e w' := by
  rw [StepRes, if_neg h]; exact ⟨he, hb⟩
def leftTo (l : List Tr) (left : List Int) (k : Nat) : Prop := ∀ i (h : i < left.length), i < k → 0 ≤ left[i] ∧ left[i] ≤ (l.getD i ([], 0, 0)).2.1
theorem bx_alloc (w : World) (v : Value) (t : TypeId) : (w.alloc (.cells #[v] t)).cell? ⟨w.heap.size, 0, none⟩ = some v ∧ Below w.heap.size w (w.alloc (.cells #[v] t)) ∧ (w.alloc (.cells #[v] t)).heap.size = w.heap.size + 1 :=
  ⟨by go_simp, (Below.refl _ _).alloc (Nat.le_refl _) _, by simp⟩
set_option maxRecDepth 100000 in
set_option maxHeartbeats 1600000 in
theorem tstep_any (w : World) (A : Option Addr) (n c : Nat) (caps : List Int) (D : Option Addr) (m d : Nat) (ts : List Tm) (E : Option Addr) (p q : Nat) (left : List Int) (tick : Int) (hA : Is w A c caps) (hD : Ts w D d ts) (hE : Is w E q left) (hn : n = caps.length) (hm : m = ts.length) (hp : p = left.length) (h60 : ts.length ≤ 60) :
    Calls Try.prog 15 #[.slice A n c, .slice D m d, .slice E p q, .int .i64 tick] w (StepRes caps (ts.map Tm.tr) left tick w) := by
  have HA := Lib.hid hA; clear hA
  have HD := Lib.hid hD; clear hD
  have HE := Lib.hid hE; clear hE
  subst hn hm hp
  have hlen := HE.out.len
  have hlen2 : ((ts.map Tm.tr).length : Nat) = ts.length := by simp
  have HLT := Lib.hid hlen2
  clear hlen2
  go_enter Try.func15, Try.ntmps15
  go_upto_region 1 with fail
  obtain ⟨x5, b5, z5⟩ := bx_alloc w (.slice D ts.length d) 23
  generalize (w.alloc (.cells #[.slice D ts.length d] 23)) = wa at x5 b5 z5 ⊢
  obtain ⟨x6, b6, z6⟩ := bx_alloc wa (.slice E left.length q) 22
  rw [z5] at x6 z6
  generalize (wa.alloc (.cells #[.slice E left.length q] 22)) = wb at x6 b6 z6 ⊢
  obtain ⟨x7, b7, z7⟩ := bx_alloc wb (.int .i64 tick) 3
  rw [z6] at x7 z7
  generalize (wb.alloc (.cells #[.int .i64 tick] 3)) = wm at x7 b7 z7 ⊢
  have bw : Below w.heap.size w wm := below_on (below_on b5 b6 (by omega)) b7 (by omega)
  have y6 := (b7.cell (p := ⟨w.heap.size + 1, 0, none⟩) (show w.heap.size + 1 < wb.heap.size by omega)).trans x6
  have y5 := (b7.cell (p := ⟨w.heap.size, 0, none⟩) (show w.heap.size < wb.heap.size by omega)).trans ((b6.cell (p := ⟨w.heap.size, 0, none⟩) (show w.heap.size < wa.heap.size by omega)).trans x5)
  clear x5 x6 b5 b6 b7 z5 z6
  have HK : Hid (∀ wz, Below wm.heap.size wm wz → wz.cell? ⟨w.heap.size, 0, none⟩ = some (.slice D ts.length d) ∧ wz.cell? ⟨w.heap.size + 1, 0, none⟩ = some (.slice E left.length q) ∧ wz.cell? ⟨w.heap.size + 1 + 1, 0, none⟩ = some (.int .i64 tick)) := Lib.hid (fun wz hb =>
    ⟨(hb.cell (p := ⟨w.heap.size, 0, none⟩) (show w.heap.size < wm.heap.size by omega)).trans y5, (hb.cell (p := ⟨w.heap.size + 1, 0, none⟩) (show w.heap.size + 1 < wm.heap.size by omega)).trans y6, (hb.cell (p := ⟨w.heap.size + 1 + 1, 0, none⟩) (show w.heap.size + 1 + 1 < wm.heap.size by omega)).trans x7⟩)
  by_cases hv : validTr caps (ts.map Tm.tr)
  · have HV := Lib.hid hv
    clear hv
    by_cases hl : left.length = ts.length
    · have hl' : ((left.length : Int) == (ts.length : Int)) = true := by simp [hl]
      have hl2 : ((left.length : Int) != (ts.length : Int)) = false := by simp [hl]
      have HL := Lib.hid hl
      clear hl
      by_cases ht : 0 ≤ tick
      · have ht' : decide (tick < 0) = false := decide_eq_false (by omega)
        go_wp2_with fail
        refine (tvalid_any wm A _ c caps D _ d ts true (HA.out.below bw) (HD.out.below bw) rfl rfl h60 (decide_eq_true HV.out)).mono ?_
        rintro e wn ⟨rfl, bb⟩
        obtain ⟨k5, k6, k7⟩ := HK.out wn bb
        have bw2 := below_on bw bb bw.size
        have BM := Lib.hid bb
        clear bb y5 y6 x7
        go_wp2_with fail
        go_loop [29] (fun i => ∃ k : Nat, k ≤ left.length ∧ i = .int .i64 k ∧ leftTo (ts.map Tm.tr) left k) (fun i => left.length - (intOf i).toNat)
        case atStart => exact ⟨0, by omega, rfl, by intro i _ h0; omega⟩
        case round =>
          obtain ⟨k, hk, rfl, hP⟩ := hrel
          have HP := Lib.hid hP
          clear hP
          by_cases hlt : k < left.length
          · obtain ⟨ae, hae, _, hce⟩ := (HE.out.below bw2).at k hlt
            obtain ⟨ad, had, hc0, hc1, hc2, _⟩ := (HD.out.below bw2).at k (by have := HL.out; omega)
            have hkm := HL.out
            have hkl : k < ts.length := by omega
            have HGD : Hid (((ts.map Tm.tr).getD k ([], 0, 0)).2.1 = (ts[k]'hkl).b) := Lib.hid (by rw [getD_tr, getD_lt _ _ _ hkl])
            clear hc0 hc2 hkm
            rw [had] at k5
            rw [hae] at k6
            have HBAD : Hid (¬ (0 ≤ left[k] ∧ left[k] ≤ (ts[k]'hkl).b) → ¬ stepOk caps (ts.map Tm.tr) left tick) := Lib.hid (by
              intro h h'
              have := h'.2.2.2 k hlt
              rw [HGD.out] at this
              exact h this)
            by_cases c1 : 0 ≤ left[k]
            · have c1' : decide (left[k] < 0) = false := decide_eq_false (by omega)
              by_cases c2 : left[k] ≤ (ts[k]'hkl).b
              · have c2' : decide ((ts[k]'hkl).b < left[k]) = false := decide_eq_false (by omega)
                have HNX : Hid (leftTo (ts.map Tm.tr) left (k + 1)) := Lib.hid (by
                  intro i hi hik
                  rcases Nat.lt_or_ge i k with h4 | h4
                  · exact HP.out i hi h4
                  · have : i = k := by omega
                    subst this
                    rw [HGD.out]; exact ⟨c1, c2⟩)
                clear HBAD HP
                go_wp2_with fail
                go_round
                case rel => exact ⟨k + 1, by omega, by go_num, HNX.out⟩
                case measure => simp [intOf]; omega
              · have c2' : decide ((ts[k]'hkl).b < left[k]) = true := decide_eq_true (by omega)
                have HBB := Lib.hid (HBAD.out (fun h => c2 h.2))
                clear HBAD HP
                go_wp2_with fail
                go_ret2
                exact StepRes.bad HBB.out rfl bw2
            · have c1' : decide (left[k] < 0) = true := decide_eq_true (by omega)
              have HBB := Lib.hid (HBAD.out (fun h => c1 h.1))
              clear HBAD HP
              go_wp2_with fail
              go_ret2
              exact StepRes.bad HBB.out rfl bw2
          · have HOK : Hid (stepOk caps (ts.map Tm.tr) left tick) := Lib.hid ⟨HV.out, by rw [HL.out, HLT.out], ht, fun i hi => HP.out i hi (by omega)⟩
            clear HP
            go_wp2_with fail
            refine (flowsL_any wn D _ d ts ⟨w.heap.size, 0, none⟩ ⟨w.heap.size + 1, 0, none⟩ ⟨w.heap.size + 1 + 1, 0, none⟩ E _ q left tick k5 k6 k7 (show w.heap.size < wn.heap.size by have := BM.out.size; omega) (show w.heap.size + 1 < wn.heap.size by have := BM.out.size; omega) (show w.heap.size + 1 + 1 < wn.heap.size by have := BM.out.size; omega) (HD.out.below bw2) (HE.out.below bw2) rfl rfl HL.out.symm h60).mono ?_
            rintro e wf ⟨A', c', rfl, hfw, bb⟩
            have hws := hfw.ws (flowsTo_ok (fun x hx => ((HD.out.below bw2).below bb).ok x hx) (fun j hj => by
              rw [limF_T]
              have := limT_bd HOK.out j (by rw [HLT.out]; exact hj)
              omega))
            have bw3 := below_on bw2 bb bw2.size
            have HW := Lib.hid hws
            have hfl : (flowsTo ts (limF ts left tick) ts.length).map Fm.fl = flT (ts.map Tm.tr) (limT (ts.map Tm.tr) left tick) := by
              rw [flowsTo_flT]
              have : limF ts left tick = limT (ts.map Tm.tr) left tick := funext (fun k => limF_T ts left tick k)
              rw [this]
            have HFL := Lib.hid hfl
            clear hws hfw bb hfl k5 k6 k7
            go_wp2_with fail
            refine (funits_ok _ A _ c caps A' _ c' (flowsTo ts (limF ts left tick) ts.length) (HA.out.below bw3) HW.out rfl (flowsTo_len _ _ _).symm (by rw [HFL.out]; exact HOK.out.fl)).mono ?_
            rintro e wu ⟨A2, c2, rfl, hgr, bb⟩
            rw [HFL.out] at hgr ⊢
            go_wp2_with fail
            go_ret2
            rw [StepRes, if_pos HOK.out]
            exact ⟨A2, c2, rfl, hgr.more (fun ad e => Nat.le_trans bw3.size (hgr.form.2.2 ad e).1), below_on bw3 bb bw3.size⟩
      · have ht' : decide (tick < 0) = true := decide_eq_true (by omega)
        have HBB : Hid (¬ stepOk caps (ts.map Tm.tr) left tick) := Lib.hid (fun h => ht h.2.2.1)
        go_wp2_with fail
        refine (tvalid_any wm A _ c caps D _ d ts true (HA.out.below bw) (HD.out.below bw) rfl rfl h60 (decide_eq_true HV.out)).mono ?_
        rintro e wn ⟨rfl, bb⟩
        obtain ⟨k5, k6, k7⟩ := HK.out wn bb
        have bw2 := below_on bw bb bw.size
        clear bb y5 y6 x7
        go_wp2_with fail
        go_ret2
        exact StepRes.bad HBB.out rfl bw2
    · have hl' : ((left.length : Int) == (ts.length : Int)) = false := beq_eq_false_iff_ne.2 (by omega)
      have hl2 : ((left.length : Int) != (ts.length : Int)) = true := by simp; omega
      have HBB : Hid (¬ stepOk caps (ts.map Tm.tr) left tick) := Lib.hid (fun h => hl (by rw [← HLT.out]; exact h.2.1))
      clear hl
      go_wp2_with fail
      refine (tvalid_any wm A _ c caps D _ d ts true (HA.out.below bw) (HD.out.below bw) rfl rfl h60 (decide_eq_true HV.out)).mono ?_
      rintro e wn ⟨rfl, bb⟩
      obtain ⟨k5, k6, k7⟩ := HK.out wn bb
      have bw2 := below_on bw bb bw.size
      clear bb y5 y6 x7
      go_wp2_with fail
      go_ret2
      exact StepRes.bad HBB.out rfl bw2
  · have HBB : Hid (¬ stepOk caps (ts.map Tm.tr) left tick) := Lib.hid (fun h => hv h.1)
    have HV : Hid (¬ validTr caps (ts.map Tm.tr)) := hv
    clear hv
    go_wp2_with fail
    refine (tvalid_any wm A _ c caps D _ d ts false (HA.out.below bw) (HD.out.below bw) rfl rfl h60 (decide_eq_false HV.out)).mono ?_
    rintro e wn ⟨rfl, bb⟩
    obtain ⟨k5, k6, k7⟩ := HK.out wn bb
    have bw2 := below_on bw bb bw.size
    clear bb y5 y6 x7
    go_wp2_with fail
    go_ret2
    exact StepRes.bad HBB.out rfl bw2
end Go.Proofs.Ytgjhjdjbhmblmaa
