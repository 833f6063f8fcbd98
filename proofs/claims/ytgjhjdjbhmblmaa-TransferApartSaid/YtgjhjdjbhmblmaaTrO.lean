/- The walks of the reference's able and Run. -/
import Derived.Test.YtgjhjdjbhmblmaaTrN
import Derived.Test.YtgjhjdjbhmblmaaTrR
namespace Go.Proofs.Ytgjhjdjbhmblmaa
open Go.RowKit

set_option maxRecDepth 100000 in
set_option maxHeartbeats 1600000 in
theorem able_any (w : World) (A : Option Addr) (n c : Nat) (caps : List Int) (D : Option Addr) (m d : Nat) (ts : List Tm) (hA : Is w A c caps) (hD : Ts w D d ts) (hn : n = caps.length) (hm : m = ts.length) (h60 : ts.length ≤ 60) :
    Calls Try.prog 35 #[.slice A n c, .slice D m d] w fun e w' => e = .returned (.int .i64 (checkM caps (ts.map Tm.tr))) ∧ Below w.heap.size w w' := by
  have HA := Lib.hid hA; clear hA
  have HD := Lib.hid hD; clear hD
  subst hn hm
  by_cases hv : validTr caps (ts.map Tm.tr)
  · have HV := Lib.hid hv
    clear hv
    go_enter Try.func35, Try.ntmps35
    go_wp2_with fail
    refine (trvalid_any w A _ c caps D _ d ts true HA.out HD.out rfl rfl h60 (decide_eq_true HV.out)).mono ?_
    rintro e wn ⟨rfl, bw⟩
    go_wp2_with fail
    go_loop [5] (fun i => ∃ k : Nat, k ≤ ts.length ∧ i = .int .i64 k ∧ (∀ t ∈ (ts.map Tm.tr).take k, ¬ stuckT caps t)) (fun i => ts.length - (intOf i).toNat)
    case atStart => exact ⟨0, by omega, rfl, by intro f hf; simp at hf⟩
    case round =>
      obtain ⟨k, hk, rfl, hF⟩ := hrel
      have HF := Lib.hid hF
      clear hF
      by_cases hlt : k < ts.length
      · obtain ⟨ad, rfl, hc0, hc1, hc2, hok⟩ := (HD.out.below bw).at k hlt
        have HFE : Hid (ts[k].tr ∈ ts.map Tm.tr) := Lib.hid (List.mem_map_of_mem (List.getElem_mem hlt))
        have HTK : Hid ((ts.map Tm.tr).take (k + 1) = (ts.map Tm.tr).take k ++ [ts[k].tr]) := Lib.hid (by rw [List.take_succ_eq_append_getElem (by simpa using hlt)]; simp)
        obtain ⟨x, hx⟩ : ∃ x, ts[k] = x := ⟨_, rfl⟩
        rw [hx] at hc0 hc1 HFE HTK hok
        have HX := Lib.hid hok
        have hxl := HX.out.is.len
        clear hx hc2 hok
        go_wp2_with fail
        go_loop [6] (fun i => ∃ j : Nat, j ≤ x.ls.length ∧ i = .int .i64 j ∧ (∀ e ∈ x.ls.take j, ¬ (0 < x.b ∧ caps.getD e.toNat 0 = 0))) (fun i => x.ls.length - (intOf i).toNat)
        case atStart => exact ⟨0, by omega, rfl, by intro e he; simp at he⟩
        case round =>
          obtain ⟨j, hj, rfl, hP⟩ := hrel
          have HP := Lib.hid hP
          clear hP
          by_cases hjt : j < x.ls.length
          · obtain ⟨ae, hae, _, hce⟩ := HX.out.is.at j hjt
            have hlk := (HV.out.links HFE.out).mem (List.getElem_mem hjt)
            obtain ⟨t, ht⟩ : ∃ t : Nat, x.ls[j] = (t : Int) := ⟨(x.ls[j]).toNat, by have : x.tr.1 = x.ls := rfl; omega⟩
            have htn : t < caps.length := by have : x.tr.1 = x.ls := rfl; omega
            obtain ⟨ac, hac, _, hcc⟩ := (HA.out.below bw).at t htn
            have HE : Hid (caps.getD (x.ls[j]).toNat 0 = caps[t]) := Lib.hid (by rw [ht, Int.toNat_natCast, getD_lt _ _ _ htn])
            have HM : Hid (x.ls[j] ∈ x.ls) := Lib.hid (List.getElem_mem hjt)
            rw [ht] at hce
            rw [hae] at hc0
            have hacap := HA.out.cap
            have hamax := HA.out.max
            have HT := Lib.hid ht
            subst hac
            clear hlk ht
            by_cases c1 : 0 < x.b
            · by_cases c2 : caps[t] = 0
              · have c2' : (caps[t] == 0) = true := by simp [c2]
                have HBB : Hid (checkM caps (ts.map Tm.tr) = 113) := Lib.hid (checkM_stuck HV.out HFE.out ⟨c1, x.ls[j], HM.out, by rw [HE.out]; exact c2⟩)
                clear c2
                go_wp2_with fail
                go_ret
                exact ⟨ret_int HBB.out.symm, bw⟩
              · have c2' : (caps[t] == 0) = false := beq_eq_false_iff_ne.2 c2
                have HNX : Hid (∀ e ∈ x.ls.take (j + 1), ¬ (0 < x.b ∧ caps.getD e.toNat 0 = 0)) := Lib.hid (by
                  intro e he
                  rw [List.take_succ_eq_append_getElem hjt, List.mem_append, List.mem_singleton] at he
                  rcases he with he | he
                  · exact HP.out e he
                  · rw [he, HE.out]; exact fun h => c2 h.2)
                clear c2 HP
                go_wp2_with fail
                go_round
                case rel => exact ⟨j + 1, by omega, by go_num, HNX.out⟩
                case measure => simp [intOf]; omega
            · have c1' : decide (0 < x.b) = false := decide_eq_false c1
              have HNX : Hid (∀ e ∈ x.ls.take (j + 1), ¬ (0 < x.b ∧ caps.getD e.toNat 0 = 0)) := Lib.hid (fun e _ h => c1 h.1)
              clear c1 HP
              go_wp2_with fail
              go_round
              case rel => exact ⟨j + 1, by omega, by go_num, HNX.out⟩
              case measure => simp [intOf]; omega
          · have HNX : Hid (∀ t ∈ (ts.map Tm.tr).take (k + 1), ¬ stuckT caps t) := Lib.hid (by
              rw [HTK.out]
              intro f hf
              rw [List.mem_append, List.mem_singleton] at hf
              rcases hf with hf | rfl
              · exact HF.out f hf
              · rintro ⟨h1, e, he, h2⟩
                exact HP.out e (by rw [List.take_of_length_le (by omega)]; exact he) ⟨h1, h2⟩)
            clear HP HF
            go_wp2_with fail
            go_round
            case rel => exact ⟨k + 1, by omega, by go_num, HNX.out⟩
            case measure => simp [intOf]; omega
      · have HBB : Hid (checkM caps (ts.map Tm.tr) = 0) := Lib.hid (checkM_ok HV.out (fun t ht => HF.out t (by rw [List.take_of_length_le (by simp; omega)]; exact ht)))
        clear HF
        go_wp2_with fail
        go_ret
        exact ⟨ret_int HBB.out.symm, bw⟩
  · have HV : Hid (¬ validTr caps (ts.map Tm.tr)) := hv
    have HBB : Hid (checkM caps (ts.map Tm.tr) = 1) := Lib.hid (checkM_bad hv)
    clear hv
    go_enter Try.func35, Try.ntmps35
    go_wp2_with fail
    refine (trvalid_any w A _ c caps D _ d ts false HA.out HD.out rfl rfl h60 (decide_eq_false HV.out)).mono ?_
    rintro e wn ⟨rfl, bw⟩
    go_wp2_with fail
    go_ret
    exact ⟨ret_int HBB.out.symm, bw⟩
theorem trrun_bad (w : World) (A : Option Addr) (n c : Nat) (caps : List Int) (D : Option Addr) (m d : Nat) (ts : List Tm) (hA : Is w A c caps) (hD : Ts w D d ts) (hn : n = caps.length) (hm : m = ts.length) (h60 : ts.length ≤ 60) (E : Int) (hE : checkM caps (ts.map Tm.tr) = E) (h0 : E ≠ 0) :
    Calls Try.prog 21 #[.slice A n c, .slice D m d] w (RunRes w ⟨[], [], 0⟩ E) := by
  have HA := Lib.hid hA; clear hA
  have HD := Lib.hid hD; clear hD
  have HE := Lib.hid hE; clear hE
  subst hn hm
  have h0' : (E == 0) = false := beq_eq_false_iff_ne.2 h0
  have h0'' : (E != 0) = true := by simp [h0]
  clear h0
  go_enter Try.func21, Try.ntmps21
  go_upto_region 1 with fail
  obtain ⟨bk, b0, z0⟩ := bk2_alloc w (.slice none 0 0) (.int .i64 0) 29
  generalize (w.alloc (.cells #[.slice none 0 0, .int .i64 0] 29)) = w0 at bk b0 z0 ⊢
  go_wp2_with fail
  refine (able_any w0 A _ c caps D _ d ts (HA.out.below b0) (HD.out.below b0) rfl rfl h60).mono ?_
  rw [HE.out]
  rintro e w1 ⟨rfl, bb⟩
  have bk1 := bk.below bb
  have k0 := bk1.c0
  have k1 := bk1.c1
  have kf0 := bk1.f0
  have kf1 := bk1.f1
  have bw := below_on b0 bb b0.size
  clear bk b0 bb
  go_wp2_with fail
  refine bodyPost_ret (v := .tuple #[.agg #[.slice none 0 0, .int .i64 0], .int .i64 E]) (by simp [results, Try.results21, go_sem, k0, k1]) rfl ?_
  exact ⟨none, 0, rfl, Is.nil _ _ _ (by omega), (bw.setCell (p := ⟨w.heap.size, 0, none⟩) (Nat.le_refl _) _).setCell (p := ⟨w.heap.size, 1, none⟩) (Nat.le_refl _) _⟩
end Go.Proofs.Ytgjhjdjbhmblmaa
