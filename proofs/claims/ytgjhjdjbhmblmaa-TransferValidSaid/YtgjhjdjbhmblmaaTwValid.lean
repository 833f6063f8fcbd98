/- The walk of TransferValid. -/
import Derived.Test.YtgjhjdjbhmblmaaTrW
import Derived.Test.YtgjhjdjbhmblmaaTrO
namespace Go.Proofs.Ytgjhjdjbhmblmaa
open Go.RowKit

set_option maxRecDepth 100000 in
set_option maxHeartbeats 1600000 in
theorem valid_walk (w : World) (A : Option Addr) (c : Nat) (caps : List Int) (D : Option Addr) (d : Nat) (ts : List Tm) (hA : Is w A c caps) (hD : Ts w D d ts) :
    Calls Try.prog 3 #[.slice A caps.length c, .slice D ts.length d] w fun e w' => e = .returned (.bool true) ∧ Below w.heap.size w w' := by
  have HA := Lib.hid hA; clear hA
  have HD := Lib.hid hD; clear hD
  have bw := Below.refl w.heap.size w
  have hla := HA.out.len
  have hld : ts.length ≤ 9223372036854775807 := Nat.le_trans HD.out.cap HD.out.max
  by_cases h80 : 80 < caps.length
  · have h1 : decide ((80 : Int) < (caps.length : Int)) = true := decide_eq_true (by omega)
    go_enter Try.func3, Try.ntmps3
    go_wp2_with fail
    refine (awake_any _).mono ?_
    rintro e wn ⟨rfl, bb⟩
    replace bw := below_on bw bb bw.size
    clear bb
    go_wp2_with fail
    go_ret
    exact ⟨rfl, bw⟩
  · have h1 : decide ((80 : Int) < (caps.length : Int)) = false := decide_eq_false (by omega)
    by_cases h60 : 60 < ts.length
    · have h2 : decide ((60 : Int) < (ts.length : Int)) = true := decide_eq_true (by omega)
      go_enter Try.func3, Try.ntmps3
      go_wp2_with fail
      refine (awake_any _).mono ?_
      rintro e wn ⟨rfl, bb⟩
      replace bw := below_on bw bb bw.size
      clear bb
      go_wp2_with fail
      go_ret
      exact ⟨rfl, bw⟩
    · have h2 : decide ((60 : Int) < (ts.length : Int)) = false := decide_eq_false (by omega)
      have h60' : ts.length ≤ 60 := by omega
      go_enter Try.func3, Try.ntmps3
      go_wp2_with fail
      go_loop [5] (fun i => ∃ k : Nat, k ≤ ts.length ∧ i = .int .i64 k) (fun i => ts.length - (intOf i).toNat)
      case atStart => exact ⟨0, by omega, rfl⟩
      case round =>
        obtain ⟨k, hk, rfl⟩ := hrel
        by_cases hlt : k < ts.length
        · obtain ⟨ad, rfl, hc0, _, _, hok⟩ := HD.out.at k hlt
          have hxl := hok.is.len
          clear hok
          by_cases h80' : 80 < ts[k].ls.length
          · have h3 : decide ((80 : Int) < (ts[k].ls.length : Int)) = true := decide_eq_true (by omega)
            skip
            go_wp2_with fail
            refine (awake_any _).mono ?_
            rintro e wn ⟨rfl, bb⟩
            replace bw := below_on bw bb bw.size
            clear bb
            go_wp2_with fail
            go_ret
            exact ⟨rfl, bw⟩
          · have h3 : decide ((80 : Int) < (ts[k].ls.length : Int)) = false := decide_eq_false (by omega)
            go_wp2_with fail
            go_round
            case rel => exact ⟨k + 1, by omega, by go_num⟩
            case measure => simp [intOf]; omega
        · by_cases hv : validTr caps (ts.map Tm.tr)
          · have HV := Lib.hid hv
            clear hv
            go_wp2_with fail
            refine (trvalid_any w A _ c caps D _ d ts true HA.out HD.out rfl rfl h60' (decide_eq_true HV.out)).mono ?_
            rintro e wn ⟨rfl, bb⟩
            replace bw := below_on bw bb bw.size
            clear bb
            go_wp2_with fail
            refine (tvalid_any _ A _ c caps D _ d ts true (HA.out.below bw) (HD.out.below bw) rfl rfl h60' (decide_eq_true HV.out)).mono ?_
            rintro e wn ⟨rfl, bb⟩
            replace bw := below_on bw bb bw.size
            clear bb
            skip
            go_wp2_with fail
            refine (awake_any _).mono ?_
            rintro e wn ⟨rfl, bb⟩
            replace bw := below_on bw bb bw.size
            clear bb
            go_wp2_with fail
            go_ret
            exact ⟨rfl, bw⟩
          · have HV : Hid (¬ validTr caps (ts.map Tm.tr)) := hv
            have HC : Hid (checkM caps (ts.map Tm.tr) = 1) := Lib.hid (checkM_bad hv)
            clear hv
            obtain ⟨i1, hi, hi0, hi1, hi2⟩ := info_parts int_info
            go_wp2_with fail
            refine (trvalid_any w A _ c caps D _ d ts false HA.out HD.out rfl rfl h60' (decide_eq_false HV.out)).mono ?_
            rintro e wn ⟨rfl, bb⟩
            replace bw := below_on bw bb bw.size
            clear bb
            go_wp2_with fail
            refine (tvalid_any _ A _ c caps D _ d ts false (HA.out.below bw) (HD.out.below bw) rfl rfl h60' (decide_eq_false HV.out)).mono ?_
            rintro e wn ⟨rfl, bb⟩
            replace bw := below_on bw bb bw.size
            clear bb
            go_wp2_with fail
            refine (trun_bad _ A _ c caps D _ d ts (HA.out.below bw) (HD.out.below bw) rfl rfl h60' 1 HC.out (by omega)).mono ?_
            rintro e wr ⟨A', c', rfl, _, bb⟩
            replace bw := below_on bw bb bw.size
            clear bb
            go_upto_region 14 with fail
            obtain ⟨bk, bb, _⟩ := bk2_alloc wr (.slice A' 0 c') (.int .i64 0) 29
            replace bw := below_on bw bb bw.size
            clear bb
            generalize (wr.alloc (.cells #[.slice A' 0 c', .int .i64 0] 29)) = ws at bk bw ⊢
            generalize wr.heap.size = gs at *
            go_wp2_with fail
            refine (tbound_bad ws A _ c caps D _ d ts (HA.out.below bw) (HD.out.below bw) rfl rfl h60' 1 HC.out (by omega)).mono ?_
            rintro e wb ⟨rfl, bb⟩
            replace bw := below_on bw bb bw.size
            replace bk := bk.below bb
            clear bb
            go_wp2_with (refine wpList_make_rd wb (mk := iv) 0 rfl _ _ 22 rfl 3 i1 8 Try.underlying22 hi hi0 hi1 hi2 rfl .i64 .i64 _ _ (ts.length) rfl rfl (by omega) (by omega) (by omega) (by simp only [maxLen]; omega) ?_; intro wm hgm hbm hsm)
            have hz := hgm.is (by intro x hx; rw [List.eq_of_mem_replicate hx]; omega)
            replace bw := below_on bw hbm bw.size
            replace bk := bk.below hbm
            clear hgm hbm hsm
            refine (tstep_any wm A _ c caps D _ d ts _ _ _ (List.replicate ts.length 0) 0 (HA.out.below bw) (HD.out.below bw) hz rfl rfl (by simp) h60').mono ?_
            rintro e wt hres
            rw [StepRes, if_neg (fun h => HV.out h.1)] at hres
            obtain ⟨rfl, bb⟩ := hres
            replace bw := below_on bw bb bw.size
            replace bk := bk.below bb
            clear bb hz
            go_wp2_with fail
            refine (awake_any _).mono ?_
            rintro e wn ⟨rfl, bb⟩
            replace bw := below_on bw bb bw.size
            replace bk := bk.below bb
            clear bb
            have k0 := bk.c0
            have k1 := bk.c1
            go_wp2_with fail
            go_ret
            exact ⟨rfl, bw⟩
end Go.Proofs.Ytgjhjdjbhmblmaa
