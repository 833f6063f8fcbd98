/- The walk of FairshareValid. -/
import Derived.Test.YthdfflbhogfejaaFhI
import Derived.Test.YthdfflbhogfejaaFsR
namespace Go.Proofs.Ythdfflbhogfejaa
open Go.RowKit

set_option maxRecDepth 100000 in
theorem funits_bad (w : World) (A : Option Addr) (n c : Nat) (caps : List Int) (D : Option Addr) (m d : Nat) (fs : List Fm) (hA : Is w A c caps) (hD : Ws w D d fs) (hn : n = caps.length) (hm : m = fs.length) (hv : ¬ validFl caps (fs.map Fm.fl)) :
    Calls Try.prog 18 #[.slice A n c, .slice D m d] w fun e w' => e = .returned (.tuple #[.slice none 0 0, .int .i64 1]) ∧ Below w.heap.size w w' := by
  have HV : Hid (¬ validFl caps (fs.map Fm.fl)) := hv
  clear hv
  subst hn hm
  go_enter Try.func18, Try.ntmps18
  go_wp2_with fail
  refine (flvalid_any w A _ c caps D _ d fs false hA hD rfl rfl (decide_eq_false HV.out)).mono ?_
  rintro e w1 ⟨rfl, bw⟩
  go_wp2_with fail
  go_ret2
  exact ⟨rfl, bw⟩
set_option maxRecDepth 100000 in
theorem small_any (w : World) (A : Option Addr) (n c : Nat) (caps : List Int) (D : Option Addr) (m d : Nat) (fs : List Fm) (hA : Is w A c caps) (hD : Ws w D d fs) (hn : n = caps.length) (hm : m = fs.length) :
    Calls Try.prog 14 #[.slice A n c, .slice D m d] w fun e w' => (∃ x : Fx, e = .returned (.bool x.b)) ∧ w = w' := by
  have hla := hA.len
  have hld : fs.length ≤ 9223372036854775807 := Nat.le_trans hD.cap hD.max
  have HD := Lib.hid hD
  clear hD
  subst hn hm
  go_enter Try.func14, Try.ntmps14
  go_wp2_with fail
  go_loop [5] (fun i => ∃ k : Nat, k ≤ fs.length ∧ k ≤ 100 ∧ i = .int .i64 k) (fun i => 100 - (intOf i).toNat)
  case atStart => exact ⟨0, by omega, by omega, rfl⟩
  case round =>
    obtain ⟨k, hk, h100, rfl⟩ := hrel
    have hend : True := trivial
    by_cases hlt : k < fs.length
    · by_cases h1 : k < 100
      · obtain ⟨ad, rfl, _, hcc⟩ := HD.out.rd (by omega)
        obtain ⟨hc0, hc1⟩ := hcc k hlt
        have hxl := (HD.out.ok _ (List.getElem_mem hlt)).is.len
        obtain ⟨x, hx⟩ : ∃ x, fs[k] = x := ⟨_, rfl⟩
        rw [hx] at hc0 hc1 hxl
        clear hcc hx
        by_cases h80 : 80 < x.ls.length
        · have h3 : decide ((80 : Int) < (x.ls.length : Int)) = true := decide_eq_true (by omega)
          go_wp2_with fail
          go_ret
          exact ⟨⟨⟨_, none, 0, [], none, 0, []⟩, rfl⟩, rfl⟩
        · have h3 : decide ((80 : Int) < (x.ls.length : Int)) = false := decide_eq_false (by omega)
          go_wp2_with fail
          go_round
          case rel => exact ⟨k + 1, by omega, by omega, by go_num⟩
          case measure => simp [intOf]; omega
      · have h2 : decide ((k : Int) < 100) = false := decide_eq_false (by omega)
        by_cases h4 : caps.length ≤ 80
        · have h5 : decide ((caps.length : Int) ≤ 80) = true := decide_eq_true (by omega)
          go_wp2_with fail
          go_ret
          exact ⟨⟨⟨_, none, 0, [], none, 0, []⟩, rfl⟩, rfl⟩
        · have h5 : decide ((caps.length : Int) ≤ 80) = false := decide_eq_false (by omega)
          go_wp2_with fail
          go_ret
          exact ⟨⟨⟨_, none, 0, [], none, 0, []⟩, rfl⟩, rfl⟩
    · by_cases h4 : caps.length ≤ 80
      · have h5 : decide ((caps.length : Int) ≤ 80) = true := decide_eq_true (by omega)
        go_wp2_with fail
        go_ret
        exact ⟨⟨⟨_, none, 0, [], none, 0, []⟩, rfl⟩, rfl⟩
      · have h5 : decide ((caps.length : Int) ≤ 80) = false := decide_eq_false (by omega)
        go_wp2_with fail
        go_ret
        exact ⟨⟨⟨_, none, 0, [], none, 0, []⟩, rfl⟩, rfl⟩
set_option maxRecDepth 100000 in
set_option maxHeartbeats 4000000 in
theorem fvalid_walk (w : World) (A : Option Addr) (c : Nat) (caps : List Int) (D : Option Addr) (d : Nat) (fs : List Fm) (hA : Is w A c caps) (hD : Ws w D d fs) :
    Calls Try.prog 3 #[.slice A caps.length c, .slice D fs.length d] w fun e w' => e = .returned (.bool true) ∧ Below w.heap.size w w' := by
  have HA := Lib.hid hA; clear hA
  have HD := Lib.hid hD; clear hD
  have bw := Below.refl w.heap.size w
  go_enter Try.func3, Try.ntmps3
  go_wp2_with fail
  refine (small_any w A _ c caps D _ d fs HA.out HD.out rfl rfl).mono ?_
  rintro e wn ⟨⟨x, rfl⟩, rfl⟩
  obtain ⟨b, hb⟩ : ∃ b, x.b = b := ⟨_, rfl⟩
  rw [hb]
  clear hb
  cases b with
  | false =>
    skip
    go_wp2_with fail
    refine (awakes_any _).mono ?_
    rintro e wn ⟨rfl, bb⟩
    replace bw := below_on bw bb bw.size
    go_wp2_with fail
    go_ret
    exact ⟨rfl, bw⟩
  | true =>
    by_cases hv : validFl caps (fs.map Fm.fl)
    · have HV := Lib.hid (decide_eq_true hv)
      clear hv
      go_wp2_with fail
      refine (rvalid_any w A _ c caps D _ d fs true HA.out HD.out rfl rfl HV.out).mono ?_
      rintro e w1 ⟨rfl, rfl⟩
      go_wp2_with fail
      refine (flvalid_any w A _ c caps D _ d fs true (HA.out.below bw) (HD.out.below bw) rfl rfl HV.out).mono ?_
      rintro e w2 ⟨rfl, bb⟩
      replace bw := below_on bw bb bw.size
      clear bb
      go_wp2_with fail
      refine (awakes_any _).mono ?_
      rintro e wn ⟨rfl, bb⟩
      replace bw := below_on bw bb bw.size
      go_wp2_with fail
      go_ret
      exact ⟨rfl, bw⟩
    · have HV := Lib.hid (decide_eq_false hv)
      have HNV : Hid (¬ validFl caps (fs.map Fm.fl)) := hv
      clear hv
      go_wp2_with fail
      refine (rvalid_any w A _ c caps D _ d fs false HA.out HD.out rfl rfl HV.out).mono ?_
      rintro e w1 ⟨rfl, rfl⟩
      go_wp2_with fail
      refine (flvalid_any w A _ c caps D _ d fs false (HA.out.below bw) (HD.out.below bw) rfl rfl HV.out).mono ?_
      rintro e w2 ⟨rfl, bb⟩
      replace bw := below_on bw bb bw.size
      clear bb
      go_wp2_with fail
      refine (funits_bad w2 A _ c caps D _ d fs (HA.out.below bw) (HD.out.below bw) rfl rfl HNV.out).mono ?_
      rintro e w3 ⟨rfl, bb⟩
      replace bw := below_on bw bb bw.size
      clear bb
      go_wp2_with fail
      refine (frates_bad w3 A _ c caps D _ d fs (HA.out.below bw) (HD.out.below bw) rfl rfl HNV.out).mono ?_
      rintro e w4 ⟨rfl, bb⟩
      replace bw := below_on bw bb bw.size
      clear bb
      go_wp2_with fail
      refine (fbot_bad w4 A _ c caps D _ d fs (HA.out.below bw) (HD.out.below bw) rfl rfl HNV.out).mono ?_
      rintro e w5 ⟨rfl, bb⟩
      replace bw := below_on bw bb bw.size
      clear bb
      go_wp2_with fail
      refine (awakes_any _).mono ?_
      rintro e w6 ⟨rfl, bb⟩
      replace bw := below_on bw bb bw.size
      clear bb
      go_wp2_with fail
      refine (check_any w6 A _ c caps D _ d fs none _ 0 [] none _ 0 [] false (HA.out.below bw) (HD.out.below bw) (fun h => absurd h (by simp)) (fun v hv => nomatch hv) (Is.nil _ _ _ (by omega)) rfl rfl rfl rfl (by simp) ⟨fun h => absurd h.vl HNV.out, fun h => by cases h⟩).mono ?_
      rintro e w7 ⟨rfl, bb⟩
      replace bw := below_on bw bb bw.size
      go_wp2_with fail
      go_ret
      exact ⟨rfl, bw⟩
end Go.Proofs.Ythdfflbhogfejaa
