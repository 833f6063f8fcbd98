/- The walk of FairshareUnits. -/
import Derived.Test.YthdfflbhogfejaaOpenT
import Derived.Test.YthdfflbhogfejaaFhI
import Derived.Test.YthdfflbhogfejaaFsS
namespace Go.Proofs.Ythdfflbhogfejaa
open Go.RowKit

set_option maxRecDepth 100000 in
set_option maxHeartbeats 4000000 in
theorem units_walk (w : World) (A : Option Addr) (c : Nat) (cs : List Int) (D : Option Addr) (d : Nat) (xs : List Int) (hA : Is w A c cs) (hB : Is w D d xs) :
    Calls Try.prog 4 #[.slice A cs.length c, .slice D xs.length d] w fun e w' => e = .returned (.bool true) ∧ Below w.heap.size w w' := by
  have HA := Lib.hid hA; clear hA
  have HB := Lib.hid hB; clear hB
  have bw := Below.refl w.heap.size w
  go_enter Try.func4, Try.ntmps4
  go_wp2_with fail
  refine (caps_any w A _ c cs HA.out rfl).mono ?_
  rintro e wn ⟨A', c', rfl, hI, bb⟩
  have HI := Lib.hid hI
  replace bw := below_on bw bb bw.size
  clear bb hI
  go_wp2_with fail
  refine (flowsL_walk wn D _ d xs (capsM cs).length (HB.out.below bw) rfl (by have := (capsM_len cs).2; omega)).mono ?_
  rintro e wt ⟨D', d', fs, rfl, hfm, hT, bb⟩
  have HFM := Lib.hid hfm
  have HT := Lib.hid hT
  have HI := Lib.hid (HI.out.below bb)
  replace bw := below_on bw bb bw.size
  have h7 : fs.length ≤ 7 := by
    have h1 := congrArg List.length hfm
    rw [List.length_map] at h1
    have h2 := flowsM_len xs (capsM cs).length
    omega
  have hc5 := (capsM_len cs).2
  have HV := Lib.hid (flowsM_valid cs xs)
  rw [← hfm] at HV
  clear bb hT hfm
  obtain ⟨caps, hcaps⟩ : ∃ caps, capsM cs = caps := ⟨_, rfl⟩
  have HCAPS := Lib.hid hcaps
  rw [hcaps] at HI HV HFM hc5 ⊢
  clear hcaps
  go_wp2_with fail
  refine (funits_ok wt A' _ c' caps D' _ d' fs HI.out HT.out rfl rfl HV.out).mono ?_
  rintro e w2 ⟨A2, c2, rfl, hu, bb⟩
  have HU := Lib.hid hu
  have HI := Lib.hid (HI.out.below bb)
  have HT := Lib.hid (HT.out.below bb)
  replace bw := below_on bw bb bw.size
  clear bb hu
  go_wp2_with fail
  refine (runits_ok w2 A' _ c' caps D' _ d' fs HI.out HT.out rfl rfl HV.out).mono ?_
  rintro e w3 ⟨A3, c3, rfl, hv, bb⟩
  have hok := HV.out.ok
  have hwf : ∀ x ∈ unitsM (cpF caps) (fs.map Fm.fl), -9223372036854775808 ≤ x ∧ x ≤ 9223372036854775807 := fun x hx => by
    obtain ⟨j, hj, rfl⟩ := List.getElem_of_mem hx
    rw [unitsM_len] at hj
    have h1 := unitsM_bd hok j hj
    have h2 := (hok.2 j hj).2.1
    rw [getD_lt _ _ _ (by rw [unitsM_len]; exact hj)] at h1
    omega
  have HU3 := Lib.hid ((HU.out.below bb).is hwf)
  have HW3 := Lib.hid (hv.is hwf)
  replace bw := below_on bw bb bw.size
  clear bb hv hwf hok HU
  go_wp2_with fail
  refine (awakes_any w3).mono ?_
  rintro e w4 ⟨rfl, bb⟩
  have HU4 := Lib.hid (HU3.out.below bb)
  have HW4 := Lib.hid (HW3.out.below bb)
  replace bw := below_on bw bb bw.size
  clear bb
  go_wp2_with fail
  refine (sameints_any w4 A2 _ c2 _ A3 _ c3 _ true HU4.out HW4.out rfl rfl (decide_eq_true rfl)).mono ?_
  rintro e w5 ⟨rfl, bb⟩
  replace bw := below_on bw bb bw.size
  go_wp2_with fail
  go_ret
  exact ⟨rfl, bw⟩
end Go.Proofs.Ythdfflbhogfejaa
