/- The walk of FairshareRates. -/
import Derived.Test.YthdfflbhogfejaaNatA
import Derived.Test.YthdfflbhogfejaaFhI
import Derived.Test.YthdfflbhogfejaaFhO
namespace Go.Proofs.Ythdfflbhogfejaa
set_option maxRecDepth 100000
open Go.RowKit

set_option maxHeartbeats 4000000 in
theorem rates_walk (w : World) (A : Option Addr) (c : Nat) (cs : List Int) (D : Option Addr) (d : Nat) (xs : List Int) (hA : Is w A c cs) (hB : Is w D d xs) :
    Calls Try.prog 5 #[.slice A cs.length c, .slice D xs.length d] w fun e w' => e = .returned (.bool true) ∧ Below w.heap.size w w' := by
  have HA := Lib.hid hA; clear hA
  have HB := Lib.hid hB; clear hB
  have bw := Below.refl w.heap.size w
  go_enter Try.func5, Try.ntmps5
  go_wp2_with fail
  refine (caps_any w A _ c cs HA.out rfl).mono ?_
  rintro e wn ⟨A', c', rfl, hI, bb⟩
  have HI := Lib.hid hI
  replace bw := below_on bw bb bw.size
  clear bb hI
  go_wp2_with fail
  refine (flowsL_walk wn D _ d xs (capsM cs).length (HB.out.below bw) rfl (by have := (capsM_len cs).2; omega)).mono ?_
  rintro e wt ⟨D', d', fs, rfl, hfm, hT, bb⟩
  have HFM := Lib.hid hfm
  have HT := Lib.hid hT
  have HI := Lib.hid (HI.out.below bb)
  replace bw := below_on bw bb bw.size
  have h7 : fs.length ≤ 7 := by
    have h1 := congrArg List.length hfm
    rw [List.length_map] at h1
    have h2 := flowsM_len xs (capsM cs).length
    omega
  have hc5 := (capsM_len cs).2
  have HV := Lib.hid (flowsM_valid cs xs)
  rw [← hfm] at HV
  clear bb hT hfm
  obtain ⟨caps, hcaps⟩ : ∃ caps, capsM cs = caps := ⟨_, rfl⟩
  have HCAPS := Lib.hid hcaps
  rw [hcaps] at HI HV HFM hc5 ⊢
  clear hcaps
  go_wp2_with fail
  refine (frates_ok wt A' _ c' caps D' _ d' fs HI.out HT.out rfl rfl HV.out (by omega)).mono ?_
  rintro e w2 ⟨A2, vs, rfl, hq, hvl, hvq, bb⟩
  have HRD := Lib.hid hq.fr.rd
  have HOK := Lib.hid hq.ok
  have HVL := Lib.hid hvl
  have HVQ := Lib.hid hvq
  have HI := Lib.hid (HI.out.below bb)
  have HT := Lib.hid (HT.out.below bb)
  replace bw := below_on bw bb bw.size
  clear bb hq hvl hvq
  go_wp2_with fail
  refine (rrates_ok w2 A' _ c' caps D' _ d' fs HI.out HT.out rfl rfl HV.out (by omega)).mono ?_
  rintro e w3 ⟨A3, us, rfl, hu, hul, huq, bb⟩
  have HRD3 := Lib.hid (HRD.out.below bb)
  have HOK3 : Hid (∀ v ∈ vs, v.ok w3) := Lib.hid (fun v hv => (HOK.out v hv).below bb)
  have HUD := Lib.hid hu.fr.rd
  have HUK := Lib.hid hu.ok
  have HUL := Lib.hid hul
  have HUQ := Lib.hid huq
  replace bw := below_on bw bb bw.size
  clear bb hu hul huq HRD HOK
  go_wp2_with fail
  refine (awakes_any w3).mono ?_
  rintro e w4 ⟨rfl, bb⟩
  have HRD4 := Lib.hid (HRD3.out.below bb)
  have HOK4 : Hid (∀ v ∈ vs, v.ok w4) := Lib.hid (fun v hv => (HOK3.out v hv).below bb)
  have HUD4 := Lib.hid (HUD.out.below bb)
  have HUK4 : Hid (∀ v ∈ us, v.ok w4) := Lib.hid (fun v hv => (HUK.out v hv).below bb)
  replace bw := below_on bw bb bw.size
  clear bb
  go_wp2_with fail
  refine (samerates_any w4 A2 _ _ vs A3 _ _ us _ HRD4.out HUD4.out HOK4.out HUK4.out rfl rfl (by rw [HVL.out, HUL.out]) (by rw [HVL.out]; omega) (fun i h => (HVQ.out i h).1) (fun i h => (HUQ.out i h).1)).mono ?_
  rintro e w5 ⟨rfl, bb⟩
  replace bw := below_on bw bb bw.size
  go_wp2_with fail
  go_ret
  exact ⟨rfl, bw⟩
end Go.Proofs.Ythdfflbhogfejaa
