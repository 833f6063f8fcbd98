/- The walk of TransferRuns. -/
import Derived.Test.YtgjhjdjbhmblmaaTrK
namespace Go.Proofs.Ytgjhjdjbhmblmaa
open Go.RowKit

set_option maxRecDepth 100000 in
set_option maxHeartbeats 1600000 in
theorem runs_walk (w : World) (A : Option Addr) (c : Nat) (cs : List Int) (D : Option Addr) (d : Nat) (xs : List Int) (hA : Is w A c cs) (hB : Is w D d xs) :
    Calls Try.prog 5 #[.slice A cs.length c, .slice D xs.length d] w fun e w' => e = .returned (.bool true) ∧ Below w.heap.size w w' := by
  skip
  have HA := Lib.hid hA; clear hA
  have HB := Lib.hid hB; clear hB
  have bw := Below.refl w.heap.size w
  go_enter Try.func5, Try.ntmps5
  go_wp2_with fail
  refine (caps_any w A _ c cs HA.out rfl).mono ?_
  rintro e wn ⟨A', c', rfl, hI, bb⟩
  have HI := Lib.hid hI
  replace bw := below_on bw bb bw.size
  clear bb hI
  go_wp2_with fail
  refine (trans_any wn D _ d xs (capsM cs).length (HB.out.below bw) rfl (by have := (capsM_len cs).2; omega)).mono ?_
  rintro e wt ⟨D', d', ts, rfl, htr, hT, bb⟩
  have HTR := Lib.hid htr
  have HT := Lib.hid hT
  have HI := Lib.hid (HI.out.below bb)
  replace bw := below_on bw bb bw.size
  have h60 : ts.length ≤ 60 := by
    have h1 := congrArg List.length htr
    rw [List.length_map] at h1
    have h2 := transM_len xs (capsM cs).length
    omega
  have HV := Lib.hid (made_valid cs xs)
  rw [← htr] at HV
  clear bb hT htr
  obtain ⟨caps, hcaps⟩ : ∃ caps, capsM cs = caps := ⟨_, rfl⟩
  have HCAPS := Lib.hid hcaps
  rw [hcaps] at HI HV HTR ⊢
  clear hcaps
  go_wp2_with fail
  refine (trun_any wt A' _ c' caps D' _ d' ts HI.out HT.out rfl rfl h60).mono ?_
  obtain ⟨S, hS⟩ : ∃ S, runS caps (ts.map Tm.tr) = S := ⟨_, rfl⟩
  obtain ⟨E, hE⟩ : ∃ E, checkM caps (ts.map Tm.tr) = E := ⟨_, rfl⟩
  rw [hS, hE]
  have HS := Lib.hid hS
  have HE := Lib.hid hE
  clear hS hE
  rintro e w1 ⟨AF, cF, rfl, hf1, bb⟩
  have HF1 := Lib.hid hf1
  replace HI := Lib.hid (HI.out.below bb)
  replace HT := Lib.hid (HT.out.below bb)
  replace bw := below_on bw bb bw.size
  clear bb hf1
  skip
  go_upto_region 4 with fail
  obtain ⟨bk1, bb, _⟩ := bk2_alloc w1 (.slice AF S.fn.length cF) (.int .i64 S.tk) 29
  have HB9 := Lib.hid bk1
  clear bk1
  replace HI := Lib.hid (HI.out.below bb)
  replace HT := Lib.hid (HT.out.below bb)
  try replace bk1 := bk1.below bb
  try replace bk2 := bk2.below bb
  try replace bk3 := bk3.below bb
  try replace HF1 := Lib.hid (HF1.out.below bb)
  try replace HF2 := Lib.hid (HF2.out.below bb)
  try replace HF3 := Lib.hid (HF3.out.below bb)
  replace bw := below_on bw bb bw.size
  clear bb
  have bk1 := HB9.out
  clear HB9
  generalize (w1.alloc (.cells #[.slice AF S.fn.length cF, .int .i64 S.tk] 29)) = wm at *
  generalize w1.heap.size = g1 at bk1 ⊢
  go_wp2_with fail
  refine (trrun_any wm A' _ c' caps D' _ d' ts HI.out HT.out rfl rfl h60).mono ?_
  rw [HS.out, HE.out]
  rintro e w2 ⟨AG, cG, rfl, hf2, bb⟩
  have HF2 := Lib.hid hf2
  clear hf2
  have HF2' := HF2
  clear HF2
  skip
  replace HI := Lib.hid (HI.out.below bb)
  replace HT := Lib.hid (HT.out.below bb)
  try replace bk1 := bk1.below bb
  try replace bk2 := bk2.below bb
  try replace bk3 := bk3.below bb
  try replace HF1 := Lib.hid (HF1.out.below bb)
  try replace HF2 := Lib.hid (HF2.out.below bb)
  try replace HF3 := Lib.hid (HF3.out.below bb)
  replace bw := below_on bw bb bw.size
  clear bb
  have HF2 := HF2'
  clear HF2'
  skip
  go_upto_region 5 with fail
  obtain ⟨bk2, bb, _⟩ := bk2_alloc w2 (.slice AG S.fn.length cG) (.int .i64 S.tk) 29
  have HB9 := Lib.hid bk2
  clear bk2
  replace HI := Lib.hid (HI.out.below bb)
  replace HT := Lib.hid (HT.out.below bb)
  try replace bk1 := bk1.below bb
  try replace bk2 := bk2.below bb
  try replace bk3 := bk3.below bb
  try replace HF1 := Lib.hid (HF1.out.below bb)
  try replace HF2 := Lib.hid (HF2.out.below bb)
  try replace HF3 := Lib.hid (HF3.out.below bb)
  replace bw := below_on bw bb bw.size
  clear bb
  have bk2 := HB9.out
  clear HB9
  generalize (w2.alloc (.cells #[.slice AG S.fn.length cG, .int .i64 S.tk] 29)) = wm at *
  generalize w2.heap.size = g2 at bk2 ⊢
  go_wp2_with fail
  refine (awake_any _).mono ?_
  rintro e w3 ⟨rfl, bb⟩
  skip
  replace HI := Lib.hid (HI.out.below bb)
  replace HT := Lib.hid (HT.out.below bb)
  try replace bk1 := bk1.below bb
  try replace bk2 := bk2.below bb
  try replace bk3 := bk3.below bb
  try replace HF1 := Lib.hid (HF1.out.below bb)
  try replace HF2 := Lib.hid (HF2.out.below bb)
  try replace HF3 := Lib.hid (HF3.out.below bb)
  replace bw := below_on bw bb bw.size
  clear bb
  have k0 := bk1.c0
  have k1 := bk1.c1
  have q0 := bk2.c0
  have q1 := bk2.c1
  go_wp2_with fail
  refine (same_any _ AF _ cF S.fn AG _ cG S.fn true HF1.out HF2.out rfl rfl (decide_eq_true rfl)).mono ?_
  rintro e w4 ⟨rfl, bb⟩
  skip
  replace HI := Lib.hid (HI.out.below bb)
  replace HT := Lib.hid (HT.out.below bb)
  try replace bk1 := bk1.below bb
  try replace bk2 := bk2.below bb
  try replace bk3 := bk3.below bb
  try replace HF1 := Lib.hid (HF1.out.below bb)
  try replace HF2 := Lib.hid (HF2.out.below bb)
  try replace HF3 := Lib.hid (HF3.out.below bb)
  replace bw := below_on bw bb bw.size
  clear bb
  have k0 := bk1.c0
  have k1 := bk1.c1
  have q0 := bk2.c0
  have q1 := bk2.c1
  have e1 : (S.tk == S.tk) = true := beq_self_eq_true _
  have e2 : (E == E) = true := beq_self_eq_true _
  go_wp2_with fail
  go_ret
  exact ⟨rfl, bw⟩
end Go.Proofs.Ytgjhjdjbhmblmaa
