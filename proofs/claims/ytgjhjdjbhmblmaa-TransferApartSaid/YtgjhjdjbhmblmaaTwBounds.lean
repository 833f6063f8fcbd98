/- The walk of TransferBounds. -/
import Derived.Test.YtgjhjdjbhmblmaaTrQ
import Derived.Test.YtgjhjdjbhmblmaaTwB
namespace Go.Proofs.Ytgjhjdjbhmblmaa
open Go.RowKit

set_option maxRecDepth 100000 in
set_option maxHeartbeats 1600000 in
theorem bounds_walk (w : World) (A : Option Addr) (c : Nat) (cs : List Int) (D : Option Addr) (d : Nat) (xs : List Int) (hA : Is w A c cs) (hB : Is w D d xs) :
    Calls Try.prog 6 #[.slice A cs.length c, .slice D xs.length d] w fun e w' => e = .returned (.bool true) ∧ Below w.heap.size w w' := by
  skip
  have HA := Lib.hid hA; clear hA
  have HB := Lib.hid hB; clear hB
  have bw := Below.refl w.heap.size w
  go_enter Try.func6, Try.ntmps6
  go_wp2_with fail
  refine (caps_any w A _ c cs HA.out rfl).mono ?_
  rintro e wn ⟨A', c', rfl, hI, bb⟩
  have HI := Lib.hid hI
  replace bw := below_on bw bb bw.size
  clear bb hI
  go_wp2_with fail
  refine (trans_any wn D _ d xs (capsM cs).length (HB.out.below bw) rfl (by have := (capsM_len cs).2; omega)).mono ?_
  rintro e wt ⟨D', d', ts, rfl, htr, hT, bb⟩
  have HTR := Lib.hid htr
  have HT := Lib.hid hT
  have HI := Lib.hid (HI.out.below bb)
  replace bw := below_on bw bb bw.size
  have h60 : ts.length ≤ 60 := by
    have h1 := congrArg List.length htr
    rw [List.length_map] at h1
    have h2 := transM_len xs (capsM cs).length
    omega
  have HV := Lib.hid (made_valid cs xs)
  rw [← htr] at HV
  clear bb hT htr
  obtain ⟨caps, hcaps⟩ : ∃ caps, capsM cs = caps := ⟨_, rfl⟩
  have HCAPS := Lib.hid hcaps
  rw [hcaps] at HI HV HTR ⊢
  clear hcaps
  go_wp2_with fail
  refine (tbound_any wt A' _ c' caps D' _ d' ts HI.out HT.out rfl rfl h60).mono ?_
  obtain ⟨S, hS⟩ : ∃ S, runS caps (ts.map Tm.tr) = S := ⟨_, rfl⟩
  obtain ⟨E, hE⟩ : ∃ E, checkM caps (ts.map Tm.tr) = E := ⟨_, rfl⟩
  obtain ⟨b, hb⟩ : ∃ b, (if E = 0 then boundM caps (ts.map Tm.tr) else 0) = b := ⟨_, rfl⟩
  have hble : b ≤ S.tk := by
    rw [← hb, ← hS]
    by_cases h0 : E = 0
    · rw [if_pos h0]; exact bound_run (by rw [hE]; exact h0)
    · rw [if_neg h0, runS, if_neg (by rw [hE]; exact h0)]; exact Int.le_refl _
  rw [hE, hb]
  have HS := Lib.hid hS
  have HE := Lib.hid hE
  have HB := Lib.hid hb
  have HLE := Lib.hid hble
  clear hS hE hb hble
  rintro e w1 ⟨rfl, bb⟩
  skip
  replace HI := Lib.hid (HI.out.below bb)
  replace HT := Lib.hid (HT.out.below bb)
  try replace bk1 := bk1.below bb
  try replace bk2 := bk2.below bb
  try replace bk3 := bk3.below bb
  try replace HF1 := Lib.hid (HF1.out.below bb)
  try replace HF2 := Lib.hid (HF2.out.below bb)
  try replace HF3 := Lib.hid (HF3.out.below bb)
  replace bw := below_on bw bb bw.size
  clear bb
  go_wp2_with fail
  refine (rbound_any w1 A' _ c' caps D' _ d' ts HI.out HT.out rfl rfl h60).mono ?_
  rw [HE.out, HB.out]
  rintro e w2 ⟨rfl, bb⟩
  skip
  replace HI := Lib.hid (HI.out.below bb)
  replace HT := Lib.hid (HT.out.below bb)
  try replace bk1 := bk1.below bb
  try replace bk2 := bk2.below bb
  try replace bk3 := bk3.below bb
  try replace HF1 := Lib.hid (HF1.out.below bb)
  try replace HF2 := Lib.hid (HF2.out.below bb)
  try replace HF3 := Lib.hid (HF3.out.below bb)
  replace bw := below_on bw bb bw.size
  clear bb
  go_wp2_with fail
  refine (trun_any w2 A' _ c' caps D' _ d' ts HI.out HT.out rfl rfl h60).mono ?_
  rw [HS.out, HE.out]
  rintro e w3 ⟨AF, cF, rfl, hf1, bb⟩
  have HF1 := Lib.hid hf1
  replace HI := Lib.hid (HI.out.below bb)
  replace HT := Lib.hid (HT.out.below bb)
  replace bw := below_on bw bb bw.size
  clear bb hf1
  skip
  go_upto_region 6 with fail
  obtain ⟨bk1, bb, _⟩ := bk2_alloc w3 (.slice AF S.fn.length cF) (.int .i64 S.tk) 29
  have HB9 := Lib.hid bk1
  clear bk1
  replace HI := Lib.hid (HI.out.below bb)
  replace HT := Lib.hid (HT.out.below bb)
  try replace bk1 := bk1.below bb
  try replace bk2 := bk2.below bb
  try replace bk3 := bk3.below bb
  try replace HF1 := Lib.hid (HF1.out.below bb)
  try replace HF2 := Lib.hid (HF2.out.below bb)
  try replace HF3 := Lib.hid (HF3.out.below bb)
  replace bw := below_on bw bb bw.size
  clear bb
  have bk1 := HB9.out
  clear HB9
  generalize (w3.alloc (.cells #[.slice AF S.fn.length cF, .int .i64 S.tk] 29)) = wm at *
  generalize w3.heap.size = g1 at bk1 ⊢
  go_wp2_with fail
  refine (awake_any _).mono ?_
  rintro e w4 ⟨rfl, bb⟩
  skip
  replace HI := Lib.hid (HI.out.below bb)
  replace HT := Lib.hid (HT.out.below bb)
  try replace bk1 := bk1.below bb
  try replace bk2 := bk2.below bb
  try replace bk3 := bk3.below bb
  try replace HF1 := Lib.hid (HF1.out.below bb)
  try replace HF2 := Lib.hid (HF2.out.below bb)
  try replace HF3 := Lib.hid (HF3.out.below bb)
  replace bw := below_on bw bb bw.size
  clear bb
  have k0 := bk1.c0
  have k1 := bk1.c1
  have e1 : (b == b) = true := beq_self_eq_true _
  have e2 : (E == E) = true := beq_self_eq_true _
  have e3 : decide (b ≤ S.tk) = true := decide_eq_true HLE.out
  go_wp2_with fail
  go_ret
  exact ⟨rfl, bw⟩
end Go.Proofs.Ytgjhjdjbhmblmaa
