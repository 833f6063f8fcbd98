/- The walk of drydocklaw04.awake. -/
import Derived.Test.YtnmomigaedfdoaaExL
import Derived.Test.YtnmomigaedfdoaaLwD
import Derived.Test.YtnmomigaedfdoaaLwA
namespace Go.Proofs.Ytnmomigaedfdoaa
set_option maxRecDepth 100000
open Go.RowKit

/-- two intervals read alike -/
structure SmI (a b : Ix) : Prop where
  l : a.lo.b = b.lo.b ∧ a.lo.xs = b.lo.xs ∧ a.lo.ys = b.lo.ys
  h : a.hi.b = b.hi.b ∧ a.hi.xs = b.hi.xs ∧ a.hi.ys = b.hi.ys
theorem SmI.of {a b : Ix} {S T : FqS} (h1 : a.lo.is S) (h2 : a.hi.is T) (k1 : b.lo.is S) (k2 : b.hi.is T) : SmI a b :=
  ⟨⟨h1.1.trans k1.1.symm, h1.2.1.trans k1.2.1.symm, h1.2.2.trans k1.2.2.symm⟩, ⟨h2.1.trans k2.1.symm, h2.2.1.trans k2.2.1.symm, h2.2.2.trans k2.2.2.symm⟩⟩
set_option maxHeartbeats 800000 in
theorem samei_any (w : World) (x1 x2 : Ix) (ok1 : x1.ok w) (ok2 : x2.ok w) (hs : SmI x1 x2) :
    Calls Try.prog 26 #[x1.val, x2.val] w fun e w' => e = .returned (.bool true) ∧ Below w.heap.size w w' := by
  have HS := Lib.hid hs
  clear hs
  go_enter Try.func26, Try.ntmps26
  go_upto_region 1 with fail
  have bw := Below.refl w.heap.size w
  have a1 := (ia_alloc ok1).1
  have bb := (ia_alloc ok1).2
  have sz1 := size_box w (.cells x1.cells 35)
  clear ok1
  generalize (w.alloc (.cells x1.cells 35)) = wA at a1 bb sz1 ⊢
  try replace ok1 := ok1.below bb
  try replace ok2 := ok2.below bb
  try replace a1 := a1.below bb
  replace bw := below_on bw bb bw.size
  clear bb
  have a2 := (ia_alloc ok2).1
  have bb := (ia_alloc ok2).2
  have sz2 := size_box wA (.cells x2.cells 35)
  rw [sz1] at a2 sz2
  clear ok2 sz1
  generalize (wA.alloc (.cells x2.cells 35)) = wm at a2 bb sz2 ⊢
  try replace ok1 := ok1.below bb
  try replace ok2 := ok2.below bb
  try replace a1 := a1.below bb
  try replace a2 := a2.below bb
  replace bw := below_on bw bb bw.size
  clear bb
  clear sz2
  have ci0 := a1.c0
  have ci1 := a1.c1
  have ci2 := a1.c2
  have ci3 := a1.c3
  have ci4 := a1.c4
  have ci5 := a1.c5
  have cj0 := a2.c0
  have cj1 := a2.c1
  have cj2 := a2.c2
  have cj3 := a2.c3
  have cj4 := a2.c4
  have cj5 := a2.c5
  go_wp2_with fail
  clear ci0 ci1 ci2 ci3 ci4 ci5
  clear cj0 cj1 cj2 cj3 cj4 cj5
  refine (samef_any _ x1.lo x2.lo true a1.ok.lo a2.ok.lo (decide_eq_true HS.out.l)).mono ?_
  rintro e wn ⟨rfl, bb⟩
  try replace a1 := a1.below bb
  try replace a2 := a2.below bb
  replace bw := below_on bw bb bw.size
  clear bb
  have ci0 := a1.c0
  have ci1 := a1.c1
  have ci2 := a1.c2
  have ci3 := a1.c3
  have ci4 := a1.c4
  have ci5 := a1.c5
  have cj0 := a2.c0
  have cj1 := a2.c1
  have cj2 := a2.c2
  have cj3 := a2.c3
  have cj4 := a2.c4
  have cj5 := a2.c5
  go_wp2_with fail
  clear ci0 ci1 ci2 ci3 ci4 ci5
  clear cj0 cj1 cj2 cj3 cj4 cj5
  refine (samef_any _ x1.hi x2.hi true a1.ok.hi a2.ok.hi (decide_eq_true HS.out.h)).mono ?_
  rintro e wn ⟨rfl, bb⟩
  try replace a1 := a1.below bb
  try replace a2 := a2.below bb
  replace bw := below_on bw bb bw.size
  clear bb
  go_wp2_with fail
  go_ret
  exact ⟨rfl, bw⟩
theorem cmpQ_neg (p q : Rat) : decide (cmpQ p q < 0) = decide (p < q) := by
  rcases cmpQ_cases p q with ⟨h, e⟩ | ⟨h, e⟩ | ⟨h, e⟩ <;> rw [e]
  · rw [decide_eq_true h]; rfl
  · rw [h, decide_eq_false Rat.lt_irrefl]; rfl
  · rw [decide_eq_false (Rat.not_lt.2 (Rat.le_of_lt h))]; rfl
set_option maxHeartbeats 800000 in
theorem xless_any (w : World) (x1 x2 : Fx) (b : Bool) (ok1 : x1.ok w) (ok2 : x2.ok w) (v1 : x1.v) (v2 : x2.v) (l1 : x1.xs.length ≤ 10000) (m1 : x1.ys.length ≤ 10000) (l2 : x2.xs.length ≤ 10000) (m2 : x2.ys.length ≤ 10000) (hb : decide (x1.q < x2.q) = b) :
    Calls Try.prog 15 #[x1.val, x2.val] w fun e w' => e = .returned (.bool b) ∧ Below w.heap.size w w' := by
  obtain ⟨z, hz⟩ : ∃ z, cmpQ x1.q x2.q = z := ⟨_, rfl⟩
  rw [← cmpQ_neg, hz] at hb
  have HB := Lib.hid hb
  have HZ := Lib.hid hz
  have V1 := Lib.hid v1
  have V2 := Lib.hid v2
  clear hb hz v1 v2
  go_enter Try.func15, Try.ntmps15
  go_upto_region 1 with fail
  have bw := Below.refl w.heap.size w
  have a1 := (fa_alloc ok1).1
  have bb := (fa_alloc ok1).2
  have sz1 := size_box w (.cells x1.cells 26)
  clear ok1
  generalize (w.alloc (.cells x1.cells 26)) = wA at a1 bb sz1 ⊢
  try replace ok1 := ok1.below bb
  try replace ok2 := ok2.below bb
  try replace a1 := a1.below bb
  replace bw := below_on bw bb bw.size
  clear bb
  have a2 := (fa_alloc ok2).1
  have bb := (fa_alloc ok2).2
  have sz2 := size_box wA (.cells x2.cells 26)
  rw [sz1] at a2 sz2
  clear ok2 sz1
  generalize (wA.alloc (.cells x2.cells 26)) = wm at a2 bb sz2 ⊢
  try replace ok1 := ok1.below bb
  try replace ok2 := ok2.below bb
  try replace a1 := a1.below bb
  try replace a2 := a2.below bb
  replace bw := below_on bw bb bw.size
  clear bb
  clear sz2
  have ci0 := a1.c0
  have ci1 := a1.c1
  have ci2 := a1.c2
  have cj0 := a2.c0
  have cj1 := a2.c1
  have cj2 := a2.c2
  go_wp2_with fail
  clear ci0 ci1 ci2 cj0 cj1 cj2
  refine (rforder_any _ x1 x2 z a1.ok a2.ok V1.out V2.out l1 m1 l2 m2 HZ.out).mono ?_
  rintro e wn ⟨rfl, bb⟩
  try replace a1 := a1.below bb
  try replace a2 := a2.below bb
  replace bw := below_on bw bb bw.size
  clear bb
  go_wp2_with fail
  go_ret
  exact ⟨ret_bool HB.out, bw⟩
theorem xint_any (w : World) (n : Int) (n0 : -9223372036854775808 ≤ n) (n1 : n ≤ 9223372036854775807) : Calls Try.prog 16 #[.int .i64 n] w fun e w' => ∃ y : Fx, e = .returned y.val ∧ Rp y (n : Rat) ∧ y.ok w' ∧ Below w.heap.size w w' := by
  refine (rfint_any w n n0 n1 (makeF_int n0 n1)).mono ?_
  rintro e w' ⟨y, h1, h2, h3, h4⟩
  have e1 : Rat.divInt n 1 = (n : Rat) := by rw [Rat.divInt_eq_div]; grind
  rw [e1] at h2
  exact ⟨y, h1, Rp.of h2, h3, h4⟩
theorem chkE_rp {x : Fx} {q : Rat} {bits n : Int} (h : Rp x q) (hz : Sz q 128 128) : chkE x bits n = if rangeP q bits n then 5 else if longP q then 2 else 0 := by
  rw [chkE, if_neg (fun k => k (h.v hz)), h.q]
theorem sz_sm {q : Rat} (h : q.num.natAbs < 18446744073709551616) (h2 : q.den < 18446744073709551616) : Sz q 128 128 := ⟨Nat.le_trans (lim_len2 h) (by omega), Nat.le_trans (lim_len2 h2) (by omega)⟩
theorem sz_p1 : Sz ((1 : Int) : Rat) 128 128 := sz_sm (by decide) (by decide)
theorem sz_m1 : Sz ((-1 : Int) : Rat) 128 128 := sz_sm (by decide) (by decide)
theorem sz_14 : Sz (Rat.divInt 1 4) 128 128 := sz_sm (by decide +kernel) (by decide +kernel)
theorem sz_12 : Sz (Rat.divInt 1 2) 128 128 := sz_sm (by decide +kernel) (by decide +kernel)
theorem no_range : ¬ rangeP ((1 : Int) : Rat) 2 0 := by decide +kernel
theorem is_range : rangeP ((-1 : Int) : Rat) 2 0 := by decide +kernel
theorem no_long : ¬ longP ((1 : Int) : Rat) := by
  intro h
  have h1 : (lim ((1 : Int) : Rat).num.natAbs).length ≤ 2 := lim_len2 (by decide)
  have h2 : (lim ((1 : Int) : Rat).den).length ≤ 2 := lim_len2 (by decide)
  rcases h with h | h <;> omega
theorem enc_one {i : Ix} (h : encP ((1 : Int) : Rat) 0 2 0 1 i) : Rp i.lo (Rat.divInt 1 4) ∧ Rp i.hi (Rat.divInt 1 2) := by
  obtain ⟨h1, h2⟩ := h.2 (by decide)
  have e : floorM ((1 : Int) : Rat).num.natAbs ((1 : Int) : Rat).den 0 2 0 = 1 := fl_one
  rw [e] at h1 h2
  rw [← prt14, ← prt24]
  exact ⟨h1, h2⟩
set_option maxHeartbeats 1600000 in
theorem xawake_any (w : World) : Calls Try.prog 17 #[] w fun e w' => e = .returned (.bool true) ∧ Below w.heap.size w w' := by
  go_enter Try.func17, Try.ntmps17
  go_wp2_with fail
  refine (xint_any w 1 (by omega) (by omega)).mono ?_
  rintro _ w1 ⟨x1, rfl, r1, ok1, bw⟩
  have R1 := Lib.hid r1
  clear r1
  go_wp2_with fail
  refine (xexp_any w1 x1 2 0 ok1 (R1.out.l1 sz_p1) (R1.out.l2 sz_p1) (by rw [chkE_rp R1.out sz_p1, if_neg no_range, if_neg no_long])).mono ?_
  rintro _ w2 ⟨i, rfl, oki, hi, bb⟩
  have HI := Lib.hid (by have := hi rfl; rw [R1.out.q] at this; exact enc_one this)
  replace bw := below_on bw bb bw.size
  clear bb hi ok1
  go_upto_region 2 with fail
  have a1 := (ia_alloc oki).1
  have bb := (ia_alloc oki).2
  clear oki
  generalize (w2.alloc (.cells i.cells 35)) = w3 at a1 bb ⊢
  replace bw := below_on bw bb bw.size
  clear bb
  generalize w2.heap.size = g1 at a1 ⊢
  go_wp2_with fail
  refine (xint_any w3 (-1) (by omega) (by omega)).mono ?_
  rintro _ w4 ⟨x2, rfl, r2, ok2, bb⟩
  have R2 := Lib.hid r2
  replace a1 := a1.below bb
  replace bw := below_on bw bb bw.size
  clear bb r2
  go_wp2_with fail
  refine (xexp_any w4 x2 2 5 ok2 (R2.out.l1 sz_m1) (R2.out.l2 sz_m1) (by rw [chkE_rp R2.out sz_m1, if_pos is_range])).mono ?_
  rintro _ w5 ⟨i2, rfl, oki2, _, bb⟩
  replace a1 := a1.below bb
  replace bw := below_on bw bb bw.size
  clear bb ok2
  go_upto_region 3 with fail
  have bb := (ia_alloc oki2).2
  clear oki2
  generalize (w5.alloc (.cells i2.cells 35)) = w6 at bb ⊢
  replace a1 := a1.below bb
  replace bw := below_on bw bb bw.size
  clear bb
  go_wp2_with fail
  refine (rfmake_any w6 1 4 (okS (Rat.divInt 1 4)) (by omega) (by omega) (by omega) (by omega) (by rw [makeF, if_neg (by omega)]; exact frS_ok sz_14)).mono ?_
  rintro _ wn ⟨x3, rfl, hs3, ok3, bb⟩
  have R3 := Lib.hid (Rp.of hs3)
  replace a1 := a1.below bb
  replace bw := below_on bw bb bw.size
  clear bb hs3
  go_upto_region 4 with fail
  have a3 := (fa_alloc ok3).1
  have bb := (fa_alloc ok3).2
  clear ok3
  generalize (wn.alloc (.cells #[.bool x3.b, .slice x3.A x3.xs.length x3.c, .slice x3.D x3.ys.length x3.d] 26)) = w7 at a3 bb ⊢
  replace a1 := a1.below bb
  replace bw := below_on bw bb bw.size
  clear bb
  generalize wn.heap.size = g3 at a3 ⊢
  go_wp2_with fail
  refine (rfmake_any w7 1 2 (okS (Rat.divInt 1 2)) (by omega) (by omega) (by omega) (by omega) (by rw [makeF, if_neg (by omega)]; exact frS_ok sz_12)).mono ?_
  rintro _ wn ⟨x4, rfl, hs4, ok4, bb⟩
  have R4 := Lib.hid (Rp.of hs4)
  replace a1 := a1.below bb
  replace a3 := a3.below bb
  replace bw := below_on bw bb bw.size
  clear bb hs4
  go_upto_region 5 with fail
  have a4 := (fa_alloc ok4).1
  have bb := (fa_alloc ok4).2
  clear ok4
  generalize (wn.alloc (.cells #[.bool x4.b, .slice x4.A x4.xs.length x4.c, .slice x4.D x4.ys.length x4.d] 26)) = w8 at a4 bb ⊢
  replace a1 := a1.below bb
  replace a3 := a3.below bb
  replace bw := below_on bw bb bw.size
  clear bb
  generalize wn.heap.size = g4 at a4 ⊢
  have b0 := a1.c0
  have b1 := a1.c1
  have b2 := a1.c2
  have b3 := a1.c3
  have b4 := a1.c4
  have b5 := a1.c5
  have ci0 := a3.c0
  have ci1 := a3.c1
  have ci2 := a3.c2
  have cj0 := a4.c0
  have cj1 := a4.c1
  have cj2 := a4.c2
  go_wp2_with fail
  refine (samei_any w8 i ⟨x3, x4⟩ a1.ok ⟨a3.ok, a4.ok⟩ ⟨HI.out.1.same R3.out, HI.out.2.same R4.out⟩).mono ?_
  rintro _ w9 ⟨rfl, bb⟩
  replace bw := below_on bw bb bw.size
  clear bb
  go_wp2_with fail
  go_ret
  exact ⟨rfl, bw⟩
end Go.Proofs.Ytnmomigaedfdoaa
