/- What the laws of interval share: same.Interval, long, within. The walks of drydocklaw03.within and awake. -/
import Derived.Test.YtlcolmifmhdboaaIvQ
import Derived.Test.YtlcolmifmhdboaaIvT
import Derived.Test.YtlcolmifmhdboaaFrcA
namespace Go.Proofs.Ytlcolmifmhdboaa
open Go.RowKit

/-- two intervals read alike -/
structure SmI (a b : Ix) : Prop where
  l : a.lo.b = b.lo.b ∧ a.lo.xs = b.lo.xs ∧ a.lo.ys = b.lo.ys
  h : a.hi.b = b.hi.b ∧ a.hi.xs = b.hi.xs ∧ a.hi.ys = b.hi.ys
set_option maxRecDepth 100000 in
theorem SmI.of {a b : Ix} {S T : FqS} (h1 : a.lo.is S) (h2 : a.hi.is T) (k1 : b.lo.is S) (k2 : b.hi.is T) : SmI a b :=
  ⟨⟨h1.1.trans k1.1.symm, h1.2.1.trans k1.2.1.symm, h1.2.2.trans k1.2.2.symm⟩, ⟨h2.1.trans k2.1.symm, h2.2.1.trans k2.2.1.symm, h2.2.2.trans k2.2.2.symm⟩⟩
set_option maxHeartbeats 800000 in
set_option maxRecDepth 100000 in
theorem samei_any (w : World) (x1 x2 : Ix) (ok1 : x1.ok w) (ok2 : x2.ok w) (hs : SmI x1 x2) :
    Calls Try.prog 34 #[x1.val, x2.val] w fun e w' => e = .returned (.bool true) ∧ Below w.heap.size w w' := by
  have HS := Lib.hid hs
  clear hs
  go_enter Try.func34, Try.ntmps34
  go_upto_region 1 with fail
  have bw := Below.refl w.heap.size w
  have a1 := (ia_alloc ok1).1
  have bb := (ia_alloc ok1).2
  have sz1 := size_box w (.cells x1.cells 41)
  clear ok1
  generalize (w.alloc (.cells x1.cells 41)) = wA at a1 bb sz1 ⊢
  try replace ok1 := ok1.below bb
  try replace ok2 := ok2.below bb
  try replace a1 := a1.below bb
  replace bw := below_on bw bb bw.size
  clear bb
  have a2 := (ia_alloc ok2).1
  have bb := (ia_alloc ok2).2
  have sz2 := size_box wA (.cells x2.cells 41)
  rw [sz1] at a2 sz2
  clear ok2 sz1
  generalize (wA.alloc (.cells x2.cells 41)) = wm at a2 bb sz2 ⊢
  try replace ok1 := ok1.below bb
  try replace ok2 := ok2.below bb
  try replace a1 := a1.below bb
  try replace a2 := a2.below bb
  replace bw := below_on bw bb bw.size
  clear bb
  clear sz2
  have ci0 := a1.c0
  have ci1 := a1.c1
  have ci2 := a1.c2
  have ci3 := a1.c3
  have ci4 := a1.c4
  have ci5 := a1.c5
  have cj0 := a2.c0
  have cj1 := a2.c1
  have cj2 := a2.c2
  have cj3 := a2.c3
  have cj4 := a2.c4
  have cj5 := a2.c5
  go_wp2_with fail
  clear ci0 ci1 ci2 ci3 ci4 ci5
  clear cj0 cj1 cj2 cj3 cj4 cj5
  refine (samef_any _ x1.lo x2.lo true a1.ok.lo a2.ok.lo (decide_eq_true HS.out.l)).mono ?_
  rintro e wn ⟨rfl, bb⟩
  try replace a1 := a1.below bb
  try replace a2 := a2.below bb
  replace bw := below_on bw bb bw.size
  clear bb
  have ci0 := a1.c0
  have ci1 := a1.c1
  have ci2 := a1.c2
  have ci3 := a1.c3
  have ci4 := a1.c4
  have ci5 := a1.c5
  have cj0 := a2.c0
  have cj1 := a2.c1
  have cj2 := a2.c2
  have cj3 := a2.c3
  have cj4 := a2.c4
  have cj5 := a2.c5
  go_wp2_with fail
  clear ci0 ci1 ci2 ci3 ci4 ci5
  clear cj0 cj1 cj2 cj3 cj4 cj5
  refine (samef_any _ x1.hi x2.hi true a1.ok.hi a2.ok.hi (decide_eq_true HS.out.h)).mono ?_
  rintro e wn ⟨rfl, bb⟩
  try replace a1 := a1.below bb
  try replace a2 := a2.below bb
  replace bw := below_on bw bb bw.size
  clear bb
  go_wp2_with fail
  go_ret
  exact ⟨rfl, bw⟩
def longA (v : Ix) : Bool := decide (12 < v.lo.xs.length) || decide (12 < v.lo.ys.length) || decide (12 < v.hi.xs.length) || decide (12 < v.hi.ys.length)
def longI (vs : List Ix) : Bool := vs.any longA
structure Ix.len (a : Ix) : Prop where
  a1 : a.lo.xs.length ≤ 9223372036854775807
  a2 : a.lo.ys.length ≤ 9223372036854775807
  a3 : a.hi.xs.length ≤ 9223372036854775807
  a4 : a.hi.ys.length ≤ 9223372036854775807
set_option maxRecDepth 100000 in
theorem Ix.ok.len {w : World} {a : Ix} (h : a.ok w) : a.len := ⟨h.lo.num.len, h.lo.den.len, h.hi.num.len, h.hi.den.len⟩
set_option maxHeartbeats 1600000 in
set_option maxRecDepth 100000 in
theorem ilong_any (w : World) (A : Option Addr) (n c : Nat) (vs : List Ix) (b : Bool) (h : RdI w A vs) (hn : n = vs.length) (hc : vs.length ≤ 1000) (hs : ∀ v ∈ vs, v.len) (hb : longI vs = b) :
    Calls Try.prog 19 #[.slice A n c] w fun e w' => e = .returned (.bool b) ∧ w = w' := by
  have HB := Lib.hid hb; clear hb
  have HS := Lib.hid hs; clear hs
  subst hn
  go_enter Try.func19, Try.ntmps19
  go_wp2_with fail
  go_loop [3] (fun i => ∃ k : Nat, k ≤ vs.length ∧ i = .int .i64 k ∧ longI (vs.take k) = false) (fun i => vs.length - (intOf i).toNat)
  case atStart => exact ⟨0, by omega, rfl, rfl⟩
  case round =>
    obtain ⟨k, hk, rfl, ha⟩ := hrel
    have HA := Lib.hid ha
    clear ha
    by_cases hlt : k < vs.length
    · obtain ⟨ad, rfl, _, hcc⟩ := h (by omega)
      obtain ⟨_, hc1, hc2, _, hc4, hc5⟩ := hcc k hlt
      have hle := HS.out _ (List.getElem_mem hlt)
      have hmv := List.getElem_mem hlt
      have htk := List.take_succ_eq_append_getElem hlt
      obtain ⟨x1, hx1⟩ : ∃ x1, vs[k] = x1 := ⟨_, rfl⟩
      rw [hx1] at hc1 hc2 hc4 hc5 hle hmv htk
      have HMV := Lib.hid hmv
      have HTK := Lib.hid htk
      obtain ⟨z1, z2, z3, z4⟩ := hle
      clear hcc h hmv htk hx1
      by_cases c1 : 12 < x1.lo.xs.length
      · have hb2 : longI vs = true := List.any_eq_true.2 ⟨x1, HMV.out, by simp [longA, c1]⟩
        have HB2 := Lib.hid hb2
        clear hb2
        go_wp2_with fail
        go_ret
        exact ⟨ret_bool (by rw [← HB.out, HB2.out]), rfl⟩
      · by_cases c2 : 12 < x1.lo.ys.length
        · have hb2 : longI vs = true := List.any_eq_true.2 ⟨x1, HMV.out, by simp [longA, c2]⟩
          have HB2 := Lib.hid hb2
          clear hb2
          go_wp2_with fail
          go_ret
          exact ⟨ret_bool (by rw [← HB.out, HB2.out]), rfl⟩
        · by_cases c3 : 12 < x1.hi.xs.length
          · have hb2 : longI vs = true := List.any_eq_true.2 ⟨x1, HMV.out, by simp [longA, c3]⟩
            have HB2 := Lib.hid hb2
            clear hb2
            go_wp2_with fail
            go_ret
            exact ⟨ret_bool (by rw [← HB.out, HB2.out]), rfl⟩
          · by_cases c4 : 12 < x1.hi.ys.length
            · have hb2 : longI vs = true := List.any_eq_true.2 ⟨x1, HMV.out, by simp [longA, c4]⟩
              have HB2 := Lib.hid hb2
              clear hb2
              go_wp2_with fail
              go_ret
              exact ⟨ret_bool (by rw [← HB.out, HB2.out]), rfl⟩
            · have hb2 : longI (vs.take (k + 1)) = false := by
                have h1 := HA.out
                unfold longI at *
                rw [HTK.out, List.any_append, h1]
                simp [longA]; omega
              have HB2 := Lib.hid hb2
              clear hb2
              go_wp2_with fail
              go_round
              case rel => exact ⟨k + 1, by omega, by go_num, HB2.out⟩
              case measure => simp [intOf]; omega
    · go_wp2_with fail
      go_ret
      exact ⟨ret_bool (by rw [← HB.out, ← HA.out, List.take_of_length_le (by omega)]), rfl⟩
set_option maxRecDepth 100000 in
theorem rint_any (w : World) (n : Int) (q : Rat) (n0 : -1000000 ≤ n) (n1 : n ≤ 1000000) (hq : Rat.divInt n 1 = q) : Calls Try.prog 51 #[.int .i64 n] w fun e w' => ∃ y : Fx, e = .returned y.val ∧ IsP y q ∧ y.ok w' ∧ Below w.heap.size w w' := by
  refine (rfint_any w n (by omega) (by omega) (makeF_int (by omega) (by omega))).mono ?_
  rintro e w' ⟨y, h1, h2, h3, h4⟩
  rw [hq] at h2
  have hz : Sz q 2 2 := by
    rw [← hq, ← qv_divInt (by omega)]
    exact Sz.of_qv (by omega) (lim_len2 (by omega)) (lim_len2 (by omega))
  have hz2 := hz.mono (n' := 128) (d' := 128) (by omega) (by omega)
  exact ⟨y, h1, ⟨Rp.of h2, (Rp.of h2).v hz2, ⟨(Rp.of h2).l1 hz2, (Rp.of h2).l2 hz2⟩⟩, h3, h4⟩
set_option maxRecDepth 100000 in
theorem IsP.sz {x : Fx} {q : Rat} (h : x.b = (okS q).1 ∧ x.xs = (okS q).2.1 ∧ x.ys = (okS q).2.2.1) (hz : Sz q 128 128) : IsP x q :=
  ⟨Rp.of h, (Rp.of h).v hz, ⟨(Rp.of h).l1 hz, (Rp.of h).l2 hz⟩⟩
def atQ (n : Nat) : Rat := Rat.divInt n 255
def wq (a : Ix) (n : Nat) : Rat := a.lo.q + (a.hi.q - a.lo.q) * atQ n
set_option maxRecDepth 100000 in
theorem sz_at {n : Nat} (hn : n ≤ 255) : Sz (atQ n) 1 1 := by
  rw [atQ, ← qv_divInt (by omega)]
  refine Sz.of_qv (by omega) ?_ ?_
  · rw [lim_length_le, pw_one]; simp [Int.natAbs]; omega
  · rw [lim_length_le, pw_one]; decide
end Go.Proofs.Ytlcolmifmhdboaa
namespace Go.Proofs.Ytlcolmifmhdboaa
open Go.RowKit

/-- a valid interval of few limbs -/
structure Sh (a : Ix) : Prop where
  v : a.v
  lo : Sz a.lo.q 12 12
  hi : Sz a.hi.q 12 12
set_option maxRecDepth 100000 in
theorem sz_wd {a : Ix} (h : Sh a) : Sz (a.hi.q - a.lo.q) 25 24 := (h.hi.sub h.lo).mono (by omega) (by omega)
set_option maxRecDepth 100000 in
theorem sz_wp {a : Ix} {n : Nat} (h : Sh a) (hn : n ≤ 255) : Sz ((a.hi.q - a.lo.q) * atQ n) 26 25 := ((sz_wd h).mul (sz_at hn)).mono (by omega) (by omega)
set_option maxRecDepth 100000 in
theorem sz_wq {a : Ix} {n : Nat} (h : Sh a) (hn : n ≤ 255) : Sz (wq a n) 39 37 := (h.lo.add (sz_wp h hn)).mono (by omega) (by omega)
set_option maxRecDepth 100000 in
theorem at_0 (n : Nat) : 0 ≤ atQ n := by
  rw [atQ, Rat.divInt_nonneg_iff_of_pos_right (by omega)]; omega
set_option maxRecDepth 100000 in
theorem at_1 {n : Nat} (h : n ≤ 255) : atQ n ≤ 1 := by
  have e1 : atQ n = qv false n 255 := by rw [qv, ← Rat.divInt_ofNat]; rfl
  have e2 : (1 : Rat) = qv false 1 1 := rfl
  rw [e1, e2, ← Rat.not_lt, qv_lt (by omega) (by omega)]
  simp [sg]; omega
set_option maxHeartbeats 1600000 in
set_option maxRecDepth 100000 in
theorem iwithin_any (w : World) (x1 : Ix) (n : Nat) (q : Rat) (ok1 : x1.ok w) (f1 : x1.few) (h1 : Sh x1) (hn : n ≤ 255) (hq : wq x1 n = q) :
    Calls Try.prog 22 #[x1.val, .int .u8 n] w fun e w' => ∃ y : Fx, e = .returned y.val ∧ IsP y q ∧ y.ok w' ∧ Below w.heap.size w w' := by
  have z1 := (sz_wd h1).mono (n' := 128) (d' := 128) (by omega) (by omega)
  have z2 := (sz_at hn).mono (n' := 128) (d' := 128) (by omega) (by omega)
  have z3 := (sz_wp h1 hn).mono (n' := 128) (d' := 128) (by omega) (by omega)
  have z4 := (sz_wq h1 hn).mono (n' := 128) (d' := 128) (by omega) (by omega)
  have HW : Hid (widS x1 = okS (x1.hi.q - x1.lo.q)) := Lib.hid (by
    rw [widS, if_pos h1.v]
    exact subF_ok h1.v.2.1 h1.v.1 rfl rfl z1)
  have HT : Hid (makeF (n : Int) 255 = okS (atQ n)) := Lib.hid (by
    rw [makeF, if_neg (by omega)]
    exact frS_ok z2)
  have Z1 := Lib.hid z1
  have Z2 := Lib.hid z2
  have Z3 := Lib.hid z3
  have Z4 := Lib.hid z4
  have H1 := Lib.hid h1
  have HQ := Lib.hid hq
  clear z1 z2 z3 z4 h1 hq
  go_enter Try.func22, Try.ntmps22
  go_upto_region 1 with fail
  have bw := Below.refl w.heap.size w
  have a1 := (ia_alloc ok1).1
  have bb := (ia_alloc ok1).2
  have sz1 := size_box w (.cells x1.cells 41)
  clear ok1
  generalize (w.alloc (.cells x1.cells 41)) = wA at a1 bb sz1 ⊢
  try replace ok1 := ok1.below bb
  try replace ok3 := ok3.below bb
  try replace ok4 := ok4.below bb
  try replace a1 := a1.below bb
  replace bw := below_on bw bb bw.size
  clear bb
  have bk := bk3_new wA
  have bb := (Below.refl wA.heap.size wA).alloc (Nat.le_refl _) (.cells #[.bool false, .slice none 0 0, .slice none 0 0] 25)
  rw [sz1] at bk
  clear sz1
  generalize (wA.alloc (.cells #[.bool false, .slice none 0 0, .slice none 0 0] 25)) = wm at bk bb ⊢
  try replace bk := bk.below bb
  try replace a1 := a1.below bb
  replace bw := below_on bw bb bw.size
  clear bb
  have ci0 := a1.c0
  have ci1 := a1.c1
  have ci2 := a1.c2
  have ci3 := a1.c3
  have ci4 := a1.c4
  have ci5 := a1.c5
  go_wp2_with fail
  clear ci0 ci1 ci2 ci3 ci4 ci5
  refine (riwidth_any _ x1 (okS (x1.hi.q - x1.lo.q)) a1.ok f1 HW.out).mono ?_
  rintro e wn ⟨x3, rfl, hs3, ok3, bb⟩
  have P3 := Lib.hid (IsP.sz hs3 Z1.out)
  clear hs3
  try replace bk := bk.below bb
  try replace a1 := a1.below bb
  replace bw := below_on bw bb bw.size
  clear bb
  go_upto_region 2 with fail
  have a3 := (fa_alloc ok3).1
  have bb := (fa_alloc ok3).2
  clear ok3
  generalize (wn.alloc (.cells #[.bool x3.b, .slice x3.A x3.xs.length x3.c, .slice x3.D x3.ys.length x3.d] 25)) = wm at a3 bb ⊢
  try replace bk := bk.below bb
  try replace a1 := a1.below bb
  try replace a3 := a3.below bb
  replace bw := below_on bw bb bw.size
  clear bb
  generalize wn.heap.size = g3 at a3 ⊢
  go_wp2_with fail
  refine (rfmake_any _ (n : Int) 255 (okS (atQ n)) (by omega) (by omega) (by omega) (by omega) HT.out).mono ?_
  rintro e wn ⟨x4, rfl, hs4, ok4, bb⟩
  have P4 := Lib.hid (IsP.sz hs4 Z2.out)
  clear hs4
  try replace bk := bk.below bb
  try replace a1 := a1.below bb
  try replace a3 := a3.below bb
  replace bw := below_on bw bb bw.size
  clear bb
  go_upto_region 3 with fail
  have a4 := (fa_alloc ok4).1
  have bb := (fa_alloc ok4).2
  clear ok4
  generalize (wn.alloc (.cells #[.bool x4.b, .slice x4.A x4.xs.length x4.c, .slice x4.D x4.ys.length x4.d] 25)) = wm at a4 bb ⊢
  try replace bk := bk.below bb
  try replace a1 := a1.below bb
  try replace a3 := a3.below bb
  try replace a4 := a4.below bb
  replace bw := below_on bw bb bw.size
  clear bb
  generalize wn.heap.size = g4 at a4 ⊢
  have HM : Hid (mulF x3 x4 = okS ((x1.hi.q - x1.lo.q) * atQ n)) := Lib.hid (mulF_ok P3.out.v P4.out.v P3.out.rp.q P4.out.rp.q Z3.out)
  have ci0 := a3.c0
  have ci1 := a3.c1
  have ci2 := a3.c2
  have cj0 := a4.c0
  have cj1 := a4.c1
  have cj2 := a4.c2
  go_wp2_with fail
  clear ci0 ci1 ci2 cj0 cj1 cj2
  refine (rfmul_any _ x3 x4 (okS ((x1.hi.q - x1.lo.q) * atQ n)) a3.ok a4.ok P3.out.f.l P3.out.f.m P4.out.f.l P4.out.f.m HM.out).mono ?_
  rintro e wn ⟨x5, rfl, hs5, ok5, bb⟩
  have P5 := Lib.hid (IsP.sz hs5 Z3.out)
  clear hs5
  try replace bk := bk.below bb
  try replace a1 := a1.below bb
  try replace a3 := a3.below bb
  try replace a4 := a4.below bb
  replace bw := below_on bw bb bw.size
  clear bb
  go_upto_region 4 with fail
  have a5 := (fa_alloc ok5).1
  have bb := (fa_alloc ok5).2
  clear ok5
  generalize (wn.alloc (.cells #[.bool x5.b, .slice x5.A x5.xs.length x5.c, .slice x5.D x5.ys.length x5.d] 25)) = wm at a5 bb ⊢
  try replace bk := bk.below bb
  try replace a1 := a1.below bb
  try replace a3 := a3.below bb
  try replace a4 := a4.below bb
  try replace a5 := a5.below bb
  replace bw := below_on bw bb bw.size
  clear bb
  generalize wn.heap.size = g5 at a5 ⊢
  have HA : Hid (addF x1.lo x5 = okS (wq x1 n)) := Lib.hid (addF_ok H1.out.v.1 P5.out.v rfl P5.out.rp.q Z4.out)
  have ci0 := a1.c0
  have ci1 := a1.c1
  have ci2 := a1.c2
  have ci3 := a1.c3
  have ci4 := a1.c4
  have ci5 := a1.c5
  have cj0 := a5.c0
  have cj1 := a5.c1
  have cj2 := a5.c2
  go_wp2_with fail
  clear ci0 ci1 ci2 ci3 ci4 ci5
  clear cj0 cj1 cj2
  refine (rfadd_any _ x1.lo x5 (okS (wq x1 n)) a1.ok.lo a5.ok f1.l1 f1.m1 P5.out.f.l P5.out.f.m HA.out).mono ?_
  rintro e wn ⟨x6, rfl, hs6, ok6, bb⟩
  have P6 := Lib.hid (IsP.sz hs6 Z4.out)
  clear hs6
  try replace bk := bk.below bb
  try replace a1 := a1.below bb
  try replace a3 := a3.below bb
  try replace a4 := a4.below bb
  try replace a5 := a5.below bb
  replace bw := below_on bw bb bw.size
  clear bb
  go_upto_region 5 with fail
  have a6 := (fa_alloc ok6).1
  have bb := (fa_alloc ok6).2
  clear ok6
  generalize (wn.alloc (.cells #[.bool x6.b, .slice x6.A x6.xs.length x6.c, .slice x6.D x6.ys.length x6.d] 25)) = wm at a6 bb ⊢
  try replace bk := bk.below bb
  try replace a1 := a1.below bb
  try replace a3 := a3.below bb
  try replace a4 := a4.below bb
  try replace a5 := a5.below bb
  try replace a6 := a6.below bb
  replace bw := below_on bw bb bw.size
  clear bb
  generalize wn.heap.size = g6 at a6 ⊢
  have ci0 := a6.c0
  have ci1 := a6.c1
  have ci2 := a6.c2
  have tk := bk
  obtain ⟨k0, k1, k2, kf0, kf1, kf2, klt, kb⟩ := tk
  clear kb
  go_wp2_with fail
  refine bodyPost_ret (v := x6.val) (by simp [results, Try.results22, go_sem, k0, k1, k2]) rfl ?_
  exact ⟨x6, rfl, by rw [← HQ.out]; exact P6.out, set3_ok a6.ok bk rfl rfl rfl, set3g bw (by omega)⟩
end Go.Proofs.Ytlcolmifmhdboaa
