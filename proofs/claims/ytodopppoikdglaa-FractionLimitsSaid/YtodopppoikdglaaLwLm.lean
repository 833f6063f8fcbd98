/- The walk of FractionLimits. -/
import Derived.Test.YtodopppoikdglaaLwD
import Derived.Test.YtodopppoikdglaaRfE
import Derived.OpenShut
namespace Go.Proofs.Ytodopppoikdglaa
open Go.RowKit

theorem or_u32 (v : Int) : ∃ u : Nat, bits BinOp.or IntKind.u32 v 1 = (u : Int) ∧ u < 4294967296 := by
  have h := wf_bits .or .u32 v 1
  simp [Lit.wf, IntKind.min, IntKind.max, IntKind.signed, IntKind.bits] at h
  exact ⟨(bits BinOp.or IntKind.u32 v 1).toNat, by omega, by omega⟩
theorem wideL_u32 (n : Nat) {u : Nat} (h : u < 4294967296) : U32 ((List.replicate n 4294967295).set 0 u) := by
  intro y hy
  rcases List.mem_or_eq_of_mem_set hy with h1 | h1
  · have := List.eq_of_mem_replicate h1; omega
  · omega
theorem wideL_len (n u : Nat) : ((List.replicate n 4294967295).set 0 u).length = n := by simp
theorem wideL_lim {n u : Nat} (hn : 1 < n) (h : u < 4294967296) : (lim (nv ((List.replicate n 4294967295).set 0 u))).length = n := by
  rw [lim_of (wideL_u32 n h) (by intro j hj; have h1 : j ≠ 0 := (by rw [wideL_len] at hj; omega); rw [List.getElem_set_ne (by omega)]; simp), wideL_len]
set_option maxRecDepth 100000 in
set_option maxHeartbeats 1600000 in
theorem wide_any (w : World) (n : Nat) (nI v : Int) (hn : nI = n) (hl : n ≤ 1000) (h0 : 0 < n) (v0 : 0 ≤ v) (v1 : v < 4294967296) :
    Calls Try.prog 21 #[.int .i64 nI, .int .u32 v] w fun e w' => ∃ A c u, e = .returned (.slice A n c) ∧ u < 4294967296 ∧ Nt w' A c ((List.replicate n 4294967295).set 0 u) ∧ Below w.heap.size w w' := by
  subst hn
  obtain ⟨i0, hi, hz0, hz1, hz2⟩ := info_parts u32_info
  go_enter Try.func21, Try.ntmps21
  go_wp2_with (refine wpList_make_rd w (mk := lmv) 0 rfl _ _ 23 rfl 37 i0 4 Try.underlying23 hi hz0 hz1 hz2 rfl .i64 .i64 _ _ (n) rfl rfl (by omega) (by omega) (by omega) (by simp only [maxLen]; omega) ?_; intro w1 hg1 hb1 hs1)
  obtain ⟨g, hg⟩ : ∃ g, g = w.heap.size := ⟨_, rfl⟩
  have hG := Lib.hid hg
  rw [← hg] at hg1 ⊢
  have hgb : w.heap.size ≤ g := by omega
  clear hg
  go_wp2_with fail
  go_loopw [6] (fun i wr => ∃ j : Nat, j ≤ n ∧ i = .int .i64 j ∧ Gr lmv 37 wr g (some ⟨g, 0, none⟩) n (List.replicate j 4294967295 ++ List.replicate (n - j) 0) ∧ Below w.heap.size w wr) (fun i _ => n - (intOf i).toNat)
  case atStart => exact ⟨0, by omega, rfl, by simpa using hg1, hb1⟩
  case round =>
    obtain ⟨j, hj, rfl, hgr, hbr⟩ := hrel
    by_cases hlt : j < n
    · have hp := hgr.push (by simp) hlt 4294967295
      rw [← List.replicate_succ'] at hp
      have hc := hgr.cell j (by simp; omega)
      have hf := hgr.free j
      have hbn := hbr.setCell (p := ⟨g, j, none⟩) hgb (lmv 4294967295)
      clear hgr
      go_wp2_with fail
      go_roundw
      case rel => exact ⟨j + 1, by omega, by go_num, hp, hbn⟩
      case measure => simp [intOf]; omega
    · obtain rfl : n = j := by omega
      clear hlt
      rw [Nat.sub_self, List.replicate_zero, List.append_nil] at hgr
      have hc := hgr.cell 0 (by simp; omega)
      have hf := hgr.free 0
      go_wp2_with fail
      obtain ⟨u, hu, hu2⟩ := or_u32 v
      rw [hu]
      have hst := hgr.store 0 u
      go_ret
      exact ⟨_, _, u, rfl, hu2, hst.nt (wideL_u32 n hu2), hbr.setCell (p := ⟨g, 0, none⟩) hgb _⟩
theorem lit_one (w : World) (v : Nat) (hv : v < 4294967296) : Nt (w.alloc (.cells #[.int .u32 v] 37)) (some ⟨w.heap.size, 0, none⟩) 1 [v] ∧ Below w.heap.size w (w.alloc (.cells #[.int .u32 v] 37)) := by
  have hg := Gr.lit (mk := lmv) (e := 37) (B := w.heap.size) w [v] #[.int .u32 v] rfl (by simp [maxLen]) (Nat.le_refl _)
  exact ⟨hg.nt (U32.one hv), (Below.refl _ _).alloc (Nat.le_refl _) _⟩
theorem fa_build {w : World} {b : Bool} {A D : Option Addr} {c d n m : Nat} {xs ys : List Nat} (hA : Nt w A c xs) (hD : Nt w D d ys) (hn : n = xs.length) (hm : m = ys.length) : ∃ x : Fx, (x.b = b ∧ x.xs = xs ∧ x.ys = ys) ∧ Fa (w.alloc (.cells #[.bool b, .slice A n c, .slice D m d] 25)) w.heap.size x ∧ Below w.heap.size w (w.alloc (.cells #[.bool b, .slice A n c, .slice D m d] 25)) := by
  subst hn hm
  have h : (⟨b, A, c, xs, D, d, ys⟩ : Fx).ok w := ⟨hA, hD⟩
  exact ⟨⟨b, A, c, xs, D, d, ys⟩, ⟨rfl, rfl, rfl⟩, (fa_alloc h).1, (fa_alloc h).2⟩
set_option maxRecDepth 100000 in
set_option maxHeartbeats 4000000 in
theorem limits_case (w : World) (n m a b r s : Nat) (hr : r = n % 3) (hs : s = m % 2) (hn : n ≤ 255) (hm : m ≤ 255) (ha : a < 4294967296) (hb : b < 4294967296) :
    Calls Try.prog 5 #[.int .u8 n, .int .u8 m, .int .u32 a, .int .u32 b] w fun e w' => e = .returned (.bool true) ∧ Below w.heap.size w w' := by
  have e1 : (n : Int) % 3 = (r : Int) := by omega
  have e2 : (n : Int).tmod 3 = (r : Int) := by rw [Int.tmod_eq_emod_of_nonneg (by omega)]; omega
  have e3 : (m : Int) % 2 = (s : Int) := by omega
  have e4 : (m : Int).tmod 2 = (s : Int) := by rw [Int.tmod_eq_emod_of_nonneg (by omega)]; omega
  have hr3 : r < 3 := by omega
  have hs3 : s < 2 := by omega
  have e5 : IntKind.i64.wrap (127 + (r : Int)) = 127 + (r : Int) := IntWalk.i64_in _ (by omega)
  have e6 : IntKind.i64.wrap (1 + (s : Int)) = 1 + (s : Int) := IntWalk.i64_in _ (by omega)
  have e7 : IntKind.i64.wrap (n : Int) = n := IntWalk.i64_in _ (by omega)
  have e8 : IntKind.i64.wrap (m : Int) = m := IntWalk.i64_in _ (by omega)
  obtain ⟨av, e9, hav⟩ : ∃ av : Int, IntKind.u32.wrap ((a : Int) + 2) = av ∧ 0 ≤ av ∧ av < 4294967296 := ⟨_, rfl, by rw [IntKind.wrap_u32]; omega⟩
  clear hr hs
  go_enter Try.func5, Try.ntmps5
  have bw := Below.refl w.heap.size w
  go_wp2_with fail
  refine (wide_any w (127 + r) _ a (by omega) (by omega) (by omega) (by omega) (by omega)).mono ?_
  rintro e wn ⟨AN, cN, u, rfl, hu, na, bb⟩
  replace bw := below_on bw bb bw.size
  clear bb
  go_upto_region 2 with fail
  obtain ⟨no, bb⟩ := lit_one wn 1 (by omega)
  have sz := size_box wn (.cells #[.int .u32 (1 : Nat)] 37)
  replace na := na.below bb
  replace bw := below_on bw bb bw.size
  revert no sz na bw
  clear bb
  show _ → _ → _ → _ → Code.wp _ _ _ _ ((wn.alloc (.cells #[.int .u32 ((1 : Nat) : Int)] 37)).alloc _)
  generalize (wn.alloc (.cells #[.int .u32 ((1 : Nat) : Int)] 37)) = wl
  generalize wn.heap.size = gl
  intro no sz na bw
  obtain ⟨x1, hs1, a1, bb⟩ := fa_build (b := false) na no (n := 127 + r) (m := 1) (wideL_len _ _).symm rfl
  rw [sz] at a1
  clear sz
  have l1 : x1.xs.length ≤ 10000 := by rw [hs1.2.1, wideL_len]; omega
  have m1 : x1.ys.length ≤ 10000 := by rw [hs1.2.2]; simp
  have hx1 : x1.xs.length = 127 + r := by rw [hs1.2.1, wideL_len]
  have hv1 : x1.v ↔ 127 + r ≤ 128 := by
    rw [Fx.v, Vf, hs1.2.1, hs1.2.2, wideL_lim (by omega) hu]
    have hn1 : nv [1] = 1 := rfl
    have := lim_len2 (m := nv [1]) (by rw [hn1]; omega)
    exact ⟨fun h => h.2.2, fun h => ⟨by rw [hn1]; omega, by omega, h⟩⟩
  obtain ⟨vb, hvb⟩ : ∃ vb, decide x1.v = vb := ⟨_, rfl⟩
  have hvb2 : decide (x1.xs.length ≤ 128) = vb := by rw [← hvb, hx1]; exact decide_eq_decide.2 hv1.symm
  have hvb3 : decide ((x1.xs.length : Int) ≤ 128) = vb := by rw [← hvb2]; exact decide_eq_decide.2 (by omega)
  have HVB := Lib.hid hvb
  have HX1 := Lib.hid hx1
  clear hs1 na no hv1 hvb hx1
  generalize (wl.alloc (.cells #[.bool false, .slice AN (127 + r) cN, .slice (some ⟨gl, 0, none⟩) 1 1] 25)) = wm at a1 bb ⊢
  try replace a1 := a1.below bb
  try replace a2 := a2.below bb
  try replace a3 := a3.below bb
  try replace a4 := a4.below bb
  try replace a5 := a5.below bb
  try replace a6 := a6.below bb
  try replace a7 := a7.below bb
  try replace a8 := a8.below bb
  try replace a9 := a9.below bb
  try replace a10 := a10.below bb
  try replace a11 := a11.below bb
  try replace a12 := a12.below bb
  try replace a13 := a13.below bb
  try replace a14 := a14.below bb
  try replace a15 := a15.below bb
  try replace a16 := a16.below bb
  try replace a17 := a17.below bb
  try replace a18 := a18.below bb
  try replace a19 := a19.below bb
  try replace a20 := a20.below bb
  replace bw := below_on bw bb bw.size
  clear bb
  generalize gl + 1 = g1 at a1 ⊢
  go_wp2_with fail
  obtain ⟨nb, bb⟩ := lit_one wm b hb
  replace a1 := a1.below bb
  replace bw := below_on bw bb bw.size
  clear bb
  generalize (wm.alloc (.cells #[.int .u32 (b : Int)] 37)) = wl2 at nb a1 bw ⊢
  generalize wm.heap.size = gm at nb ⊢
  refine (wide_any wl2 (1 + s) _ av (by omega) (by omega) (by omega) (by omega) (by omega)).mono ?_
  rintro e wn ⟨AD, cD, u2, rfl, hu2, nd, bb⟩
  replace nb := nb.below bb
  replace a1 := a1.below bb
  replace bw := below_on bw bb bw.size
  clear bb
  go_upto_region 3 with fail
  obtain ⟨x2, hs2, a2, bb⟩ := fa_build (b := false) nb nd (n := 1) (m := 1 + s) rfl (wideL_len _ _).symm
  have l2 : x2.xs.length ≤ 10000 := by rw [hs2.2.1]; simp
  have m2 : x2.ys.length ≤ 10000 := by rw [hs2.2.2, wideL_len]; omega
  clear hs2 nb nd
  generalize (wn.alloc (.cells #[.bool false, .slice (some ⟨gm, 0, none⟩) 1 1, .slice AD (1 + s) cD] 25)) = wm at a2 bb ⊢
  try replace a1 := a1.below bb
  try replace a2 := a2.below bb
  try replace a3 := a3.below bb
  try replace a4 := a4.below bb
  try replace a5 := a5.below bb
  try replace a6 := a6.below bb
  try replace a7 := a7.below bb
  try replace a8 := a8.below bb
  try replace a9 := a9.below bb
  try replace a10 := a10.below bb
  try replace a11 := a11.below bb
  try replace a12 := a12.below bb
  try replace a13 := a13.below bb
  try replace a14 := a14.below bb
  try replace a15 := a15.below bb
  try replace a16 := a16.below bb
  try replace a17 := a17.below bb
  try replace a18 := a18.below bb
  try replace a19 := a19.below bb
  try replace a20 := a20.below bb
  replace bw := below_on bw bb bw.size
  clear bb
  generalize wn.heap.size = g2 at a2 ⊢
  obtain ⟨SA, hSA⟩ : ∃ S, mulF x1 x2 = S := ⟨_, rfl⟩
  obtain ⟨SB, hSB⟩ : ∃ S, addF x1 x2 = S := ⟨_, rfl⟩
  obtain ⟨SC, hSC⟩ : ∃ S, quoF x2 x1 = S := ⟨_, rfl⟩
  have HA := Lib.hid hSA
  have HB := Lib.hid hSB
  have HC := Lib.hid hSC
  clear hSA hSB hSC
  have ci0 := a1.c0
  have ci1 := a1.c1
  have ci2 := a1.c2
  have cj0 := a2.c0
  have cj1 := a2.c1
  have cj2 := a2.c2
  go_wp2_with fail
  clear ci0 ci1 ci2 cj0 cj1 cj2
  refine (fmul_any _ x1 x2 (SA) a1.ok a2.ok l1 m1 l2 m2 HA.out).mono ?_
  rintro e wn ⟨x3, rfl, hs3, ok3, bb⟩
  have HS3 := Lib.hid hs3
  clear hs3
  try replace a1 := a1.below bb
  try replace a2 := a2.below bb
  try replace a3 := a3.below bb
  try replace a4 := a4.below bb
  try replace a5 := a5.below bb
  try replace a6 := a6.below bb
  try replace a7 := a7.below bb
  try replace a8 := a8.below bb
  try replace a9 := a9.below bb
  try replace a10 := a10.below bb
  try replace a11 := a11.below bb
  try replace a12 := a12.below bb
  try replace a13 := a13.below bb
  try replace a14 := a14.below bb
  try replace a15 := a15.below bb
  try replace a16 := a16.below bb
  try replace a17 := a17.below bb
  try replace a18 := a18.below bb
  try replace a19 := a19.below bb
  try replace a20 := a20.below bb
  replace bw := below_on bw bb bw.size
  clear bb
  go_upto_region 4 with fail
  have a3 := (fa_alloc ok3).1
  have bb := (fa_alloc ok3).2
  clear ok3
  generalize (wn.alloc (.cells #[.bool x3.b, .slice x3.A x3.xs.length x3.c, .slice x3.D x3.ys.length x3.d] 25)) = wm at a3 bb ⊢
  try replace a1 := a1.below bb
  try replace a2 := a2.below bb
  try replace a3 := a3.below bb
  try replace a4 := a4.below bb
  try replace a5 := a5.below bb
  try replace a6 := a6.below bb
  try replace a7 := a7.below bb
  try replace a8 := a8.below bb
  try replace a9 := a9.below bb
  try replace a10 := a10.below bb
  try replace a11 := a11.below bb
  try replace a12 := a12.below bb
  try replace a13 := a13.below bb
  try replace a14 := a14.below bb
  try replace a15 := a15.below bb
  try replace a16 := a16.below bb
  try replace a17 := a17.below bb
  try replace a18 := a18.below bb
  try replace a19 := a19.below bb
  try replace a20 := a20.below bb
  replace bw := below_on bw bb bw.size
  clear bb
  generalize wn.heap.size = g3 at a3 ⊢
  have ci0 := a1.c0
  have ci1 := a1.c1
  have ci2 := a1.c2
  have cj0 := a2.c0
  have cj1 := a2.c1
  have cj2 := a2.c2
  go_wp2_with fail
  clear ci0 ci1 ci2 cj0 cj1 cj2
  refine (rfmul_any _ x1 x2 (SA) a1.ok a2.ok l1 m1 l2 m2 HA.out).mono ?_
  rintro e wn ⟨x4, rfl, hs4, ok4, bb⟩
  have HS4 := Lib.hid hs4
  clear hs4
  try replace a1 := a1.below bb
  try replace a2 := a2.below bb
  try replace a3 := a3.below bb
  try replace a4 := a4.below bb
  try replace a5 := a5.below bb
  try replace a6 := a6.below bb
  try replace a7 := a7.below bb
  try replace a8 := a8.below bb
  try replace a9 := a9.below bb
  try replace a10 := a10.below bb
  try replace a11 := a11.below bb
  try replace a12 := a12.below bb
  try replace a13 := a13.below bb
  try replace a14 := a14.below bb
  try replace a15 := a15.below bb
  try replace a16 := a16.below bb
  try replace a17 := a17.below bb
  try replace a18 := a18.below bb
  try replace a19 := a19.below bb
  try replace a20 := a20.below bb
  replace bw := below_on bw bb bw.size
  clear bb
  go_upto_region 5 with fail
  have a4 := (fa_alloc ok4).1
  have bb := (fa_alloc ok4).2
  clear ok4
  generalize (wn.alloc (.cells #[.bool x4.b, .slice x4.A x4.xs.length x4.c, .slice x4.D x4.ys.length x4.d] 25)) = wm at a4 bb ⊢
  try replace a1 := a1.below bb
  try replace a2 := a2.below bb
  try replace a3 := a3.below bb
  try replace a4 := a4.below bb
  try replace a5 := a5.below bb
  try replace a6 := a6.below bb
  try replace a7 := a7.below bb
  try replace a8 := a8.below bb
  try replace a9 := a9.below bb
  try replace a10 := a10.below bb
  try replace a11 := a11.below bb
  try replace a12 := a12.below bb
  try replace a13 := a13.below bb
  try replace a14 := a14.below bb
  try replace a15 := a15.below bb
  try replace a16 := a16.below bb
  try replace a17 := a17.below bb
  try replace a18 := a18.below bb
  try replace a19 := a19.below bb
  try replace a20 := a20.below bb
  replace bw := below_on bw bb bw.size
  clear bb
  generalize wn.heap.size = g4 at a4 ⊢
  have ci0 := a1.c0
  have ci1 := a1.c1
  have ci2 := a1.c2
  have cj0 := a2.c0
  have cj1 := a2.c1
  have cj2 := a2.c2
  go_wp2_with fail
  clear ci0 ci1 ci2 cj0 cj1 cj2
  refine (fadd_any _ x1 x2 (SB) a1.ok a2.ok l1 m1 l2 m2 HB.out).mono ?_
  rintro e wn ⟨x5, rfl, hs5, ok5, bb⟩
  have HS5 := Lib.hid hs5
  clear hs5
  try replace a1 := a1.below bb
  try replace a2 := a2.below bb
  try replace a3 := a3.below bb
  try replace a4 := a4.below bb
  try replace a5 := a5.below bb
  try replace a6 := a6.below bb
  try replace a7 := a7.below bb
  try replace a8 := a8.below bb
  try replace a9 := a9.below bb
  try replace a10 := a10.below bb
  try replace a11 := a11.below bb
  try replace a12 := a12.below bb
  try replace a13 := a13.below bb
  try replace a14 := a14.below bb
  try replace a15 := a15.below bb
  try replace a16 := a16.below bb
  try replace a17 := a17.below bb
  try replace a18 := a18.below bb
  try replace a19 := a19.below bb
  try replace a20 := a20.below bb
  replace bw := below_on bw bb bw.size
  clear bb
  go_upto_region 6 with fail
  have a5 := (fa_alloc ok5).1
  have bb := (fa_alloc ok5).2
  clear ok5
  generalize (wn.alloc (.cells #[.bool x5.b, .slice x5.A x5.xs.length x5.c, .slice x5.D x5.ys.length x5.d] 25)) = wm at a5 bb ⊢
  try replace a1 := a1.below bb
  try replace a2 := a2.below bb
  try replace a3 := a3.below bb
  try replace a4 := a4.below bb
  try replace a5 := a5.below bb
  try replace a6 := a6.below bb
  try replace a7 := a7.below bb
  try replace a8 := a8.below bb
  try replace a9 := a9.below bb
  try replace a10 := a10.below bb
  try replace a11 := a11.below bb
  try replace a12 := a12.below bb
  try replace a13 := a13.below bb
  try replace a14 := a14.below bb
  try replace a15 := a15.below bb
  try replace a16 := a16.below bb
  try replace a17 := a17.below bb
  try replace a18 := a18.below bb
  try replace a19 := a19.below bb
  try replace a20 := a20.below bb
  replace bw := below_on bw bb bw.size
  clear bb
  generalize wn.heap.size = g5 at a5 ⊢
  have ci0 := a1.c0
  have ci1 := a1.c1
  have ci2 := a1.c2
  have cj0 := a2.c0
  have cj1 := a2.c1
  have cj2 := a2.c2
  go_wp2_with fail
  clear ci0 ci1 ci2 cj0 cj1 cj2
  refine (rfadd_any _ x1 x2 (SB) a1.ok a2.ok l1 m1 l2 m2 HB.out).mono ?_
  rintro e wn ⟨x6, rfl, hs6, ok6, bb⟩
  have HS6 := Lib.hid hs6
  clear hs6
  try replace a1 := a1.below bb
  try replace a2 := a2.below bb
  try replace a3 := a3.below bb
  try replace a4 := a4.below bb
  try replace a5 := a5.below bb
  try replace a6 := a6.below bb
  try replace a7 := a7.below bb
  try replace a8 := a8.below bb
  try replace a9 := a9.below bb
  try replace a10 := a10.below bb
  try replace a11 := a11.below bb
  try replace a12 := a12.below bb
  try replace a13 := a13.below bb
  try replace a14 := a14.below bb
  try replace a15 := a15.below bb
  try replace a16 := a16.below bb
  try replace a17 := a17.below bb
  try replace a18 := a18.below bb
  try replace a19 := a19.below bb
  try replace a20 := a20.below bb
  replace bw := below_on bw bb bw.size
  clear bb
  go_upto_region 7 with fail
  have a6 := (fa_alloc ok6).1
  have bb := (fa_alloc ok6).2
  clear ok6
  generalize (wn.alloc (.cells #[.bool x6.b, .slice x6.A x6.xs.length x6.c, .slice x6.D x6.ys.length x6.d] 25)) = wm at a6 bb ⊢
  try replace a1 := a1.below bb
  try replace a2 := a2.below bb
  try replace a3 := a3.below bb
  try replace a4 := a4.below bb
  try replace a5 := a5.below bb
  try replace a6 := a6.below bb
  try replace a7 := a7.below bb
  try replace a8 := a8.below bb
  try replace a9 := a9.below bb
  try replace a10 := a10.below bb
  try replace a11 := a11.below bb
  try replace a12 := a12.below bb
  try replace a13 := a13.below bb
  try replace a14 := a14.below bb
  try replace a15 := a15.below bb
  try replace a16 := a16.below bb
  try replace a17 := a17.below bb
  try replace a18 := a18.below bb
  try replace a19 := a19.below bb
  try replace a20 := a20.below bb
  replace bw := below_on bw bb bw.size
  clear bb
  generalize wn.heap.size = g6 at a6 ⊢
  have ci0 := a2.c0
  have ci1 := a2.c1
  have ci2 := a2.c2
  have cj0 := a1.c0
  have cj1 := a1.c1
  have cj2 := a1.c2
  go_wp2_with fail
  clear ci0 ci1 ci2 cj0 cj1 cj2
  refine (fquo_any _ x2 x1 (SC) a2.ok a1.ok l2 m2 l1 m1 HC.out).mono ?_
  rintro e wn ⟨x7, rfl, hs7, ok7, bb⟩
  have HS7 := Lib.hid hs7
  clear hs7
  try replace a1 := a1.below bb
  try replace a2 := a2.below bb
  try replace a3 := a3.below bb
  try replace a4 := a4.below bb
  try replace a5 := a5.below bb
  try replace a6 := a6.below bb
  try replace a7 := a7.below bb
  try replace a8 := a8.below bb
  try replace a9 := a9.below bb
  try replace a10 := a10.below bb
  try replace a11 := a11.below bb
  try replace a12 := a12.below bb
  try replace a13 := a13.below bb
  try replace a14 := a14.below bb
  try replace a15 := a15.below bb
  try replace a16 := a16.below bb
  try replace a17 := a17.below bb
  try replace a18 := a18.below bb
  try replace a19 := a19.below bb
  try replace a20 := a20.below bb
  replace bw := below_on bw bb bw.size
  clear bb
  go_upto_region 8 with fail
  have a7 := (fa_alloc ok7).1
  have bb := (fa_alloc ok7).2
  clear ok7
  generalize (wn.alloc (.cells #[.bool x7.b, .slice x7.A x7.xs.length x7.c, .slice x7.D x7.ys.length x7.d] 25)) = wm at a7 bb ⊢
  try replace a1 := a1.below bb
  try replace a2 := a2.below bb
  try replace a3 := a3.below bb
  try replace a4 := a4.below bb
  try replace a5 := a5.below bb
  try replace a6 := a6.below bb
  try replace a7 := a7.below bb
  try replace a8 := a8.below bb
  try replace a9 := a9.below bb
  try replace a10 := a10.below bb
  try replace a11 := a11.below bb
  try replace a12 := a12.below bb
  try replace a13 := a13.below bb
  try replace a14 := a14.below bb
  try replace a15 := a15.below bb
  try replace a16 := a16.below bb
  try replace a17 := a17.below bb
  try replace a18 := a18.below bb
  try replace a19 := a19.below bb
  try replace a20 := a20.below bb
  replace bw := below_on bw bb bw.size
  clear bb
  generalize wn.heap.size = g7 at a7 ⊢
  have ci0 := a2.c0
  have ci1 := a2.c1
  have ci2 := a2.c2
  have cj0 := a1.c0
  have cj1 := a1.c1
  have cj2 := a1.c2
  go_wp2_with fail
  clear ci0 ci1 ci2 cj0 cj1 cj2
  refine (rfquo_any _ x2 x1 (SC) a2.ok a1.ok l2 m2 l1 m1 HC.out).mono ?_
  rintro e wn ⟨x8, rfl, hs8, ok8, bb⟩
  have HS8 := Lib.hid hs8
  clear hs8
  try replace a1 := a1.below bb
  try replace a2 := a2.below bb
  try replace a3 := a3.below bb
  try replace a4 := a4.below bb
  try replace a5 := a5.below bb
  try replace a6 := a6.below bb
  try replace a7 := a7.below bb
  try replace a8 := a8.below bb
  try replace a9 := a9.below bb
  try replace a10 := a10.below bb
  try replace a11 := a11.below bb
  try replace a12 := a12.below bb
  try replace a13 := a13.below bb
  try replace a14 := a14.below bb
  try replace a15 := a15.below bb
  try replace a16 := a16.below bb
  try replace a17 := a17.below bb
  try replace a18 := a18.below bb
  try replace a19 := a19.below bb
  try replace a20 := a20.below bb
  replace bw := below_on bw bb bw.size
  clear bb
  go_upto_region 9 with fail
  have a8 := (fa_alloc ok8).1
  have bb := (fa_alloc ok8).2
  clear ok8
  generalize (wn.alloc (.cells #[.bool x8.b, .slice x8.A x8.xs.length x8.c, .slice x8.D x8.ys.length x8.d] 25)) = wm at a8 bb ⊢
  try replace a1 := a1.below bb
  try replace a2 := a2.below bb
  try replace a3 := a3.below bb
  try replace a4 := a4.below bb
  try replace a5 := a5.below bb
  try replace a6 := a6.below bb
  try replace a7 := a7.below bb
  try replace a8 := a8.below bb
  try replace a9 := a9.below bb
  try replace a10 := a10.below bb
  try replace a11 := a11.below bb
  try replace a12 := a12.below bb
  try replace a13 := a13.below bb
  try replace a14 := a14.below bb
  try replace a15 := a15.below bb
  try replace a16 := a16.below bb
  try replace a17 := a17.below bb
  try replace a18 := a18.below bb
  try replace a19 := a19.below bb
  try replace a20 := a20.below bb
  replace bw := below_on bw bb bw.size
  clear bb
  generalize wn.heap.size = g8 at a8 ⊢
  clear a2
  go_region_held3 (fun w' => w'.cell? ⟨g1, 0, none⟩ = some (.bool x1.b) ∧ w'.cell? ⟨g1, 1, none⟩ = some (.slice x1.A x1.xs.length x1.c) ∧ w'.cell? ⟨g1, 2, none⟩ = some (.slice x1.D x1.ys.length x1.d) ∧ w'.cell? ⟨g3, 0, none⟩ = some (.bool x3.b) ∧ w'.cell? ⟨g3, 1, none⟩ = some (.slice x3.A x3.xs.length x3.c) ∧ w'.cell? ⟨g3, 2, none⟩ = some (.slice x3.D x3.ys.length x3.d) ∧ w'.cell? ⟨g4, 0, none⟩ = some (.bool x4.b) ∧ w'.cell? ⟨g4, 1, none⟩ = some (.slice x4.A x4.xs.length x4.c) ∧ w'.cell? ⟨g4, 2, none⟩ = some (.slice x4.D x4.ys.length x4.d) ∧ w'.cell? ⟨g5, 0, none⟩ = some (.bool x5.b) ∧ w'.cell? ⟨g5, 1, none⟩ = some (.slice x5.A x5.xs.length x5.c) ∧ w'.cell? ⟨g5, 2, none⟩ = some (.slice x5.D x5.ys.length x5.d) ∧ w'.cell? ⟨g6, 0, none⟩ = some (.bool x6.b) ∧ w'.cell? ⟨g6, 1, none⟩ = some (.slice x6.A x6.xs.length x6.c) ∧ w'.cell? ⟨g6, 2, none⟩ = some (.slice x6.D x6.ys.length x6.d) ∧ w'.cell? ⟨g7, 0, none⟩ = some (.bool x7.b) ∧ w'.cell? ⟨g7, 1, none⟩ = some (.slice x7.A x7.xs.length x7.c) ∧ w'.cell? ⟨g7, 2, none⟩ = some (.slice x7.D x7.ys.length x7.d) ∧ w'.cell? ⟨g8, 0, none⟩ = some (.bool x8.b) ∧ w'.cell? ⟨g8, 1, none⟩ = some (.slice x8.A x8.xs.length x8.c) ∧ w'.cell? ⟨g8, 2, none⟩ = some (.slice x8.D x8.ys.length x8.d))
    (first | exact ⟨a1.c0, a1.c1, a1.c2, a3.c0, a3.c1, a3.c2, a4.c0, a4.c1, a4.c2, a5.c0, a5.c1, a5.c2, a6.c0, a6.c1, a6.c2, a7.c0, a7.c1, a7.c2, a8.c0, a8.c1, a8.c2⟩ | go_keep)
    (first
      | (go_at_call 14
         first | with_reducible refine (samef_any _ x3 x4 true a3.ok a4.ok (sm HS3.out HS4.out)).mono ?_ | with_reducible refine (samef_any _ x3 x4 true a3.ok.drew a4.ok.drew (sm HS3.out HS4.out)).mono ?_
         rintro e wn ⟨rfl, bb⟩
         repeat replace bb := below_undrew bb
         replace a1 := a1.below bb
         replace a3 := a3.below bb
         replace a4 := a4.below bb
         replace a5 := a5.below bb
         replace a6 := a6.below bb
         replace a7 := a7.below bb
         replace a8 := a8.below bb
         replace bw := below_on bw bb bw.size
         clear bb)
      | (go_at_call 14
         first | with_reducible refine (samef_any _ x5 x6 true a5.ok a6.ok (sm HS5.out HS6.out)).mono ?_ | with_reducible refine (samef_any _ x5 x6 true a5.ok.drew a6.ok.drew (sm HS5.out HS6.out)).mono ?_
         rintro e wn ⟨rfl, bb⟩
         repeat replace bb := below_undrew bb
         replace a1 := a1.below bb
         replace a3 := a3.below bb
         replace a4 := a4.below bb
         replace a5 := a5.below bb
         replace a6 := a6.below bb
         replace a7 := a7.below bb
         replace a8 := a8.below bb
         replace bw := below_on bw bb bw.size
         clear bb)
      | (go_at_call 14
         first | with_reducible refine (samef_any _ x7 x8 true a7.ok a8.ok (sm HS7.out HS8.out)).mono ?_ | with_reducible refine (samef_any _ x7 x8 true a7.ok.drew a8.ok.drew (sm HS7.out HS8.out)).mono ?_
         rintro e wn ⟨rfl, bb⟩
         repeat replace bb := below_undrew bb
         replace a1 := a1.below bb
         replace a3 := a3.below bb
         replace a4 := a4.below bb
         replace a5 := a5.below bb
         replace a6 := a6.below bb
         replace a7 := a7.below bb
         replace a8 := a8.below bb
         replace bw := below_on bw bb bw.size
         clear bb)
      | (go_at_call 26
         first | with_reducible refine (fvalid_any _ x1 vb a1.ok l1 m1 HVB.out).mono ?_ | with_reducible refine (fvalid_any _ x1 vb a1.ok.drew l1 m1 HVB.out).mono ?_
         rintro e wn ⟨rfl, bb⟩
         repeat replace bb := below_undrew bb
         replace a1 := a1.below bb
         replace a3 := a3.below bb
         replace a4 := a4.below bb
         replace a5 := a5.below bb
         replace a6 := a6.below bb
         replace a7 := a7.below bb
         replace a8 := a8.below bb
         replace bw := below_on bw bb bw.size
         clear bb)
      | (go_at_call 15
         with_reducible refine (awakef_any _).mono ?_
         rintro e wn ⟨rfl, bb⟩
         repeat replace bb := below_undrew bb
         replace a1 := a1.below bb
         replace a3 := a3.below bb
         replace a4 := a4.below bb
         replace a5 := a5.below bb
         replace a6 := a6.below bb
         replace a7 := a7.below bb
         replace a8 := a8.below bb
         replace bw := below_on bw bb bw.size
         clear bb))
  go_wp2_with fail
  go_ret
  exact ⟨rfl, bw⟩
theorem limits_walk (w : World) (n m a b : Int) (hn : (Lit.int .u8 n).wf = true) (hm : (Lit.int .u8 m).wf = true) (ha : (Lit.int .u32 a).wf = true) (hb : (Lit.int .u32 b).wf = true) :
    Calls Try.prog 5 #[.int .u8 n, .int .u8 m, .int .u32 a, .int .u32 b] w fun e w' => e = .returned (.bool true) ∧ Below w.heap.size w w' := by
  simp [Lit.wf, IntKind.min, IntKind.max, IntKind.signed, IntKind.bits] at hn hm ha hb
  obtain ⟨n', rfl⟩ : ∃ k : Nat, n = k := ⟨n.toNat, by omega⟩
  obtain ⟨m', rfl⟩ : ∃ k : Nat, m = k := ⟨m.toNat, by omega⟩
  obtain ⟨a', rfl⟩ : ∃ k : Nat, a = k := ⟨a.toNat, by omega⟩
  obtain ⟨b', rfl⟩ : ∃ k : Nat, b = k := ⟨b.toNat, by omega⟩
  exact limits_case w n' m' a' b' _ _ rfl rfl (by omega) (by omega) (by omega) (by omega)
end Go.Proofs.Ytodopppoikdglaa
