/- The walk of IntervalRounds. -/
import Derived.Test.YtlcolmifmhdboaaOpenI
import Derived.Test.YtlcolmifmhdboaaFrcR
namespace Go.Proofs.Ytlcolmifmhdboaa
open Go.RowKit

def flQ (up : Bool) (q : Rat) (k : Nat) : Rat := mkRat (rndZ up q k) (2 ^ k)
set_option maxRecDepth 100000 in
theorem sz_fl {x : Fx} {k : Int} {up : Bool} (hv : x.v) (un : U32 x.xs) (hl : x.xs.length ≤ 12) (h0 : 0 ≤ k) (h1 : k ≤ 256) : Sz (flQ up x.q k.toNat) 22 9 ∧ roundF x k up = okS (flQ up x.q k.toNat) := by
  have h2 : (lim (nv x.xs)).length ≤ 12 := Nat.le_trans (lim_length_le_length un) hl
  have h3 : (lim (nv x.xs * 2 ^ k.toNat)).length ≤ 21 := len_mulf h2 (lim_pow9 (k := k.toNat) (by omega))
  have hP : 2 ^ k.toNat ≠ 0 := Nat.pos_iff_ne_zero.1 (Nat.pow_pos (by omega))
  have e : flQ up x.q k.toNat = qv x.b (rndN x.b up (nv x.xs * 2 ^ k.toNat) (nv x.ys)) (2 ^ k.toNat) := by
    rw [flQ, Fx.q, rndZ_qv hv.1, qv]
  have hz : Sz (flQ up x.q k.toNat) 22 9 := by
    rw [e]
    exact Sz.of_qv hP (rndN_len h3 (by omega)) (lim_pow9 (by omega))
  refine ⟨hz, ?_⟩
  rw [roundF, if_pos hv, if_neg (by omega)]
  exact frS_ok (hz.mono (by omega) (by omega))
set_option maxRecDepth 100000 in
theorem fl_le (q : Rat) (k : Nat) : flQ false q k ≤ q := by
  have hP : 2 ^ k ≠ 0 := Nat.pos_iff_ne_zero.1 (Nat.pow_pos (by omega))
  exact Rat.not_lt.1 (rnd_lo q hP)
set_option maxRecDepth 100000 in
theorem fl_next (q : Rat) (k : Nat) : q < flQ false q k + mkRat 1 (2 ^ k) := by
  have hP : 2 ^ k ≠ 0 := Nat.pos_iff_ne_zero.1 (Nat.pow_pos (by omega))
  exact rnd_next q hP
set_option maxRecDepth 100000 in
theorem ce_ge (q : Rat) (k : Nat) : q ≤ flQ true q k := by
  have hP : 2 ^ k ≠ 0 := Nat.pos_iff_ne_zero.1 (Nat.pow_pos (by omega))
  exact Rat.not_lt.1 (rnd_hi q hP)
set_option maxRecDepth 100000 in
theorem mk_nonneg (k : Nat) : 0 ≤ mkRat 1 (2 ^ k) := by
  rw [← Rat.divInt_ofNat, Rat.divInt_nonneg_iff_of_pos_right (by have : 0 < 2 ^ k := Nat.pow_pos (by omega); omega)]
  omega
set_option maxRecDepth 100000 in
theorem ce_le (q : Rat) (k : Nat) : flQ true q k ≤ q + mkRat 1 (2 ^ k) := by
  have hP : 2 ^ k ≠ 0 := Nat.pos_iff_ne_zero.1 (Nat.pow_pos (by omega))
  have h := rnd_alt q hP
  have h1 := fl_le q k
  have h2 := mk_nonneg k
  have e1 : flQ false q k = mkRat (q * ((2 ^ k : Nat) : Rat)).floor (2 ^ k) := rfl
  have e2 : flQ true q k = mkRat (q * ((2 ^ k : Nat) : Rat)).ceil (2 ^ k) := rfl
  rw [← e1, ← e2] at h
  rcases h with h | h
  · rw [← h]; grind
  · rw [h]; grind
set_option maxRecDepth 100000 in
theorem rd_wide (lo hi : Rat) (k : Nat) : (flQ true hi k - flQ false lo k) - (hi - lo) < 2 * mkRat 1 (2 ^ k) := by
  have h1 := fl_next lo k
  have h2 := ce_le hi k
  grind
set_option maxHeartbeats 4000000 in
set_option maxRecDepth 100000 in
theorem irounds_long (w : World) (x1 : Ix) (k : Int) (ok1 : x1.ok w) (h : longI [x1] = true) :
    Calls Try.prog 9 #[x1.val, .int .i64 k] w fun e w' => e = .returned (.bool true) ∧ Below w.heap.size w w' := by
  have H := Lib.hid h
  clear h
  go_enter Try.func9, Try.ntmps9
  go_upto_region 1 with fail
  have bw := Below.refl w.heap.size w
  have a1 := (ia_alloc ok1).1
  have bb := (ia_alloc ok1).2
  have sz1 := size_box w (.cells x1.cells 41)
  clear ok1
  generalize (w.alloc (.cells x1.cells 41)) = wm at a1 bb sz1 ⊢
  try replace ok1 := ok1.below bb
  try replace a1 := a1.below bb
  replace bw := below_on bw bb bw.size
  clear bb
  clear sz1
  have ci0 := a1.c0
  have ci1 := a1.c1
  have ci2 := a1.c2
  have ci3 := a1.c3
  have ci4 := a1.c4
  have ci5 := a1.c5
  go_wp2_with fail
  clear ci0 ci1 ci2 ci3 ci4 ci5
  have hr := rdi_lit wm [x1]
  have bb := (Below.refl wm.heap.size wm).alloc (Nat.le_refl _) (.cells (icells [x1]).toArray 41)
  simp only [icells] at hr bb
  generalize (wm.alloc (.cells [Value.bool x1.lo.b, .slice x1.lo.A x1.lo.xs.length x1.lo.c, .slice x1.lo.D x1.lo.ys.length x1.lo.d, .bool x1.hi.b, .slice x1.hi.A x1.hi.xs.length x1.hi.c, .slice x1.hi.D x1.hi.ys.length x1.hi.d].toArray 41)) = wn at hr bb ⊢
  try replace a1 := a1.below bb
  replace bw := below_on bw bb bw.size
  clear bb
  refine (ilong_any wn _ 1 1 [x1] true hr rfl (by simp) (lens1 a1.ok) H.out).mono ?_
  rintro e wl ⟨rfl, rfl⟩
  clear hr
  go_wp2_with fail
  refine (awakei_any _).mono ?_
  rintro e wn ⟨rfl, bb⟩
  try replace a1 := a1.below bb
  replace bw := below_on bw bb bw.size
  clear bb
  go_wp2_with fail
  go_ret
  exact ⟨rfl, bw⟩
set_option maxHeartbeats 4000000 in
set_option maxRecDepth 100000 in
theorem irounds_err (w : World) (x1 : Ix) (k e0 : Int) (ok1 : x1.ok w) (f1 : x1.few) (h : longI [x1] = false) (hs : outS x1 k = errI e0) (he : e0 ≠ 0) :
    Calls Try.prog 9 #[x1.val, .int .i64 k] w fun e w' => e = .returned (.bool true) ∧ Below w.heap.size w w' := by
  have H := Lib.hid h
  obtain ⟨S, hS⟩ : ∃ S, outS x1 k = S := ⟨_, rfl⟩
  have HS := Lib.hid hS
  have E : Hid (S.2.2 = e0) := Lib.hid (by rw [← hS, hs]; rfl)
  have hne : (e0 == 0) = false := beq_eq_false_iff_ne.2 he
  clear h hS hs
  go_enter Try.func9, Try.ntmps9
  go_upto_region 1 with fail
  have bw := Below.refl w.heap.size w
  have a1 := (ia_alloc ok1).1
  have bb := (ia_alloc ok1).2
  have sz1 := size_box w (.cells x1.cells 41)
  clear ok1
  generalize (w.alloc (.cells x1.cells 41)) = wm at a1 bb sz1 ⊢
  try replace ok1 := ok1.below bb
  try replace ok3 := ok3.below bb
  try replace ok4 := ok4.below bb
  try replace a1 := a1.below bb
  replace bw := below_on bw bb bw.size
  clear bb
  clear sz1
  have ci0 := a1.c0
  have ci1 := a1.c1
  have ci2 := a1.c2
  have ci3 := a1.c3
  have ci4 := a1.c4
  have ci5 := a1.c5
  go_wp2_with fail
  clear ci0 ci1 ci2 ci3 ci4 ci5
  have hr := rdi_lit wm [x1]
  have bb := (Below.refl wm.heap.size wm).alloc (Nat.le_refl _) (.cells (icells [x1]).toArray 41)
  simp only [icells] at hr bb
  generalize (wm.alloc (.cells [Value.bool x1.lo.b, .slice x1.lo.A x1.lo.xs.length x1.lo.c, .slice x1.lo.D x1.lo.ys.length x1.lo.d, .bool x1.hi.b, .slice x1.hi.A x1.hi.xs.length x1.hi.c, .slice x1.hi.D x1.hi.ys.length x1.hi.d].toArray 41)) = wn at hr bb ⊢
  try replace a1 := a1.below bb
  replace bw := below_on bw bb bw.size
  clear bb
  refine (ilong_any wn _ 1 1 [x1] false hr rfl (by simp) (lens1 a1.ok) H.out).mono ?_
  rintro e wl ⟨rfl, rfl⟩
  clear hr
  go_upto_region 3 with fail
  have ci0 := a1.c0
  have ci1 := a1.c1
  have ci2 := a1.c2
  have ci3 := a1.c3
  have ci4 := a1.c4
  have ci5 := a1.c5
  go_wp2_with fail
  clear ci0 ci1 ci2 ci3 ci4 ci5
  refine (ioutward_any _ x1 k S a1.ok f1 HS.out).mono ?_
  rintro e wn ⟨x3, rfl, h1, h2, ok3, bb⟩
  have HS3 := Lib.hid (And.intro h1 h2)
  clear h1 h2
  rw [E.out]
  try replace a1 := a1.below bb
  replace bw := below_on bw bb bw.size
  clear bb
  go_upto_region 4 with fail
  have a3 := (ia_alloc ok3).1
  have bb := (ia_alloc ok3).2
  clear ok3
  generalize (wn.alloc (.cells #[.bool x3.lo.b, .slice x3.lo.A x3.lo.xs.length x3.lo.c, .slice x3.lo.D x3.lo.ys.length x3.lo.d, .bool x3.hi.b, .slice x3.hi.A x3.hi.xs.length x3.hi.c, .slice x3.hi.D x3.hi.ys.length x3.hi.d] 41)) = wm at a3 bb ⊢
  try replace a1 := a1.below bb
  try replace a3 := a3.below bb
  replace bw := below_on bw bb bw.size
  clear bb
  generalize wn.heap.size = g3 at a3 ⊢
  have ci0 := a1.c0
  have ci1 := a1.c1
  have ci2 := a1.c2
  have ci3 := a1.c3
  have ci4 := a1.c4
  have ci5 := a1.c5
  go_wp2_with fail
  clear ci0 ci1 ci2 ci3 ci4 ci5
  refine (rioutward_any _ x1 k S a1.ok f1 HS.out).mono ?_
  rintro e wn ⟨x4, rfl, h1, h2, ok4, bb⟩
  have HS4 := Lib.hid (And.intro h1 h2)
  clear h1 h2
  rw [E.out]
  try replace a1 := a1.below bb
  try replace a3 := a3.below bb
  replace bw := below_on bw bb bw.size
  clear bb
  go_upto_region 5 with fail
  have a4 := (ia_alloc ok4).1
  have bb := (ia_alloc ok4).2
  clear ok4
  generalize (wn.alloc (.cells #[.bool x4.lo.b, .slice x4.lo.A x4.lo.xs.length x4.lo.c, .slice x4.lo.D x4.lo.ys.length x4.lo.d, .bool x4.hi.b, .slice x4.hi.A x4.hi.xs.length x4.hi.c, .slice x4.hi.D x4.hi.ys.length x4.hi.d] 41)) = wm at a4 bb ⊢
  try replace a1 := a1.below bb
  try replace a3 := a3.below bb
  try replace a4 := a4.below bb
  replace bw := below_on bw bb bw.size
  clear bb
  generalize wn.heap.size = g4 at a4 ⊢
  have ci0 := a3.c0
  have ci1 := a3.c1
  have ci2 := a3.c2
  have ci3 := a3.c3
  have ci4 := a3.c4
  have ci5 := a3.c5
  have cj0 := a4.c0
  have cj1 := a4.c1
  have cj2 := a4.c2
  have cj3 := a4.c3
  have cj4 := a4.c4
  have cj5 := a4.c5
  go_wp2_with fail
  clear ci0 ci1 ci2 ci3 ci4 ci5
  clear cj0 cj1 cj2 cj3 cj4 cj5
  refine (samei_any _ x3 x4 a3.ok a4.ok (SmI.of HS3.out.1 HS3.out.2 HS4.out.1 HS4.out.2)).mono ?_
  rintro e wn ⟨rfl, bb⟩
  try replace a1 := a1.below bb
  try replace a3 := a3.below bb
  try replace a4 := a4.below bb
  replace bw := below_on bw bb bw.size
  clear bb
  go_wp2_with fail
  refine (awakei_any _).mono ?_
  rintro e wn ⟨rfl, bb⟩
  try replace a1 := a1.below bb
  try replace a3 := a3.below bb
  try replace a4 := a4.below bb
  replace bw := below_on bw bb bw.size
  clear bb
  go_wp2_with fail
  go_ret
  exact ⟨rfl, bw⟩
set_option maxHeartbeats 8000000 in
set_option maxRecDepth 100000 in
theorem irounds_main (w : World) (x1 : Ix) (k : Int) (ok1 : x1.ok w) (f1 : x1.few) (h : longI [x1] = false) (ht : Tw x1) (hv : x1.v) (hk0 : 0 ≤ k) (hk1 : k ≤ 256) :
    Calls Try.prog 9 #[x1.val, .int .i64 k] w fun e w' => e = .returned (.bool true) ∧ Below w.heap.size w w' := by
  have H := Lib.hid h
  have SH := Lib.hid (ht.sh ok1 hv)
  obtain ⟨zl, el⟩ := sz_fl (up := false) hv.1 ok1.lo.num.u ht.a1 hk0 hk1
  obtain ⟨zh, eh⟩ := sz_fl (up := true) hv.2.1 ok1.hi.num.u ht.a3 hk0 hk1
  have hw := rd_wide x1.lo.q x1.hi.q k.toNat
  have h1 := fl_le x1.lo.q k.toNat
  have h2 := ce_ge x1.hi.q k.toNat
  obtain ⟨fl, hfl⟩ : ∃ q, flQ false x1.lo.q k.toNat = q := ⟨_, rfl⟩
  obtain ⟨ce, hce⟩ : ∃ q, flQ true x1.hi.q k.toNat = q := ⟨_, rfl⟩
  rw [hfl] at zl el hw h1
  rw [hce] at zh eh hw h2
  have hS : outS x1 k = (okS fl, okS ce, 0) := by
    rw [outS, if_pos hv, el, eh]; rfl
  obtain ⟨S, hS'⟩ : ∃ S, outS x1 k = S := ⟨_, rfl⟩
  have HS := Lib.hid hS'
  have HSS : Hid (S = (okS fl, okS ce, 0)) := Lib.hid (hS'.symm.trans hS)
  have E : Hid (S.2.2 = 0) := Lib.hid (by rw [HSS.out])
  have ZL := Lib.hid zl
  have ZH := Lib.hid zh
  have HW := Lib.hid hw
  have H1 := Lib.hid h1
  have H2 := Lib.hid h2
  have HV := Lib.hid hv
  have HLK : Hid ((lim (2 ^ k.toNat)).length ≤ 9) := Lib.hid (lim_pow9 (by omega))
  obtain ⟨P, hP⟩ : ∃ P, 2 ^ k.toNat = P := ⟨_, rfl⟩
  rw [hP] at HW HLK
  have HP := Lib.hid hP
  have HP0 : Hid (P ≠ 0) := Lib.hid (by rw [← hP]; exact Nat.pos_iff_ne_zero.1 (Nat.pow_pos (by omega)))
  clear h hS hS' zl zh el eh hw h1 h2 hfl hce hv ht hP
  go_enter Try.func9, Try.ntmps9
  go_upto_region 1 with fail
  have bw := Below.refl w.heap.size w
  have a1 := (ia_alloc ok1).1
  have bb := (ia_alloc ok1).2
  have sz1 := size_box w (.cells x1.cells 41)
  clear ok1
  generalize (w.alloc (.cells x1.cells 41)) = wm at a1 bb sz1 ⊢
  try replace ok1 := ok1.below bb
  try replace ok3 := ok3.below bb
  try replace ok4 := ok4.below bb
  try replace a1 := a1.below bb
  try replace a3 := a3.below bb
  replace bw := below_on bw bb bw.size
  clear bb
  clear sz1
  have ci0 := a1.c0
  have ci1 := a1.c1
  have ci2 := a1.c2
  have ci3 := a1.c3
  have ci4 := a1.c4
  have ci5 := a1.c5
  go_wp2_with fail
  clear ci0 ci1 ci2 ci3 ci4 ci5
  have hr := rdi_lit wm [x1]
  have bb := (Below.refl wm.heap.size wm).alloc (Nat.le_refl _) (.cells (icells [x1]).toArray 41)
  simp only [icells] at hr bb
  generalize (wm.alloc (.cells [Value.bool x1.lo.b, .slice x1.lo.A x1.lo.xs.length x1.lo.c, .slice x1.lo.D x1.lo.ys.length x1.lo.d, .bool x1.hi.b, .slice x1.hi.A x1.hi.xs.length x1.hi.c, .slice x1.hi.D x1.hi.ys.length x1.hi.d].toArray 41)) = wn at hr bb ⊢
  try replace a1 := a1.below bb
  try replace a3 := a3.below bb
  replace bw := below_on bw bb bw.size
  clear bb
  refine (ilong_any wn _ 1 1 [x1] false hr rfl (by simp) (lens1 a1.ok) H.out).mono ?_
  rintro e wl ⟨rfl, rfl⟩
  clear hr
  go_upto_region 3 with fail
  have ci0 := a1.c0
  have ci1 := a1.c1
  have ci2 := a1.c2
  have ci3 := a1.c3
  have ci4 := a1.c4
  have ci5 := a1.c5
  go_wp2_with fail
  clear ci0 ci1 ci2 ci3 ci4 ci5
  refine (ioutward_any _ x1 k S a1.ok f1 HS.out).mono ?_
  rintro e wn ⟨x3, rfl, h1, h2, ok3, bb⟩
  have HS3 := Lib.hid (And.intro h1 h2)
  clear h1 h2
  rw [E.out]
  try replace a1 := a1.below bb
  try replace a3 := a3.below bb
  replace bw := below_on bw bb bw.size
  clear bb
  go_upto_region 4 with fail
  have a3 := (ia_alloc ok3).1
  have bb := (ia_alloc ok3).2
  clear ok3
  generalize (wn.alloc (.cells #[.bool x3.lo.b, .slice x3.lo.A x3.lo.xs.length x3.lo.c, .slice x3.lo.D x3.lo.ys.length x3.lo.d, .bool x3.hi.b, .slice x3.hi.A x3.hi.xs.length x3.hi.c, .slice x3.hi.D x3.hi.ys.length x3.hi.d] 41)) = wm at a3 bb ⊢
  try replace a1 := a1.below bb
  try replace a3 := a3.below bb
  replace bw := below_on bw bb bw.size
  clear bb
  generalize wn.heap.size = g3 at a3 ⊢
  have ci0 := a1.c0
  have ci1 := a1.c1
  have ci2 := a1.c2
  have ci3 := a1.c3
  have ci4 := a1.c4
  have ci5 := a1.c5
  go_wp2_with fail
  clear ci0 ci1 ci2 ci3 ci4 ci5
  refine (rioutward_any _ x1 k S a1.ok f1 HS.out).mono ?_
  rintro e wn ⟨x4, rfl, h1, h2, ok4, bb⟩
  have HS4 := Lib.hid (And.intro h1 h2)
  clear h1 h2
  rw [E.out]
  try replace a1 := a1.below bb
  try replace a3 := a3.below bb
  replace bw := below_on bw bb bw.size
  clear bb
  go_upto_region 5 with fail
  have a4 := (ia_alloc ok4).1
  have bb := (ia_alloc ok4).2
  clear ok4
  generalize (wn.alloc (.cells #[.bool x4.lo.b, .slice x4.lo.A x4.lo.xs.length x4.lo.c, .slice x4.lo.D x4.lo.ys.length x4.lo.d, .bool x4.hi.b, .slice x4.hi.A x4.hi.xs.length x4.hi.c, .slice x4.hi.D x4.hi.ys.length x4.hi.d] 41)) = wm at a4 bb ⊢
  try replace a1 := a1.below bb
  try replace a3 := a3.below bb
  try replace a4 := a4.below bb
  replace bw := below_on bw bb bw.size
  clear bb
  generalize wn.heap.size = g4 at a4 ⊢
  have ci0 := a3.c0
  have ci1 := a3.c1
  have ci2 := a3.c2
  have ci3 := a3.c3
  have ci4 := a3.c4
  have ci5 := a3.c5
  have cj0 := a4.c0
  have cj1 := a4.c1
  have cj2 := a4.c2
  have cj3 := a4.c3
  have cj4 := a4.c4
  have cj5 := a4.c5
  go_wp2_with fail
  clear ci0 ci1 ci2 ci3 ci4 ci5
  clear cj0 cj1 cj2 cj3 cj4 cj5
  refine (samei_any _ x3 x4 a3.ok a4.ok (SmI.of HS3.out.1 HS3.out.2 HS4.out.1 HS4.out.2)).mono ?_
  rintro e wn ⟨rfl, bb⟩
  try replace a1 := a1.below bb
  try replace a3 := a3.below bb
  try replace a4 := a4.below bb
  replace bw := below_on bw bb bw.size
  clear bb
  go_upto_region 9 with fail
  rw [HSS.out] at HS3
  have PL := Lib.hid (IsP.sz HS3.out.1 (ZL.out.mono (by omega) (by omega)))
  have PH := Lib.hid (IsP.sz HS3.out.2 (ZH.out.mono (by omega) (by omega)))
  have v3 : x3.v := ⟨PL.out.v, PH.out.v, by rw [PL.out.rp.q, PH.out.rp.q]; exact Rat.le_trans H1.out (Rat.le_trans HV.out.2.2 H2.out)⟩
  have V3 := Lib.hid v3
  have f3 : x3.few := ⟨PL.out.f.l, PL.out.f.m, PH.out.f.l, PH.out.f.m⟩
  clear v3 a4
  have ZW : Hid (Sz (x1.hi.q - x1.lo.q) 25 24) := Lib.hid (sz_wd SH.out)
  have ZX : Hid (Sz (ce - fl) 32 18) := Lib.hid ((ZH.out.sub ZL.out).mono (by omega) (by omega))
  have ZD : Hid (Sz ((ce - fl) - (x1.hi.q - x1.lo.q)) 57 42) := Lib.hid ((ZX.out.sub ZW.out).mono (by omega) (by omega))
  have HWA : Hid (widS x1 = okS (x1.hi.q - x1.lo.q)) := Lib.hid (by
    rw [widS, if_pos HV.out]
    exact subF_ok HV.out.2.1 HV.out.1 rfl rfl (ZW.out.mono (by omega) (by omega)))
  have HWB : Hid (widS x3 = okS (ce - fl)) := Lib.hid (by
    rw [widS, if_pos V3.out]
    exact subF_ok PH.out.v PL.out.v PH.out.rp.q PL.out.rp.q (ZX.out.mono (by omega) (by omega)))
  have ci0 := a1.c0
  have ci1 := a1.c1
  have ci2 := a1.c2
  have ci3 := a1.c3
  have ci4 := a1.c4
  have ci5 := a1.c5
  go_wp2_with fail
  clear ci0 ci1 ci2 ci3 ci4 ci5
  refine (iwidth_any _ x1 (okS (x1.hi.q - x1.lo.q)) a1.ok f1 HWA.out).mono ?_
  rintro e wn ⟨x5, rfl, hs5, ok5, bb⟩
  have HS5 := Lib.hid hs5
  clear hs5
  try replace a1 := a1.below bb
  try replace a3 := a3.below bb
  try replace a4 := a4.below bb
  replace bw := below_on bw bb bw.size
  clear bb
  go_upto_region 10 with fail
  have a5 := (fa_alloc ok5).1
  have bb := (fa_alloc ok5).2
  clear ok5
  generalize (wn.alloc (.cells #[.bool x5.b, .slice x5.A x5.xs.length x5.c, .slice x5.D x5.ys.length x5.d] 25)) = wm at a5 bb ⊢
  try replace a1 := a1.below bb
  try replace a3 := a3.below bb
  try replace a4 := a4.below bb
  try replace a5 := a5.below bb
  replace bw := below_on bw bb bw.size
  clear bb
  generalize wn.heap.size = g5 at a5 ⊢
  have ci0 := a3.c0
  have ci1 := a3.c1
  have ci2 := a3.c2
  have ci3 := a3.c3
  have ci4 := a3.c4
  have ci5 := a3.c5
  go_wp2_with fail
  clear ci0 ci1 ci2 ci3 ci4 ci5
  refine (iwidth_any _ x3 (okS (ce - fl)) a3.ok f3 HWB.out).mono ?_
  rintro e wn ⟨x6, rfl, hs6, ok6, bb⟩
  have HS6 := Lib.hid hs6
  clear hs6
  try replace a1 := a1.below bb
  try replace a3 := a3.below bb
  try replace a4 := a4.below bb
  try replace a5 := a5.below bb
  replace bw := below_on bw bb bw.size
  clear bb
  go_upto_region 11 with fail
  have a6 := (fa_alloc ok6).1
  have bb := (fa_alloc ok6).2
  clear ok6
  generalize (wn.alloc (.cells #[.bool x6.b, .slice x6.A x6.xs.length x6.c, .slice x6.D x6.ys.length x6.d] 25)) = wm at a6 bb ⊢
  try replace a1 := a1.below bb
  try replace a3 := a3.below bb
  try replace a4 := a4.below bb
  try replace a5 := a5.below bb
  try replace a6 := a6.below bb
  replace bw := below_on bw bb bw.size
  clear bb
  generalize wn.heap.size = g6 at a6 ⊢
  have P5 := Lib.hid (IsP.sz HS5.out (ZW.out.mono (by omega) (by omega)))
  have P6 := Lib.hid (IsP.sz HS6.out (ZX.out.mono (by omega) (by omega)))
  have HDD : Hid (subF x6 x5 = okS ((ce - fl) - (x1.hi.q - x1.lo.q))) := Lib.hid (subF_ok P6.out.v P5.out.v P6.out.rp.q P5.out.rp.q (ZD.out.mono (by omega) (by omega)))
  have ci0 := a6.c0
  have ci1 := a6.c1
  have ci2 := a6.c2
  have cj0 := a5.c0
  have cj1 := a5.c1
  have cj2 := a5.c2
  go_wp2_with fail
  clear ci0 ci1 ci2 cj0 cj1 cj2
  refine (rfsub_any _ x6 x5 _ a6.ok a5.ok P6.out.f.l P6.out.f.m P5.out.f.l P5.out.f.m HDD.out).mono ?_
  rintro e wn ⟨x7, rfl, hs7, ok7, bb⟩
  have P7 := Lib.hid (IsP.sz hs7 (ZD.out.mono (by omega) (by omega)))
  clear hs7
  try replace a1 := a1.below bb
  try replace a3 := a3.below bb
  try replace a4 := a4.below bb
  try replace a5 := a5.below bb
  try replace a6 := a6.below bb
  replace bw := below_on bw bb bw.size
  clear bb
  go_upto_region 12 with fail
  have a7 := (fa_alloc ok7).1
  have bb := (fa_alloc ok7).2
  clear ok7
  generalize (wn.alloc (.cells #[.bool x7.b, .slice x7.A x7.xs.length x7.c, .slice x7.D x7.ys.length x7.d] 25)) = wm at a7 bb ⊢
  try replace a1 := a1.below bb
  try replace a3 := a3.below bb
  try replace a4 := a4.below bb
  try replace a5 := a5.below bb
  try replace a6 := a6.below bb
  try replace a7 := a7.below bb
  replace bw := below_on bw bb bw.size
  clear bb
  generalize wn.heap.size = g7 at a7 ⊢
  go_wp2_with fail
  refine (rint_any _ 2 2 (by omega) (by omega) (by decide +kernel)).mono ?_
  rintro e wn ⟨x8, rfl, p8, ok8, bb⟩
  have P8 := Lib.hid p8
  clear p8
  try replace a1 := a1.below bb
  try replace a3 := a3.below bb
  try replace a4 := a4.below bb
  try replace a5 := a5.below bb
  try replace a6 := a6.below bb
  try replace a7 := a7.below bb
  replace bw := below_on bw bb bw.size
  clear bb
  go_wp2_with fail
  refine (rfpower_any _ k (lim P) hk0 hk1 (by rw [HP.out])).mono ?_
  rintro e wn ⟨x9, rfl, hs9, ok9, bb⟩
  have HS9 := Lib.hid hs9
  clear hs9
  replace ok8 := ok8.below bb
  try replace a1 := a1.below bb
  try replace a3 := a3.below bb
  try replace a4 := a4.below bb
  try replace a5 := a5.below bb
  try replace a6 := a6.below bb
  try replace a7 := a7.below bb
  replace bw := below_on bw bb bw.size
  clear bb
  have q9 : x9.q = mkRat 1 P := by rw [Fx.q, HS9.out.1, HS9.out.2.1, HS9.out.2.2, nv_lim]; rfl
  have v9 : x9.v := by
    rw [Fx.v, HS9.out.2.1, HS9.out.2.2, nv_lim]
    exact ⟨HP0.out, by have := HLK.out; omega, by show (lim 1).length ≤ 128; rw [lim_length_le]; decide⟩
  have Q9 := Lib.hid q9
  have V9 := Lib.hid v9
  have f9 : x9.few := ⟨by rw [HS9.out.2.1]; show 1 ≤ 10000; omega, by rw [HS9.out.2.2]; show (lim P).length ≤ 10000; have := HLK.out; omega⟩
  clear q9 v9
  have ZT : Hid (Sz (2 * mkRat 1 P) 128 128) := Lib.hid (by
    have h1 : Sz (2 : Rat) 1 1 := ⟨by decide +kernel, by decide +kernel⟩
    have h2 : Sz (mkRat 1 P) 1 9 := Sz.mk (a := 1) HP0.out (by show (lim 1).length ≤ 1; rw [lim_length_le]; decide) HLK.out
    exact (h1.mul h2).mono (by omega) (by omega))
  have HMM : Hid (mulF x8 x9 = okS (2 * mkRat 1 P)) := Lib.hid (mulF_ok P8.out.v V9.out P8.out.rp.q Q9.out ZT.out)
  go_wp2_with fail
  refine (rfmul_any _ x8 x9 _ ok8 ok9 P8.out.f.l P8.out.f.m f9.l f9.m HMM.out).mono ?_
  rintro e wn ⟨x10, rfl, hs10, ok10, bb⟩
  have P10 := Lib.hid (IsP.sz hs10 ZT.out)
  clear hs10 ok8 ok9
  try replace a1 := a1.below bb
  try replace a3 := a3.below bb
  try replace a4 := a4.below bb
  try replace a5 := a5.below bb
  try replace a6 := a6.below bb
  try replace a7 := a7.below bb
  replace bw := below_on bw bb bw.size
  clear bb
  go_upto_region 13 with fail
  have a10 := (fa_alloc ok10).1
  have bb := (fa_alloc ok10).2
  clear ok10
  generalize (wn.alloc (.cells #[.bool x10.b, .slice x10.A x10.xs.length x10.c, .slice x10.D x10.ys.length x10.d] 25)) = wm at a10 bb ⊢
  try replace a1 := a1.below bb
  try replace a3 := a3.below bb
  try replace a4 := a4.below bb
  try replace a5 := a5.below bb
  try replace a6 := a6.below bb
  try replace a7 := a7.below bb
  try replace a10 := a10.below bb
  replace bw := below_on bw bb bw.size
  clear bb
  generalize wn.heap.size = g10 at a10 ⊢
  have HIN : Hid (insS x1 x3) := Lib.hid ⟨HV.out, V3.out, ⟨PL.out.v, HV.out.1, by rw [PL.out.rp.q]; exact H1.out⟩, ⟨HV.out.2.1, PH.out.v, by rw [PH.out.rp.q]; exact H2.out⟩⟩
  have ci0 := a1.c0
  have ci1 := a1.c1
  have ci2 := a1.c2
  have ci3 := a1.c3
  have ci4 := a1.c4
  have ci5 := a1.c5
  have cj0 := a3.c0
  have cj1 := a3.c1
  have cj2 := a3.c2
  have cj3 := a3.c3
  have cj4 := a3.c4
  have cj5 := a3.c5
  go_wp2_with fail
  clear ci0 ci1 ci2 ci3 ci4 ci5
  clear cj0 cj1 cj2 cj3 cj4 cj5
  refine (iinside_any _ x1 x3 true a1.ok a3.ok f1 f3 (decide_eq_true HIN.out)).mono ?_
  rintro e wn ⟨rfl, bb⟩
  try replace a1 := a1.below bb
  try replace a3 := a3.below bb
  try replace a4 := a4.below bb
  try replace a5 := a5.below bb
  try replace a6 := a6.below bb
  try replace a7 := a7.below bb
  try replace a10 := a10.below bb
  replace bw := below_on bw bb bw.size
  clear bb
  have HLS : Hid (decide (x7.q < x10.q) = true) := Lib.hid (decide_eq_true (by rw [P7.out.rp.q, P10.out.rp.q]; exact HW.out))
  have ci0 := a7.c0
  have ci1 := a7.c1
  have ci2 := a7.c2
  have cj0 := a10.c0
  have cj1 := a10.c1
  have cj2 := a10.c2
  go_wp2_with fail
  clear ci0 ci1 ci2 cj0 cj1 cj2
  refine (rless_any _ x7 x10 true a7.ok a10.ok P7.out.v P10.out.v P7.out.f P10.out.f HLS.out).mono ?_
  rintro e wn ⟨rfl, bb⟩
  try replace a1 := a1.below bb
  try replace a3 := a3.below bb
  try replace a4 := a4.below bb
  try replace a5 := a5.below bb
  try replace a6 := a6.below bb
  try replace a7 := a7.below bb
  try replace a10 := a10.below bb
  replace bw := below_on bw bb bw.size
  clear bb
  go_wp2_with fail
  refine (awakei_any _).mono ?_
  rintro e wn ⟨rfl, bb⟩
  try replace a1 := a1.below bb
  try replace a3 := a3.below bb
  try replace a4 := a4.below bb
  try replace a5 := a5.below bb
  try replace a6 := a6.below bb
  try replace a7 := a7.below bb
  try replace a10 := a10.below bb
  replace bw := below_on bw bb bw.size
  clear bb
  go_wp2_with fail
  go_ret
  exact ⟨rfl, bw⟩
set_option maxRecDepth 100000 in
theorem irounds_walk (w : World) (x1 : Ix) (k : Int) (ok1 : x1.ok w) (_ : (Lit.int IntKind.i64 k).wf = true) :
    Calls Try.prog 9 #[x1.val, .int .i64 k] w fun e w' => e = .returned (.bool true) ∧ Below w.heap.size w w' := by
  cases h : longI [x1]
  · have ht := longI1 h
    by_cases hv : x1.v
    · by_cases hk : k < 0 ∨ 256 < k
      · refine irounds_err w x1 k 5 ok1 ht.few h ?_ (by omega)
        rw [outS, if_pos hv, roundF, if_pos hv.1, if_pos hk]; rfl
      · exact irounds_main w x1 k ok1 ht.few h ht hv (by omega) (by omega)
    · exact irounds_err w x1 k 1 ok1 ht.few h (if_neg hv) (by omega)
  · exact irounds_long w x1 k ok1 h
end Go.Proofs.Ytlcolmifmhdboaa
