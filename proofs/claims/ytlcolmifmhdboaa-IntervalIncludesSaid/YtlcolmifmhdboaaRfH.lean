/- The walks of drydockref02: Int, Power, floor, Floor, Ceil. -/
import Derived.Test.YtlcolmifmhdboaaRfG
import Derived.Test.YtlcolmifmhdboaaRefT
namespace Go.Proofs.Ytlcolmifmhdboaa
open Go.RowKit

set_option maxRecDepth 100000 in
/-- a slice of one number in memory of its own -/
theorem lit_one (w : World) (v : Nat) (hv : v < 4294967296) : Nt (w.alloc (.cells #[.int .u32 v] 26)) (some ⟨w.heap.size, 0, none⟩) 1 [v] ∧ Below w.heap.size w (w.alloc (.cells #[.int .u32 v] 26)) := by
  have hg := Gr.lit (mk := lmv) (e := 26) (B := w.heap.size) w [v] #[.int .u32 v] rfl (by simp [maxLen]) (Nat.le_refl _)
  exact ⟨hg.nt (U32.one hv), (Below.refl _ _).alloc (Nat.le_refl _) _⟩
set_option maxRecDepth 100000 in
theorem lit_1 (w : World) : Nt (w.alloc (.cells #[.int .u32 1] 26)) (some ⟨w.heap.size, 0, none⟩) 1 [1] ∧ Below w.heap.size w (w.alloc (.cells #[.int .u32 1] 26)) := lit_one w 1 (by omega)
set_option maxRecDepth 100000 in
theorem nv_1 : nv [1] = 1 := rfl
set_option maxRecDepth 100000 in
set_option maxHeartbeats 2000000 in
theorem rffloor0_any (w : World) (x : Fx) (k : Int) (hx : x.ok w) (hv : x.v) (hk2 : 0 ≤ k) (hk3 : k ≤ 256) (l1 : x.xs.length ≤ 10000) (l2 : x.ys.length ≤ 10000) : Calls Try.prog 111 #[x.val, .int .i64 k] w (FracNew w (lowS (qv x.b (rndN x.b false (nv x.xs * 2 ^ k.toNat) (nv x.ys)) (2 ^ k.toNat)))) := by
  have HD : Hid (nv x.ys ≠ 0) := Lib.hid hv.1
  have lx : (lim (nv x.xs)).length ≤ 128 := hv.2.2
  have ly : (lim (nv x.ys)).length ≤ 128 := hv.2.1
  have lp := lim_pow9 (k := k.toNat) (by omega)
  have hsh := shiftS_f lx (by omega) hk2 hk3
  have hsh1 : shiftS (nv [1]) k = (lim (2 ^ k.toNat), 0) := by
    rw [nv_1, shiftS_f (lim_len2 (by omega)) (by omega) hk2 hk3, Nat.one_mul]
  have lN := len_mulf lx lp
  have hP0 : 2 ^ k.toNat ≠ 0 := Nat.pos_iff_ne_zero.1 (Nat.pow_pos (by omega))
  revert lp hsh hsh1 lN hP0
  generalize nv x.xs * 2 ^ k.toNat = N
  generalize 2 ^ k.toNat = P
  intro lp hsh hsh1 lN hP0
  have HSH := Lib.hid hsh
  have HSH1 := Lib.hid hsh1
  have HP0 : Hid (P ≠ 0) := hP0
  have lQ := lim_length_mono (Nat.div_le_self N (nv x.ys))
  have hdiv : divS (nv (lim N)) (nv x.ys) = (lim (N / nv x.ys), lim (N % nv x.ys), 0) := by
    rw [nv_lim, divS_ok (by omega) (by omega) hv.1]
  have HDIV := Lib.hid hdiv
  have lQ1 := len_addf (m := N / nv x.ys) (n := 1) (k := 137) (by omega) (by have := lim_len2 (m := 1) (by omega); omega)
  have HV := Lib.hid hv
  clear hv hsh hsh1 hP0 hdiv
  go_enter Try.func111, Try.ntmps111
  go_wp2_with fail
  have hs1 : w.heap.size < (w.alloc (.cells x.cells 25)).heap.size := by simp
  have b0 := (Below.refl w.heap.size w).alloc (Nat.le_refl _) (.cells x.cells 25)
  have b1 := (Below.refl (w.alloc (.cells x.cells 25)).heap.size (w.alloc (.cells x.cells 25))).alloc (Nat.le_refl _) (.cells #[.bool false, .slice none 0 0, .slice none 0 0] 25)
  have bx := (bk3_alloc w (.bool x.b) (.slice x.A x.xs.length x.c) (.slice x.D x.ys.length x.d)).below b1
  have bk := bk3_new (w.alloc (.cells x.cells 25))
  rw [size_box] at bk
  have okx := (hx.below b0).below b1
  have bw := below_on b0 b1 (Nat.le_of_lt hs1)
  clear hs1 b0 b1
  revert bx bk okx bw
  generalize ((w.alloc (.cells x.cells 25)).alloc (.cells #[.bool false, .slice none 0 0, .slice none 0 0] 25)) = w1
  intro bx bk okx bw
  have tx := bx
  obtain ⟨x0, x1, x2, xf0, xf1, xf2, xlt, xb⟩ := tx
  clear xb
  go_wp2_with fail
  clear x0 x1 x2 xf0 xf1 xf2 xlt
  refine (rshift_any _ x.A x.c _ k x.xs (lim N) 0 okx.num rfl l1 HSH.out).mono ?_
  rintro e wn ⟨AN, cN, rfl, na, bb⟩
  try replace bx := bx.below bb
  try replace by_ := by_.below bb
  try replace bk := bk.below bb
  try replace okx := okx.below bb
  try replace oky := oky.below bb
  try replace ok1 := ok1.below bb
  try replace na := na.below bb
  try replace nb := nb.below bb
  try replace nc := nc.below bb
  try replace nd := nd.below bb
  try replace ne := ne.below bb
  replace bw := below_on bw bb bw.size
  clear bb
  have tx := bx
  obtain ⟨x0, x1, x2, xf0, xf1, xf2, xlt, xb⟩ := tx
  clear xb
  go_wp2_with fail
  clear x0 x1 x2 xf0 xf1 xf2 xlt
  refine (rdiv_any wn AN x.D cN x.d _ _ (lim N) x.ys (lim (N / nv x.ys)) (lim (N % nv x.ys)) 0 na okx.den rfl rfl (by omega) l2 HDIV.out).mono ?_
  rintro e wn ⟨AQ, cQ, AR, cR, rfl, nq, nr, bb⟩
  try replace bx := bx.below bb
  try replace by_ := by_.below bb
  try replace bk := bk.below bb
  try replace okx := okx.below bb
  try replace oky := oky.below bb
  try replace ok1 := ok1.below bb
  try replace na := na.below bb
  try replace nb := nb.below bb
  try replace nc := nc.below bb
  try replace nd := nd.below bb
  try replace ne := ne.below bb
  replace bw := below_on bw bb bw.size
  clear bb
  clear na
  by_cases hr : 0 < N % nv x.ys
  · have hrl : 0 < (lim (N % nv x.ys)).length := lim_length_pos.2 (by omega)
    have hrl2 : decide ((0 : Int) < ((lim (N % nv x.ys)).length : Int)) = true := decide_eq_true (by omega)
    have HR := Lib.hid hr
    by_cases hb : x.b = true
    · have hb1 := hb
      have tx := bx
      obtain ⟨x0, x1, x2, xf0, xf1, xf2, xlt, xb⟩ := tx
      clear xb
      go_upto_region 4 with fail
      clear x0 x1 x2 xf0 xf1 xf2 xlt
      have HB := Lib.hid hb
      clear hr hb hb1 hrl hrl2
      go_wp2_with fail
      obtain ⟨no, bb⟩ := lit_1 wn
      replace nq := nq.below bb
      generalize (wn.alloc (.cells #[.int .u32 1] 26)) = w2 at no bb nq ⊢
      try replace bx := bx.below bb
      try replace by_ := by_.below bb
      try replace bk := bk.below bb
      try replace okx := okx.below bb
      try replace oky := oky.below bb
      try replace ok1 := ok1.below bb
      try replace na := na.below bb
      try replace nb := nb.below bb
      try replace nc := nc.below bb
      try replace nd := nd.below bb
      try replace ne := ne.below bb
      replace bw := below_on bw bb bw.size
      clear bb
      generalize wn.heap.size = gl at no ⊢
      refine (radd_any w2 AQ (some ⟨gl, 0, none⟩) cQ 1 _ 1 (lim (N / nv x.ys)) [1] (lim (N / nv x.ys + 1)) 0 nq no rfl rfl (by omega) (by simp) (by rw [nv_lim, nv_1]; exact addS_f (by omega) (by have := lim_len2 (m := 1) (by omega); omega))).mono ?_
      clear nq no
      rintro e wn ⟨AQ, cQ, rfl, nq, bb⟩
      try replace bx := bx.below bb
      try replace by_ := by_.below bb
      try replace bk := bk.below bb
      try replace okx := okx.below bb
      try replace oky := oky.below bb
      try replace ok1 := ok1.below bb
      try replace na := na.below bb
      try replace nb := nb.below bb
      try replace nc := nc.below bb
      try replace nd := nd.below bb
      try replace ne := ne.below bb
      replace bw := below_on bw bb bw.size
      clear bb
      go_upto_region 5 with fail
      go_wp2_with fail
      obtain ⟨no, bb⟩ := lit_1 wn
      replace nq := nq.below bb
      generalize (wn.alloc (.cells #[.int .u32 1] 26)) = w2 at no bb nq ⊢
      try replace bx := bx.below bb
      try replace by_ := by_.below bb
      try replace bk := bk.below bb
      try replace okx := okx.below bb
      try replace oky := oky.below bb
      try replace ok1 := ok1.below bb
      try replace na := na.below bb
      try replace nb := nb.below bb
      try replace nc := nc.below bb
      try replace nd := nd.below bb
      try replace ne := ne.below bb
      replace bw := below_on bw bb bw.size
      clear bb
      generalize wn.heap.size = gl at no ⊢
      refine (rshift_any w2 (some ⟨gl, 0, none⟩) 1 1 k [1] (lim P) 0 no rfl (by simp) HSH1.out).mono ?_
      rintro e wn ⟨AP, cP, rfl, np, bb⟩
      replace nq := nq.below bb
      clear no
      try replace bx := bx.below bb
      try replace by_ := by_.below bb
      try replace bk := bk.below bb
      try replace okx := okx.below bb
      try replace oky := oky.below bb
      try replace ok1 := ok1.below bb
      try replace na := na.below bb
      try replace nb := nb.below bb
      try replace nc := nc.below bb
      try replace nd := nd.below bb
      try replace ne := ne.below bb
      replace bw := below_on bw bb bw.size
      clear bb
      have tx := bx
      obtain ⟨x0, x1, x2, xf0, xf1, xf2, xlt, xb⟩ := tx
      clear xb
      go_wp2_with fail
      clear x0 x1 x2 xf0 xf1 xf2 xlt
      refine (rflowest_any _ x.b AQ AP cQ cP _ _ (lim (N / nv x.ys + 1)) (lim P) nq np rfl rfl (by rw [nv_lim]; exact HP0.out) (by omega) (by omega) (by rw [nv_lim]; omega) (by rw [nv_lim]; omega)).mono ?_
      rintro e wn ⟨x1, rfl, hs1, ok1, bb⟩
      have HS1 := Lib.hid hs1
      clear hs1
      try replace bx := bx.below bb
      try replace by_ := by_.below bb
      try replace bk := bk.below bb
      try replace okx := okx.below bb
      try replace oky := oky.below bb
      try replace ok1 := ok1.below bb
      try replace na := na.below bb
      try replace nb := nb.below bb
      try replace nc := nc.below bb
      try replace nd := nd.below bb
      try replace ne := ne.below bb
      replace bw := below_on bw bb bw.size
      clear bb
      have tk := bk
      obtain ⟨k0, k1, k2, kf0, kf1, kf2, klt, kb⟩ := tk
      clear kb
      go_wp2_with fail
      refine bodyPost_ret (v := x1.val) (by simp [results, Try.results111, go_sem, k0, k1, k2]) rfl ?_
      have hq : rndN x.b false N (nv x.ys) = N / nv x.ys + 1 := by
        rw [rndN]
        rw [if_pos ⟨HR.out, by rw [HB.out]; decide⟩]
      rw [hq]
      have h1 := HS1.out
      rw [nv_lim, nv_lim] at h1
      exact ⟨x1, rfl, h1, set3_ok ok1 bk rfl rfl rfl, set3g bw (by omega)⟩
    · replace hb : x.b = false := by simpa using hb
      have tx := bx
      obtain ⟨x0, x1, x2, xf0, xf1, xf2, xlt, xb⟩ := tx
      clear xb
      go_upto_region 5 with fail
      clear x0 x1 x2 xf0 xf1 xf2 xlt
      have HB := Lib.hid hb
      clear hr hb hrl hrl2
      go_wp2_with fail
      obtain ⟨no, bb⟩ := lit_1 wn
      replace nq := nq.below bb
      generalize (wn.alloc (.cells #[.int .u32 1] 26)) = w2 at no bb nq ⊢
      try replace bx := bx.below bb
      try replace by_ := by_.below bb
      try replace bk := bk.below bb
      try replace okx := okx.below bb
      try replace oky := oky.below bb
      try replace ok1 := ok1.below bb
      try replace na := na.below bb
      try replace nb := nb.below bb
      try replace nc := nc.below bb
      try replace nd := nd.below bb
      try replace ne := ne.below bb
      replace bw := below_on bw bb bw.size
      clear bb
      generalize wn.heap.size = gl at no ⊢
      refine (rshift_any w2 (some ⟨gl, 0, none⟩) 1 1 k [1] (lim P) 0 no rfl (by simp) HSH1.out).mono ?_
      rintro e wn ⟨AP, cP, rfl, np, bb⟩
      replace nq := nq.below bb
      clear no
      try replace bx := bx.below bb
      try replace by_ := by_.below bb
      try replace bk := bk.below bb
      try replace okx := okx.below bb
      try replace oky := oky.below bb
      try replace ok1 := ok1.below bb
      try replace na := na.below bb
      try replace nb := nb.below bb
      try replace nc := nc.below bb
      try replace nd := nd.below bb
      try replace ne := ne.below bb
      replace bw := below_on bw bb bw.size
      clear bb
      have tx := bx
      obtain ⟨x0, x1, x2, xf0, xf1, xf2, xlt, xb⟩ := tx
      clear xb
      go_wp2_with fail
      clear x0 x1 x2 xf0 xf1 xf2 xlt
      refine (rflowest_any _ x.b AQ AP cQ cP _ _ (lim (N / nv x.ys)) (lim P) nq np rfl rfl (by rw [nv_lim]; exact HP0.out) (by omega) (by omega) (by rw [nv_lim]; omega) (by rw [nv_lim]; omega)).mono ?_
      rintro e wn ⟨x1, rfl, hs1, ok1, bb⟩
      have HS1 := Lib.hid hs1
      clear hs1
      try replace bx := bx.below bb
      try replace by_ := by_.below bb
      try replace bk := bk.below bb
      try replace okx := okx.below bb
      try replace oky := oky.below bb
      try replace ok1 := ok1.below bb
      try replace na := na.below bb
      try replace nb := nb.below bb
      try replace nc := nc.below bb
      try replace nd := nd.below bb
      try replace ne := ne.below bb
      replace bw := below_on bw bb bw.size
      clear bb
      have tk := bk
      obtain ⟨k0, k1, k2, kf0, kf1, kf2, klt, kb⟩ := tk
      clear kb
      go_wp2_with fail
      refine bodyPost_ret (v := x1.val) (by simp [results, Try.results111, go_sem, k0, k1, k2]) rfl ?_
      have hq : rndN x.b false N (nv x.ys) = N / nv x.ys := by
        rw [rndN]
        rw [if_neg (fun h => h.2 HB.out)]
      rw [hq]
      have h1 := HS1.out
      rw [nv_lim, nv_lim] at h1
      exact ⟨x1, rfl, h1, set3_ok ok1 bk rfl rfl rfl, set3g bw (by omega)⟩
  · have hrl : (lim (N % nv x.ys)).length = 0 := by
      have := mt (lim_length_pos (n := N % nv x.ys)).1 (by omega); omega
    have hrl2 : decide ((0 : Int) < ((lim (N % nv x.ys)).length : Int)) = false := decide_eq_false (by omega)
    have HR : Hid (¬ 0 < N % nv x.ys) := hr
    have HRL := Lib.hid hrl
    by_cases hb : x.b = true
    · clear hr
      have tx := bx
      obtain ⟨x0, x1, x2, xf0, xf1, xf2, xlt, xb⟩ := tx
      clear xb
      go_upto_region 5 with fail
      clear x0 x1 x2 xf0 xf1 xf2 xlt
      clear hb hrl hrl2
      go_wp2_with fail
      obtain ⟨no, bb⟩ := lit_1 wn
      replace nq := nq.below bb
      generalize (wn.alloc (.cells #[.int .u32 1] 26)) = w2 at no bb nq ⊢
      try replace bx := bx.below bb
      try replace by_ := by_.below bb
      try replace bk := bk.below bb
      try replace okx := okx.below bb
      try replace oky := oky.below bb
      try replace ok1 := ok1.below bb
      try replace na := na.below bb
      try replace nb := nb.below bb
      try replace nc := nc.below bb
      try replace nd := nd.below bb
      try replace ne := ne.below bb
      replace bw := below_on bw bb bw.size
      clear bb
      generalize wn.heap.size = gl at no ⊢
      refine (rshift_any w2 (some ⟨gl, 0, none⟩) 1 1 k [1] (lim P) 0 no rfl (by simp) HSH1.out).mono ?_
      rintro e wn ⟨AP, cP, rfl, np, bb⟩
      replace nq := nq.below bb
      clear no
      try replace bx := bx.below bb
      try replace by_ := by_.below bb
      try replace bk := bk.below bb
      try replace okx := okx.below bb
      try replace oky := oky.below bb
      try replace ok1 := ok1.below bb
      try replace na := na.below bb
      try replace nb := nb.below bb
      try replace nc := nc.below bb
      try replace nd := nd.below bb
      try replace ne := ne.below bb
      replace bw := below_on bw bb bw.size
      clear bb
      have tx := bx
      obtain ⟨x0, x1, x2, xf0, xf1, xf2, xlt, xb⟩ := tx
      clear xb
      go_wp2_with fail
      clear x0 x1 x2 xf0 xf1 xf2 xlt
      refine (rflowest_any _ x.b AQ AP cQ cP _ _ (lim (N / nv x.ys)) (lim P) nq np rfl rfl (by rw [nv_lim]; exact HP0.out) (by omega) (by omega) (by rw [nv_lim]; omega) (by rw [nv_lim]; omega)).mono ?_
      rintro e wn ⟨x1, rfl, hs1, ok1, bb⟩
      have HS1 := Lib.hid hs1
      clear hs1
      try replace bx := bx.below bb
      try replace by_ := by_.below bb
      try replace bk := bk.below bb
      try replace okx := okx.below bb
      try replace oky := oky.below bb
      try replace ok1 := ok1.below bb
      try replace na := na.below bb
      try replace nb := nb.below bb
      try replace nc := nc.below bb
      try replace nd := nd.below bb
      try replace ne := ne.below bb
      replace bw := below_on bw bb bw.size
      clear bb
      have tk := bk
      obtain ⟨k0, k1, k2, kf0, kf1, kf2, klt, kb⟩ := tk
      clear kb
      go_wp2_with fail
      refine bodyPost_ret (v := x1.val) (by simp [results, Try.results111, go_sem, k0, k1, k2]) rfl ?_
      have hq : rndN x.b false N (nv x.ys) = N / nv x.ys := by
        rw [rndN]
        rw [if_neg (fun h => HR.out h.1)]
      rw [hq]
      have h1 := HS1.out
      rw [nv_lim, nv_lim] at h1
      exact ⟨x1, rfl, h1, set3_ok ok1 bk rfl rfl rfl, set3g bw (by omega)⟩
    · replace hb : x.b = false := by simpa using hb
      clear hr
      have tx := bx
      obtain ⟨x0, x1, x2, xf0, xf1, xf2, xlt, xb⟩ := tx
      clear xb
      go_upto_region 5 with fail
      clear x0 x1 x2 xf0 xf1 xf2 xlt
      clear hb hrl hrl2
      go_wp2_with fail
      obtain ⟨no, bb⟩ := lit_1 wn
      replace nq := nq.below bb
      generalize (wn.alloc (.cells #[.int .u32 1] 26)) = w2 at no bb nq ⊢
      try replace bx := bx.below bb
      try replace by_ := by_.below bb
      try replace bk := bk.below bb
      try replace okx := okx.below bb
      try replace oky := oky.below bb
      try replace ok1 := ok1.below bb
      try replace na := na.below bb
      try replace nb := nb.below bb
      try replace nc := nc.below bb
      try replace nd := nd.below bb
      try replace ne := ne.below bb
      replace bw := below_on bw bb bw.size
      clear bb
      generalize wn.heap.size = gl at no ⊢
      refine (rshift_any w2 (some ⟨gl, 0, none⟩) 1 1 k [1] (lim P) 0 no rfl (by simp) HSH1.out).mono ?_
      rintro e wn ⟨AP, cP, rfl, np, bb⟩
      replace nq := nq.below bb
      clear no
      try replace bx := bx.below bb
      try replace by_ := by_.below bb
      try replace bk := bk.below bb
      try replace okx := okx.below bb
      try replace oky := oky.below bb
      try replace ok1 := ok1.below bb
      try replace na := na.below bb
      try replace nb := nb.below bb
      try replace nc := nc.below bb
      try replace nd := nd.below bb
      try replace ne := ne.below bb
      replace bw := below_on bw bb bw.size
      clear bb
      have tx := bx
      obtain ⟨x0, x1, x2, xf0, xf1, xf2, xlt, xb⟩ := tx
      clear xb
      go_wp2_with fail
      clear x0 x1 x2 xf0 xf1 xf2 xlt
      refine (rflowest_any _ x.b AQ AP cQ cP _ _ (lim (N / nv x.ys)) (lim P) nq np rfl rfl (by rw [nv_lim]; exact HP0.out) (by omega) (by omega) (by rw [nv_lim]; omega) (by rw [nv_lim]; omega)).mono ?_
      rintro e wn ⟨x1, rfl, hs1, ok1, bb⟩
      have HS1 := Lib.hid hs1
      clear hs1
      try replace bx := bx.below bb
      try replace by_ := by_.below bb
      try replace bk := bk.below bb
      try replace okx := okx.below bb
      try replace oky := oky.below bb
      try replace ok1 := ok1.below bb
      try replace na := na.below bb
      try replace nb := nb.below bb
      try replace nc := nc.below bb
      try replace nd := nd.below bb
      try replace ne := ne.below bb
      replace bw := below_on bw bb bw.size
      clear bb
      have tk := bk
      obtain ⟨k0, k1, k2, kf0, kf1, kf2, klt, kb⟩ := tk
      clear kb
      go_wp2_with fail
      refine bodyPost_ret (v := x1.val) (by simp [results, Try.results111, go_sem, k0, k1, k2]) rfl ?_
      have hq : rndN x.b false N (nv x.ys) = N / nv x.ys := by
        rw [rndN]
        rw [if_neg (fun h => HR.out h.1)]
      rw [hq]
      have h1 := HS1.out
      rw [nv_lim, nv_lim] at h1
      exact ⟨x1, rfl, h1, set3_ok ok1 bk rfl rfl rfl, set3g bw (by omega)⟩
end Go.Proofs.Ytlcolmifmhdboaa
