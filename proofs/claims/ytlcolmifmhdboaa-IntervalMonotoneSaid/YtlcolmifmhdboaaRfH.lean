/- The reference of package interval: Less, Same, Valid, lowest, Point, Contains, Inside, pair, Width. The walks of drydockref02: Int, Power, floor, Floor, Ceil. -/
import Derived.Test.YtlcolmifmhdboaaIvD
import Derived.Test.YtlcolmifmhdboaaRfF
import Derived.Test.YtlcolmifmhdboaaFrcA
import Derived.Test.YtlcolmifmhdboaaRefT
namespace Go.Proofs.Ytlcolmifmhdboaa
open Go.RowKit

set_option maxRecDepth 100000 in
theorem cmpQ_neg (p q : Rat) : decide (cmpQ p q < 0) = decide (p < q) := by
  rcases cmpQ_cases p q with ⟨h, e⟩ | ⟨h, e⟩ | ⟨h, e⟩ <;> rw [e]
  · rw [decide_eq_true h]; rfl
  · rw [h, decide_eq_false Rat.lt_irrefl]; rfl
  · rw [decide_eq_false (Rat.not_lt.2 (Rat.le_of_lt h))]; rfl
set_option maxRecDepth 100000 in
theorem cmpQ_zero (p q : Rat) : decide (cmpQ p q = 0) = decide (p = q) := by
  rcases cmpQ_cases p q with ⟨h, e⟩ | ⟨h, e⟩ | ⟨h, e⟩ <;> rw [e]
  · rw [decide_eq_false (Rat.ne_of_lt h)]; rfl
  · rw [decide_eq_true h]; rfl
  · rw [decide_eq_false (Rat.ne_of_gt h)]; rfl
set_option maxHeartbeats 800000 in
set_option maxRecDepth 100000 in
theorem rless_any (w : World) (x1 x2 : Fx) (b : Bool) (ok1 : x1.ok w) (ok2 : x2.ok w) (v1 : x1.v) (v2 : x2.v) (f1 : x1.few) (f2 : x2.few) (hb : decide (x1.q < x2.q) = b) :
    Calls Try.prog 53 #[x1.val, x2.val] w fun e w' => e = .returned (.bool b) ∧ Below w.heap.size w w' := by
  obtain ⟨z, hz⟩ : ∃ z, cmpQ x1.q x2.q = z := ⟨_, rfl⟩
  rw [← cmpQ_neg, hz] at hb
  have HB := Lib.hid hb
  have HZ := Lib.hid hz
  have V1 := Lib.hid v1
  have V2 := Lib.hid v2
  clear hb hz v1 v2
  go_enter Try.func53, Try.ntmps53
  go_upto_region 1 with fail
  have bw := Below.refl w.heap.size w
  have a1 := (fa_alloc ok1).1
  have bb := (fa_alloc ok1).2
  have sz1 := size_box w (.cells x1.cells 25)
  clear ok1
  generalize (w.alloc (.cells x1.cells 25)) = wA at a1 bb sz1 ⊢
  try replace ok1 := ok1.below bb
  try replace ok2 := ok2.below bb
  try replace a1 := a1.below bb
  replace bw := below_on bw bb bw.size
  clear bb
  have a2 := (fa_alloc ok2).1
  have bb := (fa_alloc ok2).2
  have sz2 := size_box wA (.cells x2.cells 25)
  rw [sz1] at a2 sz2
  clear ok2 sz1
  generalize (wA.alloc (.cells x2.cells 25)) = wm at a2 bb sz2 ⊢
  try replace ok1 := ok1.below bb
  try replace ok2 := ok2.below bb
  try replace a1 := a1.below bb
  try replace a2 := a2.below bb
  replace bw := below_on bw bb bw.size
  clear bb
  clear sz2
  have ci0 := a1.c0
  have ci1 := a1.c1
  have ci2 := a1.c2
  have cj0 := a2.c0
  have cj1 := a2.c1
  have cj2 := a2.c2
  go_wp2_with fail
  clear ci0 ci1 ci2 cj0 cj1 cj2
  refine (rforder_any _ x1 x2 z a1.ok a2.ok V1.out V2.out f1.l f1.m f2.l f2.m HZ.out).mono ?_
  rintro e wn ⟨rfl, bb⟩
  try replace a1 := a1.below bb
  try replace a2 := a2.below bb
  replace bw := below_on bw bb bw.size
  clear bb
  go_wp2_with fail
  go_ret
  exact ⟨ret_bool HB.out, bw⟩
set_option maxHeartbeats 800000 in
set_option maxRecDepth 100000 in
theorem rsame_any (w : World) (x1 x2 : Fx) (b : Bool) (ok1 : x1.ok w) (ok2 : x2.ok w) (v1 : x1.v) (v2 : x2.v) (f1 : x1.few) (f2 : x2.few) (hb : decide (x1.q = x2.q) = b) :
    Calls Try.prog 30 #[x1.val, x2.val] w fun e w' => e = .returned (.bool b) ∧ Below w.heap.size w w' := by
  obtain ⟨z, hz⟩ : ∃ z, cmpQ x1.q x2.q = z := ⟨_, rfl⟩
  rw [← cmpQ_zero, hz] at hb
  have HB : Hid ((z == 0) = b) := Lib.hid (by rw [← hb]; exact Bool.beq_eq_decide_eq z 0)
  have HZ := Lib.hid hz
  have V1 := Lib.hid v1
  have V2 := Lib.hid v2
  clear hb hz v1 v2
  go_enter Try.func30, Try.ntmps30
  go_upto_region 1 with fail
  have bw := Below.refl w.heap.size w
  have a1 := (fa_alloc ok1).1
  have bb := (fa_alloc ok1).2
  have sz1 := size_box w (.cells x1.cells 25)
  clear ok1
  generalize (w.alloc (.cells x1.cells 25)) = wA at a1 bb sz1 ⊢
  try replace ok1 := ok1.below bb
  try replace ok2 := ok2.below bb
  try replace a1 := a1.below bb
  replace bw := below_on bw bb bw.size
  clear bb
  have a2 := (fa_alloc ok2).1
  have bb := (fa_alloc ok2).2
  have sz2 := size_box wA (.cells x2.cells 25)
  rw [sz1] at a2 sz2
  clear ok2 sz1
  generalize (wA.alloc (.cells x2.cells 25)) = wm at a2 bb sz2 ⊢
  try replace ok1 := ok1.below bb
  try replace ok2 := ok2.below bb
  try replace a1 := a1.below bb
  try replace a2 := a2.below bb
  replace bw := below_on bw bb bw.size
  clear bb
  clear sz2
  have ci0 := a1.c0
  have ci1 := a1.c1
  have ci2 := a1.c2
  have cj0 := a2.c0
  have cj1 := a2.c1
  have cj2 := a2.c2
  go_wp2_with fail
  clear ci0 ci1 ci2 cj0 cj1 cj2
  refine (rforder_any _ x1 x2 z a1.ok a2.ok V1.out V2.out f1.l f1.m f2.l f2.m HZ.out).mono ?_
  rintro e wn ⟨rfl, bb⟩
  try replace a1 := a1.below bb
  try replace a2 := a2.below bb
  replace bw := below_on bw bb bw.size
  clear bb
  go_wp2_with fail
  go_ret
  exact ⟨ret_bool HB.out, bw⟩
set_option maxHeartbeats 1600000 in
set_option maxRecDepth 100000 in
theorem rivalid_any (w : World) (x1 : Ix) (b : Bool) (ok1 : x1.ok w) (f1 : x1.few) (hb : decide x1.v = b) :
    Calls Try.prog 20 #[x1.val] w fun e w' => e = .returned (.bool b) ∧ Below w.heap.size w w' := by
  by_cases h1 : x1.lo.v
  · have V1 := Lib.hid h1
    by_cases h2 : x1.hi.v
    · have V2 := Lib.hid h2
      obtain ⟨z, hz⟩ : ∃ z, cmpQ x1.lo.q x1.hi.q = z := ⟨_, rfl⟩
      have HZ := Lib.hid hz
      have HB : Hid (decide (z ≤ 0) = b) := Lib.hid (by
        rw [← hb, ← hz, cmpQ_le, decide_eq_decide, Ix.v, leF]
        exact ⟨fun h => ⟨h1, h2, h⟩, fun h => h.2.2⟩)
      clear h1 h2 hb hz
      go_enter Try.func20, Try.ntmps20
      go_upto_region 1 with fail
      have bw := Below.refl w.heap.size w
      have a1 := (ia_alloc ok1).1
      have bb := (ia_alloc ok1).2
      have sz1 := size_box w (.cells x1.cells 41)
      clear ok1
      generalize (w.alloc (.cells x1.cells 41)) = wm at a1 bb sz1 ⊢
      try replace ok1 := ok1.below bb
      try replace a1 := a1.below bb
      replace bw := below_on bw bb bw.size
      clear bb
      clear sz1
      have ci0 := a1.c0
      have ci1 := a1.c1
      have ci2 := a1.c2
      have ci3 := a1.c3
      have ci4 := a1.c4
      have ci5 := a1.c5
      go_wp2_with fail
      clear ci0 ci1 ci2 ci3 ci4 ci5
      refine (rfvalid_any _ x1.lo true a1.ok.lo f1.lo.l f1.lo.m (decide_eq_true V1.out)).mono ?_
      rintro e wn ⟨rfl, bb⟩
      try replace a1 := a1.below bb
      replace bw := below_on bw bb bw.size
      clear bb
      have ci0 := a1.c0
      have ci1 := a1.c1
      have ci2 := a1.c2
      have ci3 := a1.c3
      have ci4 := a1.c4
      have ci5 := a1.c5
      go_wp2_with fail
      clear ci0 ci1 ci2 ci3 ci4 ci5
      refine (rfvalid_any _ x1.hi true a1.ok.hi f1.hi.l f1.hi.m (decide_eq_true V2.out)).mono ?_
      rintro e wn ⟨rfl, bb⟩
      try replace a1 := a1.below bb
      replace bw := below_on bw bb bw.size
      clear bb
      have ci0 := a1.c0
      have ci1 := a1.c1
      have ci2 := a1.c2
      have ci3 := a1.c3
      have ci4 := a1.c4
      have ci5 := a1.c5
      go_wp2_with fail
      clear ci0 ci1 ci2 ci3 ci4 ci5
      refine (rforder_any _ x1.lo x1.hi z a1.ok.lo a1.ok.hi V1.out V2.out f1.lo.l f1.lo.m f1.hi.l f1.hi.m HZ.out).mono ?_
      rintro e wn ⟨rfl, bb⟩
      try replace a1 := a1.below bb
      replace bw := below_on bw bb bw.size
      clear bb
      go_wp2_with fail
      go_ret
      exact ⟨ret_bool HB.out, bw⟩
    · have V2 : Hid (¬ x1.hi.v) := h2
      have HB : Hid (false = b) := Lib.hid (by rw [← hb, decide_eq_false]; exact fun h => h2 h.2.1)
      clear h1 h2 hb
      go_enter Try.func20, Try.ntmps20
      go_upto_region 1 with fail
      have bw := Below.refl w.heap.size w
      have a1 := (ia_alloc ok1).1
      have bb := (ia_alloc ok1).2
      have sz1 := size_box w (.cells x1.cells 41)
      clear ok1
      generalize (w.alloc (.cells x1.cells 41)) = wm at a1 bb sz1 ⊢
      try replace ok1 := ok1.below bb
      try replace a1 := a1.below bb
      replace bw := below_on bw bb bw.size
      clear bb
      clear sz1
      have ci0 := a1.c0
      have ci1 := a1.c1
      have ci2 := a1.c2
      have ci3 := a1.c3
      have ci4 := a1.c4
      have ci5 := a1.c5
      go_wp2_with fail
      clear ci0 ci1 ci2 ci3 ci4 ci5
      refine (rfvalid_any _ x1.lo true a1.ok.lo f1.lo.l f1.lo.m (decide_eq_true V1.out)).mono ?_
      rintro e wn ⟨rfl, bb⟩
      try replace a1 := a1.below bb
      replace bw := below_on bw bb bw.size
      clear bb
      have ci0 := a1.c0
      have ci1 := a1.c1
      have ci2 := a1.c2
      have ci3 := a1.c3
      have ci4 := a1.c4
      have ci5 := a1.c5
      go_wp2_with fail
      clear ci0 ci1 ci2 ci3 ci4 ci5
      refine (rfvalid_any _ x1.hi false a1.ok.hi f1.hi.l f1.hi.m (decide_eq_false V2.out)).mono ?_
      rintro e wn ⟨rfl, bb⟩
      try replace a1 := a1.below bb
      replace bw := below_on bw bb bw.size
      clear bb
      go_wp2_with fail
      go_ret
      exact ⟨ret_bool HB.out, bw⟩
  · have V1 : Hid (¬ x1.lo.v) := h1
    have HB : Hid (false = b) := Lib.hid (by rw [← hb, decide_eq_false]; exact fun h => h1 h.1)
    clear h1 hb
    go_enter Try.func20, Try.ntmps20
    go_upto_region 1 with fail
    have bw := Below.refl w.heap.size w
    have a1 := (ia_alloc ok1).1
    have bb := (ia_alloc ok1).2
    have sz1 := size_box w (.cells x1.cells 41)
    clear ok1
    generalize (w.alloc (.cells x1.cells 41)) = wm at a1 bb sz1 ⊢
    try replace ok1 := ok1.below bb
    try replace a1 := a1.below bb
    replace bw := below_on bw bb bw.size
    clear bb
    clear sz1
    have ci0 := a1.c0
    have ci1 := a1.c1
    have ci2 := a1.c2
    have ci3 := a1.c3
    have ci4 := a1.c4
    have ci5 := a1.c5
    go_wp2_with fail
    clear ci0 ci1 ci2 ci3 ci4 ci5
    refine (rfvalid_any _ x1.lo false a1.ok.lo f1.lo.l f1.lo.m (decide_eq_false V1.out)).mono ?_
    rintro e wn ⟨rfl, bb⟩
    try replace a1 := a1.below bb
    replace bw := below_on bw bb bw.size
    clear bb
    go_wp2_with fail
    go_ret
    exact ⟨ret_bool HB.out, bw⟩
set_option maxHeartbeats 1600000 in
set_option maxRecDepth 100000 in
theorem rilowest_any (w : World) (x1 : Ix) (S T : FqS) (ok1 : x1.ok w) (f1 : x1.few) (hs : redS x1.lo = S) (ht : redS x1.hi = T) :
    Calls Try.prog 81 #[x1.val] w (IvlNew w S T) := by
  have HS := Lib.hid hs
  have HT := Lib.hid ht
  clear hs ht
  go_enter Try.func81, Try.ntmps81
  go_upto_region 1 with fail
  have bw := Below.refl w.heap.size w
  have a1 := (ia_alloc ok1).1
  have bb := (ia_alloc ok1).2
  have sz1 := size_box w (.cells x1.cells 41)
  clear ok1
  generalize (w.alloc (.cells x1.cells 41)) = wA at a1 bb sz1 ⊢
  try replace ok1 := ok1.below bb
  try replace ok3 := ok3.below bb
  try replace ok4 := ok4.below bb
  try replace a1 := a1.below bb
  replace bw := below_on bw bb bw.size
  clear bb
  have br := (zr_alloc wA).1
  have bb := (zr_alloc wA).2
  rw [sz1] at br
  clear sz1
  generalize (wA.alloc (.cells zcells 41)) = wm at br bb ⊢
  try replace a1 := a1.below bb
  replace bw := below_on bw bb bw.size
  clear bb
  have ci0 := a1.c0
  have ci1 := a1.c1
  have ci2 := a1.c2
  have ci3 := a1.c3
  have ci4 := a1.c4
  have ci5 := a1.c5
  go_wp2_with fail
  clear ci0 ci1 ci2 ci3 ci4 ci5
  refine (rfreduce_any _ x1.lo S a1.ok.lo f1.l1 f1.m1 HS.out).mono ?_
  rintro e wn ⟨x3, rfl, hs3, ok3, bb⟩
  have HS3 := Lib.hid hs3
  clear hs3
  try replace br := br.below bb
  try replace a1 := a1.below bb
  replace bw := below_on bw bb bw.size
  clear bb
  go_upto_region 2 with fail
  have a3 := (fa_alloc ok3).1
  have bb := (fa_alloc ok3).2
  clear ok3
  generalize (wn.alloc (.cells #[.bool x3.b, .slice x3.A x3.xs.length x3.c, .slice x3.D x3.ys.length x3.d] 25)) = wm at a3 bb ⊢
  try replace br := br.below bb
  try replace a1 := a1.below bb
  try replace a3 := a3.below bb
  replace bw := below_on bw bb bw.size
  clear bb
  generalize wn.heap.size = g3 at a3 ⊢
  have ci0 := a1.c0
  have ci1 := a1.c1
  have ci2 := a1.c2
  have ci3 := a1.c3
  have ci4 := a1.c4
  have ci5 := a1.c5
  go_wp2_with fail
  clear ci0 ci1 ci2 ci3 ci4 ci5
  refine (rfreduce_any _ x1.hi T a1.ok.hi f1.l2 f1.m2 HT.out).mono ?_
  rintro e wn ⟨x4, rfl, hs4, ok4, bb⟩
  have HS4 := Lib.hid hs4
  clear hs4
  try replace br := br.below bb
  try replace a1 := a1.below bb
  try replace a3 := a3.below bb
  replace bw := below_on bw bb bw.size
  clear bb
  go_upto_region 3 with fail
  have a4 := (fa_alloc ok4).1
  have bb := (fa_alloc ok4).2
  clear ok4
  generalize (wn.alloc (.cells #[.bool x4.b, .slice x4.A x4.xs.length x4.c, .slice x4.D x4.ys.length x4.d] 25)) = wm at a4 bb ⊢
  try replace br := br.below bb
  try replace a1 := a1.below bb
  try replace a3 := a3.below bb
  try replace a4 := a4.below bb
  replace bw := below_on bw bb bw.size
  clear bb
  generalize wn.heap.size = g4 at a4 ⊢
  have ci0 := a3.c0
  have ci1 := a3.c1
  have ci2 := a3.c2
  have cj0 := a4.c0
  have cj1 := a4.c1
  have cj2 := a4.c2
  have r0 := br.cell 0
  have r1 := br.cell 1
  have r2 := br.cell 2
  have r3 := br.cell 3
  have r4 := br.cell 4
  have r5 := br.cell 5
  have rf0 := br.unf 0
  have rf1 := br.unf 1
  have rf2 := br.unf 2
  have rf3 := br.unf 3
  have rf4 := br.unf 4
  have rf5 := br.unf 5
  simp only [List.getElem?_toArray, List.getElem?_cons_succ, List.getElem?_cons_zero] at r0 r1 r2 r3 r4 r5
  go_wp2_with fail
  refine bodyPost_ret (v := (⟨x3, x4⟩ : Ix).val) (by simp [results, Try.results81, go_sem, r0, r1, r2, r3, r4, r5]) rfl ?_
  exact ⟨⟨x3, x4⟩, rfl, HS3.out, HS4.out, ⟨set6_ok a3.ok br noInt_z, set6_ok a4.ok br noInt_z⟩, set6_below bw (by omega)⟩
end Go.Proofs.Ytlcolmifmhdboaa
namespace Go.Proofs.Ytlcolmifmhdboaa
open Go.RowKit

set_option maxRecDepth 100000 in
/-- a slice of one number in memory of its own -/
theorem lit_one (w : World) (v : Nat) (hv : v < 4294967296) : Nt (w.alloc (.cells #[.int .u32 v] 26)) (some ⟨w.heap.size, 0, none⟩) 1 [v] ∧ Below w.heap.size w (w.alloc (.cells #[.int .u32 v] 26)) := by
  have hg := Gr.lit (mk := lmv) (e := 26) (B := w.heap.size) w [v] #[.int .u32 v] rfl (by simp [maxLen]) (Nat.le_refl _)
  exact ⟨hg.nt (U32.one hv), (Below.refl _ _).alloc (Nat.le_refl _) _⟩
set_option maxRecDepth 100000 in
theorem lit_1 (w : World) : Nt (w.alloc (.cells #[.int .u32 1] 26)) (some ⟨w.heap.size, 0, none⟩) 1 [1] ∧ Below w.heap.size w (w.alloc (.cells #[.int .u32 1] 26)) := lit_one w 1 (by omega)
set_option maxRecDepth 100000 in
theorem nv_1 : nv [1] = 1 := rfl
set_option maxRecDepth 100000 in
set_option maxHeartbeats 2000000 in
theorem rffloor0_any (w : World) (x : Fx) (k : Int) (hx : x.ok w) (hv : x.v) (hk2 : 0 ≤ k) (hk3 : k ≤ 256) (l1 : x.xs.length ≤ 10000) (l2 : x.ys.length ≤ 10000) : Calls Try.prog 111 #[x.val, .int .i64 k] w (FracNew w (lowS (qv x.b (rndN x.b false (nv x.xs * 2 ^ k.toNat) (nv x.ys)) (2 ^ k.toNat)))) := by
  have HD : Hid (nv x.ys ≠ 0) := Lib.hid hv.1
  have lx : (lim (nv x.xs)).length ≤ 128 := hv.2.2
  have ly : (lim (nv x.ys)).length ≤ 128 := hv.2.1
  have lp := lim_pow9 (k := k.toNat) (by omega)
  have hsh := shiftS_f lx (by omega) hk2 hk3
  have hsh1 : shiftS (nv [1]) k = (lim (2 ^ k.toNat), 0) := by
    rw [nv_1, shiftS_f (lim_len2 (by omega)) (by omega) hk2 hk3, Nat.one_mul]
  have lN := len_mulf lx lp
  have hP0 : 2 ^ k.toNat ≠ 0 := Nat.pos_iff_ne_zero.1 (Nat.pow_pos (by omega))
  revert lp hsh hsh1 lN hP0
  generalize nv x.xs * 2 ^ k.toNat = N
  generalize 2 ^ k.toNat = P
  intro lp hsh hsh1 lN hP0
  have HSH := Lib.hid hsh
  have HSH1 := Lib.hid hsh1
  have HP0 : Hid (P ≠ 0) := hP0
  have lQ := lim_length_mono (Nat.div_le_self N (nv x.ys))
  have hdiv : divS (nv (lim N)) (nv x.ys) = (lim (N / nv x.ys), lim (N % nv x.ys), 0) := by
    rw [nv_lim, divS_ok (by omega) (by omega) hv.1]
  have HDIV := Lib.hid hdiv
  have lQ1 := len_addf (m := N / nv x.ys) (n := 1) (k := 137) (by omega) (by have := lim_len2 (m := 1) (by omega); omega)
  have HV := Lib.hid hv
  clear hv hsh hsh1 hP0 hdiv
  go_enter Try.func111, Try.ntmps111
  go_wp2_with fail
  have hs1 : w.heap.size < (w.alloc (.cells x.cells 25)).heap.size := by simp
  have b0 := (Below.refl w.heap.size w).alloc (Nat.le_refl _) (.cells x.cells 25)
  have b1 := (Below.refl (w.alloc (.cells x.cells 25)).heap.size (w.alloc (.cells x.cells 25))).alloc (Nat.le_refl _) (.cells #[.bool false, .slice none 0 0, .slice none 0 0] 25)
  have bx := (bk3_alloc w (.bool x.b) (.slice x.A x.xs.length x.c) (.slice x.D x.ys.length x.d)).below b1
  have bk := bk3_new (w.alloc (.cells x.cells 25))
  rw [size_box] at bk
  have okx := (hx.below b0).below b1
  have bw := below_on b0 b1 (Nat.le_of_lt hs1)
  clear hs1 b0 b1
  revert bx bk okx bw
  generalize ((w.alloc (.cells x.cells 25)).alloc (.cells #[.bool false, .slice none 0 0, .slice none 0 0] 25)) = w1
  intro bx bk okx bw
  have tx := bx
  obtain ⟨x0, x1, x2, xf0, xf1, xf2, xlt, xb⟩ := tx
  clear xb
  go_wp2_with fail
  clear x0 x1 x2 xf0 xf1 xf2 xlt
  refine (rshift_any _ x.A x.c _ k x.xs (lim N) 0 okx.num rfl l1 HSH.out).mono ?_
  rintro e wn ⟨AN, cN, rfl, na, bb⟩
  try replace bx := bx.below bb
  try replace by_ := by_.below bb
  try replace bk := bk.below bb
  try replace okx := okx.below bb
  try replace oky := oky.below bb
  try replace ok1 := ok1.below bb
  try replace na := na.below bb
  try replace nb := nb.below bb
  try replace nc := nc.below bb
  try replace nd := nd.below bb
  try replace ne := ne.below bb
  replace bw := below_on bw bb bw.size
  clear bb
  have tx := bx
  obtain ⟨x0, x1, x2, xf0, xf1, xf2, xlt, xb⟩ := tx
  clear xb
  go_wp2_with fail
  clear x0 x1 x2 xf0 xf1 xf2 xlt
  refine (rdiv_any wn AN x.D cN x.d _ _ (lim N) x.ys (lim (N / nv x.ys)) (lim (N % nv x.ys)) 0 na okx.den rfl rfl (by omega) l2 HDIV.out).mono ?_
  rintro e wn ⟨AQ, cQ, AR, cR, rfl, nq, nr, bb⟩
  try replace bx := bx.below bb
  try replace by_ := by_.below bb
  try replace bk := bk.below bb
  try replace okx := okx.below bb
  try replace oky := oky.below bb
  try replace ok1 := ok1.below bb
  try replace na := na.below bb
  try replace nb := nb.below bb
  try replace nc := nc.below bb
  try replace nd := nd.below bb
  try replace ne := ne.below bb
  replace bw := below_on bw bb bw.size
  clear bb
  clear na
  by_cases hr : 0 < N % nv x.ys
  · have hrl : 0 < (lim (N % nv x.ys)).length := lim_length_pos.2 (by omega)
    have hrl2 : decide ((0 : Int) < ((lim (N % nv x.ys)).length : Int)) = true := decide_eq_true (by omega)
    have HR := Lib.hid hr
    by_cases hb : x.b = true
    · have hb1 := hb
      have tx := bx
      obtain ⟨x0, x1, x2, xf0, xf1, xf2, xlt, xb⟩ := tx
      clear xb
      go_upto_region 4 with fail
      clear x0 x1 x2 xf0 xf1 xf2 xlt
      have HB := Lib.hid hb
      clear hr hb hb1 hrl hrl2
      go_wp2_with fail
      obtain ⟨no, bb⟩ := lit_1 wn
      replace nq := nq.below bb
      generalize (wn.alloc (.cells #[.int .u32 1] 26)) = w2 at no bb nq ⊢
      try replace bx := bx.below bb
      try replace by_ := by_.below bb
      try replace bk := bk.below bb
      try replace okx := okx.below bb
      try replace oky := oky.below bb
      try replace ok1 := ok1.below bb
      try replace na := na.below bb
      try replace nb := nb.below bb
      try replace nc := nc.below bb
      try replace nd := nd.below bb
      try replace ne := ne.below bb
      replace bw := below_on bw bb bw.size
      clear bb
      generalize wn.heap.size = gl at no ⊢
      refine (radd_any w2 AQ (some ⟨gl, 0, none⟩) cQ 1 _ 1 (lim (N / nv x.ys)) [1] (lim (N / nv x.ys + 1)) 0 nq no rfl rfl (by omega) (by simp) (by rw [nv_lim, nv_1]; exact addS_f (by omega) (by have := lim_len2 (m := 1) (by omega); omega))).mono ?_
      clear nq no
      rintro e wn ⟨AQ, cQ, rfl, nq, bb⟩
      try replace bx := bx.below bb
      try replace by_ := by_.below bb
      try replace bk := bk.below bb
      try replace okx := okx.below bb
      try replace oky := oky.below bb
      try replace ok1 := ok1.below bb
      try replace na := na.below bb
      try replace nb := nb.below bb
      try replace nc := nc.below bb
      try replace nd := nd.below bb
      try replace ne := ne.below bb
      replace bw := below_on bw bb bw.size
      clear bb
      go_upto_region 5 with fail
      go_wp2_with fail
      obtain ⟨no, bb⟩ := lit_1 wn
      replace nq := nq.below bb
      generalize (wn.alloc (.cells #[.int .u32 1] 26)) = w2 at no bb nq ⊢
      try replace bx := bx.below bb
      try replace by_ := by_.below bb
      try replace bk := bk.below bb
      try replace okx := okx.below bb
      try replace oky := oky.below bb
      try replace ok1 := ok1.below bb
      try replace na := na.below bb
      try replace nb := nb.below bb
      try replace nc := nc.below bb
      try replace nd := nd.below bb
      try replace ne := ne.below bb
      replace bw := below_on bw bb bw.size
      clear bb
      generalize wn.heap.size = gl at no ⊢
      refine (rshift_any w2 (some ⟨gl, 0, none⟩) 1 1 k [1] (lim P) 0 no rfl (by simp) HSH1.out).mono ?_
      rintro e wn ⟨AP, cP, rfl, np, bb⟩
      replace nq := nq.below bb
      clear no
      try replace bx := bx.below bb
      try replace by_ := by_.below bb
      try replace bk := bk.below bb
      try replace okx := okx.below bb
      try replace oky := oky.below bb
      try replace ok1 := ok1.below bb
      try replace na := na.below bb
      try replace nb := nb.below bb
      try replace nc := nc.below bb
      try replace nd := nd.below bb
      try replace ne := ne.below bb
      replace bw := below_on bw bb bw.size
      clear bb
      have tx := bx
      obtain ⟨x0, x1, x2, xf0, xf1, xf2, xlt, xb⟩ := tx
      clear xb
      go_wp2_with fail
      clear x0 x1 x2 xf0 xf1 xf2 xlt
      refine (rflowest_any _ x.b AQ AP cQ cP _ _ (lim (N / nv x.ys + 1)) (lim P) nq np rfl rfl (by rw [nv_lim]; exact HP0.out) (by omega) (by omega) (by rw [nv_lim]; omega) (by rw [nv_lim]; omega)).mono ?_
      rintro e wn ⟨x1, rfl, hs1, ok1, bb⟩
      have HS1 := Lib.hid hs1
      clear hs1
      try replace bx := bx.below bb
      try replace by_ := by_.below bb
      try replace bk := bk.below bb
      try replace okx := okx.below bb
      try replace oky := oky.below bb
      try replace ok1 := ok1.below bb
      try replace na := na.below bb
      try replace nb := nb.below bb
      try replace nc := nc.below bb
      try replace nd := nd.below bb
      try replace ne := ne.below bb
      replace bw := below_on bw bb bw.size
      clear bb
      have tk := bk
      obtain ⟨k0, k1, k2, kf0, kf1, kf2, klt, kb⟩ := tk
      clear kb
      go_wp2_with fail
      refine bodyPost_ret (v := x1.val) (by simp [results, Try.results111, go_sem, k0, k1, k2]) rfl ?_
      have hq : rndN x.b false N (nv x.ys) = N / nv x.ys + 1 := by
        rw [rndN]
        rw [if_pos ⟨HR.out, by rw [HB.out]; decide⟩]
      rw [hq]
      have h1 := HS1.out
      rw [nv_lim, nv_lim] at h1
      exact ⟨x1, rfl, h1, set3_ok ok1 bk rfl rfl rfl, set3g bw (by omega)⟩
    · replace hb : x.b = false := by simpa using hb
      have tx := bx
      obtain ⟨x0, x1, x2, xf0, xf1, xf2, xlt, xb⟩ := tx
      clear xb
      go_upto_region 5 with fail
      clear x0 x1 x2 xf0 xf1 xf2 xlt
      have HB := Lib.hid hb
      clear hr hb hrl hrl2
      go_wp2_with fail
      obtain ⟨no, bb⟩ := lit_1 wn
      replace nq := nq.below bb
      generalize (wn.alloc (.cells #[.int .u32 1] 26)) = w2 at no bb nq ⊢
      try replace bx := bx.below bb
      try replace by_ := by_.below bb
      try replace bk := bk.below bb
      try replace okx := okx.below bb
      try replace oky := oky.below bb
      try replace ok1 := ok1.below bb
      try replace na := na.below bb
      try replace nb := nb.below bb
      try replace nc := nc.below bb
      try replace nd := nd.below bb
      try replace ne := ne.below bb
      replace bw := below_on bw bb bw.size
      clear bb
      generalize wn.heap.size = gl at no ⊢
      refine (rshift_any w2 (some ⟨gl, 0, none⟩) 1 1 k [1] (lim P) 0 no rfl (by simp) HSH1.out).mono ?_
      rintro e wn ⟨AP, cP, rfl, np, bb⟩
      replace nq := nq.below bb
      clear no
      try replace bx := bx.below bb
      try replace by_ := by_.below bb
      try replace bk := bk.below bb
      try replace okx := okx.below bb
      try replace oky := oky.below bb
      try replace ok1 := ok1.below bb
      try replace na := na.below bb
      try replace nb := nb.below bb
      try replace nc := nc.below bb
      try replace nd := nd.below bb
      try replace ne := ne.below bb
      replace bw := below_on bw bb bw.size
      clear bb
      have tx := bx
      obtain ⟨x0, x1, x2, xf0, xf1, xf2, xlt, xb⟩ := tx
      clear xb
      go_wp2_with fail
      clear x0 x1 x2 xf0 xf1 xf2 xlt
      refine (rflowest_any _ x.b AQ AP cQ cP _ _ (lim (N / nv x.ys)) (lim P) nq np rfl rfl (by rw [nv_lim]; exact HP0.out) (by omega) (by omega) (by rw [nv_lim]; omega) (by rw [nv_lim]; omega)).mono ?_
      rintro e wn ⟨x1, rfl, hs1, ok1, bb⟩
      have HS1 := Lib.hid hs1
      clear hs1
      try replace bx := bx.below bb
      try replace by_ := by_.below bb
      try replace bk := bk.below bb
      try replace okx := okx.below bb
      try replace oky := oky.below bb
      try replace ok1 := ok1.below bb
      try replace na := na.below bb
      try replace nb := nb.below bb
      try replace nc := nc.below bb
      try replace nd := nd.below bb
      try replace ne := ne.below bb
      replace bw := below_on bw bb bw.size
      clear bb
      have tk := bk
      obtain ⟨k0, k1, k2, kf0, kf1, kf2, klt, kb⟩ := tk
      clear kb
      go_wp2_with fail
      refine bodyPost_ret (v := x1.val) (by simp [results, Try.results111, go_sem, k0, k1, k2]) rfl ?_
      have hq : rndN x.b false N (nv x.ys) = N / nv x.ys := by
        rw [rndN]
        rw [if_neg (fun h => h.2 HB.out)]
      rw [hq]
      have h1 := HS1.out
      rw [nv_lim, nv_lim] at h1
      exact ⟨x1, rfl, h1, set3_ok ok1 bk rfl rfl rfl, set3g bw (by omega)⟩
  · have hrl : (lim (N % nv x.ys)).length = 0 := by
      have := mt (lim_length_pos (n := N % nv x.ys)).1 (by omega); omega
    have hrl2 : decide ((0 : Int) < ((lim (N % nv x.ys)).length : Int)) = false := decide_eq_false (by omega)
    have HR : Hid (¬ 0 < N % nv x.ys) := hr
    have HRL := Lib.hid hrl
    by_cases hb : x.b = true
    · clear hr
      have tx := bx
      obtain ⟨x0, x1, x2, xf0, xf1, xf2, xlt, xb⟩ := tx
      clear xb
      go_upto_region 5 with fail
      clear x0 x1 x2 xf0 xf1 xf2 xlt
      clear hb hrl hrl2
      go_wp2_with fail
      obtain ⟨no, bb⟩ := lit_1 wn
      replace nq := nq.below bb
      generalize (wn.alloc (.cells #[.int .u32 1] 26)) = w2 at no bb nq ⊢
      try replace bx := bx.below bb
      try replace by_ := by_.below bb
      try replace bk := bk.below bb
      try replace okx := okx.below bb
      try replace oky := oky.below bb
      try replace ok1 := ok1.below bb
      try replace na := na.below bb
      try replace nb := nb.below bb
      try replace nc := nc.below bb
      try replace nd := nd.below bb
      try replace ne := ne.below bb
      replace bw := below_on bw bb bw.size
      clear bb
      generalize wn.heap.size = gl at no ⊢
      refine (rshift_any w2 (some ⟨gl, 0, none⟩) 1 1 k [1] (lim P) 0 no rfl (by simp) HSH1.out).mono ?_
      rintro e wn ⟨AP, cP, rfl, np, bb⟩
      replace nq := nq.below bb
      clear no
      try replace bx := bx.below bb
      try replace by_ := by_.below bb
      try replace bk := bk.below bb
      try replace okx := okx.below bb
      try replace oky := oky.below bb
      try replace ok1 := ok1.below bb
      try replace na := na.below bb
      try replace nb := nb.below bb
      try replace nc := nc.below bb
      try replace nd := nd.below bb
      try replace ne := ne.below bb
      replace bw := below_on bw bb bw.size
      clear bb
      have tx := bx
      obtain ⟨x0, x1, x2, xf0, xf1, xf2, xlt, xb⟩ := tx
      clear xb
      go_wp2_with fail
      clear x0 x1 x2 xf0 xf1 xf2 xlt
      refine (rflowest_any _ x.b AQ AP cQ cP _ _ (lim (N / nv x.ys)) (lim P) nq np rfl rfl (by rw [nv_lim]; exact HP0.out) (by omega) (by omega) (by rw [nv_lim]; omega) (by rw [nv_lim]; omega)).mono ?_
      rintro e wn ⟨x1, rfl, hs1, ok1, bb⟩
      have HS1 := Lib.hid hs1
      clear hs1
      try replace bx := bx.below bb
      try replace by_ := by_.below bb
      try replace bk := bk.below bb
      try replace okx := okx.below bb
      try replace oky := oky.below bb
      try replace ok1 := ok1.below bb
      try replace na := na.below bb
      try replace nb := nb.below bb
      try replace nc := nc.below bb
      try replace nd := nd.below bb
      try replace ne := ne.below bb
      replace bw := below_on bw bb bw.size
      clear bb
      have tk := bk
      obtain ⟨k0, k1, k2, kf0, kf1, kf2, klt, kb⟩ := tk
      clear kb
      go_wp2_with fail
      refine bodyPost_ret (v := x1.val) (by simp [results, Try.results111, go_sem, k0, k1, k2]) rfl ?_
      have hq : rndN x.b false N (nv x.ys) = N / nv x.ys := by
        rw [rndN]
        rw [if_neg (fun h => HR.out h.1)]
      rw [hq]
      have h1 := HS1.out
      rw [nv_lim, nv_lim] at h1
      exact ⟨x1, rfl, h1, set3_ok ok1 bk rfl rfl rfl, set3g bw (by omega)⟩
    · replace hb : x.b = false := by simpa using hb
      clear hr
      have tx := bx
      obtain ⟨x0, x1, x2, xf0, xf1, xf2, xlt, xb⟩ := tx
      clear xb
      go_upto_region 5 with fail
      clear x0 x1 x2 xf0 xf1 xf2 xlt
      clear hb hrl hrl2
      go_wp2_with fail
      obtain ⟨no, bb⟩ := lit_1 wn
      replace nq := nq.below bb
      generalize (wn.alloc (.cells #[.int .u32 1] 26)) = w2 at no bb nq ⊢
      try replace bx := bx.below bb
      try replace by_ := by_.below bb
      try replace bk := bk.below bb
      try replace okx := okx.below bb
      try replace oky := oky.below bb
      try replace ok1 := ok1.below bb
      try replace na := na.below bb
      try replace nb := nb.below bb
      try replace nc := nc.below bb
      try replace nd := nd.below bb
      try replace ne := ne.below bb
      replace bw := below_on bw bb bw.size
      clear bb
      generalize wn.heap.size = gl at no ⊢
      refine (rshift_any w2 (some ⟨gl, 0, none⟩) 1 1 k [1] (lim P) 0 no rfl (by simp) HSH1.out).mono ?_
      rintro e wn ⟨AP, cP, rfl, np, bb⟩
      replace nq := nq.below bb
      clear no
      try replace bx := bx.below bb
      try replace by_ := by_.below bb
      try replace bk := bk.below bb
      try replace okx := okx.below bb
      try replace oky := oky.below bb
      try replace ok1 := ok1.below bb
      try replace na := na.below bb
      try replace nb := nb.below bb
      try replace nc := nc.below bb
      try replace nd := nd.below bb
      try replace ne := ne.below bb
      replace bw := below_on bw bb bw.size
      clear bb
      have tx := bx
      obtain ⟨x0, x1, x2, xf0, xf1, xf2, xlt, xb⟩ := tx
      clear xb
      go_wp2_with fail
      clear x0 x1 x2 xf0 xf1 xf2 xlt
      refine (rflowest_any _ x.b AQ AP cQ cP _ _ (lim (N / nv x.ys)) (lim P) nq np rfl rfl (by rw [nv_lim]; exact HP0.out) (by omega) (by omega) (by rw [nv_lim]; omega) (by rw [nv_lim]; omega)).mono ?_
      rintro e wn ⟨x1, rfl, hs1, ok1, bb⟩
      have HS1 := Lib.hid hs1
      clear hs1
      try replace bx := bx.below bb
      try replace by_ := by_.below bb
      try replace bk := bk.below bb
      try replace okx := okx.below bb
      try replace oky := oky.below bb
      try replace ok1 := ok1.below bb
      try replace na := na.below bb
      try replace nb := nb.below bb
      try replace nc := nc.below bb
      try replace nd := nd.below bb
      try replace ne := ne.below bb
      replace bw := below_on bw bb bw.size
      clear bb
      have tk := bk
      obtain ⟨k0, k1, k2, kf0, kf1, kf2, klt, kb⟩ := tk
      clear kb
      go_wp2_with fail
      refine bodyPost_ret (v := x1.val) (by simp [results, Try.results111, go_sem, k0, k1, k2]) rfl ?_
      have hq : rndN x.b false N (nv x.ys) = N / nv x.ys := by
        rw [rndN]
        rw [if_neg (fun h => HR.out h.1)]
      rw [hq]
      have h1 := HS1.out
      rw [nv_lim, nv_lim] at h1
      exact ⟨x1, rfl, h1, set3_ok ok1 bk rfl rfl rfl, set3g bw (by omega)⟩
end Go.Proofs.Ytlcolmifmhdboaa
