/- The walks of expo.Exp, Poisson and Tail. The walks of drydockref02: Int, Power, floor, Floor, Ceil. The walks of drydockref02: Floor, Ceil, Power. The reference's add, mul, under, over. -/
import Derived.Test.YtnmomigaedfdoaaExJ
import Derived.Test.YtnmomigaedfdoaaLwD
import Derived.Test.YtnmomigaedfdoaaRefH
import Derived.Test.YtnmomigaedfdoaaFrG
import Derived.Test.YtnmomigaedfdoaaRefJ
import Derived.Test.YtnmomigaedfdoaaRefF
import Derived.Test.YtnmomigaedfdoaaRefD
import Derived.Test.YtnmomigaedfdoaaRefG
namespace Go.Proofs.Ytnmomigaedfdoaa
set_option maxRecDepth 100000
open Go.RowKit

set_option maxHeartbeats 1600000 in
theorem xexp_any (w : World) (x : Fx) (bits E : Int) (hx : x.ok w) (l1 : x.xs.length ≤ 10000) (l2 : x.ys.length ≤ 10000) (he : chkE x bits 0 = E) :
    Calls Try.prog 18 #[x.val, .int .i64 bits] w fun e w' => ∃ i : Ix, e = .returned (.tuple #[i.val, .int .i64 E]) ∧ i.ok w' ∧ (E = 0 → encP x.q 0 bits.toNat 0 1 i) ∧ Below w.heap.size w w' := by
  have HE := Lib.hid he
  clear he
  go_enter Try.func18, Try.ntmps18
  go_upto_region 1 with fail
  have fx := (fa_alloc hx).1
  have bw := (fa_alloc hx).2
  have sz := size_al w (.cells #[.bool x.b, .slice x.A x.xs.length x.c, .slice x.D x.ys.length x.d] 26)
  clear hx
  generalize (w.alloc (.cells #[.bool x.b, .slice x.A x.xs.length x.c, .slice x.D x.ys.length x.d] 26)) = w1 at fx bw sz ⊢
  have br := (zr_alloc w1).1
  have bb := (zr_alloc w1).2
  rw [sz] at br
  generalize (w1.alloc (.cells zcells 35)) = w2 at br bb ⊢
  replace fx := fx.below bb
  replace bw := below_on bw bb bw.size
  clear bb sz
  have tx := fx.bk
  obtain ⟨x0, x1, x2, xf0, xf1, xf2, xlt, xb⟩ := tx
  clear xb
  go_wp2_with fail
  clear x0 x1 x2 xf0 xf1 xf2 xlt
  refine (xenclose_any w2 x 0 bits E 0 1 fx.ok l1 l2 (by omega) (by omega) HE.out).mono ?_
  rintro _ w5 ⟨i, rfl, oki, hi, bb⟩
  have HI := Lib.hid hi
  replace br := br.below bb
  replace bw := below_on bw bb bw.size
  clear bb hi
  have r0 := br.cell 0
  have r1 := br.cell 1
  have r2 := br.cell 2
  have r3 := br.cell 3
  have r4 := br.cell 4
  have r5 := br.cell 5
  have rf0 := br.unf 0
  have rf1 := br.unf 1
  have rf2 := br.unf 2
  have rf3 := br.unf 3
  have rf4 := br.unf 4
  have rf5 := br.unf 5
  simp only [List.getElem?_toArray, List.getElem?_cons_succ, List.getElem?_cons_zero] at r0 r1 r2 r3 r4 r5
  go_wp2_with fail
  refine bodyPost_ret (v := .tuple #[i.val, .int .i64 E]) (by simp [results, Try.results18, go_sem, r0, r1, r2, r3, r4, r5]) rfl ?_
  exact ⟨i, rfl, ⟨set6_ok oki.lo br noInt_z, set6_ok oki.hi br noInt_z⟩, HI.out, set6_below bw (by omega)⟩
end Go.Proofs.Ytnmomigaedfdoaa
namespace Go.Proofs.Ytnmomigaedfdoaa
set_option maxRecDepth 100000
open Go.RowKit

/-- a slice of one number in memory of its own -/
theorem lit_one (w : World) (v : Nat) (hv : v < 4294967296) : Nt (w.alloc (.cells #[.int .u32 v] 82)) (some ⟨w.heap.size, 0, none⟩) 1 [v] ∧ Below w.heap.size w (w.alloc (.cells #[.int .u32 v] 82)) := by
  have hg := Gr.lit (mk := lmv) (e := 82) (B := w.heap.size) w [v] #[.int .u32 v] rfl (by simp [maxLen]) (Nat.le_refl _)
  exact ⟨hg.nt (U32.one hv), (Below.refl _ _).alloc (Nat.le_refl _) _⟩
theorem lit_1 (w : World) : Nt (w.alloc (.cells #[.int .u32 1] 82)) (some ⟨w.heap.size, 0, none⟩) 1 [1] ∧ Below w.heap.size w (w.alloc (.cells #[.int .u32 1] 82)) := lit_one w 1 (by omega)
theorem nv_1 : nv [1] = 1 := rfl
end Go.Proofs.Ytnmomigaedfdoaa
namespace Go.Proofs.Ytnmomigaedfdoaa
set_option maxRecDepth 100000
open Go.RowKit

set_option maxHeartbeats 4000000 in
theorem rfpower_any (w : World) (k : Int) (L : List Nat) (hk2 : 0 ≤ k) (hk3 : k ≤ 256) (hL : lim (2 ^ k.toNat) = L) : Calls Try.prog 34 #[.int .i64 k] w (FracNew w (false, [1], L)) := by
  have hsh : shiftS (nv [1]) k = (L, 0) := by
    rw [nv_1, shiftS_f (lim_len2 (by omega)) (by omega) hk2 hk3, Nat.one_mul, hL]
  have HSH := Lib.hid hsh
  clear hL
  clear hsh
  go_enter Try.func34, Try.ntmps34
  go_upto_region 1 with fail
  have bw := (Below.refl w.heap.size w).alloc (Nat.le_refl _) (.cells #[.bool false, .slice none 0 0, .slice none 0 0] 26)
  have bk := bk3_new w
  generalize (w.alloc (.cells #[.bool false, .slice none 0 0, .slice none 0 0] 26)) = wn at bw bk ⊢
  go_wp2_with fail
  obtain ⟨no, bb⟩ := lit_1 wn
  generalize (wn.alloc (.cells #[.int .u32 1] 82)) = w2 at no bb ⊢
  try replace bx := bx.below bb
  try replace by_ := by_.below bb
  try replace bk := bk.below bb
  try replace okx := okx.below bb
  try replace oky := oky.below bb
  try replace na := na.below bb
  try replace nb := nb.below bb
  try replace nc := nc.below bb
  try replace nd := nd.below bb
  try replace ne := ne.below bb
  replace bw := below_on bw bb bw.size
  clear bb
  generalize wn.heap.size = gl at no ⊢
  refine (rshift_any w2 (some ⟨gl, 0, none⟩) 1 1 k [1] L 0 no rfl (by simp) HSH.out).mono ?_
  rintro e wn ⟨AP, cP, rfl, np, bb⟩
  try replace bx := bx.below bb
  try replace by_ := by_.below bb
  try replace bk := bk.below bb
  try replace okx := okx.below bb
  try replace oky := oky.below bb
  try replace na := na.below bb
  try replace nb := nb.below bb
  try replace nc := nc.below bb
  try replace nd := nd.below bb
  try replace ne := ne.below bb
  replace bw := below_on bw bb bw.size
  clear bb
  clear HSH no
  go_upto_region 2 with fail
  obtain ⟨no, bb⟩ := lit_1 wn
  have bk2 := bk.below bb
  have np2 := np.below bb
  have bw2 := below_on bw bb bw.size
  have tk := bk
  obtain ⟨k0, k1, k2, kf0, kf1, kf2, klt, kb⟩ := tk
  clear kb
  go_wp2_with fail
  refine bodyPost_ret (v := (⟨false, some ⟨wn.heap.size, 0, none⟩, 1, [1], AP, cP, L⟩ : Fx).val) (by simp [results, Try.results34, go_sem, k0, k1, k2, klt]) rfl ?_
  have e : ((((wn.setCell ⟨w.heap.size, 0, none⟩ (.bool false)).setCell ⟨w.heap.size, 1, none⟩ (.slice (some ⟨wn.heap.size, 0, none⟩) 1 1)).setCell ⟨w.heap.size, 2, none⟩ (.slice AP L.length cP)).alloc (.cells #[.int .u32 1] 82)) =
      ((((wn.alloc (.cells #[.int .u32 1] 82)).setCell ⟨w.heap.size, 0, none⟩ (.bool false)).setCell ⟨w.heap.size, 1, none⟩ (.slice (some ⟨wn.heap.size, 0, none⟩) 1 1)).setCell ⟨w.heap.size, 2, none⟩ (.slice AP L.length cP)) := by
    simp [go_sem, klt]
  rw [e]
  exact ⟨⟨false, some ⟨wn.heap.size, 0, none⟩, 1, [1], AP, cP, L⟩, rfl, ⟨rfl, rfl, rfl⟩, set3_ok (x := ⟨false, some ⟨wn.heap.size, 0, none⟩, 1, [1], AP, cP, L⟩) ⟨no, np2⟩ bk2 rfl rfl rfl, set3g bw2 (Nat.le_refl _)⟩
end Go.Proofs.Ytnmomigaedfdoaa
namespace Go.Proofs.Ytnmomigaedfdoaa
set_option maxRecDepth 100000
open Go.RowKit

/-- a number that a call hands back -/
def NatR (w : World) (v : Nat) (e : Ending) (w' : World) : Prop := ∃ A' c', e = .returned (.slice A' (lim v).length c') ∧ Nt w' A' c' (lim v) ∧ Below w.heap.size w w'
theorem eadd_any (w : World) (A D : Option Addr) (c d a b n m : Nat) (h : Nt w A c (lim a)) (k : Nt w D d (lim b)) (hn : n = (lim a).length) (hm : m = (lim b).length) (la : (lim a).length ≤ 10000) (lb : (lim b).length ≤ 10000) :
    Calls Try.prog 80 #[.slice A n c, .slice D m d] w (NatR w (addO a b)) := by
  have HS : Hid (addS (nv (lim a)) (nv (lim b)) = (lim (addO a b), (addS a b).2)) := Lib.hid (by rw [nv_lim, nv_lim, ← addS_lim])
  have HN := Lib.hid hn
  have HM := Lib.hid hm
  clear hn hm
  go_enter Try.func80, Try.ntmps80
  go_wp2_with fail
  refine (radd_any w A D c d _ _ (lim a) (lim b) (lim (addO a b)) (addS a b).2 h k HN.out HM.out la lb HS.out).mono ?_
  rintro _ w' ⟨A', c', rfl, h1, bb⟩
  go_wp2_with fail
  go_ret
  exact ⟨A', c', rfl, h1, bb⟩
theorem emul_any (w : World) (A D : Option Addr) (c d a b n m : Nat) (h : Nt w A c (lim a)) (k : Nt w D d (lim b)) (hn : n = (lim a).length) (hm : m = (lim b).length) (la : (lim a).length ≤ 10000) (lb : (lim b).length ≤ 10000) :
    Calls Try.prog 78 #[.slice A n c, .slice D m d] w (NatR w (mulO a b)) := by
  have HS : Hid (mulS (nv (lim a)) (nv (lim b)) = (lim (mulO a b), (mulS a b).2)) := Lib.hid (by rw [nv_lim, nv_lim, ← mulS_lim])
  have HN := Lib.hid hn
  have HM := Lib.hid hm
  clear hn hm
  go_enter Try.func78, Try.ntmps78
  go_wp2_with fail
  refine (rmul_any w A D c d _ _ (lim a) (lim b) (lim (mulO a b)) (mulS a b).2 h k HN.out HM.out la lb HS.out).mono ?_
  rintro _ w' ⟨A', c', rfl, h1, bb⟩
  go_wp2_with fail
  go_ret
  exact ⟨A', c', rfl, h1, bb⟩
theorem eunder_any (w : World) (A D : Option Addr) (c d a b : Nat) (h : Nt w A c (lim a)) (k : Nt w D d (lim b)) (la : (lim a).length ≤ 10000) (lb : (lim b).length ≤ 10000) :
    Calls Try.prog 82 #[.slice A (lim a).length c, .slice D (lim b).length d] w (NatR w (divO a b)) := by
  have HS : Hid (divS (nv (lim a)) (nv (lim b)) = (lim (divO a b), lim (modO a b), (divS a b).2.2)) := Lib.hid (by rw [nv_lim, nv_lim, ← (divS_lim a b).1, ← (divS_lim a b).2])
  go_enter Try.func82, Try.ntmps82
  go_wp2_with fail
  refine (rdiv_any w A D c d _ _ (lim a) (lim b) (lim (divO a b)) (lim (modO a b)) (divS a b).2.2 h k rfl rfl la lb HS.out).mono ?_
  rintro _ w' ⟨A', c', D', d', rfl, hn, hm, bb⟩
  go_wp2_with fail
  go_ret
  exact ⟨A', c', rfl, hn, bb⟩
def overO (a b : Nat) : Nat := if modO a b = 0 then divO a b else addO (divO a b) 1
theorem eover_any (w : World) (A D : Option Addr) (c d a b : Nat) (h : Nt w A c (lim a)) (k : Nt w D d (lim b)) (la : (lim a).length ≤ 10000) (lb : (lim b).length ≤ 10000) :
    Calls Try.prog 83 #[.slice A (lim a).length c, .slice D (lim b).length d] w (NatR w (overO a b)) := by
  have HS : Hid (divS (nv (lim a)) (nv (lim b)) = (lim (divO a b), lim (modO a b), (divS a b).2.2)) := Lib.hid (by rw [nv_lim, nv_lim, ← (divS_lim a b).1, ← (divS_lim a b).2])
  have HL : Hid ((lim (divO a b)).length ≤ 10000) := Lib.hid (Nat.le_trans (divO_len a b) (by omega))
  go_enter Try.func83, Try.ntmps83
  go_wp2_with fail
  refine (rdiv_any w A D c d _ _ (lim a) (lim b) (lim (divO a b)) (lim (modO a b)) (divS a b).2.2 h k rfl rfl la lb HS.out).mono ?_
  rintro _ w1 ⟨A1, c1, D1, d1, rfl, hn, hm, bw⟩
  by_cases h0 : modO a b = 0
  · have HV : Hid (overO a b = divO a b) := Lib.hid (by rw [overO, if_pos h0])
    have e0 : (lim (modO a b)).length = 0 := by rw [h0, lim_zero]; rfl
    rw [e0]
    go_wp2_with fail
    go_ret
    exact ⟨A1, c1, by rw [HV.out]; rfl, by rw [HV.out]; exact hn, bw⟩
  · have HV : Hid (overO a b = addO (divO a b) 1) := Lib.hid (by rw [overO, if_neg h0])
    have hp : 0 < (lim (modO a b)).length := by
      rcases Nat.eq_zero_or_pos (lim (modO a b)).length with h | h
      · exact absurd (by have := List.eq_nil_of_length_eq_zero h; have h2 := nv_lim (modO a b); rw [this] at h2; exact h2.symm) h0
      · exact h
    obtain ⟨q, hq⟩ : ∃ q, (lim (modO a b)).length = q := ⟨_, rfl⟩
    rw [hq] at hp ⊢
    have e1 : decide ((0 : Int) < (q : Int)) = true := decide_eq_true (by omega)
    have e2 : decide (0 < q) = true := decide_eq_true hp
    clear h0 hq
    go_wp2_with fail
    obtain ⟨no, bb⟩ := lit_1 w1
    generalize (w1.alloc (.cells #[.int .u32 1] 82)) = w2 at no bb ⊢
    generalize w1.heap.size = g1 at no ⊢
    replace hn := hn.below bb
    replace bw := below_on bw bb bw.size
    clear bb
    refine (eadd_any w2 A1 _ c1 1 (divO a b) 1 _ 1 hn (by rw [lim_one]; exact no) rfl (by rw [lim_one]; rfl) HL.out (by rw [lim_one]; decide)).mono ?_
    rintro _ w3 ⟨A2, c2, rfl, h2, bb⟩
    replace bw := below_on bw bb bw.size
    clear bb
    go_wp2_with fail
    go_ret
    exact ⟨A2, c2, by rw [HV.out]; rfl, by rw [HV.out]; exact h2, bw⟩
end Go.Proofs.Ytnmomigaedfdoaa
