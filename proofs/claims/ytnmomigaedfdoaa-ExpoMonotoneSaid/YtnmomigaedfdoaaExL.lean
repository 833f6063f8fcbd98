/- The walk of expo.Terms. The walks of expo.unit and expo.enclose. The walk of expo.enclose. The walks of expo.Exp, Poisson and Tail. What awake asks of expo, and same.Interval. -/
import Derived.Test.YtnmomigaedfdoaaExG
import Derived.Test.YtnmomigaedfdoaaIvB
import Derived.Test.YtnmomigaedfdoaaLwA
import Derived.Test.YtnmomigaedfdoaaFrG
namespace Go.Proofs.Ytnmomigaedfdoaa
set_option maxRecDepth 100000
open Go.RowKit

theorem xok_of {q : Rat} {bits n : Int} (h : ¬ rangeP q bits n) (hl : ¬ longP q) : XOk q.num.natAbs q.den := by
  have h1 : ¬ q < 0 := fun k => h (Or.inl k)
  have h2 : ¬ 64 < q := fun k => h (Or.inr (Or.inl k))
  have l1 : (lim q.num.natAbs).length ≤ 2 := Nat.le_of_not_lt fun k => hl (Or.inl k)
  have l2 : (lim q.den).length ≤ 2 := Nat.le_of_not_lt fun k => hl (Or.inr k)
  rw [lim_length_le] at l1 l2
  refine ⟨q.den_pos, l2, l1, ?_⟩
  have h3 : q ≤ 64 := by grind
  have hn : 0 ≤ q.num := Rat.num_nonneg.2 (by grind)
  have h4 := Rat.le_iff (a := q) (b := 64) |>.1 h3
  have e1 : (64 : Rat).num = 64 := rfl
  have e2 : (64 : Rat).den = 1 := rfl
  rw [e1, e2] at h4
  omega
theorem bits_of {q : Rat} {bits n : Int} (h : ¬ rangeP q bits n) : (1 ≤ bits ∧ bits ≤ 64) ∧ 0 ≤ n ∧ n ≤ 256 := by
  unfold rangeP at h
  refine ⟨⟨?_, ?_⟩, ?_, ?_⟩
  · exact Int.not_lt.1 fun k => h (Or.inr (Or.inr (Or.inl k)))
  · exact Int.not_lt.1 fun k => h (Or.inr (Or.inr (Or.inr (Or.inl k))))
  · exact Int.not_lt.1 fun k => h (Or.inr (Or.inr (Or.inr (Or.inr (Or.inl k)))))
  · exact Int.not_lt.1 fun k => h (Or.inr (Or.inr (Or.inr (Or.inr (Or.inr k)))))
theorem chkE_ok {x : Fx} {bits n : Int} (h : chkE x bits n = 0) : x.v ∧ ¬ rangeP x.q bits n ∧ ¬ longP x.q := by
  unfold chkE at h
  by_cases h1 : x.v
  · rw [if_neg (fun k => k h1)] at h
    by_cases h2 : rangeP x.q bits n
    · rw [if_pos h2] at h; exact absurd h (by decide)
    · rw [if_neg h2] at h
      by_cases h3 : longP x.q
      · rw [if_pos h3] at h; exact absurd h (by decide)
      · exact ⟨h1, h2, h3⟩
  · rw [if_pos h1] at h; exact absurd h (by decide)
/-- the sum of the weights behind m is below 2^-b -/
def zP (q : Rat) (b m : Nat) : Prop := floorM q.num.natAbs q.den m b 2 = 0
def termsP (q : Rat) (b r : Nat) : Prop := (q = 0 ∧ r = 0) ∨ (q ≠ 0 ∧ zP q b r ∧ (r = 0 ∨ ¬ zP q b (r - 1)))
end Go.Proofs.Ytnmomigaedfdoaa
namespace Go.Proofs.Ytnmomigaedfdoaa
set_option maxRecDepth 100000
open Go.RowKit

/-- m parts of 2^-b -/
abbrev prt (m b : Nat) : Rat := qv false m (2 ^ b)
theorem len128 {m : Nat} (h : m ≤ 36893488147419103232) : (lim m).length ≤ 128 := by
  have h3 : (lim m).length ≤ 3 := by
    rw [lim_length_le]
    have h4 : pw 3 = 79228162514264337593543950336 := by rfl
    omega
  omega
theorem pow64 {b : Nat} (h : b ≤ 64) : 1 ≤ 2 ^ b ∧ 2 ^ b ≤ 18446744073709551616 := by
  have h2 := Nat.pow_le_pow_right (n := 2) (by omega) h
  exact ⟨Nat.one_le_two_pow, by omega⟩
theorem prt_v {m b : Nat} (A D : Option Addr) (c d : Nat) (hm : m ≤ 36893488147419103232) (hb : b ≤ 64) : (⟨false, A, c, lim m, D, d, lim (2 ^ b)⟩ : Fx).v ∧ (⟨false, A, c, lim m, D, d, lim (2 ^ b)⟩ : Fx).q = prt m b := by
  have h1 := pow64 hb
  refine ⟨?_, ?_⟩
  · show Vf (nv (lim m)) (nv (lim (2 ^ b)))
    rw [nv_lim, nv_lim]
    exact ⟨by omega, len128 (by omega), len128 (by omega)⟩
  · show qv false (nv (lim m)) (nv (lim (2 ^ b))) = _
    rw [nv_lim, nv_lim]
theorem prt_red {m b : Nat} (A D : Option Addr) (c d : Nat) (hm : m ≤ 36893488147419103232) (hb : b ≤ 64) : redS ⟨false, A, c, lim m, D, d, lim (2 ^ b)⟩ = okS (prt m b) := by
  obtain ⟨h1, h2⟩ := prt_v A D c d hm hb
  rw [redS_okS h1, h2]
set_option maxHeartbeats 1600000 in
theorem xunit_any (w : World) (A : Option Addr) (c m b : Nat) (h : Nt w A c (lim m)) (hm : m ≤ 18446744073709551616) (hb : b ≤ 64) :
    Calls Try.prog 75 #[.slice A (lim m).length c, .int .i64 (b : Int)] w fun e w' => ∃ i : Ix, e = .returned i.val ∧ Rp i.lo (prt m b) ∧ Rp i.hi (prt (m + 1) b) ∧ i.ok w' ∧ Below w.heap.size w w' := by
  have HSB : Hid (shO b = 2 ^ b) := Lib.hid (shO_ok (by omega))
  have HAD : Hid (addO m 1 = m + 1) := Lib.hid (addO_ok (Nat.le_trans (len128 (by omega)) (by omega)) (Nat.le_trans (len128 (by omega)) (by omega)) (Nat.le_trans (len128 (by omega)) (by omega)))
  have HL0 : Hid ((lim m).length ≤ 10000) := Lib.hid (Nat.le_trans (len128 (by omega)) (by omega))
  have HL1 : Hid ((lim (m + 1)).length ≤ 10000) := Lib.hid (Nat.le_trans (len128 (by omega)) (by omega))
  have HL2 : Hid ((lim (2 ^ b)).length ≤ 10000) := Lib.hid (Nat.le_trans (len128 (by have := (pow64 hb).2; omega)) (by omega))
  go_enter Try.func75, Try.ntmps75
  go_upto_region 1 with fail
  have br := (zr_alloc w).1
  have bw := (zr_alloc w).2
  replace h := h.below bw
  generalize (w.alloc (.cells zcells 35)) = w1 at br bw h ⊢
  go_wp2_with fail
  refine (make_any w1 1 (by omega)).mono ?_
  rintro _ w2 ⟨A1, c1, rfl, n1, bb⟩
  replace h := h.below bb
  replace br := br.below bb
  replace bw := below_on bw bb bw.size
  clear bb
  go_wp2_with fail
  refine (nsh_any w2 A1 c1 b n1).mono ?_
  rintro _ w3 ⟨A2, c2, E2, rfl, n2, bb⟩
  rw [HSB.out] at n2 ⊢
  replace h := h.below bb
  replace br := br.below bb
  replace bw := below_on bw bb bw.size
  clear bb n1
  go_wp2_with fail
  refine (make_any w3 1 (by omega)).mono ?_
  rintro _ w4 ⟨A3, c3, rfl, n3, bb⟩
  replace h := h.below bb
  replace n2 := n2.below bb
  replace br := br.below bb
  replace bw := below_on bw bb bw.size
  clear bb
  go_wp2_with fail
  refine (nadd_any w4 A A3 c c3 m 1 h n3).mono ?_
  rintro _ w5 ⟨A4, c4, E4, rfl, n4, bb⟩
  rw [HAD.out] at n4 ⊢
  replace h := h.below bb
  replace n2 := n2.below bb
  replace br := br.below bb
  replace bw := below_on bw bb bw.size
  clear bb n3
  go_wp2_with fail
  refine (freduce_any w5 ⟨false, A, c, lim m, A2, c2, lim (2 ^ b)⟩ (okS (prt m b)) ⟨h, n2⟩ HL0.out HL2.out (prt_red A A2 c c2 (by omega) hb)).mono ?_
  rintro _ w6 ⟨x3, rfl, hs3, ok3, bb⟩
  have R3 := Lib.hid (Rp.of hs3)
  replace n2 := n2.below bb
  replace n4 := n4.below bb
  replace br := br.below bb
  replace bw := below_on bw bb bw.size
  clear bb h hs3
  go_upto_region 4 with fail
  have a3 := (fa_alloc ok3).1
  have bb := (fa_alloc ok3).2
  clear ok3
  generalize (w6.alloc (.cells #[.bool x3.b, .slice x3.A x3.xs.length x3.c, .slice x3.D x3.ys.length x3.d] 26)) = w7 at a3 bb ⊢
  replace n2 := n2.below bb
  replace n4 := n4.below bb
  replace br := br.below bb
  replace bw := below_on bw bb bw.size
  clear bb
  generalize w6.heap.size = g3 at a3 ⊢
  go_wp2_with fail
  refine (freduce_any w7 ⟨false, A4, c4, lim (m + 1), A2, c2, lim (2 ^ b)⟩ (okS (prt (m + 1) b)) ⟨n4, n2⟩ HL1.out HL2.out (prt_red A4 A2 c4 c2 (by omega) hb)).mono ?_
  rintro _ w8 ⟨x4, rfl, hs4, ok4, bb⟩
  have R4 := Lib.hid (Rp.of hs4)
  replace a3 := a3.below bb
  replace br := br.below bb
  replace bw := below_on bw bb bw.size
  clear bb n2 n4 hs4
  go_upto_region 5 with fail
  have a4 := (fa_alloc ok4).1
  have bb := (fa_alloc ok4).2
  clear ok4
  generalize (w8.alloc (.cells #[.bool x4.b, .slice x4.A x4.xs.length x4.c, .slice x4.D x4.ys.length x4.d] 26)) = w9 at a4 bb ⊢
  replace a3 := a3.below bb
  replace br := br.below bb
  replace bw := below_on bw bb bw.size
  clear bb
  generalize w8.heap.size = g4 at a4 ⊢
  have ci0 := a3.c0
  have ci1 := a3.c1
  have ci2 := a3.c2
  have cj0 := a4.c0
  have cj1 := a4.c1
  have cj2 := a4.c2
  have r0 := br.cell 0
  have r1 := br.cell 1
  have r2 := br.cell 2
  have r3 := br.cell 3
  have r4 := br.cell 4
  have r5 := br.cell 5
  have rf0 := br.unf 0
  have rf1 := br.unf 1
  have rf2 := br.unf 2
  have rf3 := br.unf 3
  have rf4 := br.unf 4
  have rf5 := br.unf 5
  simp only [List.getElem?_toArray, List.getElem?_cons_succ, List.getElem?_cons_zero] at r0 r1 r2 r3 r4 r5
  go_wp2_with fail
  refine bodyPost_ret (v := (⟨x3, x4⟩ : Ix).val) (by simp [results, Try.results75, go_sem, r0, r1, r2, r3, r4, r5]) rfl ?_
  exact ⟨⟨x3, x4⟩, rfl, R3.out, R4.out, ⟨set6_ok a3.ok br noInt_z, set6_ok a4.ok br noInt_z⟩, set6_below bw (by omega)⟩
end Go.Proofs.Ytnmomigaedfdoaa
namespace Go.Proofs.Ytnmomigaedfdoaa
set_option maxRecDepth 100000
open Go.RowKit

/-- what enclose hands back where the arguments are good -/
def encP (q : Rat) (n b kind zv : Nat) (i : Ix) : Prop :=
  (q = 0 → Rp i.lo (zv : Rat) ∧ Rp i.hi (zv : Rat)) ∧ (q ≠ 0 → Rp i.lo (prt (floorM q.num.natAbs q.den n b kind) b) ∧ Rp i.hi (prt (floorM q.num.natAbs q.den n b kind + 1) b))
theorem rp_nat (z : Nat) (A D : Option Addr) (c d : Nat) : Rp (⟨false, A, c, lim z, D, d, lim 1⟩ : Fx) (z : Rat) := by
  refine ⟨?_, ?_, ?_⟩
  · show false = decide (((z : Rat)).num < 0)
    rw [Rat.num_natCast, decide_eq_false (by omega)]
  · show lim z = lim ((z : Rat)).num.natAbs
    rw [Rat.num_natCast, Int.natAbs_natCast]
  · show lim 1 = lim ((z : Rat)).den
    rw [Rat.den_natCast]
set_option maxHeartbeats 1600000 in
theorem xenclose_any (w : World) (x : Fx) (n bits E : Int) (kind zv : Nat) (hx : x.ok w) (l1 : x.xs.length ≤ 10000) (l2 : x.ys.length ≤ 10000) (hk : kind ≤ 2) (hz : zv ≤ 1) (he : chkE x bits n = E) :
    Calls Try.prog 48 #[x.val, .int .i64 n, .int .i64 bits, .int .i64 (kind : Int), .int .u64 (zv : Int)] w fun e w' => ∃ i : Ix, e = .returned (.tuple #[i.val, .int .i64 E]) ∧ i.ok w' ∧ (E = 0 → encP x.q n.toNat bits.toNat kind zv i) ∧ Below w.heap.size w w' := by
  have HE := Lib.hid he
  clear he
  go_enter Try.func48, Try.ntmps48
  go_upto_region 1 with fail
  have fx := (fa_alloc hx).1
  have bw := (fa_alloc hx).2
  have sz := size_al w (.cells #[.bool x.b, .slice x.A x.xs.length x.c, .slice x.D x.ys.length x.d] 26)
  clear hx
  generalize (w.alloc (.cells #[.bool x.b, .slice x.A x.xs.length x.c, .slice x.D x.ys.length x.d] 26)) = w1 at fx bw sz ⊢
  have br := (zr_alloc w1).1
  have bb := (zr_alloc w1).2
  rw [sz] at br
  generalize (w1.alloc (.cells zcells 35)) = w2 at br bb ⊢
  replace fx := fx.below bb
  replace bw := below_on bw bb bw.size
  clear bb sz
  obtain ⟨g, hg⟩ : ∃ g, w.heap.size = g := ⟨_, rfl⟩
  rw [hg] at fx bw br ⊢
  have tx := fx.bk
  obtain ⟨x0, x1, x2, xf0, xf1, xf2, xlt, xb⟩ := tx
  clear xb
  go_wp2_with fail
  clear x0 x1 x2 xf0 xf1 xf2 xlt
  refine (xcheck_any w2 x bits n E fx.ok l1 l2 HE.out).mono ?_
  rintro e wn ⟨y, rfl, ok1, hy, bb⟩
  replace fx := fx.below bb
  replace br := br.below bb
  replace bw := below_on bw bb (by rw [← hg]; exact bw.size)
  clear bb
  have a1 := fx.put ok1
  have b2 : Blk _ (g + 1) _ := ((br.far (p := ⟨g, 0, none⟩) (by simp) (.bool y.b)).far (p := ⟨g, 1, none⟩) (by simp) (.slice y.A y.xs.length y.c)).far (p := ⟨g, 2, none⟩) (by simp) (.slice y.D y.ys.length y.d)
  have w1b := set3g (G := g) (a := .bool y.b) (b := .slice y.A y.xs.length y.c) (c := .slice y.D y.ys.length y.d) bw (Nat.le_refl _)
  have tx := fx.bk
  obtain ⟨x0, x1, x2, xf0, xf1, xf2, xlt, xb⟩ := tx
  clear xb
  by_cases h0 : E = 0
  · subst h0
    have HY := Lib.hid (hy rfl)
    have HOK := Lib.hid (xok_of (chkE_ok HE.out).2.1 (chkE_ok HE.out).2.2)
    have HBT := Lib.hid (bits_of (chkE_ok HE.out).2.1)
    obtain ⟨b, hb⟩ : ∃ b : Nat, bits = (b : Int) := ⟨bits.toNat, by have := HBT.out; omega⟩
    subst hb
    obtain ⟨m, hm⟩ : ∃ m : Nat, n = (m : Int) := ⟨n.toNat, by have := HBT.out; omega⟩
    subst hm
    clear hy
    go_upto_region 4 with fail
    clear x0 x1 x2 xf0 xf1 xf2 xlt
    generalize (((wn.setCell ⟨g, 0, none⟩ (.bool y.b)).setCell ⟨g, 1, none⟩ (.slice y.A y.xs.length y.c)).setCell ⟨g, 2, none⟩ (.slice y.D y.ys.length y.d)) = w3 at a1 b2 w1b ⊢
    clear fx ok1 bw br
    have br := b2
    clear b2
    have taa := a1.bk
    obtain ⟨aa0, aa1, aa2, aaf0, aaf1, aaf2, aalt, aab⟩ := taa
    clear aab
    have HZ := Lib.hid HY.out.zero
    by_cases hz0 : y.xs.length = 0
    · have e1 : ((y.xs.length : Int) == 0) = true := by simp [hz0]
      have HQ : Hid (x.q = 0) := Lib.hid (HZ.out.1 (by rw [List.eq_nil_of_length_eq_zero hz0]; rfl))
      clear hz0
      go_wp2_with fail
      refine (make_any w3 zv (by omega)).mono ?_
      rintro _ w4 ⟨A1, c1, rfl, n1, bb⟩
      replace br := br.below bb
      replace w1b := below_on w1b bb (by rw [← hg]; exact w1b.size)
      clear bb
      go_wp2_with fail
      refine (make_any w4 1 (by omega)).mono ?_
      rintro _ w5 ⟨A2, c2, rfl, n2, bb⟩
      replace br := br.below bb
      replace n1 := n1.below bb
      replace w1b := below_on w1b bb (by rw [← hg]; exact w1b.size)
      clear bb
      go_wp2_with fail
      refine (make_any w5 zv (by omega)).mono ?_
      rintro _ w6 ⟨A3, c3, rfl, n3, bb⟩
      replace br := br.below bb
      replace n1 := n1.below bb
      replace n2 := n2.below bb
      replace w1b := below_on w1b bb (by rw [← hg]; exact w1b.size)
      clear bb
      go_wp2_with fail
      refine (make_any w6 1 (by omega)).mono ?_
      rintro _ w7 ⟨A4, c4, rfl, n4, bb⟩
      replace br := br.below bb
      replace n1 := n1.below bb
      replace n2 := n2.below bb
      replace n3 := n3.below bb
      replace w1b := below_on w1b bb (by rw [← hg]; exact w1b.size)
      clear bb
      have r0 := br.cell 0
      have r1 := br.cell 1
      have r2 := br.cell 2
      have r3 := br.cell 3
      have r4 := br.cell 4
      have r5 := br.cell 5
      have rf0 := br.unf 0
      have rf1 := br.unf 1
      have rf2 := br.unf 2
      have rf3 := br.unf 3
      have rf4 := br.unf 4
      have rf5 := br.unf 5
      simp only [List.getElem?_toArray, List.getElem?_cons_succ, List.getElem?_cons_zero] at r0 r1 r2 r3 r4 r5
      go_wp2_with fail
      refine bodyPost_ret (v := .tuple #[(⟨⟨false, A1, c1, lim zv, A2, c2, lim 1⟩, ⟨false, A3, c3, lim zv, A4, c4, lim 1⟩⟩ : Ix).val, .int .i64 0]) (by simp [results, Try.results48, go_sem, r0, r1, r2, r3, r4, r5]) rfl ?_
      exact ⟨⟨⟨false, A1, c1, lim zv, A2, c2, lim 1⟩, ⟨false, A3, c3, lim zv, A4, c4, lim 1⟩⟩, rfl, ⟨set6_ok (x := ⟨false, A1, c1, lim zv, A2, c2, lim 1⟩) ⟨n1, n2⟩ br noInt_z, set6_ok (x := ⟨false, A3, c3, lim zv, A4, c4, lim 1⟩) ⟨n3, n4⟩ br noInt_z⟩, ⟨fun _ => ⟨rp_nat _ _ _ _ _, rp_nat _ _ _ _ _⟩, fun k => absurd HQ.out k⟩, set6_below w1b (by omega)⟩
    · have e1 : ((y.xs.length : Int) == 0) = false := beq_eq_false_iff_ne.2 (by omega)
      have HQ : Hid (x.q ≠ 0) := Lib.hid (fun k => hz0 (by rw [HY.out.n, k, show (0 : Rat).num.natAbs = 0 from rfl, lim_zero]; rfl))
      clear hz0
      go_wp2_with fail
      have hF := xfloor_any w3 y x.q.num.natAbs x.q.den m b kind a1.ok HY.out.n HY.out.d HOK.out (by have := HBT.out; omega) (by have := HBT.out; omega) (by have := HBT.out; omega) hk
      have hle := floorM_le (kind := kind) HOK.out (show m ≤ 256 by have := HBT.out; omega) (show 1 ≤ b by have := HBT.out; omega) (by have := HBT.out; omega)
      have HV : Hid (∀ i : Ix, Rp i.lo (prt (floorM x.q.num.natAbs x.q.den m b kind) b) → Rp i.hi (prt (floorM x.q.num.natAbs x.q.den m b kind + 1) b) → encP x.q m b kind zv i) := Lib.hid (fun i h1 h2 => ⟨fun k => absurd k HQ.out, fun _ => ⟨h1, h2⟩⟩)
      generalize floorM x.q.num.natAbs x.q.den m b kind = v at hle hF HV
      have HLE := Lib.hid hle
      clear hle
      refine hF.mono ?_
      rintro _ w4 ⟨A3, c3, rfl, n3, bb⟩
      clear hF
      replace br := br.below bb
      replace w1b := below_on w1b bb (by rw [← hg]; exact w1b.size)
      clear bb
      go_wp2_with fail
      refine (xunit_any w4 A3 c3 v b n3 (by have := HLE.out; have := (pow64 (b := b) (by have := HBT.out; omega)).2; omega) (by have := HBT.out; omega)).mono ?_
      rintro _ w5 ⟨i, rfl, hi1, hi2, oki, bb⟩
      have HI := Lib.hid (HV.out i hi1 hi2)
      replace br := br.below bb
      replace w1b := below_on w1b bb (by rw [← hg]; exact w1b.size)
      clear bb n3 hi1 hi2
      have r0 := br.cell 0
      have r1 := br.cell 1
      have r2 := br.cell 2
      have r3 := br.cell 3
      have r4 := br.cell 4
      have r5 := br.cell 5
      have rf0 := br.unf 0
      have rf1 := br.unf 1
      have rf2 := br.unf 2
      have rf3 := br.unf 3
      have rf4 := br.unf 4
      have rf5 := br.unf 5
      simp only [List.getElem?_toArray, List.getElem?_cons_succ, List.getElem?_cons_zero] at r0 r1 r2 r3 r4 r5
      go_wp2_with fail
      refine bodyPost_ret (v := .tuple #[i.val, .int .i64 0]) (by simp [results, Try.results48, go_sem, r0, r1, r2, r3, r4, r5]) rfl ?_
      exact ⟨i, rfl, ⟨set6_ok oki.lo br noInt_z, set6_ok oki.hi br noInt_z⟩, HI.out, set6_below w1b (by omega)⟩
  · have e0 : (E != 0) = true := bne_iff_ne.2 h0
    have H0 : Hid (E ≠ 0) := h0
    clear h0
    have br := b2
    clear fx bw
    have r0 := br.cell 0
    have r1 := br.cell 1
    have r2 := br.cell 2
    have r3 := br.cell 3
    have r4 := br.cell 4
    have r5 := br.cell 5
    have rf0 := br.unf 0
    have rf1 := br.unf 1
    have rf2 := br.unf 2
    have rf3 := br.unf 3
    have rf4 := br.unf 4
    have rf5 := br.unf 5
    simp only [List.getElem?_toArray, List.getElem?_cons_succ, List.getElem?_cons_zero] at r0 r1 r2 r3 r4 r5
    go_wp2_with fail
    refine bodyPost_ret (v := .tuple #[Ix.nil.val, .int .i64 E]) (by simp [results, Try.results48, go_sem, r0, r1, r2, r3, r4, r5]) rfl ?_
    exact ⟨Ix.nil, rfl, Ix.nil_ok _, fun h => absurd h H0.out, by rw [hg]; exact set6_below w1b (by omega)⟩
end Go.Proofs.Ytnmomigaedfdoaa
namespace Go.Proofs.Ytnmomigaedfdoaa
set_option maxRecDepth 100000
open Go.RowKit

set_option maxHeartbeats 1600000 in
theorem xexp_any (w : World) (x : Fx) (bits E : Int) (hx : x.ok w) (l1 : x.xs.length ≤ 10000) (l2 : x.ys.length ≤ 10000) (he : chkE x bits 0 = E) :
    Calls Try.prog 18 #[x.val, .int .i64 bits] w fun e w' => ∃ i : Ix, e = .returned (.tuple #[i.val, .int .i64 E]) ∧ i.ok w' ∧ (E = 0 → encP x.q 0 bits.toNat 0 1 i) ∧ Below w.heap.size w w' := by
  have HE := Lib.hid he
  clear he
  go_enter Try.func18, Try.ntmps18
  go_upto_region 1 with fail
  have fx := (fa_alloc hx).1
  have bw := (fa_alloc hx).2
  have sz := size_al w (.cells #[.bool x.b, .slice x.A x.xs.length x.c, .slice x.D x.ys.length x.d] 26)
  clear hx
  generalize (w.alloc (.cells #[.bool x.b, .slice x.A x.xs.length x.c, .slice x.D x.ys.length x.d] 26)) = w1 at fx bw sz ⊢
  have br := (zr_alloc w1).1
  have bb := (zr_alloc w1).2
  rw [sz] at br
  generalize (w1.alloc (.cells zcells 35)) = w2 at br bb ⊢
  replace fx := fx.below bb
  replace bw := below_on bw bb bw.size
  clear bb sz
  have tx := fx.bk
  obtain ⟨x0, x1, x2, xf0, xf1, xf2, xlt, xb⟩ := tx
  clear xb
  go_wp2_with fail
  clear x0 x1 x2 xf0 xf1 xf2 xlt
  refine (xenclose_any w2 x 0 bits E 0 1 fx.ok l1 l2 (by omega) (by omega) HE.out).mono ?_
  rintro _ w5 ⟨i, rfl, oki, hi, bb⟩
  have HI := Lib.hid hi
  replace br := br.below bb
  replace bw := below_on bw bb bw.size
  clear bb hi
  have r0 := br.cell 0
  have r1 := br.cell 1
  have r2 := br.cell 2
  have r3 := br.cell 3
  have r4 := br.cell 4
  have r5 := br.cell 5
  have rf0 := br.unf 0
  have rf1 := br.unf 1
  have rf2 := br.unf 2
  have rf3 := br.unf 3
  have rf4 := br.unf 4
  have rf5 := br.unf 5
  simp only [List.getElem?_toArray, List.getElem?_cons_succ, List.getElem?_cons_zero] at r0 r1 r2 r3 r4 r5
  go_wp2_with fail
  refine bodyPost_ret (v := .tuple #[i.val, .int .i64 E]) (by simp [results, Try.results18, go_sem, r0, r1, r2, r3, r4, r5]) rfl ?_
  exact ⟨i, rfl, ⟨set6_ok oki.lo br noInt_z, set6_ok oki.hi br noInt_z⟩, HI.out, set6_below bw (by omega)⟩
set_option maxHeartbeats 1600000 in
theorem xtail_any (w : World) (x : Fx) (n bits E : Int) (hx : x.ok w) (l1 : x.xs.length ≤ 10000) (l2 : x.ys.length ≤ 10000) (he : chkE x bits n = E) :
    Calls Try.prog 24 #[x.val, .int .i64 n, .int .i64 bits] w fun e w' => ∃ i : Ix, e = .returned (.tuple #[i.val, .int .i64 E]) ∧ i.ok w' ∧ (E = 0 → encP x.q n.toNat bits.toNat 2 0 i) ∧ Below w.heap.size w w' := by
  have HE := Lib.hid he
  clear he
  go_enter Try.func24, Try.ntmps24
  go_upto_region 1 with fail
  have fx := (fa_alloc hx).1
  have bw := (fa_alloc hx).2
  have sz := size_al w (.cells #[.bool x.b, .slice x.A x.xs.length x.c, .slice x.D x.ys.length x.d] 26)
  clear hx
  generalize (w.alloc (.cells #[.bool x.b, .slice x.A x.xs.length x.c, .slice x.D x.ys.length x.d] 26)) = w1 at fx bw sz ⊢
  have br := (zr_alloc w1).1
  have bb := (zr_alloc w1).2
  rw [sz] at br
  generalize (w1.alloc (.cells zcells 35)) = w2 at br bb ⊢
  replace fx := fx.below bb
  replace bw := below_on bw bb bw.size
  clear bb sz
  have tx := fx.bk
  obtain ⟨x0, x1, x2, xf0, xf1, xf2, xlt, xb⟩ := tx
  clear xb
  go_wp2_with fail
  clear x0 x1 x2 xf0 xf1 xf2 xlt
  refine (xenclose_any w2 x n bits E 2 0 fx.ok l1 l2 (by omega) (by omega) HE.out).mono ?_
  rintro _ w5 ⟨i, rfl, oki, hi, bb⟩
  have HI := Lib.hid hi
  replace br := br.below bb
  replace bw := below_on bw bb bw.size
  clear bb hi
  have r0 := br.cell 0
  have r1 := br.cell 1
  have r2 := br.cell 2
  have r3 := br.cell 3
  have r4 := br.cell 4
  have r5 := br.cell 5
  have rf0 := br.unf 0
  have rf1 := br.unf 1
  have rf2 := br.unf 2
  have rf3 := br.unf 3
  have rf4 := br.unf 4
  have rf5 := br.unf 5
  simp only [List.getElem?_toArray, List.getElem?_cons_succ, List.getElem?_cons_zero] at r0 r1 r2 r3 r4 r5
  go_wp2_with fail
  refine bodyPost_ret (v := .tuple #[i.val, .int .i64 E]) (by simp [results, Try.results24, go_sem, r0, r1, r2, r3, r4, r5]) rfl ?_
  exact ⟨i, rfl, ⟨set6_ok oki.lo br noInt_z, set6_ok oki.hi br noInt_z⟩, HI.out, set6_below bw (by omega)⟩
end Go.Proofs.Ytnmomigaedfdoaa
namespace Go.Proofs.Ytnmomigaedfdoaa
set_option maxRecDepth 100000
open Go.RowKit

theorem xok11 : XOk 1 1 := ⟨by decide, by decide, by decide, by decide⟩
theorem fl_one : floorM 1 1 0 2 0 = 1 := by
  have e : fAt 1 1 0 2 0 50 = (1, 1) := by
    rw [fAt_eq xok11 (by omega) (by omega) (by omega) (by omega)]
    decide +kernel
  rw [floorM_at (j := 0) (by omega) (fun i hi => absurd hi (by omega)) (by rw [show (2 + 48) * 2 ^ 0 = 50 from rfl, e]), show (2 + 48) * 2 ^ 0 = 50 from rfl, e]
theorem prt14 : prt 1 2 = Rat.divInt 1 4 := by decide +kernel
theorem prt24 : prt 2 2 = Rat.divInt 1 2 := by decide +kernel
end Go.Proofs.Ytnmomigaedfdoaa
