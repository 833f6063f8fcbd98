/- The walks of drydockref02: Int, Sign; the slices of fractions that long takes. The order of rational numbers, as Cmp tells it. No program in sight. What the laws of fractions share. -/
import Derived.Test.YtnmomigaedfdoaaFrG
import Derived.Test.YtnmomigaedfdoaaRfG
namespace Go.Proofs.Ytnmomigaedfdoaa
set_option maxRecDepth 100000
open Go.RowKit

set_option maxHeartbeats 1600000 in
theorem rfint_any (w : World) (n : Int) (n0 : -9223372036854775808 ≤ n) (n1 : n ≤ 9223372036854775807) (hz : makeF n 1 = okS (Rat.divInt n 1)) : Calls Try.prog 16 #[.int .i64 n] w (FracNew w ((okS (Rat.divInt n 1)).1, (okS (Rat.divInt n 1)).2.1, (okS (Rat.divInt n 1)).2.2.1)) := by
  have HZ := Lib.hid hz
  clear hz
  go_enter Try.func16, Try.ntmps16
  go_wp2_with fail
  have bw := (Below.refl w.heap.size w).alloc (Nat.le_refl _) (.cells #[.bool false, .slice none 0 0, .slice none 0 0] 26)
  have bk := bk3_new w
  generalize (w.alloc (.cells #[.bool false, .slice none 0 0, .slice none 0 0] 26)) = w1 at bw bk ⊢
  refine (rfmake_any w1 n 1 _ n0 n1 (by omega) (by omega) HZ.out).mono ?_
  rintro e wn ⟨x1, rfl, hs1, ok1, bb⟩
  have HS1 := Lib.hid hs1
  clear hs1
  replace bk := bk.below bb
  replace bw := below_on bw bb bw.size
  clear bb
  go_upto_region 2 with fail
  have a1 := (fa_alloc ok1).1
  have bb := (fa_alloc ok1).2
  clear ok1
  generalize (wn.alloc (.cells #[.bool x1.b, .slice x1.A x1.xs.length x1.c, .slice x1.D x1.ys.length x1.d] 26)) = wm at a1 bb ⊢
  replace bk := bk.below bb
  replace bw := below_on bw bb bw.size
  clear bb
  generalize wn.heap.size = g1 at a1 ⊢
  have ci0 := a1.c0
  have ci1 := a1.c1
  have ci2 := a1.c2
  have tk := bk
  obtain ⟨k0, k1, k2, kf0, kf1, kf2, klt, kb⟩ := tk
  clear kb
  go_wp2_with fail
  refine bodyPost_ret (v := x1.val) (by simp [results, Try.results16, go_sem, k0, k1, k2]) rfl ?_
  exact ⟨x1, rfl, HS1.out, set3_ok a1.ok bk rfl rfl rfl, set3g bw (Nat.le_refl _)⟩
theorem makeF_int {n : Int} (n0 : -9223372036854775808 ≤ n) (n1 : n ≤ 9223372036854775807) : makeF n 1 = okS (Rat.divInt n 1) := by
  rw [makeF, if_neg (by omega)]
  have h : Sz (Rat.divInt n 1) 2 2 := by
    rw [← qv_divInt (by omega)]
    exact Sz.of_qv (by omega) (lim_len2 (by omega)) (lim_len2 (by omega))
  exact frS_ok (h.mono (by omega) (by omega))
theorem rfint_zero (w : World) : Calls Try.prog 16 #[.int .i64 0] w fun e w' => ∃ y : Fx, e = .returned y.val ∧ Rp y 0 ∧ y.ok w' ∧ Below w.heap.size w w' := by
  refine (rfint_any w 0 (by omega) (by omega) (makeF_int (by omega) (by omega))).mono ?_
  rintro e w' ⟨y, h1, h2, h3, h4⟩
  have h := Rp.of (q := Rat.divInt 0 1) h2
  rw [show Rat.divInt 0 1 = 0 from rfl] at h
  exact ⟨y, h1, h, h3, h4⟩
theorem below_undrew {w w' : World} (h : Below w.drew.heap.size w.drew w') : Below w.heap.size w w' := ⟨h.os, h.tape, h.output, h.size, h.block⟩
theorem sz_zero : Sz 0 128 128 := by constructor <;> (rw [lim_length_le]; decide)
set_option maxHeartbeats 1600000 in
theorem rfsign_any (w : World) (x : Fx) (z : Int) (hx : x.ok w) (hvx : x.v) (l1 : x.xs.length ≤ 10000) (l2 : x.ys.length ≤ 10000) (hs : cmpQ x.q 0 = z) : Calls Try.prog 38 #[x.val] w fun e w' => e = .returned (.int .i64 z) ∧ Below w.heap.size w w' := by
  have HS := Lib.hid hs
  have HV := Lib.hid hvx
  clear hs hvx
  go_enter Try.func38, Try.ntmps38
  go_wp2_with fail
  have b0 := (Below.refl w.heap.size w).alloc (Nat.le_refl _) (.cells x.cells 26)
  have bx := bk3_alloc w (.bool x.b) (.slice x.A x.xs.length x.c) (.slice x.D x.ys.length x.d)
  have okx := hx.below b0
  have bw := b0
  clear b0
  generalize (w.alloc (.cells x.cells 26)) = w1 at bx okx bw ⊢
  go_region_held3 (fun w' => w'.cell? ⟨w.heap.size, 0, none⟩ = some (.bool x.b) ∧ w'.cell? ⟨w.heap.size, 1, none⟩ = some (.slice x.A x.xs.length x.c) ∧ w'.cell? ⟨w.heap.size, 2, none⟩ = some (.slice x.D x.ys.length x.d))
    (first | exact ⟨bx.c0, bx.c1, bx.c2⟩ | go_keep)
    (first
      | (go_at_call 16
         with_reducible refine (rfint_zero _).mono ?_
         rintro e wn ⟨y, rfl, hy, oky, bb⟩
         repeat replace bb := below_undrew bb
         have HY := Lib.hid hy
         have HVY := Lib.hid (hy.v sz_zero)
         have HQ : Hid (cmpQ x.q y.q = z) := Lib.hid (by rw [hy.q]; exact HS.out)
         have HL1 := Lib.hid (hy.l1 sz_zero)
         have HL2 := Lib.hid (hy.l2 sz_zero)
         replace bx := bx.below bb
         replace okx := okx.below bb
         replace bw := below_on bw bb bw.size
         clear bb hy)
      | (go_at_call 47
         with_reducible refine (rforder_any _ x y z okx oky HV.out HVY.out l1 l2 HL1.out HL2.out HQ.out).mono ?_
         rintro e wn ⟨rfl, bb⟩
         repeat replace bb := below_undrew bb
         replace bx := bx.below bb
         replace bw := below_on bw bb bw.size
         clear bb))
  go_wp2_with fail
  go_ret
  exact ⟨rfl, bw⟩
end Go.Proofs.Ytnmomigaedfdoaa
namespace Go.Proofs.Ytnmomigaedfdoaa
set_option maxRecDepth 100000

theorem cmpQ_lt {p q : Rat} (h : p < q) : cmpQ p q = -1 := by rw [cmpQ, if_pos h]
theorem cmpQ_gt {p q : Rat} (h : q < p) : cmpQ p q = 1 := by rw [cmpQ, if_neg (by grind), if_pos h]
theorem cmpQ_eq {p q : Rat} (h : p = q) : cmpQ p q = 0 := by subst h; rw [cmpQ, if_neg (by grind), if_neg (by grind)]
theorem tri (p q : Rat) : p < q ∨ p = q ∨ q < p := by grind
theorem cmpQ_cases (p q : Rat) : (p < q ∧ cmpQ p q = -1) ∨ (p = q ∧ cmpQ p q = 0) ∨ (q < p ∧ cmpQ p q = 1) := by
  rcases tri p q with h | h | h
  · exact .inl ⟨h, cmpQ_lt h⟩
  · exact .inr (.inl ⟨h, cmpQ_eq h⟩)
  · exact .inr (.inr ⟨h, cmpQ_gt h⟩)
end Go.Proofs.Ytnmomigaedfdoaa
namespace Go.Proofs.Ytnmomigaedfdoaa
set_option maxRecDepth 100000
open Go.RowKit

theorem Fx.ok.drew {x : Fx} {w : World} (h : x.ok w) : x.ok w.drew := h.below ((Below.refl w.heap.size w).drew)
def lensB (vs : List Fx) : Prop := ∀ v ∈ vs, v.xs.length ≤ 9223372036854775807 ∧ v.ys.length ≤ 9223372036854775807
theorem cmpF_ok {x y : Fx} {p q : Rat} {z : Int} (hx : x.v) (hy : y.v) (ex : x.q = p) (ey : y.q = q) (h : cmpQ p q = z) : cmpF x y = (z, 0) := by
  rw [cmpF, if_pos ⟨hx, hy⟩, ex, ey, h]
theorem Rp.zero {x : Fx} {q : Rat} (h : Rp x q) : nv x.xs = 0 ↔ q = 0 := by
  rw [h.n, nv_lim, Int.natAbs_eq_zero, Rat.num_eq_zero]
theorem redS_okS {x : Fx} (hv : x.v) : redS x = okS x.q := (redS_ok hv).1
end Go.Proofs.Ytnmomigaedfdoaa
