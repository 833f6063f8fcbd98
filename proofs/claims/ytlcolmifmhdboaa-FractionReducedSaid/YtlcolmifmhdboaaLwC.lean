/- The walks of drydockref02: Int, Sign; the slices of fractions that long takes. -/
import Derived.Test.YtlcolmifmhdboaaLwB
import Derived.Test.YtlcolmifmhdboaaRfG
namespace Go.Proofs.Ytlcolmifmhdboaa
open Go.RowKit

set_option maxRecDepth 100000 in
set_option maxHeartbeats 1600000 in
theorem rfint_any (w : World) (n : Int) (n0 : -9223372036854775808 ≤ n) (n1 : n ≤ 9223372036854775807) (hz : makeF n 1 = okS (Rat.divInt n 1)) : Calls Try.prog 51 #[.int .i64 n] w (FracNew w ((okS (Rat.divInt n 1)).1, (okS (Rat.divInt n 1)).2.1, (okS (Rat.divInt n 1)).2.2.1)) := by
  have HZ := Lib.hid hz
  clear hz
  go_enter Try.func51, Try.ntmps51
  go_wp2_with fail
  have bw := (Below.refl w.heap.size w).alloc (Nat.le_refl _) (.cells #[.bool false, .slice none 0 0, .slice none 0 0] 25)
  have bk := bk3_new w
  generalize (w.alloc (.cells #[.bool false, .slice none 0 0, .slice none 0 0] 25)) = w1 at bw bk ⊢
  refine (rfmake_any w1 n 1 _ n0 n1 (by omega) (by omega) HZ.out).mono ?_
  rintro e wn ⟨x1, rfl, hs1, ok1, bb⟩
  have HS1 := Lib.hid hs1
  clear hs1
  replace bk := bk.below bb
  replace bw := below_on bw bb bw.size
  clear bb
  go_upto_region 2 with fail
  have a1 := (fa_alloc ok1).1
  have bb := (fa_alloc ok1).2
  clear ok1
  generalize (wn.alloc (.cells #[.bool x1.b, .slice x1.A x1.xs.length x1.c, .slice x1.D x1.ys.length x1.d] 25)) = wm at a1 bb ⊢
  replace bk := bk.below bb
  replace bw := below_on bw bb bw.size
  clear bb
  generalize wn.heap.size = g1 at a1 ⊢
  have ci0 := a1.c0
  have ci1 := a1.c1
  have ci2 := a1.c2
  have tk := bk
  obtain ⟨k0, k1, k2, kf0, kf1, kf2, klt, kb⟩ := tk
  clear kb
  go_wp2_with fail
  refine bodyPost_ret (v := x1.val) (by simp [results, Try.results51, go_sem, k0, k1, k2]) rfl ?_
  exact ⟨x1, rfl, HS1.out, set3_ok a1.ok bk rfl rfl rfl, set3g bw (Nat.le_refl _)⟩
set_option maxRecDepth 100000 in
theorem makeF_int {n : Int} (n0 : -9223372036854775808 ≤ n) (n1 : n ≤ 9223372036854775807) : makeF n 1 = okS (Rat.divInt n 1) := by
  rw [makeF, if_neg (by omega)]
  have h : Sz (Rat.divInt n 1) 2 2 := by
    rw [← qv_divInt (by omega)]
    exact Sz.of_qv (by omega) (lim_len2 (by omega)) (lim_len2 (by omega))
  exact frS_ok (h.mono (by omega) (by omega))
set_option maxRecDepth 100000 in
theorem rfint_zero (w : World) : Calls Try.prog 51 #[.int .i64 0] w fun e w' => ∃ y : Fx, e = .returned y.val ∧ Rp y 0 ∧ y.ok w' ∧ Below w.heap.size w w' := by
  refine (rfint_any w 0 (by omega) (by omega) (makeF_int (by omega) (by omega))).mono ?_
  rintro e w' ⟨y, h1, h2, h3, h4⟩
  have h := Rp.of (q := Rat.divInt 0 1) h2
  rw [show Rat.divInt 0 1 = 0 from rfl] at h
  exact ⟨y, h1, h, h3, h4⟩
set_option maxRecDepth 100000 in
theorem below_undrew {w w' : World} (h : Below w.drew.heap.size w.drew w') : Below w.heap.size w w' := ⟨h.os, h.tape, h.output, h.size, h.block⟩
set_option maxRecDepth 100000 in
theorem sz_zero : Sz 0 128 128 := by constructor <;> (rw [lim_length_le]; decide)
set_option maxRecDepth 100000 in
theorem rdf1 (w : World) (x : Fx) : RdF (w.alloc (.cells #[.bool x.b, .slice x.A x.xs.length x.c, .slice x.D x.ys.length x.d] 25)) (some ⟨w.heap.size, 0, none⟩) [x] := fun _ => by
  refine ⟨_, rfl, by simp, fun k hk => ?_⟩
  match k, hk with
  | 0, _ => exact ⟨by simp [go_sem, Addr.add], by simp [go_sem, Addr.add], by simp [go_sem, Addr.add]⟩
set_option maxRecDepth 100000 in
theorem rdf2 (w : World) (x y : Fx) : RdF (w.alloc (.cells #[.bool x.b, .slice x.A x.xs.length x.c, .slice x.D x.ys.length x.d, .bool y.b, .slice y.A y.xs.length y.c, .slice y.D y.ys.length y.d] 25)) (some ⟨w.heap.size, 0, none⟩) [x, y] := fun _ => by
  refine ⟨_, rfl, by simp, fun k hk => ?_⟩
  match k, hk with
  | 0, _ => exact ⟨by simp [go_sem, Addr.add], by simp [go_sem, Addr.add], by simp [go_sem, Addr.add]⟩
  | 1, _ => exact ⟨by simp [go_sem, Addr.add], by simp [go_sem, Addr.add], by simp [go_sem, Addr.add]⟩
set_option maxRecDepth 100000 in
theorem rdf3 (w : World) (x y z : Fx) : RdF (w.alloc (.cells #[.bool x.b, .slice x.A x.xs.length x.c, .slice x.D x.ys.length x.d, .bool y.b, .slice y.A y.xs.length y.c, .slice y.D y.ys.length y.d, .bool z.b, .slice z.A z.xs.length z.c, .slice z.D z.ys.length z.d] 25)) (some ⟨w.heap.size, 0, none⟩) [x, y, z] := fun _ => by
  refine ⟨_, rfl, by simp, fun k hk => ?_⟩
  match k, hk with
  | 0, _ => exact ⟨by simp [go_sem, Addr.add], by simp [go_sem, Addr.add], by simp [go_sem, Addr.add]⟩
  | 1, _ => exact ⟨by simp [go_sem, Addr.add], by simp [go_sem, Addr.add], by simp [go_sem, Addr.add]⟩
  | 2, _ => exact ⟨by simp [go_sem, Addr.add], by simp [go_sem, Addr.add], by simp [go_sem, Addr.add]⟩
end Go.Proofs.Ytlcolmifmhdboaa
