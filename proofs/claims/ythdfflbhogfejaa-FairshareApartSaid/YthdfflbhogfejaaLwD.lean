/- The walks of drydockref02: size, Make. The walks of drydockref02: Int, Sign; the slices of fractions that long takes. The order of rational numbers, as Cmp tells it. No program in sight. What the laws of fractions share. -/
import Derived.Test.YthdfflbhogfejaaRfF
import Derived.Test.YthdfflbhogfejaaFrG
import Derived.Test.YthdfflbhogfejaaFrD
namespace Go.Proofs.Ythdfflbhogfejaa
open Go.RowKit

set_option maxRecDepth 100000 in
theorem frS_low {b : Bool} {n d : Nat} (hd : d ≠ 0) (ln : (lim n).length ≤ 2) (ld : (lim d).length ≤ 2) : frS (qv b n d) = ((lowS (qv b n d)).1, (lowS (qv b n d)).2.1, (lowS (qv b n d)).2.2, 0) := by
  rw [frS, if_neg, lowS]
  have h1 := lim_length_mono (Nat.div_le_self n (Nat.gcd n d))
  have h2 := lim_length_mono (Nat.div_le_self d (Nat.gcd n d))
  rw [bigQ, qv_abs hd, qv_den hd]
  omega
set_option maxRecDepth 100000 in
theorem wrapi_add {v : Int} (h0 : -9223372036854775808 ≤ v) (h : v < 0) : IntKind.i64.wrap (v + 1) = v + 1 := IntWalk.i64_in _ (by omega)
set_option maxRecDepth 100000 in
theorem wrapi_neg {v : Int} (h0 : -9223372036854775808 ≤ v) (h : v < 0) : IntKind.i64.wrap (-(v + 1)) = -(v + 1) := IntWalk.i64_in _ (by omega)
set_option maxRecDepth 100000 in
theorem wrapu_neg1 {v : Int} (h0 : -9223372036854775808 ≤ v) (h : v < 0) : IntKind.u64.wrap (-(v + 1)) = -(v + 1) := by rw [IntKind.wrap_u64]; omega
set_option maxRecDepth 100000 in
theorem wrapu_size {v : Int} (h0 : -9223372036854775808 ≤ v) (h : v < 0) : IntKind.u64.wrap (-(v + 1) + 1) = (v.natAbs : Int) := by rw [IntKind.wrap_u64]; omega
set_option maxRecDepth 100000 in
theorem rfsize_any (w : World) (v : Int) (h0 : -9223372036854775808 ≤ v) (h1 : v ≤ 9223372036854775807) : Calls Try.prog 53 #[.int .i64 v] w fun e w' => e = .returned (.int .u64 (v.natAbs : Int)) ∧ w = w' := by
  by_cases hv : v < 0
  · have hw1 := wrapi_add h0 hv
    have hw2 := wrapi_neg h0 hv
    have hw3 := wrapu_neg1 h0 hv
    have hw4 := wrapu_size h0 hv
    have hd : decide (v < 0) = true := decide_eq_true hv
    go_enter Try.func53, Try.ntmps53
    go_wp2_with fail
    go_ret
    exact ⟨rfl, rfl⟩
  · have hw := wrapu_pos (Int.not_lt.1 hv) h1
    have hd : decide (v < 0) = false := decide_eq_false hv
    go_enter Try.func53, Try.ntmps53
    go_wp2_with fail
    go_ret
    exact ⟨rfl, rfl⟩
set_option maxRecDepth 100000 in
set_option maxHeartbeats 1600000 in
theorem rfmake_any (w : World) (n d : Int) (S : Bool × List Nat × List Nat × Int) (n0 : -9223372036854775808 ≤ n) (n1 : n ≤ 9223372036854775807) (d0 : -9223372036854775808 ≤ d) (d1 : d ≤ 9223372036854775807) (hs : makeF n d = S) : Calls Try.prog 30 #[.int .i64 n, .int .i64 d] w (FracRes w S) := by
  have HS := Lib.hid hs
  clear hs
  by_cases hd : d = 0
  · have HD := Lib.hid hd
    have hdd : (d == 0) = true := by simpa using hd
    clear hd
    go_enter Try.func30, Try.ntmps30
    go_wp2_with fail
    have bw := (Below.refl w.heap.size w).alloc (Nat.le_refl _) (.cells #[.bool false, .slice none 0 0, .slice none 0 0] 41)
    have bk := bk3_new w
    generalize (w.alloc (.cells #[.bool false, .slice none 0 0, .slice none 0 0] 41)) = w1 at bw bk ⊢
    have tk := bk
    obtain ⟨k0, k1, k2, kf0, kf1, kf2, klt, kb⟩ := tk
    clear kb
    go_wp2_with fail
    refine bodyPost_ret (v := .tuple #[(Fx.nil : Fx).val, .int .i64 3]) (by simp [results, Try.results30, go_sem, k0, k1, k2]) rfl ?_
    rw [← HS.out, makeF, if_pos HD.out]
    exact ⟨Fx.nil, rfl, ⟨rfl, rfl, rfl⟩, Fx.nil_ok _, bw⟩
  · have HD : Hid (¬ d = 0) := hd
    have hdd : (d == 0) = false := by simpa using hd
    have ln := lim_len2 (m := n.natAbs) (by omega)
    have ld := lim_len2 (m := d.natAbs) (by omega)
    have lnn : (lim (nv (lim n.natAbs))).length ≤ 512 := by rw [nv_lim]; omega
    have ldd : (lim (nv (lim d.natAbs))).length ≤ 512 := by rw [nv_lim]; omega
    have ne : nv (lim d.natAbs) ≠ 0 := by rw [nv_lim]; omega
    have LNN := Lib.hid lnn
    have LDD := Lib.hid ldd
    have NE : Hid (nv (lim d.natAbs) ≠ 0) := ne
    clear hd lnn ldd ne
    go_enter Try.func30, Try.ntmps30
    go_wp2_with fail
    have bw := (Below.refl w.heap.size w).alloc (Nat.le_refl _) (.cells #[.bool false, .slice none 0 0, .slice none 0 0] 41)
    have bk := bk3_new w
    generalize (w.alloc (.cells #[.bool false, .slice none 0 0, .slice none 0 0] 41)) = w1 at bw bk ⊢
    go_wp2_with fail
    refine (rfsize_any w1 n n0 n1).mono ?_
    rintro e wn ⟨rfl, rfl⟩
    go_wp2_with fail
    refine (rmake_any _ n.natAbs (by omega)).mono ?_
    rintro e wn ⟨AN, cN, rfl, gn, bb⟩
    have na := gn.nt (lim_u32 _)
    clear gn
    try replace bx := bx.below bb
    try replace by_ := by_.below bb
    try replace bk := bk.below bb
    try replace okx := okx.below bb
    try replace oky := oky.below bb
    try replace ok1 := ok1.below bb
    try replace na := na.below bb
    try replace nb := nb.below bb
    try replace nc := nc.below bb
    try replace nd := nd.below bb
    try replace ne := ne.below bb
    replace bw := below_on bw bb bw.size
    clear bb
    go_wp2_with fail
    refine (rfsize_any wn d d0 d1).mono ?_
    rintro e wn ⟨rfl, rfl⟩
    go_wp2_with fail
    refine (rmake_any _ d.natAbs (by omega)).mono ?_
    rintro e wn ⟨AD, cD, rfl, gn, bb⟩
    have nb := gn.nt (lim_u32 _)
    clear gn
    try replace bx := bx.below bb
    try replace by_ := by_.below bb
    try replace bk := bk.below bb
    try replace okx := okx.below bb
    try replace oky := oky.below bb
    try replace ok1 := ok1.below bb
    try replace na := na.below bb
    try replace nb := nb.below bb
    try replace nc := nc.below bb
    try replace nd := nd.below bb
    try replace ne := ne.below bb
    replace bw := below_on bw bb bw.size
    clear bb
    go_wp2_with fail
    refine (rflowest_any _ (!(decide (n < 0) == decide (d < 0))) AN AD cN cD _ _ (lim n.natAbs) (lim d.natAbs) na nb rfl rfl NE.out (by omega) (by omega) LNN.out LDD.out).mono ?_
    rintro e wn ⟨x1, rfl, hs1, ok1, bb⟩
    have HS1 := Lib.hid hs1
    clear hs1
    try replace bx := bx.below bb
    try replace by_ := by_.below bb
    try replace bk := bk.below bb
    try replace okx := okx.below bb
    try replace oky := oky.below bb
    try replace ok1 := ok1.below bb
    try replace na := na.below bb
    try replace nb := nb.below bb
    try replace nc := nc.below bb
    try replace nd := nd.below bb
    try replace ne := ne.below bb
    replace bw := below_on bw bb bw.size
    clear bb
    have tk := bk
    obtain ⟨k0, k1, k2, kf0, kf1, kf2, klt, kb⟩ := tk
    clear kb
    go_wp2_with fail
    refine bodyPost_ret (v := .tuple #[(x1 : Fx).val, .int .i64 0]) (by simp [results, Try.results30, go_sem, k0, k1, k2]) rfl ?_
    have hS : S = ((lowS (qv (!(decide (n < 0) == decide (d < 0))) (nv (lim n.natAbs)) (nv (lim d.natAbs)))).1, (lowS (qv (!(decide (n < 0) == decide (d < 0))) (nv (lim n.natAbs)) (nv (lim d.natAbs)))).2.1, (lowS (qv (!(decide (n < 0) == decide (d < 0))) (nv (lim n.natAbs)) (nv (lim d.natAbs)))).2.2, 0) := by
      rw [← HS.out, makeF, if_neg HD.out, nv_lim, nv_lim, ← qv_divInt HD.out]
      exact frS_low (by have := HD.out; omega) (by omega) (by omega)
    rw [hS]
    exact ⟨x1, rfl, HS1.out, set3_ok ok1 bk rfl rfl rfl, set3g bw (by omega)⟩
end Go.Proofs.Ythdfflbhogfejaa
namespace Go.Proofs.Ythdfflbhogfejaa
open Go.RowKit

set_option maxRecDepth 100000 in
theorem makeF_int {n : Int} (n0 : -9223372036854775808 ≤ n) (n1 : n ≤ 9223372036854775807) : makeF n 1 = okS (Rat.divInt n 1) := by
  rw [makeF, if_neg (by omega)]
  have h : Sz (Rat.divInt n 1) 2 2 := by
    rw [← qv_divInt (by omega)]
    exact Sz.of_qv (by omega) (lim_len2 (by omega)) (lim_len2 (by omega))
  exact frS_ok (h.mono (by omega) (by omega))
set_option maxRecDepth 100000 in
theorem below_undrew {w w' : World} (h : Below w.drew.heap.size w.drew w') : Below w.heap.size w w' := ⟨h.os, h.tape, h.output, h.size, h.block⟩
set_option maxRecDepth 100000 in
theorem sz_zero : Sz 0 128 128 := by constructor <;> (rw [lim_length_le]; decide)
set_option maxRecDepth 100000 in
theorem rdf1 (w : World) (x : Fx) : RdF (w.alloc (.cells #[.bool x.b, .slice x.A x.xs.length x.c, .slice x.D x.ys.length x.d] 41)) (some ⟨w.heap.size, 0, none⟩) [x] := fun _ => by
  refine ⟨_, rfl, by simp, fun k hk => ?_⟩
  match k, hk with
  | 0, _ => exact ⟨by simp [go_sem, Addr.add], by simp [go_sem, Addr.add], by simp [go_sem, Addr.add]⟩
set_option maxRecDepth 100000 in
theorem rdf2 (w : World) (x y : Fx) : RdF (w.alloc (.cells #[.bool x.b, .slice x.A x.xs.length x.c, .slice x.D x.ys.length x.d, .bool y.b, .slice y.A y.xs.length y.c, .slice y.D y.ys.length y.d] 41)) (some ⟨w.heap.size, 0, none⟩) [x, y] := fun _ => by
  refine ⟨_, rfl, by simp, fun k hk => ?_⟩
  match k, hk with
  | 0, _ => exact ⟨by simp [go_sem, Addr.add], by simp [go_sem, Addr.add], by simp [go_sem, Addr.add]⟩
  | 1, _ => exact ⟨by simp [go_sem, Addr.add], by simp [go_sem, Addr.add], by simp [go_sem, Addr.add]⟩
set_option maxRecDepth 100000 in
theorem rdf3 (w : World) (x y z : Fx) : RdF (w.alloc (.cells #[.bool x.b, .slice x.A x.xs.length x.c, .slice x.D x.ys.length x.d, .bool y.b, .slice y.A y.xs.length y.c, .slice y.D y.ys.length y.d, .bool z.b, .slice z.A z.xs.length z.c, .slice z.D z.ys.length z.d] 41)) (some ⟨w.heap.size, 0, none⟩) [x, y, z] := fun _ => by
  refine ⟨_, rfl, by simp, fun k hk => ?_⟩
  match k, hk with
  | 0, _ => exact ⟨by simp [go_sem, Addr.add], by simp [go_sem, Addr.add], by simp [go_sem, Addr.add]⟩
  | 1, _ => exact ⟨by simp [go_sem, Addr.add], by simp [go_sem, Addr.add], by simp [go_sem, Addr.add]⟩
  | 2, _ => exact ⟨by simp [go_sem, Addr.add], by simp [go_sem, Addr.add], by simp [go_sem, Addr.add]⟩
end Go.Proofs.Ythdfflbhogfejaa
namespace Go.Proofs.Ythdfflbhogfejaa

set_option maxRecDepth 100000 in
theorem cmpQ_lt {p q : Rat} (h : p < q) : cmpQ p q = -1 := by rw [cmpQ, if_pos h]
set_option maxRecDepth 100000 in
theorem cmpQ_gt {p q : Rat} (h : q < p) : cmpQ p q = 1 := by rw [cmpQ, if_neg (by grind), if_pos h]
set_option maxRecDepth 100000 in
theorem cmpQ_eq {p q : Rat} (h : p = q) : cmpQ p q = 0 := by subst h; rw [cmpQ, if_neg (by grind), if_neg (by grind)]
set_option maxRecDepth 100000 in
theorem tri (p q : Rat) : p < q ∨ p = q ∨ q < p := by grind
set_option maxRecDepth 100000 in
theorem cmpQ_cases (p q : Rat) : (p < q ∧ cmpQ p q = -1) ∨ (p = q ∧ cmpQ p q = 0) ∨ (q < p ∧ cmpQ p q = 1) := by
  rcases tri p q with h | h | h
  · exact .inl ⟨h, cmpQ_lt h⟩
  · exact .inr (.inl ⟨h, cmpQ_eq h⟩)
  · exact .inr (.inr ⟨h, cmpQ_gt h⟩)
set_option maxRecDepth 100000 in
theorem cmpQ_swap (p q : Rat) : cmpQ q p = - cmpQ p q := by
  rcases tri p q with h | h | h
  · rw [cmpQ_lt h, cmpQ_gt h]; rfl
  · rw [cmpQ_eq h, cmpQ_eq h.symm]; rfl
  · rw [cmpQ_gt h, cmpQ_lt h]
set_option maxRecDepth 100000 in
theorem cmpQ_add (p q r : Rat) : cmpQ (p + r) (q + r) = cmpQ p q := by
  rcases tri p q with h | h | h
  · rw [cmpQ_lt h, cmpQ_lt (by grind)]
  · rw [cmpQ_eq h, cmpQ_eq (by rw [h])]
  · rw [cmpQ_gt h, cmpQ_gt (by grind)]
set_option maxRecDepth 100000 in
theorem mul_lt_pos {p q r : Rat} (h : p < q) (hr : 0 < r) : p * r < q * r := Rat.mul_lt_mul_of_pos_right h hr
set_option maxRecDepth 100000 in
theorem mul_lt_neg {p q r : Rat} (h : p < q) (hr : r < 0) : q * r < p * r := by
  have := mul_lt_pos h (r := -r) (by grind)
  grind
set_option maxRecDepth 100000 in
theorem cmpQ_mul (p q r : Rat) : cmpQ (p * r) (q * r) = cmpQ p q * cmpQ r 0 := by
  rcases tri r 0 with hr | hr | hr
  · rw [cmpQ_lt hr]
    rcases tri p q with h | h | h
    · rw [cmpQ_lt h, cmpQ_gt (mul_lt_neg h hr)]; rfl
    · rw [cmpQ_eq h, cmpQ_eq (by rw [h])]; rfl
    · rw [cmpQ_gt h, cmpQ_lt (mul_lt_neg h hr)]; rfl
  · rw [cmpQ_eq hr, Int.mul_zero, cmpQ_eq (by rw [hr, Rat.mul_zero, Rat.mul_zero])]
  · rw [cmpQ_gt hr, Int.mul_one]
    rcases tri p q with h | h | h
    · rw [cmpQ_lt h, cmpQ_lt (mul_lt_pos h hr)]
    · rw [cmpQ_eq h, cmpQ_eq (by rw [h])]
    · rw [cmpQ_gt h, cmpQ_gt (mul_lt_pos h hr)]
set_option maxRecDepth 100000 in
/-- the nine ways in which three numbers can lie -/
theorem cmpQ_three (p q r : Rat) : (cmpQ p q = -1 ∨ cmpQ p q = 0 ∨ cmpQ p q = 1) ∧ (cmpQ q r = -1 ∨ cmpQ q r = 0 ∨ cmpQ q r = 1) ∧ (cmpQ p r = -1 ∨ cmpQ p r = 0 ∨ cmpQ p r = 1) ∧
    (cmpQ p q ≤ 0 → cmpQ q r ≤ 0 → cmpQ p r ≤ 0) ∧ (0 ≤ cmpQ p q → 0 ≤ cmpQ q r → 0 ≤ cmpQ p r) := by
  rcases cmpQ_cases p q with ⟨h1, e1⟩ | ⟨h1, e1⟩ | ⟨h1, e1⟩ <;> rcases cmpQ_cases q r with ⟨h2, e2⟩ | ⟨h2, e2⟩ | ⟨h2, e2⟩ <;> rcases cmpQ_cases p r with ⟨h3, e3⟩ | ⟨h3, e3⟩ | ⟨h3, e3⟩ <;> rw [e1, e2, e3] <;>
    first | (refine ⟨?_, ?_, ?_, ?_, ?_⟩ <;> omega) | (exfalso; grind)
end Go.Proofs.Ythdfflbhogfejaa
namespace Go.Proofs.Ythdfflbhogfejaa
open Go.RowKit

set_option maxRecDepth 100000 in
theorem Fx.ok.drew {x : Fx} {w : World} (h : x.ok w) : x.ok w.drew := h.below ((Below.refl w.heap.size w).drew)
def lensB (vs : List Fx) : Prop := ∀ v ∈ vs, v.xs.length ≤ 9223372036854775807 ∧ v.ys.length ≤ 9223372036854775807
set_option maxRecDepth 100000 in
theorem lens_ok {w : World} {x : Fx} (h : x.ok w) : x.xs.length ≤ 9223372036854775807 ∧ x.ys.length ≤ 9223372036854775807 := ⟨h.num.len, h.den.len⟩
set_option maxRecDepth 100000 in
theorem addF_ok {x y : Fx} {p q : Rat} (hx : x.v) (hy : y.v) (ex : x.q = p) (ey : y.q = q) (h : Sz (p + q) 128 128) : addF x y = okS (p + q) := by
  rw [addF, if_pos ⟨hx, hy⟩, ex, ey]; exact frS_ok h
set_option maxRecDepth 100000 in
theorem mulF_ok {x y : Fx} {p q : Rat} (hx : x.v) (hy : y.v) (ex : x.q = p) (ey : y.q = q) (h : Sz (p * q) 128 128) : mulF x y = okS (p * q) := by
  rw [mulF, if_pos ⟨hx, hy⟩, ex, ey]; exact frS_ok h
set_option maxRecDepth 100000 in
theorem cmpF_ok {x y : Fx} {p q : Rat} {z : Int} (hx : x.v) (hy : y.v) (ex : x.q = p) (ey : y.q = q) (h : cmpQ p q = z) : cmpF x y = (z, 0) := by
  rw [cmpF, if_pos ⟨hx, hy⟩, ex, ey, h]
set_option maxRecDepth 100000 in
theorem subF_ok {x y : Fx} {p q : Rat} (hx : x.v) (hy : y.v) (ex : x.q = p) (ey : y.q = q) (h : Sz (p - q) 128 128) : subF x y = okS (p - q) := by
  rw [subF, if_pos ⟨hx, hy⟩, ex, ey]; exact frS_ok h
set_option maxRecDepth 100000 in
theorem Rp.zero {x : Fx} {q : Rat} (h : Rp x q) : nv x.xs = 0 ↔ q = 0 := by
  rw [h.n, nv_lim, Int.natAbs_eq_zero, Rat.num_eq_zero]
set_option maxRecDepth 100000 in
theorem quoF_ok {x y : Fx} {p q : Rat} (hx : x.v) (hy : Rp y q) (ex : x.q = p) (hv : y.v) (hq : q ≠ 0) (h : Sz (p / q) 128 128) : quoF x y = okS (p / q) := by
  rw [quoF, if_pos ⟨hx, hv⟩, if_neg (fun e => hq (hy.zero.1 e)), ex, hy.q]; exact frS_ok h
set_option maxRecDepth 100000 in
theorem redS_okS {x : Fx} (hv : x.v) : redS x = okS x.q := (redS_ok hv).1
set_option maxRecDepth 100000 in
theorem longB_no {vs : List Fx} (h : longB vs = false) : ∀ v ∈ vs, v.xs.length ≤ 24 ∧ v.ys.length ≤ 24 := by
  intro v hv
  unfold longB at h
  have := List.any_eq_false.1 h v hv
  simp at this
  exact this
end Go.Proofs.Ythdfflbhogfejaa
