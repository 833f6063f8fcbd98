/- The walks of drydockref02: Int, Sign; the slices of fractions that long takes. The order of rational numbers, as Cmp tells it. No program in sight. What the laws of fractions share. The walks of package interval: atMost, Valid, between, Point. -/
import Derived.Test.YtlcolmifmhdboaaShT
import Derived.Test.YtlcolmifmhdboaaRfG
import Derived.Test.YtlcolmifmhdboaaFaV
import Derived.Test.YtlcolmifmhdboaaIvB
import Derived.Test.YtlcolmifmhdboaaFrD
namespace Go.Proofs.Ytlcolmifmhdboaa
open Go.RowKit

set_option maxRecDepth 100000 in
set_option maxHeartbeats 1600000 in
theorem rfint_any (w : World) (n : Int) (n0 : -9223372036854775808 ≤ n) (n1 : n ≤ 9223372036854775807) (hz : makeF n 1 = okS (Rat.divInt n 1)) : Calls Try.prog 51 #[.int .i64 n] w (FracNew w ((okS (Rat.divInt n 1)).1, (okS (Rat.divInt n 1)).2.1, (okS (Rat.divInt n 1)).2.2.1)) := by
  have HZ := Lib.hid hz
  clear hz
  go_enter Try.func51, Try.ntmps51
  go_wp2_with fail
  have bw := (Below.refl w.heap.size w).alloc (Nat.le_refl _) (.cells #[.bool false, .slice none 0 0, .slice none 0 0] 25)
  have bk := bk3_new w
  generalize (w.alloc (.cells #[.bool false, .slice none 0 0, .slice none 0 0] 25)) = w1 at bw bk ⊢
  refine (rfmake_any w1 n 1 _ n0 n1 (by omega) (by omega) HZ.out).mono ?_
  rintro e wn ⟨x1, rfl, hs1, ok1, bb⟩
  have HS1 := Lib.hid hs1
  clear hs1
  replace bk := bk.below bb
  replace bw := below_on bw bb bw.size
  clear bb
  go_upto_region 2 with fail
  have a1 := (fa_alloc ok1).1
  have bb := (fa_alloc ok1).2
  clear ok1
  generalize (wn.alloc (.cells #[.bool x1.b, .slice x1.A x1.xs.length x1.c, .slice x1.D x1.ys.length x1.d] 25)) = wm at a1 bb ⊢
  replace bk := bk.below bb
  replace bw := below_on bw bb bw.size
  clear bb
  generalize wn.heap.size = g1 at a1 ⊢
  have ci0 := a1.c0
  have ci1 := a1.c1
  have ci2 := a1.c2
  have tk := bk
  obtain ⟨k0, k1, k2, kf0, kf1, kf2, klt, kb⟩ := tk
  clear kb
  go_wp2_with fail
  refine bodyPost_ret (v := x1.val) (by simp [results, Try.results51, go_sem, k0, k1, k2]) rfl ?_
  exact ⟨x1, rfl, HS1.out, set3_ok a1.ok bk rfl rfl rfl, set3g bw (Nat.le_refl _)⟩
set_option maxRecDepth 100000 in
theorem makeF_int {n : Int} (n0 : -9223372036854775808 ≤ n) (n1 : n ≤ 9223372036854775807) : makeF n 1 = okS (Rat.divInt n 1) := by
  rw [makeF, if_neg (by omega)]
  have h : Sz (Rat.divInt n 1) 2 2 := by
    rw [← qv_divInt (by omega)]
    exact Sz.of_qv (by omega) (lim_len2 (by omega)) (lim_len2 (by omega))
  exact frS_ok (h.mono (by omega) (by omega))
set_option maxRecDepth 100000 in
theorem rfint_zero (w : World) : Calls Try.prog 51 #[.int .i64 0] w fun e w' => ∃ y : Fx, e = .returned y.val ∧ Rp y 0 ∧ y.ok w' ∧ Below w.heap.size w w' := by
  refine (rfint_any w 0 (by omega) (by omega) (makeF_int (by omega) (by omega))).mono ?_
  rintro e w' ⟨y, h1, h2, h3, h4⟩
  have h := Rp.of (q := Rat.divInt 0 1) h2
  rw [show Rat.divInt 0 1 = 0 from rfl] at h
  exact ⟨y, h1, h, h3, h4⟩
set_option maxRecDepth 100000 in
theorem below_undrew {w w' : World} (h : Below w.drew.heap.size w.drew w') : Below w.heap.size w w' := ⟨h.os, h.tape, h.output, h.size, h.block⟩
set_option maxRecDepth 100000 in
theorem sz_zero : Sz 0 128 128 := by constructor <;> (rw [lim_length_le]; decide)
set_option maxRecDepth 100000 in
theorem rdf1 (w : World) (x : Fx) : RdF (w.alloc (.cells #[.bool x.b, .slice x.A x.xs.length x.c, .slice x.D x.ys.length x.d] 25)) (some ⟨w.heap.size, 0, none⟩) [x] := fun _ => by
  refine ⟨_, rfl, by simp, fun k hk => ?_⟩
  match k, hk with
  | 0, _ => exact ⟨by simp [go_sem, Addr.add], by simp [go_sem, Addr.add], by simp [go_sem, Addr.add]⟩
set_option maxRecDepth 100000 in
theorem rdf2 (w : World) (x y : Fx) : RdF (w.alloc (.cells #[.bool x.b, .slice x.A x.xs.length x.c, .slice x.D x.ys.length x.d, .bool y.b, .slice y.A y.xs.length y.c, .slice y.D y.ys.length y.d] 25)) (some ⟨w.heap.size, 0, none⟩) [x, y] := fun _ => by
  refine ⟨_, rfl, by simp, fun k hk => ?_⟩
  match k, hk with
  | 0, _ => exact ⟨by simp [go_sem, Addr.add], by simp [go_sem, Addr.add], by simp [go_sem, Addr.add]⟩
  | 1, _ => exact ⟨by simp [go_sem, Addr.add], by simp [go_sem, Addr.add], by simp [go_sem, Addr.add]⟩
set_option maxRecDepth 100000 in
theorem rdf3 (w : World) (x y z : Fx) : RdF (w.alloc (.cells #[.bool x.b, .slice x.A x.xs.length x.c, .slice x.D x.ys.length x.d, .bool y.b, .slice y.A y.xs.length y.c, .slice y.D y.ys.length y.d, .bool z.b, .slice z.A z.xs.length z.c, .slice z.D z.ys.length z.d] 25)) (some ⟨w.heap.size, 0, none⟩) [x, y, z] := fun _ => by
  refine ⟨_, rfl, by simp, fun k hk => ?_⟩
  match k, hk with
  | 0, _ => exact ⟨by simp [go_sem, Addr.add], by simp [go_sem, Addr.add], by simp [go_sem, Addr.add]⟩
  | 1, _ => exact ⟨by simp [go_sem, Addr.add], by simp [go_sem, Addr.add], by simp [go_sem, Addr.add]⟩
  | 2, _ => exact ⟨by simp [go_sem, Addr.add], by simp [go_sem, Addr.add], by simp [go_sem, Addr.add]⟩
end Go.Proofs.Ytlcolmifmhdboaa
namespace Go.Proofs.Ytlcolmifmhdboaa

set_option maxRecDepth 100000 in
theorem cmpQ_lt {p q : Rat} (h : p < q) : cmpQ p q = -1 := by rw [cmpQ, if_pos h]
set_option maxRecDepth 100000 in
theorem cmpQ_gt {p q : Rat} (h : q < p) : cmpQ p q = 1 := by rw [cmpQ, if_neg (by grind), if_pos h]
set_option maxRecDepth 100000 in
theorem cmpQ_eq {p q : Rat} (h : p = q) : cmpQ p q = 0 := by subst h; rw [cmpQ, if_neg (by grind), if_neg (by grind)]
set_option maxRecDepth 100000 in
theorem tri (p q : Rat) : p < q ∨ p = q ∨ q < p := by grind
set_option maxRecDepth 100000 in
theorem cmpQ_cases (p q : Rat) : (p < q ∧ cmpQ p q = -1) ∨ (p = q ∧ cmpQ p q = 0) ∨ (q < p ∧ cmpQ p q = 1) := by
  rcases tri p q with h | h | h
  · exact .inl ⟨h, cmpQ_lt h⟩
  · exact .inr (.inl ⟨h, cmpQ_eq h⟩)
  · exact .inr (.inr ⟨h, cmpQ_gt h⟩)
set_option maxRecDepth 100000 in
theorem cmpQ_swap (p q : Rat) : cmpQ q p = - cmpQ p q := by
  rcases tri p q with h | h | h
  · rw [cmpQ_lt h, cmpQ_gt h]; rfl
  · rw [cmpQ_eq h, cmpQ_eq h.symm]; rfl
  · rw [cmpQ_gt h, cmpQ_lt h]
set_option maxRecDepth 100000 in
theorem cmpQ_add (p q r : Rat) : cmpQ (p + r) (q + r) = cmpQ p q := by
  rcases tri p q with h | h | h
  · rw [cmpQ_lt h, cmpQ_lt (by grind)]
  · rw [cmpQ_eq h, cmpQ_eq (by rw [h])]
  · rw [cmpQ_gt h, cmpQ_gt (by grind)]
set_option maxRecDepth 100000 in
theorem mul_lt_pos {p q r : Rat} (h : p < q) (hr : 0 < r) : p * r < q * r := Rat.mul_lt_mul_of_pos_right h hr
set_option maxRecDepth 100000 in
theorem mul_lt_neg {p q r : Rat} (h : p < q) (hr : r < 0) : q * r < p * r := by
  have := mul_lt_pos h (r := -r) (by grind)
  grind
set_option maxRecDepth 100000 in
theorem cmpQ_mul (p q r : Rat) : cmpQ (p * r) (q * r) = cmpQ p q * cmpQ r 0 := by
  rcases tri r 0 with hr | hr | hr
  · rw [cmpQ_lt hr]
    rcases tri p q with h | h | h
    · rw [cmpQ_lt h, cmpQ_gt (mul_lt_neg h hr)]; rfl
    · rw [cmpQ_eq h, cmpQ_eq (by rw [h])]; rfl
    · rw [cmpQ_gt h, cmpQ_lt (mul_lt_neg h hr)]; rfl
  · rw [cmpQ_eq hr, Int.mul_zero, cmpQ_eq (by rw [hr, Rat.mul_zero, Rat.mul_zero])]
  · rw [cmpQ_gt hr, Int.mul_one]
    rcases tri p q with h | h | h
    · rw [cmpQ_lt h, cmpQ_lt (mul_lt_pos h hr)]
    · rw [cmpQ_eq h, cmpQ_eq (by rw [h])]
    · rw [cmpQ_gt h, cmpQ_gt (mul_lt_pos h hr)]
set_option maxRecDepth 100000 in
/-- the nine ways in which three numbers can lie -/
theorem cmpQ_three (p q r : Rat) : (cmpQ p q = -1 ∨ cmpQ p q = 0 ∨ cmpQ p q = 1) ∧ (cmpQ q r = -1 ∨ cmpQ q r = 0 ∨ cmpQ q r = 1) ∧ (cmpQ p r = -1 ∨ cmpQ p r = 0 ∨ cmpQ p r = 1) ∧
    (cmpQ p q ≤ 0 → cmpQ q r ≤ 0 → cmpQ p r ≤ 0) ∧ (0 ≤ cmpQ p q → 0 ≤ cmpQ q r → 0 ≤ cmpQ p r) := by
  rcases cmpQ_cases p q with ⟨h1, e1⟩ | ⟨h1, e1⟩ | ⟨h1, e1⟩ <;> rcases cmpQ_cases q r with ⟨h2, e2⟩ | ⟨h2, e2⟩ | ⟨h2, e2⟩ <;> rcases cmpQ_cases p r with ⟨h3, e3⟩ | ⟨h3, e3⟩ | ⟨h3, e3⟩ <;> rw [e1, e2, e3] <;>
    first | (refine ⟨?_, ?_, ?_, ?_, ?_⟩ <;> omega) | (exfalso; grind)
end Go.Proofs.Ytlcolmifmhdboaa
namespace Go.Proofs.Ytlcolmifmhdboaa
open Go.RowKit

set_option maxRecDepth 100000 in
theorem Fx.ok.drew {x : Fx} {w : World} (h : x.ok w) : x.ok w.drew := h.below ((Below.refl w.heap.size w).drew)
def lensB (vs : List Fx) : Prop := ∀ v ∈ vs, v.xs.length ≤ 9223372036854775807 ∧ v.ys.length ≤ 9223372036854775807
set_option maxRecDepth 100000 in
theorem lens_ok {w : World} {x : Fx} (h : x.ok w) : x.xs.length ≤ 9223372036854775807 ∧ x.ys.length ≤ 9223372036854775807 := ⟨h.num.len, h.den.len⟩
set_option maxRecDepth 100000 in
theorem addF_ok {x y : Fx} {p q : Rat} (hx : x.v) (hy : y.v) (ex : x.q = p) (ey : y.q = q) (h : Sz (p + q) 128 128) : addF x y = okS (p + q) := by
  rw [addF, if_pos ⟨hx, hy⟩, ex, ey]; exact frS_ok h
set_option maxRecDepth 100000 in
theorem mulF_ok {x y : Fx} {p q : Rat} (hx : x.v) (hy : y.v) (ex : x.q = p) (ey : y.q = q) (h : Sz (p * q) 128 128) : mulF x y = okS (p * q) := by
  rw [mulF, if_pos ⟨hx, hy⟩, ex, ey]; exact frS_ok h
set_option maxRecDepth 100000 in
theorem cmpF_ok {x y : Fx} {p q : Rat} {z : Int} (hx : x.v) (hy : y.v) (ex : x.q = p) (ey : y.q = q) (h : cmpQ p q = z) : cmpF x y = (z, 0) := by
  rw [cmpF, if_pos ⟨hx, hy⟩, ex, ey, h]
set_option maxRecDepth 100000 in
theorem subF_ok {x y : Fx} {p q : Rat} (hx : x.v) (hy : y.v) (ex : x.q = p) (ey : y.q = q) (h : Sz (p - q) 128 128) : subF x y = okS (p - q) := by
  rw [subF, if_pos ⟨hx, hy⟩, ex, ey]; exact frS_ok h
set_option maxRecDepth 100000 in
theorem Rp.zero {x : Fx} {q : Rat} (h : Rp x q) : nv x.xs = 0 ↔ q = 0 := by
  rw [h.n, nv_lim, Int.natAbs_eq_zero, Rat.num_eq_zero]
set_option maxRecDepth 100000 in
theorem quoF_ok {x y : Fx} {p q : Rat} (hx : x.v) (hy : Rp y q) (ex : x.q = p) (hv : y.v) (hq : q ≠ 0) (h : Sz (p / q) 128 128) : quoF x y = okS (p / q) := by
  rw [quoF, if_pos ⟨hx, hv⟩, if_neg (fun e => hq (hy.zero.1 e)), ex, hy.q]; exact frS_ok h
set_option maxRecDepth 100000 in
theorem redS_okS {x : Fx} (hv : x.v) : redS x = okS x.q := (redS_ok hv).1
set_option maxRecDepth 100000 in
theorem longB_no {vs : List Fx} (h : longB vs = false) : ∀ v ∈ vs, v.xs.length ≤ 24 ∧ v.ys.length ≤ 24 := by
  intro v hv
  unfold longB at h
  have := List.any_eq_false.1 h v hv
  simp at this
  exact this
end Go.Proofs.Ytlcolmifmhdboaa
namespace Go.Proofs.Ytlcolmifmhdboaa
open Go.RowKit

/-- both are valid, the first is not greater -/
def leF (x y : Fx) : Prop := x.v ∧ y.v ∧ x.q ≤ y.q
instance (x y : Fx) : Decidable (leF x y) := inferInstanceAs (Decidable (_ ∧ _ ∧ _))
set_option maxRecDepth 100000 in
theorem cmpQ_le (p q : Rat) : decide (cmpQ p q ≤ 0) = decide (p ≤ q) := by
  rcases cmpQ_cases p q with ⟨h, e⟩ | ⟨h, e⟩ | ⟨h, e⟩ <;> rw [e]
  · rw [decide_eq_true (Rat.le_of_lt h)]; rfl
  · rw [h, decide_eq_true Rat.le_refl]; rfl
  · rw [decide_eq_false (Rat.not_le.2 h)]; rfl
set_option maxHeartbeats 800000 in
set_option maxRecDepth 100000 in
theorem atmost_any (w : World) (x1 x2 : Fx) (b : Bool) (ok1 : x1.ok w) (ok2 : x2.ok w) (l1 : x1.xs.length ≤ 10000) (m1 : x1.ys.length ≤ 10000) (l2 : x2.xs.length ≤ 10000) (m2 : x2.ys.length ≤ 10000) (hb : decide (leF x1 x2) = b) :
    Calls Try.prog 79 #[x1.val, x2.val] w fun e w' => e = .returned (.bool b) ∧ Below w.heap.size w w' := by
  by_cases hv : x1.v ∧ x2.v
  · have HB : Hid (decide (cmpQ x1.q x2.q ≤ 0) = b) := Lib.hid (by
      rw [cmpQ_le, ← hb, decide_eq_decide, leF]
      exact ⟨fun h => ⟨hv.1, hv.2, h⟩, fun h => h.2.2⟩)
    have HC : Hid (cmpF x1 x2 = (cmpQ x1.q x2.q, 0)) := Lib.hid (by rw [cmpF, if_pos hv])
    generalize cmpQ x1.q x2.q = z at HB HC
    clear hb hv
    go_enter Try.func79, Try.ntmps79
    go_upto_region 1 with fail
    have bw := Below.refl w.heap.size w
    have a1 := (fa_alloc ok1).1
    have bb := (fa_alloc ok1).2
    have sz1 := size_box w (.cells #[.bool x1.b, .slice x1.A x1.xs.length x1.c, .slice x1.D x1.ys.length x1.d] 25)
    clear ok1
    generalize (w.alloc (.cells #[.bool x1.b, .slice x1.A x1.xs.length x1.c, .slice x1.D x1.ys.length x1.d] 25)) = wA at a1 bb sz1 ⊢
    try replace ok1 := ok1.below bb
    try replace ok2 := ok2.below bb
    try replace a1 := a1.below bb
    replace bw := below_on bw bb bw.size
    clear bb
    have a2 := (fa_alloc ok2).1
    have bb := (fa_alloc ok2).2
    have sz2 := size_box wA (.cells #[.bool x2.b, .slice x2.A x2.xs.length x2.c, .slice x2.D x2.ys.length x2.d] 25)
    rw [sz1] at a2 sz2
    clear ok2 sz1
    generalize (wA.alloc (.cells #[.bool x2.b, .slice x2.A x2.xs.length x2.c, .slice x2.D x2.ys.length x2.d] 25)) = wm at a2 bb sz2 ⊢
    try replace ok1 := ok1.below bb
    try replace ok2 := ok2.below bb
    try replace a1 := a1.below bb
    try replace a2 := a2.below bb
    replace bw := below_on bw bb bw.size
    clear bb
    clear sz2
    have ci0 := a1.c0
    have ci1 := a1.c1
    have ci2 := a1.c2
    have cj0 := a2.c0
    have cj1 := a2.c1
    have cj2 := a2.c2
    go_wp2_with fail
    clear ci0 ci1 ci2 cj0 cj1 cj2
    refine (fcmp_any _ x1 x2 ((z, (0 : Int))) a1.ok a2.ok l1 m1 l2 m2 HC.out).mono ?_
    rintro e wn ⟨rfl, bb⟩
    try replace a1 := a1.below bb
    try replace a2 := a2.below bb
    replace bw := below_on bw bb bw.size
    clear bb
    go_wp2_with fail
    go_ret
    exact ⟨ret_bool HB.out, bw⟩
  · have HB : Hid (false = b) := Lib.hid (by
      rw [← hb, decide_eq_false]
      exact fun h => hv ⟨h.1, h.2.1⟩)
    have HC : Hid (cmpF x1 x2 = (0, 1)) := Lib.hid (by rw [cmpF, if_neg hv])
    clear hb hv
    go_enter Try.func79, Try.ntmps79
    go_upto_region 1 with fail
    have bw := Below.refl w.heap.size w
    have a1 := (fa_alloc ok1).1
    have bb := (fa_alloc ok1).2
    have sz1 := size_box w (.cells #[.bool x1.b, .slice x1.A x1.xs.length x1.c, .slice x1.D x1.ys.length x1.d] 25)
    clear ok1
    generalize (w.alloc (.cells #[.bool x1.b, .slice x1.A x1.xs.length x1.c, .slice x1.D x1.ys.length x1.d] 25)) = wA at a1 bb sz1 ⊢
    try replace ok1 := ok1.below bb
    try replace ok2 := ok2.below bb
    try replace a1 := a1.below bb
    try replace a2 := a2.below bb
    replace bw := below_on bw bb bw.size
    clear bb
    have a2 := (fa_alloc ok2).1
    have bb := (fa_alloc ok2).2
    have sz2 := size_box wA (.cells #[.bool x2.b, .slice x2.A x2.xs.length x2.c, .slice x2.D x2.ys.length x2.d] 25)
    rw [sz1] at a2 sz2
    clear ok2 sz1
    generalize (wA.alloc (.cells #[.bool x2.b, .slice x2.A x2.xs.length x2.c, .slice x2.D x2.ys.length x2.d] 25)) = wm at a2 bb sz2 ⊢
    try replace ok1 := ok1.below bb
    try replace ok2 := ok2.below bb
    try replace a1 := a1.below bb
    try replace a2 := a2.below bb
    replace bw := below_on bw bb bw.size
    clear bb
    clear sz2
    have ci0 := a1.c0
    have ci1 := a1.c1
    have ci2 := a1.c2
    have cj0 := a2.c0
    have cj1 := a2.c1
    have cj2 := a2.c2
    go_wp2_with fail
    clear ci0 ci1 ci2 cj0 cj1 cj2
    refine (fcmp_any _ x1 x2 (((0 : Int), (1 : Int))) a1.ok a2.ok l1 m1 l2 m2 HC.out).mono ?_
    rintro e wn ⟨rfl, bb⟩
    try replace a1 := a1.below bb
    try replace a2 := a2.below bb
    replace bw := below_on bw bb bw.size
    clear bb
    go_wp2_with fail
    go_ret
    exact ⟨ret_bool HB.out, bw⟩
def Ix.v (a : Ix) : Prop := leF a.lo a.hi
instance (a : Ix) : Decidable a.v := inferInstanceAs (Decidable (leF _ _))
/-- few enough limbs -/
structure Ix.few (a : Ix) : Prop where
  l1 : a.lo.xs.length ≤ 10000
  m1 : a.lo.ys.length ≤ 10000
  l2 : a.hi.xs.length ≤ 10000
  m2 : a.hi.ys.length ≤ 10000
set_option maxHeartbeats 800000 in
set_option maxRecDepth 100000 in
theorem ivalid_any (w : World) (x1 : Ix) (b : Bool) (ok1 : x1.ok w) (f1 : x1.few) (hb : decide x1.v = b) :
    Calls Try.prog 46 #[x1.val] w fun e w' => e = .returned (.bool b) ∧ Below w.heap.size w w' := by
  go_enter Try.func46, Try.ntmps46
  go_upto_region 1 with fail
  have bw := Below.refl w.heap.size w
  have a1 := (ia_alloc ok1).1
  have bb := (ia_alloc ok1).2
  have sz1 := size_box w (.cells x1.cells 41)
  clear ok1
  generalize (w.alloc (.cells x1.cells 41)) = wm at a1 bb sz1 ⊢
  try replace ok1 := ok1.below bb
  try replace a1 := a1.below bb
  replace bw := below_on bw bb bw.size
  clear bb
  clear sz1
  have ci0 := a1.c0
  have ci1 := a1.c1
  have ci2 := a1.c2
  have ci3 := a1.c3
  have ci4 := a1.c4
  have ci5 := a1.c5
  go_wp2_with fail
  clear ci0 ci1 ci2 ci3 ci4 ci5
  refine (atmost_any _ x1.lo x1.hi b a1.ok.lo a1.ok.hi f1.l1 f1.m1 f1.l2 f1.m2 hb).mono ?_
  rintro e wn ⟨rfl, bb⟩
  try replace a1 := a1.below bb
  replace bw := below_on bw bb bw.size
  clear bb
  go_wp2_with fail
  go_ret
  exact ⟨rfl, bw⟩
set_option maxHeartbeats 800000 in
set_option maxRecDepth 100000 in
theorem ibetween_any (w : World) (x1 x2 : Fx) (S T : FS) (ok1 : x1.ok w) (ok2 : x2.ok w) (l1 : x1.xs.length ≤ 10000) (m1 : x1.ys.length ≤ 10000) (l2 : x2.xs.length ≤ 10000) (m2 : x2.ys.length ≤ 10000) (hs : redS x1 = S) (ht : redS x2 = T) :
    Calls Try.prog 82 #[x1.val, x2.val] w (IvlNew w S T) := by
  have HS := Lib.hid hs
  have HT := Lib.hid ht
  clear hs ht
  go_enter Try.func82, Try.ntmps82
  go_upto_region 1 with fail
  have bw := Below.refl w.heap.size w
  have a1 := (fa_alloc ok1).1
  have bb := (fa_alloc ok1).2
  have sz1 := size_box w (.cells x1.cells 25)
  clear ok1
  generalize (w.alloc (.cells x1.cells 25)) = wA at a1 bb sz1 ⊢
  try replace ok1 := ok1.below bb
  try replace ok2 := ok2.below bb
  try replace ok3 := ok3.below bb
  try replace ok4 := ok4.below bb
  try replace a1 := a1.below bb
  replace bw := below_on bw bb bw.size
  clear bb
  have a2 := (fa_alloc ok2).1
  have bb := (fa_alloc ok2).2
  have sz2 := size_box wA (.cells x2.cells 25)
  rw [sz1] at a2 sz2
  clear ok2 sz1
  generalize (wA.alloc (.cells x2.cells 25)) = wB at a2 bb sz2 ⊢
  try replace ok1 := ok1.below bb
  try replace ok2 := ok2.below bb
  try replace ok3 := ok3.below bb
  try replace ok4 := ok4.below bb
  try replace a1 := a1.below bb
  try replace a2 := a2.below bb
  replace bw := below_on bw bb bw.size
  clear bb
  have br := (zr_alloc wB).1
  have bb := (zr_alloc wB).2
  rw [sz2] at br
  clear sz2
  generalize (wB.alloc (.cells zcells 41)) = wm at br bb ⊢
  try replace a1 := a1.below bb
  try replace a2 := a2.below bb
  replace bw := below_on bw bb bw.size
  clear bb
  have ci0 := a1.c0
  have ci1 := a1.c1
  have ci2 := a1.c2
  go_wp2_with fail
  clear ci0 ci1 ci2
  refine (freduce_any _ x1 (S) a1.ok l1 m1 HS.out).mono ?_
  rintro e wn ⟨x3, rfl, hs3, ok3, bb⟩
  have HS3 := Lib.hid hs3
  clear hs3
  try replace br := br.below bb
  try replace a1 := a1.below bb
  try replace a2 := a2.below bb
  replace bw := below_on bw bb bw.size
  clear bb
  go_upto_region 2 with fail
  have a3 := (fa_alloc ok3).1
  have bb := (fa_alloc ok3).2
  clear ok3
  generalize (wn.alloc (.cells #[.bool x3.b, .slice x3.A x3.xs.length x3.c, .slice x3.D x3.ys.length x3.d] 25)) = wm at a3 bb ⊢
  try replace br := br.below bb
  try replace a1 := a1.below bb
  try replace a2 := a2.below bb
  try replace a3 := a3.below bb
  replace bw := below_on bw bb bw.size
  clear bb
  generalize wn.heap.size = g3 at a3 ⊢
  have ci0 := a2.c0
  have ci1 := a2.c1
  have ci2 := a2.c2
  go_wp2_with fail
  clear ci0 ci1 ci2
  refine (freduce_any _ x2 (T) a2.ok l2 m2 HT.out).mono ?_
  rintro e wn ⟨x4, rfl, hs4, ok4, bb⟩
  have HS4 := Lib.hid hs4
  clear hs4
  try replace br := br.below bb
  try replace a1 := a1.below bb
  try replace a2 := a2.below bb
  try replace a3 := a3.below bb
  replace bw := below_on bw bb bw.size
  clear bb
  go_upto_region 3 with fail
  have a4 := (fa_alloc ok4).1
  have bb := (fa_alloc ok4).2
  clear ok4
  generalize (wn.alloc (.cells #[.bool x4.b, .slice x4.A x4.xs.length x4.c, .slice x4.D x4.ys.length x4.d] 25)) = wm at a4 bb ⊢
  try replace br := br.below bb
  try replace a1 := a1.below bb
  try replace a2 := a2.below bb
  try replace a3 := a3.below bb
  try replace a4 := a4.below bb
  replace bw := below_on bw bb bw.size
  clear bb
  generalize wn.heap.size = g4 at a4 ⊢
  have ci0 := a3.c0
  have ci1 := a3.c1
  have ci2 := a3.c2
  have cj0 := a4.c0
  have cj1 := a4.c1
  have cj2 := a4.c2
  have r0 := br.cell 0
  have r1 := br.cell 1
  have r2 := br.cell 2
  have r3 := br.cell 3
  have r4 := br.cell 4
  have r5 := br.cell 5
  have rf0 := br.unf 0
  have rf1 := br.unf 1
  have rf2 := br.unf 2
  have rf3 := br.unf 3
  have rf4 := br.unf 4
  have rf5 := br.unf 5
  simp only [List.getElem?_toArray, List.getElem?_cons_succ, List.getElem?_cons_zero] at r0 r1 r2 r3 r4 r5
  go_wp2_with fail
  refine bodyPost_ret (v := (⟨x3, x4⟩ : Ix).val) (by simp [results, Try.results82, go_sem, r0, r1, r2, r3, r4, r5]) rfl ?_
  exact ⟨⟨x3, x4⟩, rfl, HS3.out, HS4.out, ⟨set6_ok a3.ok br noInt_z, set6_ok a4.ok br noInt_z⟩, set6_below bw (by omega)⟩
end Go.Proofs.Ytlcolmifmhdboaa
