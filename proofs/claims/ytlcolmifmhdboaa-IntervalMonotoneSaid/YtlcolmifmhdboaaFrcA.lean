/- The walks of drydockref02: size, Make. The walks of drydockref02: Int, Sign; the slices of fractions that long takes. What the laws of fractions share. The walk of fraction.Sum. Appending fractions onto a row of the call's own. -/
import Derived.Test.YtlcolmifmhdboaaRfF
import Derived.Test.YtlcolmifmhdboaaLwB
import Derived.Maps.AppendAt
namespace Go.Proofs.Ytlcolmifmhdboaa
open Go.RowKit

set_option maxRecDepth 100000 in
theorem frS_low {b : Bool} {n d : Nat} (hd : d ≠ 0) (ln : (lim n).length ≤ 2) (ld : (lim d).length ≤ 2) : frS (qv b n d) = ((lowS (qv b n d)).1, (lowS (qv b n d)).2.1, (lowS (qv b n d)).2.2, 0) := by
  rw [frS, if_neg, lowS]
  have h1 := lim_length_mono (Nat.div_le_self n (Nat.gcd n d))
  have h2 := lim_length_mono (Nat.div_le_self d (Nat.gcd n d))
  rw [bigQ, qv_abs hd, qv_den hd]
  omega
set_option maxRecDepth 100000 in
theorem wrapi_add {v : Int} (h0 : -9223372036854775808 ≤ v) (h : v < 0) : IntKind.i64.wrap (v + 1) = v + 1 := IntWalk.i64_in _ (by omega)
set_option maxRecDepth 100000 in
theorem wrapi_neg {v : Int} (h0 : -9223372036854775808 ≤ v) (h : v < 0) : IntKind.i64.wrap (-(v + 1)) = -(v + 1) := IntWalk.i64_in _ (by omega)
set_option maxRecDepth 100000 in
theorem wrapu_neg1 {v : Int} (h0 : -9223372036854775808 ≤ v) (h : v < 0) : IntKind.u64.wrap (-(v + 1)) = -(v + 1) := by rw [IntKind.wrap_u64]; omega
set_option maxRecDepth 100000 in
theorem wrapu_size {v : Int} (h0 : -9223372036854775808 ≤ v) (h : v < 0) : IntKind.u64.wrap (-(v + 1) + 1) = (v.natAbs : Int) := by rw [IntKind.wrap_u64]; omega
set_option maxRecDepth 100000 in
theorem rfsize_any (w : World) (v : Int) (h0 : -9223372036854775808 ≤ v) (h1 : v ≤ 9223372036854775807) : Calls Try.prog 102 #[.int .i64 v] w fun e w' => e = .returned (.int .u64 (v.natAbs : Int)) ∧ w = w' := by
  by_cases hv : v < 0
  · have hw1 := wrapi_add h0 hv
    have hw2 := wrapi_neg h0 hv
    have hw3 := wrapu_neg1 h0 hv
    have hw4 := wrapu_size h0 hv
    have hd : decide (v < 0) = true := decide_eq_true hv
    go_enter Try.func102, Try.ntmps102
    go_wp2_with fail
    go_ret
    exact ⟨rfl, rfl⟩
  · have hw := wrapu_pos (Int.not_lt.1 hv) h1
    have hd : decide (v < 0) = false := decide_eq_false hv
    go_enter Try.func102, Try.ntmps102
    go_wp2_with fail
    go_ret
    exact ⟨rfl, rfl⟩
set_option maxRecDepth 100000 in
set_option maxHeartbeats 1600000 in
theorem rfmake_any (w : World) (n d : Int) (S : Bool × List Nat × List Nat × Int) (n0 : -9223372036854775808 ≤ n) (n1 : n ≤ 9223372036854775807) (d0 : -9223372036854775808 ≤ d) (d1 : d ≤ 9223372036854775807) (hs : makeF n d = S) : Calls Try.prog 68 #[.int .i64 n, .int .i64 d] w (FracRes w S) := by
  have HS := Lib.hid hs
  clear hs
  by_cases hd : d = 0
  · have HD := Lib.hid hd
    have hdd : (d == 0) = true := by simpa using hd
    clear hd
    go_enter Try.func68, Try.ntmps68
    go_wp2_with fail
    have bw := (Below.refl w.heap.size w).alloc (Nat.le_refl _) (.cells #[.bool false, .slice none 0 0, .slice none 0 0] 25)
    have bk := bk3_new w
    generalize (w.alloc (.cells #[.bool false, .slice none 0 0, .slice none 0 0] 25)) = w1 at bw bk ⊢
    have tk := bk
    obtain ⟨k0, k1, k2, kf0, kf1, kf2, klt, kb⟩ := tk
    clear kb
    go_wp2_with fail
    refine bodyPost_ret (v := .tuple #[(Fx.nil : Fx).val, .int .i64 3]) (by simp [results, Try.results68, go_sem, k0, k1, k2]) rfl ?_
    rw [← HS.out, makeF, if_pos HD.out]
    exact ⟨Fx.nil, rfl, ⟨rfl, rfl, rfl⟩, Fx.nil_ok _, bw⟩
  · have HD : Hid (¬ d = 0) := hd
    have hdd : (d == 0) = false := by simpa using hd
    have ln := lim_len2 (m := n.natAbs) (by omega)
    have ld := lim_len2 (m := d.natAbs) (by omega)
    have lnn : (lim (nv (lim n.natAbs))).length ≤ 512 := by rw [nv_lim]; omega
    have ldd : (lim (nv (lim d.natAbs))).length ≤ 512 := by rw [nv_lim]; omega
    have ne : nv (lim d.natAbs) ≠ 0 := by rw [nv_lim]; omega
    have LNN := Lib.hid lnn
    have LDD := Lib.hid ldd
    have NE : Hid (nv (lim d.natAbs) ≠ 0) := ne
    clear hd lnn ldd ne
    go_enter Try.func68, Try.ntmps68
    go_wp2_with fail
    have bw := (Below.refl w.heap.size w).alloc (Nat.le_refl _) (.cells #[.bool false, .slice none 0 0, .slice none 0 0] 25)
    have bk := bk3_new w
    generalize (w.alloc (.cells #[.bool false, .slice none 0 0, .slice none 0 0] 25)) = w1 at bw bk ⊢
    go_wp2_with fail
    refine (rfsize_any w1 n n0 n1).mono ?_
    rintro e wn ⟨rfl, rfl⟩
    go_wp2_with fail
    refine (rmake_any _ n.natAbs (by omega)).mono ?_
    rintro e wn ⟨AN, cN, rfl, gn, bb⟩
    have na := gn.nt (lim_u32 _)
    clear gn
    try replace bx := bx.below bb
    try replace by_ := by_.below bb
    try replace bk := bk.below bb
    try replace okx := okx.below bb
    try replace oky := oky.below bb
    try replace ok1 := ok1.below bb
    try replace na := na.below bb
    try replace nb := nb.below bb
    try replace nc := nc.below bb
    try replace nd := nd.below bb
    try replace ne := ne.below bb
    replace bw := below_on bw bb bw.size
    clear bb
    go_wp2_with fail
    refine (rfsize_any wn d d0 d1).mono ?_
    rintro e wn ⟨rfl, rfl⟩
    go_wp2_with fail
    refine (rmake_any _ d.natAbs (by omega)).mono ?_
    rintro e wn ⟨AD, cD, rfl, gn, bb⟩
    have nb := gn.nt (lim_u32 _)
    clear gn
    try replace bx := bx.below bb
    try replace by_ := by_.below bb
    try replace bk := bk.below bb
    try replace okx := okx.below bb
    try replace oky := oky.below bb
    try replace ok1 := ok1.below bb
    try replace na := na.below bb
    try replace nb := nb.below bb
    try replace nc := nc.below bb
    try replace nd := nd.below bb
    try replace ne := ne.below bb
    replace bw := below_on bw bb bw.size
    clear bb
    go_wp2_with fail
    refine (rflowest_any _ (!(decide (n < 0) == decide (d < 0))) AN AD cN cD _ _ (lim n.natAbs) (lim d.natAbs) na nb rfl rfl NE.out (by omega) (by omega) LNN.out LDD.out).mono ?_
    rintro e wn ⟨x1, rfl, hs1, ok1, bb⟩
    have HS1 := Lib.hid hs1
    clear hs1
    try replace bx := bx.below bb
    try replace by_ := by_.below bb
    try replace bk := bk.below bb
    try replace okx := okx.below bb
    try replace oky := oky.below bb
    try replace ok1 := ok1.below bb
    try replace na := na.below bb
    try replace nb := nb.below bb
    try replace nc := nc.below bb
    try replace nd := nd.below bb
    try replace ne := ne.below bb
    replace bw := below_on bw bb bw.size
    clear bb
    have tk := bk
    obtain ⟨k0, k1, k2, kf0, kf1, kf2, klt, kb⟩ := tk
    clear kb
    go_wp2_with fail
    refine bodyPost_ret (v := .tuple #[(x1 : Fx).val, .int .i64 0]) (by simp [results, Try.results68, go_sem, k0, k1, k2]) rfl ?_
    have hS : S = ((lowS (qv (!(decide (n < 0) == decide (d < 0))) (nv (lim n.natAbs)) (nv (lim d.natAbs)))).1, (lowS (qv (!(decide (n < 0) == decide (d < 0))) (nv (lim n.natAbs)) (nv (lim d.natAbs)))).2.1, (lowS (qv (!(decide (n < 0) == decide (d < 0))) (nv (lim n.natAbs)) (nv (lim d.natAbs)))).2.2, 0) := by
      rw [← HS.out, makeF, if_neg HD.out, nv_lim, nv_lim, ← qv_divInt HD.out]
      exact frS_low (by have := HD.out; omega) (by omega) (by omega)
    rw [hS]
    exact ⟨x1, rfl, HS1.out, set3_ok ok1 bk rfl rfl rfl, set3g bw (by omega)⟩
end Go.Proofs.Ytlcolmifmhdboaa
namespace Go.Proofs.Ytlcolmifmhdboaa
open Go.RowKit

set_option maxRecDepth 100000 in
set_option maxHeartbeats 1600000 in
theorem rfint_any (w : World) (n : Int) (n0 : -9223372036854775808 ≤ n) (n1 : n ≤ 9223372036854775807) (hz : makeF n 1 = okS (Rat.divInt n 1)) : Calls Try.prog 51 #[.int .i64 n] w (FracNew w ((okS (Rat.divInt n 1)).1, (okS (Rat.divInt n 1)).2.1, (okS (Rat.divInt n 1)).2.2.1)) := by
  have HZ := Lib.hid hz
  clear hz
  go_enter Try.func51, Try.ntmps51
  go_wp2_with fail
  have bw := (Below.refl w.heap.size w).alloc (Nat.le_refl _) (.cells #[.bool false, .slice none 0 0, .slice none 0 0] 25)
  have bk := bk3_new w
  generalize (w.alloc (.cells #[.bool false, .slice none 0 0, .slice none 0 0] 25)) = w1 at bw bk ⊢
  refine (rfmake_any w1 n 1 _ n0 n1 (by omega) (by omega) HZ.out).mono ?_
  rintro e wn ⟨x1, rfl, hs1, ok1, bb⟩
  have HS1 := Lib.hid hs1
  clear hs1
  replace bk := bk.below bb
  replace bw := below_on bw bb bw.size
  clear bb
  go_upto_region 2 with fail
  have a1 := (fa_alloc ok1).1
  have bb := (fa_alloc ok1).2
  clear ok1
  generalize (wn.alloc (.cells #[.bool x1.b, .slice x1.A x1.xs.length x1.c, .slice x1.D x1.ys.length x1.d] 25)) = wm at a1 bb ⊢
  replace bk := bk.below bb
  replace bw := below_on bw bb bw.size
  clear bb
  generalize wn.heap.size = g1 at a1 ⊢
  have ci0 := a1.c0
  have ci1 := a1.c1
  have ci2 := a1.c2
  have tk := bk
  obtain ⟨k0, k1, k2, kf0, kf1, kf2, klt, kb⟩ := tk
  clear kb
  go_wp2_with fail
  refine bodyPost_ret (v := x1.val) (by simp [results, Try.results51, go_sem, k0, k1, k2]) rfl ?_
  exact ⟨x1, rfl, HS1.out, set3_ok a1.ok bk rfl rfl rfl, set3g bw (Nat.le_refl _)⟩
set_option maxRecDepth 100000 in
theorem makeF_int {n : Int} (n0 : -9223372036854775808 ≤ n) (n1 : n ≤ 9223372036854775807) : makeF n 1 = okS (Rat.divInt n 1) := by
  rw [makeF, if_neg (by omega)]
  have h : Sz (Rat.divInt n 1) 2 2 := by
    rw [← qv_divInt (by omega)]
    exact Sz.of_qv (by omega) (lim_len2 (by omega)) (lim_len2 (by omega))
  exact frS_ok (h.mono (by omega) (by omega))
set_option maxRecDepth 100000 in
theorem rfint_zero (w : World) : Calls Try.prog 51 #[.int .i64 0] w fun e w' => ∃ y : Fx, e = .returned y.val ∧ Rp y 0 ∧ y.ok w' ∧ Below w.heap.size w w' := by
  refine (rfint_any w 0 (by omega) (by omega) (makeF_int (by omega) (by omega))).mono ?_
  rintro e w' ⟨y, h1, h2, h3, h4⟩
  have h := Rp.of (q := Rat.divInt 0 1) h2
  rw [show Rat.divInt 0 1 = 0 from rfl] at h
  exact ⟨y, h1, h, h3, h4⟩
set_option maxRecDepth 100000 in
theorem below_undrew {w w' : World} (h : Below w.drew.heap.size w.drew w') : Below w.heap.size w w' := ⟨h.os, h.tape, h.output, h.size, h.block⟩
set_option maxRecDepth 100000 in
theorem sz_zero : Sz 0 128 128 := by constructor <;> (rw [lim_length_le]; decide)
set_option maxRecDepth 100000 in
theorem rdf1 (w : World) (x : Fx) : RdF (w.alloc (.cells #[.bool x.b, .slice x.A x.xs.length x.c, .slice x.D x.ys.length x.d] 25)) (some ⟨w.heap.size, 0, none⟩) [x] := fun _ => by
  refine ⟨_, rfl, by simp, fun k hk => ?_⟩
  match k, hk with
  | 0, _ => exact ⟨by simp [go_sem, Addr.add], by simp [go_sem, Addr.add], by simp [go_sem, Addr.add]⟩
set_option maxRecDepth 100000 in
theorem rdf2 (w : World) (x y : Fx) : RdF (w.alloc (.cells #[.bool x.b, .slice x.A x.xs.length x.c, .slice x.D x.ys.length x.d, .bool y.b, .slice y.A y.xs.length y.c, .slice y.D y.ys.length y.d] 25)) (some ⟨w.heap.size, 0, none⟩) [x, y] := fun _ => by
  refine ⟨_, rfl, by simp, fun k hk => ?_⟩
  match k, hk with
  | 0, _ => exact ⟨by simp [go_sem, Addr.add], by simp [go_sem, Addr.add], by simp [go_sem, Addr.add]⟩
  | 1, _ => exact ⟨by simp [go_sem, Addr.add], by simp [go_sem, Addr.add], by simp [go_sem, Addr.add]⟩
set_option maxRecDepth 100000 in
theorem rdf3 (w : World) (x y z : Fx) : RdF (w.alloc (.cells #[.bool x.b, .slice x.A x.xs.length x.c, .slice x.D x.ys.length x.d, .bool y.b, .slice y.A y.xs.length y.c, .slice y.D y.ys.length y.d, .bool z.b, .slice z.A z.xs.length z.c, .slice z.D z.ys.length z.d] 25)) (some ⟨w.heap.size, 0, none⟩) [x, y, z] := fun _ => by
  refine ⟨_, rfl, by simp, fun k hk => ?_⟩
  match k, hk with
  | 0, _ => exact ⟨by simp [go_sem, Addr.add], by simp [go_sem, Addr.add], by simp [go_sem, Addr.add]⟩
  | 1, _ => exact ⟨by simp [go_sem, Addr.add], by simp [go_sem, Addr.add], by simp [go_sem, Addr.add]⟩
  | 2, _ => exact ⟨by simp [go_sem, Addr.add], by simp [go_sem, Addr.add], by simp [go_sem, Addr.add]⟩
end Go.Proofs.Ytlcolmifmhdboaa
namespace Go.Proofs.Ytlcolmifmhdboaa
open Go.RowKit

set_option maxRecDepth 100000 in
theorem Fx.ok.drew {x : Fx} {w : World} (h : x.ok w) : x.ok w.drew := h.below ((Below.refl w.heap.size w).drew)
def lensB (vs : List Fx) : Prop := ∀ v ∈ vs, v.xs.length ≤ 9223372036854775807 ∧ v.ys.length ≤ 9223372036854775807
set_option maxRecDepth 100000 in
theorem lens_ok {w : World} {x : Fx} (h : x.ok w) : x.xs.length ≤ 9223372036854775807 ∧ x.ys.length ≤ 9223372036854775807 := ⟨h.num.len, h.den.len⟩
set_option maxRecDepth 100000 in
theorem addF_ok {x y : Fx} {p q : Rat} (hx : x.v) (hy : y.v) (ex : x.q = p) (ey : y.q = q) (h : Sz (p + q) 128 128) : addF x y = okS (p + q) := by
  rw [addF, if_pos ⟨hx, hy⟩, ex, ey]; exact frS_ok h
set_option maxRecDepth 100000 in
theorem mulF_ok {x y : Fx} {p q : Rat} (hx : x.v) (hy : y.v) (ex : x.q = p) (ey : y.q = q) (h : Sz (p * q) 128 128) : mulF x y = okS (p * q) := by
  rw [mulF, if_pos ⟨hx, hy⟩, ex, ey]; exact frS_ok h
set_option maxRecDepth 100000 in
theorem cmpF_ok {x y : Fx} {p q : Rat} {z : Int} (hx : x.v) (hy : y.v) (ex : x.q = p) (ey : y.q = q) (h : cmpQ p q = z) : cmpF x y = (z, 0) := by
  rw [cmpF, if_pos ⟨hx, hy⟩, ex, ey, h]
set_option maxRecDepth 100000 in
theorem subF_ok {x y : Fx} {p q : Rat} (hx : x.v) (hy : y.v) (ex : x.q = p) (ey : y.q = q) (h : Sz (p - q) 128 128) : subF x y = okS (p - q) := by
  rw [subF, if_pos ⟨hx, hy⟩, ex, ey]; exact frS_ok h
set_option maxRecDepth 100000 in
theorem Rp.zero {x : Fx} {q : Rat} (h : Rp x q) : nv x.xs = 0 ↔ q = 0 := by
  rw [h.n, nv_lim, Int.natAbs_eq_zero, Rat.num_eq_zero]
set_option maxRecDepth 100000 in
theorem quoF_ok {x y : Fx} {p q : Rat} (hx : x.v) (hy : Rp y q) (ex : x.q = p) (hv : y.v) (hq : q ≠ 0) (h : Sz (p / q) 128 128) : quoF x y = okS (p / q) := by
  rw [quoF, if_pos ⟨hx, hv⟩, if_neg (fun e => hq (hy.zero.1 e)), ex, hy.q]; exact frS_ok h
set_option maxRecDepth 100000 in
theorem redS_okS {x : Fx} (hv : x.v) : redS x = okS x.q := (redS_ok hv).1
set_option maxRecDepth 100000 in
theorem longB_no {vs : List Fx} (h : longB vs = false) : ∀ v ∈ vs, v.xs.length ≤ 24 ∧ v.ys.length ≤ 24 := by
  intro v hv
  unfold longB at h
  have := List.any_eq_false.1 h v hv
  simp at this
  exact this
end Go.Proofs.Ytlcolmifmhdboaa
namespace Go.Proofs.Ytlcolmifmhdboaa
open Go.RowKit

/-- what Sum reckons from the sum q on -/
def sumS : List Fx → Rat → Bool × List Nat × List Nat × Int
  | [], q => okS q
  | x :: vs, q => if x.v then (if bigQ (q + x.q) then errF 2 else sumS vs (q + x.q)) else errF 1
set_option maxRecDepth 100000 in
theorem RdF.below {w w' : World} {A : Option Addr} {vs : List Fx} (h : RdF w A vs) (hb : Below w.heap.size w w') : RdF w' A vs := fun hn => by
  obtain ⟨ad, e, hl, hc⟩ := h hn
  refine ⟨ad, e, Nat.lt_of_lt_of_le hl hb.size, fun k hk => ?_⟩
  obtain ⟨h0, h1, h2⟩ := hc k hk
  have e2 : (ad.add (k * 3)).block = ad.block := block_of_add _ _
  exact ⟨(hb.cell (p := ad.add (k * 3)) (by rw [e2]; exact hl)).trans h0, (hb.cell (p := ⟨(ad.add (k * 3)).block, (ad.add (k * 3)).off + 1, none⟩) (by show (ad.add (k * 3)).block < _; rw [e2]; exact hl)).trans h1, (hb.cell (p := ⟨(ad.add (k * 3)).block, (ad.add (k * 3)).off + 2, none⟩) (by show (ad.add (k * 3)).block < _; rw [e2]; exact hl)).trans h2⟩
/-- the elements hold numbers -/
def OkF (w : World) (vs : List Fx) : Prop := ∀ v ∈ vs, v.ok w ∧ v.xs.length ≤ 10000 ∧ v.ys.length ≤ 10000
set_option maxRecDepth 100000 in
theorem OkF.below {w w' : World} {vs : List Fx} (h : OkF w vs) (hb : Below w.heap.size w w') : OkF w' vs := fun v hv => ⟨(h v hv).1.below hb, (h v hv).2⟩
set_option maxRecDepth 100000 in
theorem sumS_step {vs : List Fx} {k : Nat} (h : k < vs.length) (q : Rat) : sumS (vs.drop k) q = if vs[k].v then (if bigQ (q + vs[k].q) then errF 2 else sumS (vs.drop (k + 1)) (q + vs[k].q)) else errF 1 := by
  rw [List.drop_eq_getElem_cons h, sumS]
set_option maxRecDepth 100000 in
theorem addF_err {x y : Fx} {q : Rat} (_hx : x.v) (_ex : x.q = q) (h : ¬ y.v) : addF x y = errF 1 := by rw [addF, if_neg (fun e => h e.2)]
set_option maxRecDepth 100000 in
theorem addF_big {x y : Fx} {q : Rat} (hx : x.v) (hy : y.v) (ex : x.q = q) (h : bigQ (q + y.q)) : addF x y = errF 2 := by
  rw [addF, if_pos ⟨hx, hy⟩, ex, frS, if_pos h]; rfl
set_option maxRecDepth 100000 in
theorem Sz.of_big {q : Rat} (h : ¬ bigQ q) : Sz q 128 128 := by
  rw [bigQ] at h
  constructor <;> omega
set_option maxRecDepth 100000 in
theorem fa_build' {w : World} {b : Bool} {A D : Option Addr} {c d n m : Nat} {xs ys : List Nat} (hA : Nt w A c xs) (hD : Nt w D d ys) (hn : n = xs.length) (hm : m = ys.length) : ∃ x : Fx, (x.b = b ∧ x.xs = xs ∧ x.ys = ys) ∧ Fa (w.alloc (.cells #[.bool b, .slice A n c, .slice D m d] 25)) w.heap.size x ∧ Below w.heap.size w (w.alloc (.cells #[.bool b, .slice A n c, .slice D m d] 25)) := by
  subst hn hm
  have h : (⟨b, A, c, xs, D, d, ys⟩ : Fx).ok w := ⟨hA, hD⟩
  exact ⟨⟨b, A, c, xs, D, d, ys⟩, ⟨rfl, rfl, rfl⟩, (fa_alloc h).1, (fa_alloc h).2⟩
end Go.Proofs.Ytlcolmifmhdboaa
namespace Go.Proofs.Ytlcolmifmhdboaa
open Go.RowKit

def fcells : List Fx → List Value
  | [] => []
  | v :: vs => .bool v.b :: .slice v.A v.xs.length v.c :: .slice v.D v.ys.length v.d :: fcells vs
set_option maxRecDepth 100000 in
theorem fcells_len (vs : List Fx) : (fcells vs).length = vs.length * 3 := by
  induction vs with
  | nil => rfl
  | cons v vs ih => rw [fcells]; simp only [List.length_cons, ih]; omega
set_option maxRecDepth 100000 in
theorem fcells_append (a b : List Fx) : fcells (a ++ b) = fcells a ++ fcells b := by
  induction a with
  | nil => rfl
  | cons v a ih => rw [List.cons_append, fcells, fcells, ih]; rfl
set_option maxRecDepth 100000 in
theorem fcells_get (vs : List Fx) : ∀ k (hk : k < vs.length), (fcells vs)[k * 3]? = some (.bool vs[k].b) ∧ (fcells vs)[k * 3 + 1]? = some (.slice vs[k].A vs[k].xs.length vs[k].c) ∧ (fcells vs)[k * 3 + 2]? = some (.slice vs[k].D vs[k].ys.length vs[k].d) := by
  induction vs with
  | nil => intro k hk; simp at hk
  | cons v vs ih =>
    intro k hk
    cases k with
    | zero => exact ⟨rfl, rfl, rfl⟩
    | succ k =>
      have h := ih k (by simpa using hk)
      have e : (k + 1) * 3 = k * 3 + 1 + 1 + 1 := by omega
      rw [fcells, e]
      simp only [List.getElem?_cons_succ, List.getElem_cons_succ]
      exact h
set_option maxRecDepth 100000 in
/-- where a cell of such a row lies -/
theorem fcells_at (vs : List Fx) (j : Nat) (u : Value) (h : (fcells vs)[j]? = some u) : ∃ k, ∃ hk : k < vs.length, (j = k * 3 ∧ u = .bool vs[k].b) ∨ (j = k * 3 + 1 ∧ u = .slice vs[k].A vs[k].xs.length vs[k].c) ∨ (j = k * 3 + 2 ∧ u = .slice vs[k].D vs[k].ys.length vs[k].d) := by
  have hj : j < vs.length * 3 := by
    rcases Nat.lt_or_ge j (vs.length * 3) with h1 | h1
    · exact h1
    · rw [List.getElem?_eq_none (by rw [fcells_len]; exact h1)] at h; cases h
  have hk : j / 3 < vs.length := by omega
  obtain ⟨h0, h1, h2⟩ := fcells_get vs (j / 3) hk
  refine ⟨j / 3, hk, ?_⟩
  have hm : j % 3 = 0 ∨ j % 3 = 1 ∨ j % 3 = 2 := by omega
  rcases hm with e | e | e
  · left
    have ej : j = j / 3 * 3 := by omega
    rw [ej] at h
    exact ⟨ej, Option.some.inj (h.symm.trans h0)⟩
  · right; left
    have ej : j = j / 3 * 3 + 1 := by omega
    rw [ej] at h
    exact ⟨ej, Option.some.inj (h.symm.trans h1)⟩
  · right; right
    have ej : j = j / 3 * 3 + 2 := by omega
    rw [ej] at h
    exact ⟨ej, Option.some.inj (h.symm.trans h2)⟩
set_option maxRecDepth 100000 in
theorem fcells_one (vs : List Fx) : ∀ u ∈ fcells vs, u.oneCell' = true := by
  induction vs with
  | nil => intro u hu; cases hu
  | cons v vs ih =>
    intro u hu
    rw [fcells] at hu
    simp only [List.mem_cons] at hu
    rcases hu with rfl | rfl | rfl | hu
    · rfl
    · rfl
    · rfl
    · exact ih u hu
/-- a row of fractions of the call's own -/
def Fr (w : World) (B : Nat) (A : Option Addr) (c : Nat) (vs : List Fx) : Prop := World.ownsRow w B 25 3 (.slice A vs.length c) vs.length (fcells vs)
set_option maxRecDepth 100000 in
theorem add_mk (g j : Nat) : (⟨g, 0, none⟩ : Addr).add j = ⟨g, j, none⟩ := by
  unfold Addr.add
  split
  · rename_i h; rw [h]
  · simp
set_option maxRecDepth 100000 in
theorem Fr.rd {w : World} {B : Nat} {A : Option Addr} {c : Nat} {vs : List Fx} (h : Fr w B A c vs) : RdF w A vs := fun hn => by
  have h' := h
  rcases h.2 with ⟨_, h0⟩ | ⟨g, cap, cur, hv, _, hg, _⟩
  · omega
  · simp only [Value.slice.injEq] at hv
    obtain ⟨rfl, _, rfl⟩ := hv
    refine ⟨_, rfl, ?_, fun k hk => ?_⟩
    · exact (Array.getElem?_eq_some_iff.1 hg).1
    · obtain ⟨h0, h1, h2⟩ := fcells_get vs k hk
      have hc := fun j hj => World.ownsRow.cellAt h' j hj
      rw [add_mk]
      exact ⟨(hc (k * 3) (by omega)).trans h0, (hc (k * 3 + 1) (by omega)).trans h1, (hc (k * 3 + 2) (by omega)).trans h2⟩
set_option maxRecDepth 100000 in
theorem Fr.below {w w' : World} {B : Nat} {A : Option Addr} {c : Nat} {vs : List Fx} (h : Fr w B A c vs) (hb : Below w.heap.size w w') : Fr w' B A c vs :=
  World.ownsRow.kept h (w' := w') (row := none) ⟨hb.os, hb.tape, hb.output, hb.size, fun k hk _ => hb.block k hk⟩ (by
    cases A with
    | none => exact .inl rfl
    | some ad => exact .inr (by simp [Value.ownBlock]))
set_option maxRecDepth 100000 in
theorem fr_lit (w : World) (B : Nat) (hB : B ≤ w.heap.size) : Fr (w.alloc (.cells #[] 25)) B (some ⟨w.heap.size, 0, none⟩) 0 [] :=
  World.ownsRow_lit (e := 25) (size := 3) (base := B) w #[] 0 hB (by simp [maxLen]) rfl
set_option maxRecDepth 100000 in
theorem frac_info : ∃ i z, Try.prog.info? 25 = some i ∧ i.zero = some z ∧ i.size = 3 ∧ z.cells.size = 3 ∧ i.bytes ≤ 1000 := by
  have h : (Try.prog.info? 25).any (fun i => i.zero.any (fun z => decide (z.cells.size = 3)) && decide (i.size = 3) && decide (i.bytes ≤ 1000)) = true := by kernel_rfl
  cases hi : Try.prog.info? 25 with
  | none => rw [hi] at h; cases h
  | some i =>
    rw [hi] at h
    cases hz : i.zero with
    | none => simp [hz] at h
    | some z =>
      simp [hz] at h
      exact ⟨i, z, rfl, hz, h.1.2, h.1.1, h.2⟩
set_option maxRecDepth 100000 in
theorem run_append_frac (w : World) {B c : Nat} {A : Option Addr} {xs : List Fx} (hown : Fr w B A c xs) (A2 : Option Addr) (c2 : Nat) (ys : List Fx) (hr : RdF w A2 ys) (hmax : xs.length + ys.length ≤ 1000) (hbase : B ≤ w.heap.size) :
    ∃ A' c' w', (Builtin.append_ #[62, 62] 62 #[.slice A xs.length c, .slice A2 ys.length c2]).run Try.prog w = .ok (.slice A' (xs.length + ys.length) c') w' ∧ Fr w' B A' c' (xs ++ ys) ∧ Below B w w' ∧ w.grownBy w' (A.map (·.block)) ∧ (A'.map (·.block) = A.map (·.block) ∨ A'.map (·.block) = some w.heap.size) := by
  obtain ⟨i, z, hi, hz, hsize, hzs, hby⟩ := frac_info
  have hAb : ∀ k, A.map (·.block) = some k → B ≤ k := by
    intro k hk
    rcases hown.2 with ⟨hv, _⟩ | ⟨g, cap, cur, hv, hb, _⟩
    · simp only [Value.slice.injEq] at hv
      obtain ⟨rfl, _, _⟩ := hv
      cases hk
    · simp only [Value.slice.injEq] at hv
      obtain ⟨rfl, _, rfl⟩ := hv
      simp at hk; omega
  have hob : (Value.slice A xs.length c).ownBlock = A.map (·.block) := by cases A <;> rfl
  cases A2 with
  | none =>
    have hy : ys = [] := by
      rcases Nat.eq_zero_or_pos ys.length with h0 | h0
      · exact List.eq_nil_of_length_eq_zero h0
      · obtain ⟨ad, h, _⟩ := hr h0; cases h
    subst hy
    refine ⟨A, c, w, ?_, by rw [List.append_nil]; exact hown, Below.refl _ _, World.grownBy.refl _ _, .inl rfl⟩
    rcases hown.2 with ⟨h', hn⟩ | ⟨g, cap, cur, h', _, _, hnc, _⟩
    · simp only [Value.slice.injEq] at h'
      obtain ⟨rfl, _, rfl⟩ := h'
      simp [Builtin.append_, run_underlying Try.underlying62, sizeOf, typeInfo, hi, Builtin.lenOf, Builtin.firstCells, hn]
    · simp only [Value.slice.injEq] at h'
      obtain ⟨rfl, _, rfl⟩ := h'
      simp [Builtin.append_, run_underlying Try.underlying62, sizeOf, typeInfo, hi, Builtin.lenOf, Builtin.firstCells, hnc, storeCells]
  | some ad =>
    have hnews : ∀ j u, (fcells ys)[j]? = some u → w.cell? (ad.add j) = some u := by
      intro j u hu
      obtain ⟨k, hk, hcase⟩ := fcells_at ys j u hu
      obtain ⟨ad', e', _, hc⟩ := hr (by omega)
      injection e' with e'
      subst e'
      obtain ⟨h0, h1, h2⟩ := hc k hk
      have hoff : (ad.add (k * 3)).off = ad.off + k * 3 := by
        unfold Addr.add
        split
        · rename_i h0; rw [h0]; rfl
        · rfl
      rcases hcase with ⟨rfl, rfl⟩ | ⟨rfl, rfl⟩ | ⟨rfl, rfl⟩
      · exact h0
      · rw [show ad.add (k * 3 + 1) = ⟨(ad.add (k * 3)).block, (ad.add (k * 3)).off + 1, none⟩ from by rw [block_of_add, hoff]; exact if_neg (by omega)]
        exact h1
      · rw [show ad.add (k * 3 + 2) = ⟨(ad.add (k * 3)).block, (ad.add (k * 3)).off + 2, none⟩ from by rw [block_of_add, hoff]; exact if_neg (by omega)]
        exact h2
    obtain ⟨v', w', hrun, hown', hg, _, hat⟩ := run_append_own_at (P := Try.prog) w B 62 62 25 i z 3 i.bytes Try.underlying62 hi hz hsize rfl hzs (by omega) (.slice A xs.length c) xs.length (fcells xs) hown ad ys.length c2 (fcells ys) (fcells_len ys) hnews
      (fcells_one ys) (by simp only [maxLen]; omega) (by have := Nat.mul_le_mul hmax hby; omega) hbase
    have hform : ∃ A' c', v' = .slice A' (xs.length + ys.length) c' := by
      rcases hown'.2 with ⟨rfl, hn⟩ | ⟨g, cap, cur, rfl, _⟩
      · exact ⟨none, 0, by rw [hn]⟩
      · exact ⟨_, _, rfl⟩
    obtain ⟨A', c', rfl⟩ := hform
    have hob' : (Value.slice A' (xs.length + ys.length) c').ownBlock = A'.map (·.block) := by cases A' <;> rfl
    rw [hob, hob'] at hat
    rw [hob] at hg
    refine ⟨A', c', w', hrun, ?_, (Below.refl _ _).grown hg hbase hAb, hg, hat⟩
    unfold Fr
    rw [List.length_append, fcells_append]
    exact hown'
set_option maxRecDepth 100000 in
/-- append at a step of a region that draws its order -/
theorem step_append_frac (w : World) {ops : Array Oper} {o : Oper} {a : Act} {K : Act → World → Prop} {Q : Exit → Act → World → Prop} {X : Prop} (hgd : o.guard = none) (s x : Operand)
    (ho : o.op = .call { callee := .builtin .append, args := #[s, x], argTypes := #[62, 62] }) (hty : o.type = 62)
    {B c n : Nat} {A : Option Addr} {xs : List Fx} (hs : a.eval s = .slice A n c) (hn : n = xs.length) (hown : Fr w B A c xs)
    (A2 : Option Addr) (m c2 : Nat) (ys : List Fx) (hx : a.eval x = .slice A2 m c2) (hm : m = ys.length) (hr : RdF w A2 ys) (hmax : n + m ≤ 1000) (hbase : B ≤ w.heap.size)
    (h : ∀ A' c' w', Fr w' B A' c' (xs ++ ys) → Below B w w' → w.grownBy w' (A.map (·.block)) → (A'.map (·.block) = A.map (·.block) ∨ A'.map (·.block) = some w.heap.size) → K (a.put o.dst (.slice A' (n + m) c')) w') :
    if Region.wanted o (yielded ops a.tmps) = true then Oper.wp Try.prog o a w K Q else X := by
  have hw : Region.wanted o (yielded ops a.tmps) = true := by simp [Region.wanted, hgd]
  rw [if_pos hw]
  subst hn hm
  obtain ⟨A', c', w', hrun, h1, h3, h4, h5⟩ := run_append_frac w hown A2 c2 ys hr hmax hbase
  unfold Oper.wp execOp
  simp only [ho, hty, resolve, invoke, builtin, Sem.run_bind, Sem.run_pure, Result.andThen_ok, List.map_toArray, List.map_cons, List.map_nil, hs, hx, hrun]
  exact h A' c' w' h1 h3 h4 h5
set_option maxRecDepth 100000 in
theorem Bk3.grown {w w' : World} {G : Nat} {v0 v1 v2 : Value} {row : Option Nat} (h : Bk3 w G v0 v1 v2) (hg : w.grownBy w' row) (hne : some G ≠ row) : Bk3 w' G v0 v1 v2 := by
  have hb : w'.heap[G]? = w.heap[G]? := hg.block G h.lt hne
  refine ⟨hg.cell h.c0 hne, hg.cell h.c1 hne, hg.cell h.c2 hne, ?_, ?_, ?_, Nat.lt_of_lt_of_le h.lt hg.size, by rw [hb]; exact h.blk⟩
  · rw [← h.f0]; unfold World.frozen?; rw [hb]
  · rw [← h.f1]; unfold World.frozen?; rw [hb]
  · rw [← h.f2]; unfold World.frozen?; rw [hb]
set_option maxRecDepth 100000 in
theorem Fr.lt {w : World} {B : Nat} {A : Option Addr} {c : Nat} {vs : List Fx} (h : Fr w B A c vs) : ∀ k, A.map (·.block) = some k → B ≤ k ∧ k < w.heap.size := by
  intro k hk
  rcases h.2 with ⟨hv, _⟩ | ⟨g, cap, cur, hv, hb, hg, _⟩
  · simp only [Value.slice.injEq] at hv
    obtain ⟨rfl, _, _⟩ := hv
    cases hk
  · simp only [Value.slice.injEq] at hv
    obtain ⟨rfl, _, rfl⟩ := hv
    simp at hk
    subst hk
    exact ⟨hb, (Array.getElem?_eq_some_iff.1 hg).1⟩
set_option maxRecDepth 100000 in
theorem add_add3 (ad : Addr) (k i : Nat) : (ad.add (k * 3)).add (i * 3) = ad.add ((k + i) * 3) ∨ i = 0 := by
  rcases Nat.eq_zero_or_pos i with h | h
  · exact .inr h
  · left
    have ho : (ad.add (k * 3)).off = ad.off + k * 3 := by
      unfold Addr.add
      split
      · rename_i h0; rw [h0]; rfl
      · rfl
    rw [show ad.add ((k + i) * 3) = ⟨ad.block, ad.off + (k + i) * 3, none⟩ from if_neg (by omega),
      show (ad.add (k * 3)).add (i * 3) = ⟨(ad.add (k * 3)).block, (ad.add (k * 3)).off + i * 3, none⟩ from if_neg (by omega), block_of_add, ho, Nat.add_assoc, Nat.add_mul]
set_option maxRecDepth 100000 in
theorem RdF.take {w : World} {A : Option Addr} {vs : List Fx} (h : RdF w A vs) (k : Nat) : RdF w A (vs.take k) := fun hn => by
  obtain ⟨ad, e, hl, hc⟩ := h (by simp at hn; omega)
  refine ⟨ad, e, hl, fun i hi => ?_⟩
  rw [List.getElem_take]
  exact hc i (by simp at hi; omega)
set_option maxRecDepth 100000 in
theorem RdF.drop {w : World} {ad : Addr} {vs : List Fx} (h : RdF w (some ad) vs) (k : Nat) : RdF w (some (ad.add (k * 3))) (vs.drop k) := fun hn => by
  have hk : k < vs.length := by simp at hn; omega
  obtain ⟨ad', e, hl, hc⟩ := h (by omega)
  injection e with e
  subst e
  refine ⟨_, rfl, by rw [block_of_add]; exact hl, fun i hi => ?_⟩
  have hki : k + i < vs.length := by simp at hi; omega
  have h1 := hc (k + i) hki
  rw [List.getElem_drop]
  rcases add_add3 ad k i with e | rfl
  · rw [e]; exact h1
  · rw [show (ad.add (k * 3)).add (0 * 3) = ad.add (k * 3) from by rw [Nat.zero_mul]; exact if_pos rfl]; exact h1
end Go.Proofs.Ytlcolmifmhdboaa
