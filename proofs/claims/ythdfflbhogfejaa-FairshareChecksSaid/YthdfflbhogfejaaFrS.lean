/- The walks of drydockref02: size, Make. The walks of drydockref02: Int, Sign; the slices of fractions that long takes. The order of rational numbers, as Cmp tells it. No program in sight. What the laws of fractions share. The walk of fraction.Sum. -/
import Derived.Test.YthdfflbhogfejaaRfF
import Derived.Test.YthdfflbhogfejaaFrG
import Derived.Test.YthdfflbhogfejaaFrD
namespace Go.Proofs.Ythdfflbhogfejaa
set_option maxRecDepth 100000
open Go.RowKit

theorem frS_low {b : Bool} {n d : Nat} (hd : d ≠ 0) (ln : (lim n).length ≤ 2) (ld : (lim d).length ≤ 2) : frS (qv b n d) = ((lowS (qv b n d)).1, (lowS (qv b n d)).2.1, (lowS (qv b n d)).2.2, 0) := by
  rw [frS, if_neg, lowS]
  have h1 := lim_length_mono (Nat.div_le_self n (Nat.gcd n d))
  have h2 := lim_length_mono (Nat.div_le_self d (Nat.gcd n d))
  rw [bigQ, qv_abs hd, qv_den hd]
  omega
theorem wrapi_add {v : Int} (h0 : -9223372036854775808 ≤ v) (h : v < 0) : IntKind.i64.wrap (v + 1) = v + 1 := IntWalk.i64_in _ (by omega)
theorem wrapi_neg {v : Int} (h0 : -9223372036854775808 ≤ v) (h : v < 0) : IntKind.i64.wrap (-(v + 1)) = -(v + 1) := IntWalk.i64_in _ (by omega)
theorem wrapu_neg1 {v : Int} (h0 : -9223372036854775808 ≤ v) (h : v < 0) : IntKind.u64.wrap (-(v + 1)) = -(v + 1) := by rw [IntKind.wrap_u64]; omega
theorem wrapu_size {v : Int} (h0 : -9223372036854775808 ≤ v) (h : v < 0) : IntKind.u64.wrap (-(v + 1) + 1) = (v.natAbs : Int) := by rw [IntKind.wrap_u64]; omega
theorem rfsize_any (w : World) (v : Int) (h0 : -9223372036854775808 ≤ v) (h1 : v ≤ 9223372036854775807) : Calls Try.prog 53 #[.int .i64 v] w fun e w' => e = .returned (.int .u64 (v.natAbs : Int)) ∧ w = w' := by
  by_cases hv : v < 0
  · have hw1 := wrapi_add h0 hv
    have hw2 := wrapi_neg h0 hv
    have hw3 := wrapu_neg1 h0 hv
    have hw4 := wrapu_size h0 hv
    have hd : decide (v < 0) = true := decide_eq_true hv
    go_enter Try.func53, Try.ntmps53
    go_wp2_with fail
    go_ret
    exact ⟨rfl, rfl⟩
  · have hw := wrapu_pos (Int.not_lt.1 hv) h1
    have hd : decide (v < 0) = false := decide_eq_false hv
    go_enter Try.func53, Try.ntmps53
    go_wp2_with fail
    go_ret
    exact ⟨rfl, rfl⟩
set_option maxHeartbeats 1600000 in
theorem rfmake_any (w : World) (n d : Int) (S : Bool × List Nat × List Nat × Int) (n0 : -9223372036854775808 ≤ n) (n1 : n ≤ 9223372036854775807) (d0 : -9223372036854775808 ≤ d) (d1 : d ≤ 9223372036854775807) (hs : makeF n d = S) : Calls Try.prog 30 #[.int .i64 n, .int .i64 d] w (FracRes w S) := by
  have HS := Lib.hid hs
  clear hs
  by_cases hd : d = 0
  · have HD := Lib.hid hd
    have hdd : (d == 0) = true := by simpa using hd
    clear hd
    go_enter Try.func30, Try.ntmps30
    go_wp2_with fail
    have bw := (Below.refl w.heap.size w).alloc (Nat.le_refl _) (.cells #[.bool false, .slice none 0 0, .slice none 0 0] 41)
    have bk := bk3_new w
    generalize (w.alloc (.cells #[.bool false, .slice none 0 0, .slice none 0 0] 41)) = w1 at bw bk ⊢
    have tk := bk
    obtain ⟨k0, k1, k2, kf0, kf1, kf2, klt, kb⟩ := tk
    clear kb
    go_wp2_with fail
    refine bodyPost_ret (v := .tuple #[(Fx.nil : Fx).val, .int .i64 3]) (by simp [results, Try.results30, go_sem, k0, k1, k2]) rfl ?_
    rw [← HS.out, makeF, if_pos HD.out]
    exact ⟨Fx.nil, rfl, ⟨rfl, rfl, rfl⟩, Fx.nil_ok _, bw⟩
  · have HD : Hid (¬ d = 0) := hd
    have hdd : (d == 0) = false := by simpa using hd
    have ln := lim_len2 (m := n.natAbs) (by omega)
    have ld := lim_len2 (m := d.natAbs) (by omega)
    have lnn : (lim (nv (lim n.natAbs))).length ≤ 512 := by rw [nv_lim]; omega
    have ldd : (lim (nv (lim d.natAbs))).length ≤ 512 := by rw [nv_lim]; omega
    have ne : nv (lim d.natAbs) ≠ 0 := by rw [nv_lim]; omega
    have LNN := Lib.hid lnn
    have LDD := Lib.hid ldd
    have NE : Hid (nv (lim d.natAbs) ≠ 0) := ne
    clear hd lnn ldd ne
    go_enter Try.func30, Try.ntmps30
    go_wp2_with fail
    have bw := (Below.refl w.heap.size w).alloc (Nat.le_refl _) (.cells #[.bool false, .slice none 0 0, .slice none 0 0] 41)
    have bk := bk3_new w
    generalize (w.alloc (.cells #[.bool false, .slice none 0 0, .slice none 0 0] 41)) = w1 at bw bk ⊢
    go_wp2_with fail
    refine (rfsize_any w1 n n0 n1).mono ?_
    rintro e wn ⟨rfl, rfl⟩
    go_wp2_with fail
    refine (rmake_any _ n.natAbs (by omega)).mono ?_
    rintro e wn ⟨AN, cN, rfl, gn, bb⟩
    have na := gn.nt (lim_u32 _)
    clear gn
    try replace bx := bx.below bb
    try replace by_ := by_.below bb
    try replace bk := bk.below bb
    try replace okx := okx.below bb
    try replace oky := oky.below bb
    try replace ok1 := ok1.below bb
    try replace na := na.below bb
    try replace nb := nb.below bb
    try replace nc := nc.below bb
    try replace nd := nd.below bb
    try replace ne := ne.below bb
    replace bw := below_on bw bb bw.size
    clear bb
    go_wp2_with fail
    refine (rfsize_any wn d d0 d1).mono ?_
    rintro e wn ⟨rfl, rfl⟩
    go_wp2_with fail
    refine (rmake_any _ d.natAbs (by omega)).mono ?_
    rintro e wn ⟨AD, cD, rfl, gn, bb⟩
    have nb := gn.nt (lim_u32 _)
    clear gn
    try replace bx := bx.below bb
    try replace by_ := by_.below bb
    try replace bk := bk.below bb
    try replace okx := okx.below bb
    try replace oky := oky.below bb
    try replace ok1 := ok1.below bb
    try replace na := na.below bb
    try replace nb := nb.below bb
    try replace nc := nc.below bb
    try replace nd := nd.below bb
    try replace ne := ne.below bb
    replace bw := below_on bw bb bw.size
    clear bb
    go_wp2_with fail
    refine (rflowest_any _ (!(decide (n < 0) == decide (d < 0))) AN AD cN cD _ _ (lim n.natAbs) (lim d.natAbs) na nb rfl rfl NE.out (by omega) (by omega) LNN.out LDD.out).mono ?_
    rintro e wn ⟨x1, rfl, hs1, ok1, bb⟩
    have HS1 := Lib.hid hs1
    clear hs1
    try replace bx := bx.below bb
    try replace by_ := by_.below bb
    try replace bk := bk.below bb
    try replace okx := okx.below bb
    try replace oky := oky.below bb
    try replace ok1 := ok1.below bb
    try replace na := na.below bb
    try replace nb := nb.below bb
    try replace nc := nc.below bb
    try replace nd := nd.below bb
    try replace ne := ne.below bb
    replace bw := below_on bw bb bw.size
    clear bb
    have tk := bk
    obtain ⟨k0, k1, k2, kf0, kf1, kf2, klt, kb⟩ := tk
    clear kb
    go_wp2_with fail
    refine bodyPost_ret (v := .tuple #[(x1 : Fx).val, .int .i64 0]) (by simp [results, Try.results30, go_sem, k0, k1, k2]) rfl ?_
    have hS : S = ((lowS (qv (!(decide (n < 0) == decide (d < 0))) (nv (lim n.natAbs)) (nv (lim d.natAbs)))).1, (lowS (qv (!(decide (n < 0) == decide (d < 0))) (nv (lim n.natAbs)) (nv (lim d.natAbs)))).2.1, (lowS (qv (!(decide (n < 0) == decide (d < 0))) (nv (lim n.natAbs)) (nv (lim d.natAbs)))).2.2, 0) := by
      rw [← HS.out, makeF, if_neg HD.out, nv_lim, nv_lim, ← qv_divInt HD.out]
      exact frS_low (by have := HD.out; omega) (by omega) (by omega)
    rw [hS]
    exact ⟨x1, rfl, HS1.out, set3_ok ok1 bk rfl rfl rfl, set3g bw (by omega)⟩
end Go.Proofs.Ythdfflbhogfejaa
namespace Go.Proofs.Ythdfflbhogfejaa
set_option maxRecDepth 100000
open Go.RowKit

theorem makeF_int {n : Int} (n0 : -9223372036854775808 ≤ n) (n1 : n ≤ 9223372036854775807) : makeF n 1 = okS (Rat.divInt n 1) := by
  rw [makeF, if_neg (by omega)]
  have h : Sz (Rat.divInt n 1) 2 2 := by
    rw [← qv_divInt (by omega)]
    exact Sz.of_qv (by omega) (lim_len2 (by omega)) (lim_len2 (by omega))
  exact frS_ok (h.mono (by omega) (by omega))
theorem sz_zero : Sz 0 128 128 := by constructor <;> (rw [lim_length_le]; decide)
theorem rdf1 (w : World) (x : Fx) : RdF (w.alloc (.cells #[.bool x.b, .slice x.A x.xs.length x.c, .slice x.D x.ys.length x.d] 41)) (some ⟨w.heap.size, 0, none⟩) [x] := fun _ => by
  refine ⟨_, rfl, by simp, fun k hk => ?_⟩
  match k, hk with
  | 0, _ => exact ⟨by simp [go_sem, Addr.add], by simp [go_sem, Addr.add], by simp [go_sem, Addr.add]⟩
end Go.Proofs.Ythdfflbhogfejaa
namespace Go.Proofs.Ythdfflbhogfejaa
set_option maxRecDepth 100000

theorem cmpQ_lt {p q : Rat} (h : p < q) : cmpQ p q = -1 := by rw [cmpQ, if_pos h]
theorem cmpQ_gt {p q : Rat} (h : q < p) : cmpQ p q = 1 := by rw [cmpQ, if_neg (by grind), if_pos h]
theorem cmpQ_eq {p q : Rat} (h : p = q) : cmpQ p q = 0 := by subst h; rw [cmpQ, if_neg (by grind), if_neg (by grind)]
theorem tri (p q : Rat) : p < q ∨ p = q ∨ q < p := by grind
theorem cmpQ_cases (p q : Rat) : (p < q ∧ cmpQ p q = -1) ∨ (p = q ∧ cmpQ p q = 0) ∨ (q < p ∧ cmpQ p q = 1) := by
  rcases tri p q with h | h | h
  · exact .inl ⟨h, cmpQ_lt h⟩
  · exact .inr (.inl ⟨h, cmpQ_eq h⟩)
  · exact .inr (.inr ⟨h, cmpQ_gt h⟩)
end Go.Proofs.Ythdfflbhogfejaa
namespace Go.Proofs.Ythdfflbhogfejaa
set_option maxRecDepth 100000
open Go.RowKit

theorem Fx.ok.drew {x : Fx} {w : World} (h : x.ok w) : x.ok w.drew := h.below ((Below.refl w.heap.size w).drew)
def lensB (vs : List Fx) : Prop := ∀ v ∈ vs, v.xs.length ≤ 9223372036854775807 ∧ v.ys.length ≤ 9223372036854775807
theorem lens_ok {w : World} {x : Fx} (h : x.ok w) : x.xs.length ≤ 9223372036854775807 ∧ x.ys.length ≤ 9223372036854775807 := ⟨h.num.len, h.den.len⟩
theorem addF_ok {x y : Fx} {p q : Rat} (hx : x.v) (hy : y.v) (ex : x.q = p) (ey : y.q = q) (h : Sz (p + q) 128 128) : addF x y = okS (p + q) := by
  rw [addF, if_pos ⟨hx, hy⟩, ex, ey]; exact frS_ok h
theorem cmpF_ok {x y : Fx} {p q : Rat} {z : Int} (hx : x.v) (hy : y.v) (ex : x.q = p) (ey : y.q = q) (h : cmpQ p q = z) : cmpF x y = (z, 0) := by
  rw [cmpF, if_pos ⟨hx, hy⟩, ex, ey, h]
theorem subF_ok {x y : Fx} {p q : Rat} (hx : x.v) (hy : y.v) (ex : x.q = p) (ey : y.q = q) (h : Sz (p - q) 128 128) : subF x y = okS (p - q) := by
  rw [subF, if_pos ⟨hx, hy⟩, ex, ey]; exact frS_ok h
theorem Rp.zero {x : Fx} {q : Rat} (h : Rp x q) : nv x.xs = 0 ↔ q = 0 := by
  rw [h.n, nv_lim, Int.natAbs_eq_zero, Rat.num_eq_zero]
theorem quoF_ok {x y : Fx} {p q : Rat} (hx : x.v) (hy : Rp y q) (ex : x.q = p) (hv : y.v) (hq : q ≠ 0) (h : Sz (p / q) 128 128) : quoF x y = okS (p / q) := by
  rw [quoF, if_pos ⟨hx, hv⟩, if_neg (fun e => hq (hy.zero.1 e)), ex, hy.q]; exact frS_ok h
theorem redS_okS {x : Fx} (hv : x.v) : redS x = okS x.q := (redS_ok hv).1
end Go.Proofs.Ythdfflbhogfejaa
namespace Go.Proofs.Ythdfflbhogfejaa
set_option maxRecDepth 100000
open Go.RowKit

/-- what Sum reckons from the sum q on -/
def sumS : List Fx → Rat → Bool × List Nat × List Nat × Int
  | [], q => okS q
  | x :: vs, q => if x.v then (if bigQ (q + x.q) then errF 2 else sumS vs (q + x.q)) else errF 1
theorem RdF.below {w w' : World} {A : Option Addr} {vs : List Fx} (h : RdF w A vs) (hb : Below w.heap.size w w') : RdF w' A vs := fun hn => by
  obtain ⟨ad, e, hl, hc⟩ := h hn
  refine ⟨ad, e, Nat.lt_of_lt_of_le hl hb.size, fun k hk => ?_⟩
  obtain ⟨h0, h1, h2⟩ := hc k hk
  have e2 : (ad.add (k * 3)).block = ad.block := block_of_add _ _
  exact ⟨(hb.cell (p := ad.add (k * 3)) (by rw [e2]; exact hl)).trans h0, (hb.cell (p := ⟨(ad.add (k * 3)).block, (ad.add (k * 3)).off + 1, none⟩) (by show (ad.add (k * 3)).block < _; rw [e2]; exact hl)).trans h1, (hb.cell (p := ⟨(ad.add (k * 3)).block, (ad.add (k * 3)).off + 2, none⟩) (by show (ad.add (k * 3)).block < _; rw [e2]; exact hl)).trans h2⟩
/-- the elements hold numbers -/
def OkF (w : World) (vs : List Fx) : Prop := ∀ v ∈ vs, v.ok w ∧ v.xs.length ≤ 10000 ∧ v.ys.length ≤ 10000
theorem OkF.below {w w' : World} {vs : List Fx} (h : OkF w vs) (hb : Below w.heap.size w w') : OkF w' vs := fun v hv => ⟨(h v hv).1.below hb, (h v hv).2⟩
theorem sumS_step {vs : List Fx} {k : Nat} (h : k < vs.length) (q : Rat) : sumS (vs.drop k) q = if vs[k].v then (if bigQ (q + vs[k].q) then errF 2 else sumS (vs.drop (k + 1)) (q + vs[k].q)) else errF 1 := by
  rw [List.drop_eq_getElem_cons h, sumS]
theorem addF_err {x y : Fx} {q : Rat} (_hx : x.v) (_ex : x.q = q) (h : ¬ y.v) : addF x y = errF 1 := by rw [addF, if_neg (fun e => h e.2)]
theorem addF_big {x y : Fx} {q : Rat} (hx : x.v) (hy : y.v) (ex : x.q = q) (h : bigQ (q + y.q)) : addF x y = errF 2 := by
  rw [addF, if_pos ⟨hx, hy⟩, ex, frS, if_pos h]; rfl
theorem Sz.of_big {q : Rat} (h : ¬ bigQ q) : Sz q 128 128 := by
  rw [bigQ] at h
  constructor <;> omega
theorem fa_build' {w : World} {b : Bool} {A D : Option Addr} {c d n m : Nat} {xs ys : List Nat} (hA : Nt w A c xs) (hD : Nt w D d ys) (hn : n = xs.length) (hm : m = ys.length) : ∃ x : Fx, (x.b = b ∧ x.xs = xs ∧ x.ys = ys) ∧ Fa (w.alloc (.cells #[.bool b, .slice A n c, .slice D m d] 41)) w.heap.size x ∧ Below w.heap.size w (w.alloc (.cells #[.bool b, .slice A n c, .slice D m d] 41)) := by
  subst hn hm
  have h : (⟨b, A, c, xs, D, d, ys⟩ : Fx).ok w := ⟨hA, hD⟩
  exact ⟨⟨b, A, c, xs, D, d, ys⟩, ⟨rfl, rfl, rfl⟩, (fa_alloc h).1, (fa_alloc h).2⟩
set_option maxHeartbeats 4000000 in
theorem fsum_any (w : World) (A : Option Addr) (n c : Nat) (vs : List Fx) (S : Bool × List Nat × List Nat × Int) (hrd : RdF w A vs) (hok : OkF w vs) (hn : n = vs.length) (hc : vs.length ≤ 1000) (hs : sumS vs 0 = S) :
    Calls Try.prog 67 #[.slice A n c] w (FracRes w S) := by
  have HS : Hid (sumS (vs.drop 0) 0 = S) := Lib.hid hs
  have HRD : Hid (RdF w A vs) := hrd
  have HOK : Hid (OkF w vs) := hok
  clear hs hrd hok
  subst hn
  go_enter Try.func67, Try.ntmps67
  go_upto_region 1 with fail
  have bw := (Below.refl w.heap.size w).alloc (Nat.le_refl _) (.cells #[.bool false, .slice none 0 0, .slice none 0 0] 41)
  have bk := bk3_new w
  generalize (w.alloc (.cells #[.bool false, .slice none 0 0, .slice none 0 0] 41)) = wn at bw bk ⊢
  go_wp2_with fail
  refine (make_one wn).mono ?_
  rintro e wn ⟨A1, c1, rfl, no, bb⟩
  try replace bx := bx.below bb
  try replace by_ := by_.below bb
  try replace bk := bk.below bb
  try replace okx := okx.below bb
  try replace oky := oky.below bb
  try replace ok2 := ok2.below bb
  try replace ok3 := ok3.below bb
  try replace na := na.below bb
  try replace nb := nb.below bb
  try replace nc := nc.below bb
  try replace nd := nd.below bb
  try replace ne := ne.below bb
  replace bw := below_on bw bb bw.size
  clear bb
  go_upto_region 2 with fail
  have g4l := bk.lt
  obtain ⟨y, hy, a4, bb⟩ := fa_build' (b := false) (Nt.nil wn none 0 (by show 0 ≤ _; omega)) no (n := 0) (m := (lim 1).length) rfl rfl
  have R0 : Rp y 0 := ⟨hy.1, by rw [hy.2.1]; exact lim_zero.symm, by rw [hy.2.2]; rfl⟩
  have z0 : ¬ bigQ (0 : Rat) := by
    have h1 : (lim (0 : Rat).num.natAbs).length ≤ 128 := sz_zero.1
    have h2 : (lim (0 : Rat).den).length ≤ 128 := sz_zero.2
    rw [bigQ]; omega
  clear hy no
  generalize (wn.alloc (.cells #[.bool false, .slice none 0 0, .slice A1 (lim 1).length c1] 41)) = wm at a4 bb ⊢
  try replace bx := bx.below bb
  try replace by_ := by_.below bb
  try replace bk := bk.below bb
  try replace okx := okx.below bb
  try replace oky := oky.below bb
  try replace ok2 := ok2.below bb
  try replace ok3 := ok3.below bb
  try replace na := na.below bb
  try replace nb := nb.below bb
  try replace nc := nc.below bb
  try replace nd := nd.below bb
  try replace ne := ne.below bb
  replace bw := below_on bw bb bw.size
  clear bb
  generalize wn.heap.size = g4 at a4 g4l ⊢
  go_wp2_with fail
  go_loopw [13] (fun i wr => ∃ (k : Nat) (q : Rat) (y : Fx), k ≤ vs.length ∧ i = .int .i64 k ∧ Rp y q ∧ ¬ bigQ q ∧ sumS (vs.drop k) q = S ∧ Fa wr g4 y ∧ Bk3 wr w.heap.size (.bool false) (.slice none 0 0) (.slice none 0 0) ∧ Below w.heap.size w wr) (fun i _ => vs.length - (intOf i).toNat)
  case atStart => exact ⟨0, 0, y, by omega, rfl, R0, z0, HS.out, a4, bk, bw⟩
  case round =>
    clear a4 bk bw R0 z0 HS
    obtain ⟨k, q, x1, hkl, rfl, R1, zq, hS, a1, bk, bw⟩ := hrel
    have HS := Lib.hid hS
    have HZ := Lib.hid zq
    have Z1 := Lib.hid (Sz.of_big zq)
    have l1 := R1.l1 Z1.out
    have m1 := R1.l2 Z1.out
    have V1 := Lib.hid (R1.v Z1.out)
    clear hS zq
    by_cases hlt : k < vs.length
    · have h' := HRD.out.below bw
      have hk' := HOK.out.below bw
      obtain ⟨ad, rfl, _, hcc⟩ := h' (by omega)
      obtain ⟨hc0, hc1, hc2⟩ := hcc k hlt
      obtain ⟨ok2, l2, m2⟩ := hk' _ (List.getElem_mem hlt)
      have hst := sumS_step hlt q
      rw [HS.out] at hst
      obtain ⟨x2, hx2⟩ : ∃ x2, vs[k] = x2 := ⟨_, rfl⟩
      rw [hx2] at hc0 hc1 hc2 ok2 l2 m2 hst
      have HST := Lib.hid hst
      clear hcc h' hk' hst hx2
      go_upto_region 5 with fail
      clear hc0 hc1 hc2
      have a2 := (fa_alloc ok2).1
      have bb := (fa_alloc ok2).2
      clear ok2
      generalize (wr.alloc (.cells #[.bool x2.b, .slice x2.A x2.xs.length x2.c, .slice x2.D x2.ys.length x2.d] 41)) = wm at a2 bb ⊢
      replace bk := bk.below bb
      try replace a1 := a1.below bb
      try replace a2 := a2.below bb
      try replace a4 := a4.below bb
      replace bw := below_on bw bb bw.size
      clear bb
      generalize wr.heap.size = g2 at a2 ⊢
      by_cases hv : x2.v
      · by_cases hb : bigQ (q + x2.q)
        · have HE := Lib.hid (addF_big V1.out hv R1.q hb)
          have HS2 : Hid (S = errF 2) := Lib.hid (by rw [HST.out, if_pos hv, if_pos hb])
          have e0 : (errF 2).2.2.2 = 2 := rfl
          clear hv hb
          skip
          have ci0 := a1.c0
          have ci1 := a1.c1
          have ci2 := a1.c2
          have cj0 := a2.c0
          have cj1 := a2.c1
          have cj2 := a2.c2
          go_wp2_with fail
          clear ci0 ci1 ci2 cj0 cj1 cj2
          refine (fadd_any _ x1 x2 (errF 2) a1.ok a2.ok l1 m1 l2 m2 HE.out).mono ?_
          rintro e wn ⟨x3, rfl, hs3, ok3, bb⟩
          have HS3 := Lib.hid hs3
          clear hs3
          replace bk := bk.below bb
          try replace a1 := a1.below bb
          try replace a2 := a2.below bb
          try replace a4 := a4.below bb
          replace bw := below_on bw bb bw.size
          clear bb
          go_upto_region 6 with fail
          have a3 := (fa_alloc ok3).1
          have bb := (fa_alloc ok3).2
          clear ok3
          generalize (wn.alloc (.cells #[.bool x3.b, .slice x3.A x3.xs.length x3.c, .slice x3.D x3.ys.length x3.d] 41)) = wm at a3 bb ⊢
          replace bk := bk.below bb
          try replace a1 := a1.below bb
          try replace a2 := a2.below bb
          try replace a3 := a3.below bb
          try replace a4 := a4.below bb
          replace bw := below_on bw bb bw.size
          clear bb
          generalize wn.heap.size = g3 at a3 ⊢
          have tk := bk
          obtain ⟨k0, k1, k2, kf0, kf1, kf2, klt, kb⟩ := tk
          clear kb
          go_wp2_with fail
          refine bodyPost_ret (v := .tuple #[(Fx.nil : Fx).val, .int .i64 2]) (by simp [results, Try.results67, go_sem, k0, k1, k2]) rfl ?_
          rw [HS2.out]
          exact ⟨Fx.nil, rfl, ⟨rfl, rfl, rfl⟩, Fx.nil_ok _, set3g bw (by omega)⟩
        · have Z3 := Lib.hid (Sz.of_big hb)
          have HE : Hid (addF x1 x2 = okS (q + x2.q)) := Lib.hid (addF_ok V1.out hv R1.q rfl Z3.out)
          have HS2 : Hid (S = sumS (vs.drop (k + 1)) (q + x2.q)) := Lib.hid (by rw [HST.out, if_pos hv, if_neg hb])
          have HB : Hid (¬ bigQ (q + x2.q)) := hb
          have e0 : (okS (q + x2.q)).2.2.2 = 0 := rfl
          clear hv hb
          skip
          have ci0 := a1.c0
          have ci1 := a1.c1
          have ci2 := a1.c2
          have cj0 := a2.c0
          have cj1 := a2.c1
          have cj2 := a2.c2
          go_wp2_with fail
          clear ci0 ci1 ci2 cj0 cj1 cj2
          refine (fadd_any _ x1 x2 (okS (q + x2.q)) a1.ok a2.ok l1 m1 l2 m2 HE.out).mono ?_
          rintro e wn ⟨x3, rfl, hs3, ok3, bb⟩
          have HS3 := Lib.hid hs3
          clear hs3
          replace bk := bk.below bb
          try replace a1 := a1.below bb
          try replace a2 := a2.below bb
          try replace a3 := a3.below bb
          try replace a4 := a4.below bb
          replace bw := below_on bw bb bw.size
          clear bb
          go_upto_region 6 with fail
          have a3 := (fa_alloc ok3).1
          have bb := (fa_alloc ok3).2
          clear ok3
          generalize (wn.alloc (.cells #[.bool x3.b, .slice x3.A x3.xs.length x3.c, .slice x3.D x3.ys.length x3.d] 41)) = wm at a3 bb ⊢
          replace bk := bk.below bb
          try replace a1 := a1.below bb
          try replace a2 := a2.below bb
          try replace a3 := a3.below bb
          try replace a4 := a4.below bb
          replace bw := below_on bw bb bw.size
          clear bb
          generalize wn.heap.size = g3 at a3 ⊢
          have R3 := Rp.of HS3.out
          go_upto_region 8 with fail
          have ci0 := a3.c0
          have ci1 := a3.c1
          have ci2 := a3.c2
          have tk := a1.bk
          obtain ⟨k0, k1, k2, kf0, kf1, kf2, klt, kb⟩ := tk
          clear kb
          go_wp2_with fail
          go_roundw
          case rel => exact ⟨k + 1, q + x2.q, x3, by omega, by go_num, R3, HB.out, HS2.out.symm, a1.put a3.ok, bk.far (by omega), set3g bw (by omega)⟩
          case measure => simp [intOf]; omega
      · have HE := Lib.hid (addF_err V1.out R1.q hv)
        have HS2 : Hid (S = errF 1) := Lib.hid (by rw [HST.out, if_neg hv])
        have e0 : (errF 1).2.2.2 = 1 := rfl
        clear hv
        skip
        have ci0 := a1.c0
        have ci1 := a1.c1
        have ci2 := a1.c2
        have cj0 := a2.c0
        have cj1 := a2.c1
        have cj2 := a2.c2
        go_wp2_with fail
        clear ci0 ci1 ci2 cj0 cj1 cj2
        refine (fadd_any _ x1 x2 (errF 1) a1.ok a2.ok l1 m1 l2 m2 HE.out).mono ?_
        rintro e wn ⟨x3, rfl, hs3, ok3, bb⟩
        have HS3 := Lib.hid hs3
        clear hs3
        replace bk := bk.below bb
        try replace a1 := a1.below bb
        try replace a2 := a2.below bb
        try replace a3 := a3.below bb
        try replace a4 := a4.below bb
        replace bw := below_on bw bb bw.size
        clear bb
        go_upto_region 6 with fail
        have a3 := (fa_alloc ok3).1
        have bb := (fa_alloc ok3).2
        clear ok3
        generalize (wn.alloc (.cells #[.bool x3.b, .slice x3.A x3.xs.length x3.c, .slice x3.D x3.ys.length x3.d] 41)) = wm at a3 bb ⊢
        replace bk := bk.below bb
        try replace a1 := a1.below bb
        try replace a2 := a2.below bb
        try replace a3 := a3.below bb
        try replace a4 := a4.below bb
        replace bw := below_on bw bb bw.size
        clear bb
        generalize wn.heap.size = g3 at a3 ⊢
        have tk := bk
        obtain ⟨k0, k1, k2, kf0, kf1, kf2, klt, kb⟩ := tk
        clear kb
        go_wp2_with fail
        refine bodyPost_ret (v := .tuple #[(Fx.nil : Fx).val, .int .i64 1]) (by simp [results, Try.results67, go_sem, k0, k1, k2]) rfl ?_
        rw [HS2.out]
        exact ⟨Fx.nil, rfl, ⟨rfl, rfl, rfl⟩, Fx.nil_ok _, set3g bw (by omega)⟩
    · have hS2 : S = okS q := by rw [← HS.out, List.drop_of_length_le (by omega), sumS]
      have HS2 := Lib.hid hS2
      clear hS2
      have ci0 := a1.c0
      have ci1 := a1.c1
      have ci2 := a1.c2
      have tk := bk
      obtain ⟨k0, k1, k2, kf0, kf1, kf2, klt, kb⟩ := tk
      clear kb
      go_wp2_with fail
      refine bodyPost_ret (v := .tuple #[(x1 : Fx).val, .int .i64 0]) (by simp [results, Try.results67, go_sem, k0, k1, k2]) rfl ?_
      rw [HS2.out]
      exact ⟨x1, rfl, ⟨R1.b, R1.n, R1.d⟩, set3_ok a1.ok bk rfl rfl rfl, set3g bw (by omega)⟩
end Go.Proofs.Ythdfflbhogfejaa
