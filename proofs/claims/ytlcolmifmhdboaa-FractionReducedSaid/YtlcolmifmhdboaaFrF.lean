/- The walks of package fraction: absolute, Make. -/
import Derived.Test.YtlcolmifmhdboaaFrE
namespace Go.Proofs.Ytlcolmifmhdboaa
open Go.RowKit

set_option maxRecDepth 100000 in
theorem wrapu_neg {v : Int} (h0 : -9223372036854775808 ≤ v) (h : v < 0) : IntKind.u64.wrap (-(IntKind.u64.wrap v)) = (v.natAbs : Int) := by
  rw [IntKind.wrap_u64, IntKind.wrap_u64]; omega
set_option maxRecDepth 100000 in
theorem wrapu_pos {v : Int} (h0 : 0 ≤ v) (h : v ≤ 9223372036854775807) : IntKind.u64.wrap v = (v.natAbs : Int) := by
  rw [IntKind.wrap_u64]; omega
set_option maxRecDepth 100000 in
theorem fabsolute_any (w : World) (v : Int) (h0 : -9223372036854775808 ≤ v) (h1 : v ≤ 9223372036854775807) : Calls Try.prog 91 #[.int .i64 v] w fun e w' => ∃ A c, e = .returned (.slice A (lim v.natAbs).length c) ∧ Nt w' A c (lim v.natAbs) ∧ Below w.heap.size w w' := by
  by_cases hv : v < 0
  · have hw := wrapu_neg h0 hv
    have hd : decide (v < 0) = true := decide_eq_true hv
    go_enter Try.func91, Try.ntmps91
    go_wp2_with fail
    refine (make_any w v.natAbs (by omega)).mono ?_
    rintro e wn ⟨A', c', rfl, n', bb⟩
    go_wp2_with fail
    go_ret
    exact ⟨A', c', rfl, n', bb⟩
  · have hw := wrapu_pos (Int.not_lt.1 hv) h1
    have hd : decide (v < 0) = false := decide_eq_false hv
    go_enter Try.func91, Try.ntmps91
    go_wp2_with fail
    refine (make_any w v.natAbs (by omega)).mono ?_
    rintro e wn ⟨A', c', rfl, n', bb⟩
    go_wp2_with fail
    go_ret
    exact ⟨A', c', rfl, n', bb⟩
set_option maxRecDepth 100000 in
theorem qv_divInt {n d : Int} (_hd : d ≠ 0) : qv (!(decide (n < 0) == decide (d < 0))) n.natAbs d.natAbs = Rat.divInt n d := by
  rw [qv, ← Rat.divInt_ofNat]
  rcases Int.lt_or_le d 0 with h | h
  · have e : ((d.natAbs : Nat) : Int) = -d := by omega
    rw [e, ← Rat.neg_divInt_neg, Int.neg_neg]
    congr 1
    rcases Int.lt_or_le n 0 with g | g
    · simp [sg, h, g]; omega
    · simp [sg, h, Int.not_lt.2 g]; omega
  · have e : ((d.natAbs : Nat) : Int) = d := by omega
    rw [e]
    congr 1
    rcases Int.lt_or_le n 0 with g | g
    · simp [sg, Int.not_lt.2 h, g]; omega
    · simp [sg, Int.not_lt.2 h, Int.not_lt.2 g]; omega
set_option maxRecDepth 100000 in
theorem lim_len2 {m : Nat} (h : m < 18446744073709551616) : (lim m).length ≤ 2 := by rw [lim_length_le]; exact h
def makeF (n d : Int) : Bool × List Nat × List Nat × Int := if d = 0 then errF 3 else frS (Rat.divInt n d)
set_option maxRecDepth 100000 in
set_option maxHeartbeats 1600000 in
theorem fmake_any (w : World) (n d : Int) (S : Bool × List Nat × List Nat × Int) (n0 : -9223372036854775808 ≤ n) (n1 : n ≤ 9223372036854775807) (d0 : -9223372036854775808 ≤ d) (d1 : d ≤ 9223372036854775807) (hs : makeF n d = S) : Calls Try.prog 55 #[.int .i64 n, .int .i64 d] w (FracRes w S) := by
  have HS := Lib.hid hs
  clear hs
  by_cases hd : d = 0
  · have HD := Lib.hid hd
    have hdd : (d == 0) = true := by simpa using hd
    clear hd
    go_enter Try.func55, Try.ntmps55
    go_wp2_with fail
    have bw := (Below.refl w.heap.size w).alloc (Nat.le_refl _) (.cells #[.bool false, .slice none 0 0, .slice none 0 0] 25)
    have bk := bk3_new w
    generalize (w.alloc (.cells #[.bool false, .slice none 0 0, .slice none 0 0] 25)) = w1 at bw bk ⊢
    have tk := bk
    obtain ⟨k0, k1, k2, kf0, kf1, kf2, klt, kb⟩ := tk
    clear kb
    go_wp2_with fail
    refine bodyPost_ret (v := .tuple #[(Fx.nil : Fx).val, .int .i64 3]) (by simp [results, Try.results55, go_sem, k0, k1, k2]) rfl ?_
    rw [← HS.out, makeF, if_pos HD.out]
    exact ⟨Fx.nil, rfl, ⟨rfl, rfl, rfl⟩, Fx.nil_ok _, bw⟩
  · have HD : Hid (¬ d = 0) := hd
    have hdd : (d == 0) = false := by simpa using hd
    have ln := lim_len2 (m := n.natAbs) (by omega)
    have ld := lim_len2 (m := d.natAbs) (by omega)
    have lnn : (lim (nv (lim n.natAbs))).length ≤ 512 := by rw [nv_lim]; omega
    have ldd : (lim (nv (lim d.natAbs))).length ≤ 512 := by rw [nv_lim]; omega
    have ne : nv (lim d.natAbs) ≠ 0 := by rw [nv_lim]; omega
    have LNN := Lib.hid lnn
    have LDD := Lib.hid ldd
    have NE : Hid (nv (lim d.natAbs) ≠ 0) := ne
    clear hd lnn ldd ne
    go_enter Try.func55, Try.ntmps55
    go_wp2_with fail
    have bw := (Below.refl w.heap.size w).alloc (Nat.le_refl _) (.cells #[.bool false, .slice none 0 0, .slice none 0 0] 25)
    have bk := bk3_new w
    generalize (w.alloc (.cells #[.bool false, .slice none 0 0, .slice none 0 0] 25)) = w1 at bw bk ⊢
    go_wp2_with fail
    refine (fabsolute_any w1 n n0 n1).mono ?_
    rintro e wn ⟨AN, cN, rfl, na, bb⟩
    try replace bx := bx.below bb
    try replace by_ := by_.below bb
    try replace bk := bk.below bb
    try replace okx := okx.below bb
    try replace oky := oky.below bb
    try replace ok1 := ok1.below bb
    try replace na := na.below bb
    try replace nb := nb.below bb
    try replace nc := nc.below bb
    try replace nd := nd.below bb
    try replace ne := ne.below bb
    replace bw := below_on bw bb bw.size
    clear bb
    go_wp2_with fail
    refine (fabsolute_any wn d d0 d1).mono ?_
    rintro e wn ⟨AD, cD, rfl, nb, bb⟩
    try replace bx := bx.below bb
    try replace by_ := by_.below bb
    try replace bk := bk.below bb
    try replace okx := okx.below bb
    try replace oky := oky.below bb
    try replace ok1 := ok1.below bb
    try replace na := na.below bb
    try replace nb := nb.below bb
    try replace nc := nc.below bb
    try replace nd := nd.below bb
    try replace ne := ne.below bb
    replace bw := below_on bw bb bw.size
    clear bb
    go_wp2_with fail
    refine (flowest_any _ (!(decide (n < 0) == decide (d < 0))) AN AD cN cD _ _ (lim n.natAbs) (lim d.natAbs) na nb rfl rfl NE.out (by omega) (by omega) LNN.out LDD.out).mono ?_
    rintro e wn ⟨x1, rfl, hs1, ok1, bb⟩
    have HS1 := Lib.hid hs1
    clear hs1
    try replace bx := bx.below bb
    try replace by_ := by_.below bb
    try replace bk := bk.below bb
    try replace okx := okx.below bb
    try replace oky := oky.below bb
    try replace ok1 := ok1.below bb
    try replace na := na.below bb
    try replace nb := nb.below bb
    try replace nc := nc.below bb
    try replace nd := nd.below bb
    try replace ne := ne.below bb
    replace bw := below_on bw bb bw.size
    clear bb
    have tk := bk
    obtain ⟨k0, k1, k2, kf0, kf1, kf2, klt, kb⟩ := tk
    clear kb
    go_wp2_with fail
    refine bodyPost_ret (v := .tuple #[(x1 : Fx).val, .int .i64 (frS (qv (!(decide (n < 0) == decide (d < 0))) (nv (lim n.natAbs)) (nv (lim d.natAbs)))).2.2.2]) (by simp [results, Try.results55, go_sem, k0, k1, k2]) rfl ?_
    have hS : S = frS (qv (!(decide (n < 0) == decide (d < 0))) (nv (lim n.natAbs)) (nv (lim d.natAbs))) := by
      rw [← HS.out, makeF, if_neg HD.out, nv_lim, nv_lim, qv_divInt HD.out]
    rw [hS]
    exact ⟨x1, rfl, HS1.out, set3_ok ok1 bk rfl rfl rfl, set3g bw (by omega)⟩
end Go.Proofs.Ytlcolmifmhdboaa
