/- The walk of drydocklaw02.awake. -/
import Derived.Test.YtlcolmifmhdboaaLwA
import Derived.Test.YtlcolmifmhdboaaFaV
import Derived.Test.YtlcolmifmhdboaaFrcU
import Derived.Test.YtlcolmifmhdboaaFrF
import Derived.Test.YtlcolmifmhdboaaFrH
namespace Go.Proofs.Ytlcolmifmhdboaa
open Go.RowKit

def q12 : Rat := Rat.divInt 1 2
def q13 : Rat := Rat.divInt (-1) (-3)
def q56 : Rat := q12 + q13
set_option maxRecDepth 100000 in
theorem sz12 : Sz q12 128 128 := by constructor <;> (rw [lim_length_le]; decide)
set_option maxRecDepth 100000 in
theorem sz13 : Sz q13 128 128 := by constructor <;> (rw [lim_length_le]; decide)
set_option maxRecDepth 100000 in
theorem sz56 : Sz q56 128 128 := by constructor <;> (rw [lim_length_le]; decide +kernel)
set_option maxRecDepth 100000 in
theorem num56 : q56.num = 5 := by decide +kernel
set_option maxRecDepth 100000 in
theorem den56 : q56.den = 6 := by decide +kernel
set_option maxRecDepth 100000 in
theorem txt56 : txtQ q56 = (⟨#[53, 47, 54]⟩ : ByteArray) := by
  rw [txtQ, num56, den56, if_pos (by omega), if_neg (by omega), decT, decT, if_neg (by decide), if_neg (by decide)]
  simp only [decR_pos, decR_zero, show Int.natAbs 5 = 5 from rfl, ne_eq, Nat.reduceEqDiff, not_false_eq_true, Nat.reduceDiv, Nat.reduceMod]
  rfl
set_option maxRecDepth 100000 in
set_option maxHeartbeats 1600000 in
theorem awakef_any (w : World) : Calls Try.prog 12 #[] w fun e w' => e = .returned (.bool true) ∧ Below w.heap.size w w' := by
  go_enter Try.func12, Try.ntmps12
  go_wp2_with fail
  refine (fmake_any w 1 2 (okS q12) (by omega) (by omega) (by omega) (by omega) (by rw [makeF, if_neg (by omega)]; exact frS_ok sz12)).mono ?_
  rintro e wn ⟨x1, rfl, hs, ok1, bb⟩
  have R1 := Rp.of hs
  have e0 : (okS q12).2.2.2 = 0 := rfl
  have bw := Below.refl w.heap.size w
  clear hs
  replace bw := below_on bw bb bw.size
  clear bb
  go_upto_region 2 with fail
  have a1 := (fa_alloc ok1).1
  have bb := (fa_alloc ok1).2
  clear ok1
  generalize (wn.alloc (.cells #[.bool x1.b, .slice x1.A x1.xs.length x1.c, .slice x1.D x1.ys.length x1.d] 25)) = wm at a1 bb ⊢
  try replace a1 := a1.below bb
  replace bw := below_on bw bb bw.size
  clear bb
  generalize wn.heap.size = g1 at a1 ⊢
  clear e0
  go_wp2_with fail
  refine (fmake_any _ (-1) (-3) (okS q13) (by omega) (by omega) (by omega) (by omega) (by rw [makeF, if_neg (by omega)]; exact frS_ok sz13)).mono ?_
  rintro e wn ⟨x2, rfl, hs, ok2, bb⟩
  have R2 := Rp.of hs
  have e0 : (okS q13).2.2.2 = 0 := rfl
  clear hs
  try replace a1 := a1.below bb
  replace bw := below_on bw bb bw.size
  clear bb
  go_upto_region 3 with fail
  have a2 := (fa_alloc ok2).1
  have bb := (fa_alloc ok2).2
  clear ok2
  generalize (wn.alloc (.cells #[.bool x2.b, .slice x2.A x2.xs.length x2.c, .slice x2.D x2.ys.length x2.d] 25)) = wm at a2 bb ⊢
  try replace a1 := a1.below bb
  try replace a2 := a2.below bb
  replace bw := below_on bw bb bw.size
  clear bb
  generalize wn.heap.size = g2 at a2 ⊢
  clear e0
  have l1 := R1.l1 sz12
  have m1 := R1.l2 sz12
  have l2 := R2.l1 sz13
  have m2 := R2.l2 sz13
  have e0 : (okS q56).2.2.2 = 0 := rfl
  have ci0 := a1.c0
  have ci1 := a1.c1
  have ci2 := a1.c2
  have cj0 := a2.c0
  have cj1 := a2.c1
  have cj2 := a2.c2
  go_wp2_with fail
  clear ci0 ci1 ci2 cj0 cj1 cj2
  refine (fadd_any _ x1 x2 (okS q56) a1.ok a2.ok l1 m1 l2 m2 (by rw [addF, if_pos ⟨R1.v sz12, R2.v sz13⟩, R1.q, R2.q]; exact frS_ok sz56)).mono ?_
  rintro e wn ⟨x3, rfl, hs3, ok3, bb⟩
  have HS3 := Lib.hid hs3
  clear hs3
  try replace a1 := a1.below bb
  try replace a2 := a2.below bb
  replace bw := below_on bw bb bw.size
  clear bb
  go_upto_region 4 with fail
  have a3 := (fa_alloc ok3).1
  have bb := (fa_alloc ok3).2
  clear ok3
  generalize (wn.alloc (.cells #[.bool x3.b, .slice x3.A x3.xs.length x3.c, .slice x3.D x3.ys.length x3.d] 25)) = wm at a3 bb ⊢
  try replace a1 := a1.below bb
  try replace a2 := a2.below bb
  try replace a3 := a3.below bb
  replace bw := below_on bw bb bw.size
  clear bb
  generalize wn.heap.size = g3 at a3 ⊢
  have R3 := Rp.of HS3.out
  clear e0
  have l3 := R3.l1 sz56
  have m3 := R3.l2 sz56
  have ci0 := a3.c0
  have ci1 := a3.c1
  have ci2 := a3.c2
  go_wp2_with fail
  clear ci0 ci1 ci2
  refine (fformat_any _ x3 ((⟨#[53, 47, 54]⟩ : ByteArray), 0) a3.ok l3 m3 (by rw [fmtF, if_pos (R3.v sz56), R3.q, txt56])).mono ?_
  rintro e wn ⟨rfl, bb⟩
  try replace a1 := a1.below bb
  try replace a2 := a2.below bb
  try replace a3 := a3.below bb
  replace bw := below_on bw bb bw.size
  clear bb
  go_wp2_with fail
  refine (fmake_any _ 1 0 (errF 3) (by omega) (by omega) (by omega) (by omega) (by rw [makeF, if_pos rfl])).mono ?_
  rintro e wn ⟨x4, rfl, hs4, ok4, bb⟩
  have e0 : (errF 3).2.2.2 = 3 := rfl
  clear hs4
  try replace a1 := a1.below bb
  try replace a2 := a2.below bb
  try replace a3 := a3.below bb
  replace bw := below_on bw bb bw.size
  clear bb
  go_upto_region 6 with fail
  have a4 := (fa_alloc ok4).1
  have bb := (fa_alloc ok4).2
  clear ok4
  generalize (wn.alloc (.cells #[.bool x4.b, .slice x4.A x4.xs.length x4.c, .slice x4.D x4.ys.length x4.d] 25)) = wm at a4 bb ⊢
  try replace a1 := a1.below bb
  try replace a2 := a2.below bb
  try replace a3 := a3.below bb
  try replace a4 := a4.below bb
  replace bw := below_on bw bb bw.size
  clear bb
  generalize wn.heap.size = g4 at a4 ⊢
  clear e0
  go_wp2_with fail
  go_ret
  exact ⟨rfl, bw⟩
end Go.Proofs.Ytlcolmifmhdboaa
