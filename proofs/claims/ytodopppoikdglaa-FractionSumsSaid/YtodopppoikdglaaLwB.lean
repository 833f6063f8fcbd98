/- The walk of drydocklaw02.awake. -/
import Derived.Test.YtodopppoikdglaaLwA
import Derived.Test.YtodopppoikdglaaFrcU
import Derived.Test.YtodopppoikdglaaFrF
import Derived.Test.YtodopppoikdglaaFrH
namespace Go.Proofs.Ytodopppoikdglaa
open Go.RowKit

/-- a variable of the law: the fraction that lies in a block -/
structure Fa (w : World) (G : Nat) (x : Fx) : Prop where
  bk : Bk3 w G (.bool x.b) (.slice x.A x.xs.length x.c) (.slice x.D x.ys.length x.d)
  ok : x.ok w
section
variable {w w' : World} {G H : Nat} {x y : Fx}
theorem Fa.c0 (h : Fa w G x) : w.cell? ⟨G, 0, none⟩ = some (.bool x.b) := h.bk.c0
theorem Fa.c1 (h : Fa w G x) : w.cell? ⟨G, 1, none⟩ = some (.slice x.A x.xs.length x.c) := h.bk.c1
theorem Fa.c2 (h : Fa w G x) : w.cell? ⟨G, 2, none⟩ = some (.slice x.D x.ys.length x.d) := h.bk.c2
theorem Fa.lt (h : Fa w G x) : G < w.heap.size := h.bk.lt
theorem Fa.below (h : Fa w G x) (hb : Below w.heap.size w w') : Fa w' G x := ⟨h.bk.below hb, h.ok.below hb⟩
theorem Fa.of_bk (bk : Bk3 w G (.bool x.b) (.slice x.A x.xs.length x.c) (.slice x.D x.ys.length x.d)) (h : x.ok w) : Fa w G x := ⟨bk, h⟩
theorem heap_set_ne {a b c : Value} (hne : H ≠ G) : (((w.setCell ⟨H, 0, none⟩ a).setCell ⟨H, 1, none⟩ b).setCell ⟨H, 2, none⟩ c).heap[G]? = w.heap[G]? := by
  rw [heap_setCell_other _ _ _ _ (by exact fun e => hne e.symm), heap_setCell_other _ _ _ _ (by exact fun e => hne e.symm), heap_setCell_other _ _ _ _ (by exact fun e => hne e.symm)]
theorem Bk3.far {v0 v1 v2 a b c : Value} (h : Bk3 w G v0 v1 v2) (hne : H ≠ G) : Bk3 (((w.setCell ⟨H, 0, none⟩ a).setCell ⟨H, 1, none⟩ b).setCell ⟨H, 2, none⟩ c) G v0 v1 v2 := by
  have hg := heap_set_ne (w := w) (a := a) (b := b) (c := c) hne
  refine ⟨cell_set3 h.c0 hne, cell_set3 h.c1 hne, cell_set3 h.c2 hne, ?_, ?_, ?_, by simp [World.setCell]; exact h.lt, by rw [hg]; exact h.blk⟩
  · rw [← h.f0]; unfold World.frozen?; rw [hg]
  · rw [← h.f1]; unfold World.frozen?; rw [hg]
  · rw [← h.f2]; unfold World.frozen?; rw [hg]
/-- a store into another variable's block -/
theorem Fa.far (h : Fa w G x) (k : Fa w H y) (hne : H ≠ G) {a b c : Value} : Fa (((w.setCell ⟨H, 0, none⟩ a).setCell ⟨H, 1, none⟩ b).setCell ⟨H, 2, none⟩ c) G x :=
  ⟨h.bk.far hne, set3_ok h.ok k.bk rfl rfl rfl⟩
/-- a store into this variable's block -/
theorem Fa.put {z : Fx} (k : Fa w H y) (h : z.ok w) : Fa (((w.setCell ⟨H, 0, none⟩ (.bool z.b)).setCell ⟨H, 1, none⟩ (.slice z.A z.xs.length z.c)).setCell ⟨H, 2, none⟩ (.slice z.D z.ys.length z.d)) H z :=
  ⟨bk3_set k.bk, set3_ok h k.bk rfl rfl rfl⟩
end
theorem fa_alloc {w : World} {x : Fx} (h : x.ok w) : Fa (w.alloc (.cells x.cells 25)) w.heap.size x ∧ Below w.heap.size w (w.alloc (.cells x.cells 25)) := by
  have b0 := (Below.refl w.heap.size w).alloc (Nat.le_refl _) (.cells x.cells 25)
  exact ⟨Fa.of_bk (bk3_alloc w _ _ _) (h.below b0), b0⟩
def q12 : Rat := Rat.divInt 1 2
def q13 : Rat := Rat.divInt (-1) (-3)
def q56 : Rat := q12 + q13
theorem sz12 : Sz q12 128 128 := by constructor <;> (rw [lim_length_le]; decide)
theorem sz13 : Sz q13 128 128 := by constructor <;> (rw [lim_length_le]; decide)
theorem sz56 : Sz q56 128 128 := by constructor <;> (rw [lim_length_le]; decide +kernel)
theorem num56 : q56.num = 5 := by decide +kernel
theorem den56 : q56.den = 6 := by decide +kernel
theorem txt56 : txtQ q56 = (⟨#[53, 47, 54]⟩ : ByteArray) := by
  rw [txtQ, num56, den56, if_pos (by omega), if_neg (by omega), decT, decT, if_neg (by decide), if_neg (by decide)]
  simp only [decR_pos, decR_zero, show Int.natAbs 5 = 5 from rfl, ne_eq, Nat.reduceEqDiff, not_false_eq_true, Nat.reduceDiv, Nat.reduceMod]
  rfl
set_option maxRecDepth 100000 in
set_option maxHeartbeats 1600000 in
theorem awakef_any (w : World) : Calls Try.prog 15 #[] w fun e w' => e = .returned (.bool true) ∧ Below w.heap.size w w' := by
  go_enter Try.func15, Try.ntmps15
  go_wp2_with fail
  refine (fmake_any w 1 2 (okS q12) (by omega) (by omega) (by omega) (by omega) (by rw [makeF, if_neg (by omega)]; exact frS_ok sz12)).mono ?_
  rintro e wn ⟨x1, rfl, hs, ok1, bb⟩
  have R1 := Rp.of hs
  have e0 : (okS q12).2.2.2 = 0 := rfl
  have bw := Below.refl w.heap.size w
  clear hs
  try replace a1 := a1.below bb
  try replace a2 := a2.below bb
  try replace a3 := a3.below bb
  try replace a4 := a4.below bb
  try replace a5 := a5.below bb
  try replace a6 := a6.below bb
  try replace a7 := a7.below bb
  try replace a8 := a8.below bb
  try replace a9 := a9.below bb
  try replace a10 := a10.below bb
  try replace a11 := a11.below bb
  try replace a12 := a12.below bb
  try replace a13 := a13.below bb
  try replace a14 := a14.below bb
  try replace a15 := a15.below bb
  try replace a16 := a16.below bb
  try replace a17 := a17.below bb
  try replace a18 := a18.below bb
  try replace a19 := a19.below bb
  try replace a20 := a20.below bb
  replace bw := below_on bw bb bw.size
  clear bb
  go_upto_region 2 with fail
  have a1 := (fa_alloc ok1).1
  have bb := (fa_alloc ok1).2
  clear ok1
  generalize (wn.alloc (.cells #[.bool x1.b, .slice x1.A x1.xs.length x1.c, .slice x1.D x1.ys.length x1.d] 25)) = wm at a1 bb ⊢
  try replace a1 := a1.below bb
  try replace a2 := a2.below bb
  try replace a3 := a3.below bb
  try replace a4 := a4.below bb
  try replace a5 := a5.below bb
  try replace a6 := a6.below bb
  try replace a7 := a7.below bb
  try replace a8 := a8.below bb
  try replace a9 := a9.below bb
  try replace a10 := a10.below bb
  try replace a11 := a11.below bb
  try replace a12 := a12.below bb
  try replace a13 := a13.below bb
  try replace a14 := a14.below bb
  try replace a15 := a15.below bb
  try replace a16 := a16.below bb
  try replace a17 := a17.below bb
  try replace a18 := a18.below bb
  try replace a19 := a19.below bb
  try replace a20 := a20.below bb
  replace bw := below_on bw bb bw.size
  clear bb
  generalize wn.heap.size = g1 at a1 ⊢
  clear e0
  go_wp2_with fail
  refine (fmake_any _ (-1) (-3) (okS q13) (by omega) (by omega) (by omega) (by omega) (by rw [makeF, if_neg (by omega)]; exact frS_ok sz13)).mono ?_
  rintro e wn ⟨x2, rfl, hs, ok2, bb⟩
  have R2 := Rp.of hs
  have e0 : (okS q13).2.2.2 = 0 := rfl
  clear hs
  try replace a1 := a1.below bb
  try replace a2 := a2.below bb
  try replace a3 := a3.below bb
  try replace a4 := a4.below bb
  try replace a5 := a5.below bb
  try replace a6 := a6.below bb
  try replace a7 := a7.below bb
  try replace a8 := a8.below bb
  try replace a9 := a9.below bb
  try replace a10 := a10.below bb
  try replace a11 := a11.below bb
  try replace a12 := a12.below bb
  try replace a13 := a13.below bb
  try replace a14 := a14.below bb
  try replace a15 := a15.below bb
  try replace a16 := a16.below bb
  try replace a17 := a17.below bb
  try replace a18 := a18.below bb
  try replace a19 := a19.below bb
  try replace a20 := a20.below bb
  replace bw := below_on bw bb bw.size
  clear bb
  go_upto_region 3 with fail
  have a2 := (fa_alloc ok2).1
  have bb := (fa_alloc ok2).2
  clear ok2
  generalize (wn.alloc (.cells #[.bool x2.b, .slice x2.A x2.xs.length x2.c, .slice x2.D x2.ys.length x2.d] 25)) = wm at a2 bb ⊢
  try replace a1 := a1.below bb
  try replace a2 := a2.below bb
  try replace a3 := a3.below bb
  try replace a4 := a4.below bb
  try replace a5 := a5.below bb
  try replace a6 := a6.below bb
  try replace a7 := a7.below bb
  try replace a8 := a8.below bb
  try replace a9 := a9.below bb
  try replace a10 := a10.below bb
  try replace a11 := a11.below bb
  try replace a12 := a12.below bb
  try replace a13 := a13.below bb
  try replace a14 := a14.below bb
  try replace a15 := a15.below bb
  try replace a16 := a16.below bb
  try replace a17 := a17.below bb
  try replace a18 := a18.below bb
  try replace a19 := a19.below bb
  try replace a20 := a20.below bb
  replace bw := below_on bw bb bw.size
  clear bb
  generalize wn.heap.size = g2 at a2 ⊢
  clear e0
  have l1 := R1.l1 sz12
  have m1 := R1.l2 sz12
  have l2 := R2.l1 sz13
  have m2 := R2.l2 sz13
  have e0 : (okS q56).2.2.2 = 0 := rfl
  have ci0 := a1.c0
  have ci1 := a1.c1
  have ci2 := a1.c2
  have cj0 := a2.c0
  have cj1 := a2.c1
  have cj2 := a2.c2
  go_wp2_with fail
  clear ci0 ci1 ci2 cj0 cj1 cj2
  refine (fadd_any _ x1 x2 (okS q56) a1.ok a2.ok l1 m1 l2 m2 (by rw [addF, if_pos ⟨R1.v sz12, R2.v sz13⟩, R1.q, R2.q]; exact frS_ok sz56)).mono ?_
  rintro e wn ⟨x3, rfl, hs3, ok3, bb⟩
  have HS3 := Lib.hid hs3
  clear hs3
  try replace a1 := a1.below bb
  try replace a2 := a2.below bb
  try replace a3 := a3.below bb
  try replace a4 := a4.below bb
  try replace a5 := a5.below bb
  try replace a6 := a6.below bb
  try replace a7 := a7.below bb
  try replace a8 := a8.below bb
  try replace a9 := a9.below bb
  try replace a10 := a10.below bb
  try replace a11 := a11.below bb
  try replace a12 := a12.below bb
  try replace a13 := a13.below bb
  try replace a14 := a14.below bb
  try replace a15 := a15.below bb
  try replace a16 := a16.below bb
  try replace a17 := a17.below bb
  try replace a18 := a18.below bb
  try replace a19 := a19.below bb
  try replace a20 := a20.below bb
  replace bw := below_on bw bb bw.size
  clear bb
  go_upto_region 4 with fail
  have a3 := (fa_alloc ok3).1
  have bb := (fa_alloc ok3).2
  clear ok3
  generalize (wn.alloc (.cells #[.bool x3.b, .slice x3.A x3.xs.length x3.c, .slice x3.D x3.ys.length x3.d] 25)) = wm at a3 bb ⊢
  try replace a1 := a1.below bb
  try replace a2 := a2.below bb
  try replace a3 := a3.below bb
  try replace a4 := a4.below bb
  try replace a5 := a5.below bb
  try replace a6 := a6.below bb
  try replace a7 := a7.below bb
  try replace a8 := a8.below bb
  try replace a9 := a9.below bb
  try replace a10 := a10.below bb
  try replace a11 := a11.below bb
  try replace a12 := a12.below bb
  try replace a13 := a13.below bb
  try replace a14 := a14.below bb
  try replace a15 := a15.below bb
  try replace a16 := a16.below bb
  try replace a17 := a17.below bb
  try replace a18 := a18.below bb
  try replace a19 := a19.below bb
  try replace a20 := a20.below bb
  replace bw := below_on bw bb bw.size
  clear bb
  generalize wn.heap.size = g3 at a3 ⊢
  have R3 := Rp.of HS3.out
  clear e0
  have l3 := R3.l1 sz56
  have m3 := R3.l2 sz56
  have ci0 := a3.c0
  have ci1 := a3.c1
  have ci2 := a3.c2
  go_wp2_with fail
  clear ci0 ci1 ci2
  refine (fformat_any _ x3 ((⟨#[53, 47, 54]⟩ : ByteArray), 0) a3.ok l3 m3 (by rw [fmtF, if_pos (R3.v sz56), R3.q, txt56])).mono ?_
  rintro e wn ⟨rfl, bb⟩
  try replace a1 := a1.below bb
  try replace a2 := a2.below bb
  try replace a3 := a3.below bb
  try replace a4 := a4.below bb
  try replace a5 := a5.below bb
  try replace a6 := a6.below bb
  try replace a7 := a7.below bb
  try replace a8 := a8.below bb
  try replace a9 := a9.below bb
  try replace a10 := a10.below bb
  try replace a11 := a11.below bb
  try replace a12 := a12.below bb
  try replace a13 := a13.below bb
  try replace a14 := a14.below bb
  try replace a15 := a15.below bb
  try replace a16 := a16.below bb
  try replace a17 := a17.below bb
  try replace a18 := a18.below bb
  try replace a19 := a19.below bb
  try replace a20 := a20.below bb
  replace bw := below_on bw bb bw.size
  clear bb
  go_wp2_with fail
  refine (fmake_any _ 1 0 (errF 3) (by omega) (by omega) (by omega) (by omega) (by rw [makeF, if_pos rfl])).mono ?_
  rintro e wn ⟨x4, rfl, hs4, ok4, bb⟩
  have e0 : (errF 3).2.2.2 = 3 := rfl
  clear hs4
  try replace a1 := a1.below bb
  try replace a2 := a2.below bb
  try replace a3 := a3.below bb
  try replace a4 := a4.below bb
  try replace a5 := a5.below bb
  try replace a6 := a6.below bb
  try replace a7 := a7.below bb
  try replace a8 := a8.below bb
  try replace a9 := a9.below bb
  try replace a10 := a10.below bb
  try replace a11 := a11.below bb
  try replace a12 := a12.below bb
  try replace a13 := a13.below bb
  try replace a14 := a14.below bb
  try replace a15 := a15.below bb
  try replace a16 := a16.below bb
  try replace a17 := a17.below bb
  try replace a18 := a18.below bb
  try replace a19 := a19.below bb
  try replace a20 := a20.below bb
  replace bw := below_on bw bb bw.size
  clear bb
  go_upto_region 6 with fail
  have a4 := (fa_alloc ok4).1
  have bb := (fa_alloc ok4).2
  clear ok4
  generalize (wn.alloc (.cells #[.bool x4.b, .slice x4.A x4.xs.length x4.c, .slice x4.D x4.ys.length x4.d] 25)) = wm at a4 bb ⊢
  try replace a1 := a1.below bb
  try replace a2 := a2.below bb
  try replace a3 := a3.below bb
  try replace a4 := a4.below bb
  try replace a5 := a5.below bb
  try replace a6 := a6.below bb
  try replace a7 := a7.below bb
  try replace a8 := a8.below bb
  try replace a9 := a9.below bb
  try replace a10 := a10.below bb
  try replace a11 := a11.below bb
  try replace a12 := a12.below bb
  try replace a13 := a13.below bb
  try replace a14 := a14.below bb
  try replace a15 := a15.below bb
  try replace a16 := a16.below bb
  try replace a17 := a17.below bb
  try replace a18 := a18.below bb
  try replace a19 := a19.below bb
  try replace a20 := a20.below bb
  replace bw := below_on bw bb bw.size
  clear bb
  generalize wn.heap.size = g4 at a4 ⊢
  clear e0
  go_wp2_with fail
  go_ret
  exact ⟨rfl, bw⟩
end Go.Proofs.Ytodopppoikdglaa
