/- The walk of same.Frac: two fractions have the same sign and the same limbs. The walk of drydocklaw02.long. A variable that holds a fraction. -/
import Derived.Test.YtnmomigaedfdoaaIvB
import Derived.Test.YtnmomigaedfdoaaFrD
import Derived.Test.YtnmomigaedfdoaaSame
namespace Go.Proofs.Ytnmomigaedfdoaa
set_option maxRecDepth 100000
open Go.RowKit

set_option maxHeartbeats 1600000 in
theorem samef_any (w : World) (x y : Fx) (b : Bool) (hx : x.ok w) (hy : y.ok w) (hb : decide (x.b = y.b ∧ x.xs = y.xs ∧ x.ys = y.ys) = b) :
    Calls Try.prog 59 #[x.val, y.val] w fun e w' => e = .returned (.bool b) ∧ Below w.heap.size w w' := by
  have HB := Lib.hid hb; clear hb
  by_cases h1 : x.b = y.b
  · have h1b : (x.b == y.b) = true := by simp [h1]
    have H1 := Lib.hid h1
    clear h1
    by_cases h2 : x.xs = y.xs
    · have H2 := Lib.hid h2
      clear h2
      go_enter Try.func59, Try.ntmps59
      go_wp2_with fail
      have b0 := (Below.refl w.heap.size w).alloc (Nat.le_refl _) (.cells x.cells 26)
      have bx := bk3_alloc w (.bool x.b) (.slice x.A x.xs.length x.c) (.slice x.D x.ys.length x.d)
      have okx := hx.below b0
      have oky := hy.below b0
      have sz0 := size_box w (.cells x.cells 26)
      have bw := b0
      clear b0
      generalize (w.alloc (.cells x.cells 26)) = wa at bx okx oky sz0 bw ⊢
      have b1 := (Below.refl wa.heap.size wa).alloc (Nat.le_refl _) (.cells y.cells 26)
      have by_ := bk3_alloc wa (.bool y.b) (.slice y.A y.xs.length y.c) (.slice y.D y.ys.length y.d)
      rw [sz0] at by_
      replace bx := bx.below b1
      replace okx := okx.below b1
      replace oky := oky.below b1
      replace bw := below_on bw b1 bw.size
      clear b1 sz0
      generalize (wa.alloc (.cells y.cells 26)) = w1 at bx by_ okx oky bw ⊢
      have tx := bx
      obtain ⟨x0, x1, x2, xf0, xf1, xf2, xlt, xb⟩ := tx
      clear xb
      have ty := by_
      obtain ⟨y0, y1, y2, yf0, yf1, yf2, ylt, yb⟩ := ty
      clear yb
      go_wp2_with fail
      clear x0 x1 x2 xf0 xf1 xf2 xlt
      clear y0 y1 y2 yf0 yf1 yf2 ylt
      refine (same_any _ x.A y.A x.c y.c _ _ x.xs y.xs true okx.num oky.num rfl rfl (decide_eq_true H2.out)).mono ?_
      rintro e wn ⟨rfl, qq⟩
      have bb := qq.keep
      clear qq
      replace bx := bx.below bb
      replace by_ := by_.below bb
      replace okx := okx.below bb
      replace oky := oky.below bb
      replace bw := below_on bw bb bw.size
      clear bb
      have tx := bx
      obtain ⟨x0, x1, x2, xf0, xf1, xf2, xlt, xb⟩ := tx
      clear xb
      have ty := by_
      obtain ⟨y0, y1, y2, yf0, yf1, yf2, ylt, yb⟩ := ty
      clear yb
      go_wp2_with fail
      clear x0 x1 x2 xf0 xf1 xf2 xlt
      clear y0 y1 y2 yf0 yf1 yf2 ylt
      refine (same_any _ x.D y.D x.d y.d _ _ x.ys y.ys _ okx.den oky.den rfl rfl rfl).mono ?_
      rintro e wn ⟨rfl, qq⟩
      have bb := qq.keep
      clear qq
      replace bx := bx.below bb
      replace by_ := by_.below bb
      replace okx := okx.below bb
      replace oky := oky.below bb
      replace bw := below_on bw bb bw.size
      clear bb
      go_wp2_with fail
      go_ret
      exact ⟨ret_bool (by rw [← HB.out]; have h1 := H1.out; have h2 := H2.out; simp [h1, h2]), bw⟩
    · have H2 : Hid (¬ x.xs = y.xs) := h2
      clear h2
      go_enter Try.func59, Try.ntmps59
      go_wp2_with fail
      have b0 := (Below.refl w.heap.size w).alloc (Nat.le_refl _) (.cells x.cells 26)
      have bx := bk3_alloc w (.bool x.b) (.slice x.A x.xs.length x.c) (.slice x.D x.ys.length x.d)
      have okx := hx.below b0
      have oky := hy.below b0
      have sz0 := size_box w (.cells x.cells 26)
      have bw := b0
      clear b0
      generalize (w.alloc (.cells x.cells 26)) = wa at bx okx oky sz0 bw ⊢
      have b1 := (Below.refl wa.heap.size wa).alloc (Nat.le_refl _) (.cells y.cells 26)
      have by_ := bk3_alloc wa (.bool y.b) (.slice y.A y.xs.length y.c) (.slice y.D y.ys.length y.d)
      rw [sz0] at by_
      replace bx := bx.below b1
      replace okx := okx.below b1
      replace oky := oky.below b1
      replace bw := below_on bw b1 bw.size
      clear b1 sz0
      generalize (wa.alloc (.cells y.cells 26)) = w1 at bx by_ okx oky bw ⊢
      have tx := bx
      obtain ⟨x0, x1, x2, xf0, xf1, xf2, xlt, xb⟩ := tx
      clear xb
      have ty := by_
      obtain ⟨y0, y1, y2, yf0, yf1, yf2, ylt, yb⟩ := ty
      clear yb
      go_wp2_with fail
      clear x0 x1 x2 xf0 xf1 xf2 xlt
      clear y0 y1 y2 yf0 yf1 yf2 ylt
      refine (same_any _ x.A y.A x.c y.c _ _ x.xs y.xs false okx.num oky.num rfl rfl (decide_eq_false H2.out)).mono ?_
      rintro e wn ⟨rfl, qq⟩
      have bb := qq.keep
      clear qq
      replace bx := bx.below bb
      replace by_ := by_.below bb
      replace okx := okx.below bb
      replace oky := oky.below bb
      replace bw := below_on bw bb bw.size
      clear bb
      go_wp2_with fail
      go_ret
      exact ⟨ret_bool (by rw [← HB.out]; symm; apply decide_eq_false; intro h; exact H2.out h.2.1), bw⟩
  · have h1b : (x.b == y.b) = false := by simpa using h1
    have H1 : Hid (¬ x.b = y.b) := h1
    clear h1
    go_enter Try.func59, Try.ntmps59
    go_wp2_with fail
    have b0 := (Below.refl w.heap.size w).alloc (Nat.le_refl _) (.cells x.cells 26)
    have bx := bk3_alloc w (.bool x.b) (.slice x.A x.xs.length x.c) (.slice x.D x.ys.length x.d)
    have okx := hx.below b0
    have oky := hy.below b0
    have sz0 := size_box w (.cells x.cells 26)
    have bw := b0
    clear b0
    generalize (w.alloc (.cells x.cells 26)) = wa at bx okx oky sz0 bw ⊢
    have b1 := (Below.refl wa.heap.size wa).alloc (Nat.le_refl _) (.cells y.cells 26)
    have by_ := bk3_alloc wa (.bool y.b) (.slice y.A y.xs.length y.c) (.slice y.D y.ys.length y.d)
    rw [sz0] at by_
    replace bx := bx.below b1
    replace okx := okx.below b1
    replace oky := oky.below b1
    replace bw := below_on bw b1 bw.size
    clear b1 sz0
    generalize (wa.alloc (.cells y.cells 26)) = w1 at bx by_ okx oky bw ⊢
    have tx := bx
    obtain ⟨x0, x1, x2, xf0, xf1, xf2, xlt, xb⟩ := tx
    clear xb
    have ty := by_
    obtain ⟨y0, y1, y2, yf0, yf1, yf2, ylt, yb⟩ := ty
    clear yb
    go_wp2_with fail
    go_ret
    exact ⟨ret_bool (by rw [← HB.out]; symm; apply decide_eq_false; intro h; exact H1.out h.1), bw⟩
end Go.Proofs.Ytnmomigaedfdoaa
namespace Go.Proofs.Ytnmomigaedfdoaa
set_option maxRecDepth 100000
open Go.RowKit

/-- a slice that reads as fractions -/
def RdF (w : World) (A : Option Addr) (vs : List Fx) : Prop := 0 < vs.length → ∃ ad, A = some ad ∧ ad.block < w.heap.size ∧
  ∀ k (hk : k < vs.length), w.cell? (ad.add (k * 3)) = some (.bool vs[k].b) ∧ w.cell? ⟨(ad.add (k * 3)).block, (ad.add (k * 3)).off + 1, none⟩ = some (.slice vs[k].A vs[k].xs.length vs[k].c) ∧ w.cell? ⟨(ad.add (k * 3)).block, (ad.add (k * 3)).off + 2, none⟩ = some (.slice vs[k].D vs[k].ys.length vs[k].d)
def longB (vs : List Fx) : Bool := vs.any (fun v => decide (24 < v.xs.length) || decide (24 < v.ys.length))
end Go.Proofs.Ytnmomigaedfdoaa
namespace Go.Proofs.Ytnmomigaedfdoaa
set_option maxRecDepth 100000
open Go.RowKit

theorem heap_set_fv (w : World) (g i : Nat) (cs : Array Value) (t : TypeId) (fr : Nat × Nat) (v : Value) (hg : w.heap[g]? = some (.cells cs t fr)) :
    (w.setCell ⟨g, i, none⟩ v).heap[g]? = some (.cells (cs.setIfInBounds i v) t fr) := by
  simp [World.setCell, Array.getElem?_modify, hg]
theorem bk3_put {w : World} {G : Nat} {v0 v1 v2 a b c : Value} (bk : Bk3 w G v0 v1 v2) : Bk3 (((w.setCell ⟨G, 0, none⟩ a).setCell ⟨G, 1, none⟩ b).setCell ⟨G, 2, none⟩ c) G a b c := by
  obtain ⟨k0, k1, k2, f0, f1, f2, lt, t, fr, e⟩ := bk
  refine ⟨?_, ?_, ?_, ?_, ?_, ?_, ?_, t, fr, ?_⟩
  · simp [go_sem, k0]
  · simp [go_sem, k1]
  · simp [go_sem, k2]
  · simp [go_sem, f0]
  · simp [go_sem, f1]
  · simp [go_sem, f2]
  · simp [World.setCell]; exact lt
  · exact heap_set_fv _ _ _ _ _ _ _ (heap_set_fv _ _ _ _ _ _ _ (heap_set_fv _ _ _ _ _ _ _ e))
/-- a variable of the law: the fraction that lies in a block -/
structure Fa (w : World) (G : Nat) (x : Fx) : Prop where
  bk : Bk3 w G (.bool x.b) (.slice x.A x.xs.length x.c) (.slice x.D x.ys.length x.d)
  ok : x.ok w
section
variable {w w' : World} {G H : Nat} {x y : Fx}
theorem Fa.c0 (h : Fa w G x) : w.cell? ⟨G, 0, none⟩ = some (.bool x.b) := h.bk.c0
theorem Fa.c1 (h : Fa w G x) : w.cell? ⟨G, 1, none⟩ = some (.slice x.A x.xs.length x.c) := h.bk.c1
theorem Fa.c2 (h : Fa w G x) : w.cell? ⟨G, 2, none⟩ = some (.slice x.D x.ys.length x.d) := h.bk.c2
theorem Fa.lt (h : Fa w G x) : G < w.heap.size := h.bk.lt
theorem Fa.below (h : Fa w G x) (hb : Below w.heap.size w w') : Fa w' G x := ⟨h.bk.below hb, h.ok.below hb⟩
theorem Fa.of_bk (bk : Bk3 w G (.bool x.b) (.slice x.A x.xs.length x.c) (.slice x.D x.ys.length x.d)) (h : x.ok w) : Fa w G x := ⟨bk, h⟩
theorem heap_set_ne {a b c : Value} (hne : H ≠ G) : (((w.setCell ⟨H, 0, none⟩ a).setCell ⟨H, 1, none⟩ b).setCell ⟨H, 2, none⟩ c).heap[G]? = w.heap[G]? := by
  rw [heap_setCell_other _ _ _ _ (by exact fun e => hne e.symm), heap_setCell_other _ _ _ _ (by exact fun e => hne e.symm), heap_setCell_other _ _ _ _ (by exact fun e => hne e.symm)]
theorem Bk3.far {v0 v1 v2 a b c : Value} (h : Bk3 w G v0 v1 v2) (hne : H ≠ G) : Bk3 (((w.setCell ⟨H, 0, none⟩ a).setCell ⟨H, 1, none⟩ b).setCell ⟨H, 2, none⟩ c) G v0 v1 v2 := by
  have hg := heap_set_ne (w := w) (a := a) (b := b) (c := c) hne
  refine ⟨cell_set3 h.c0 hne, cell_set3 h.c1 hne, cell_set3 h.c2 hne, ?_, ?_, ?_, by simp [World.setCell]; exact h.lt, by rw [hg]; exact h.blk⟩
  · rw [← h.f0]; unfold World.frozen?; rw [hg]
  · rw [← h.f1]; unfold World.frozen?; rw [hg]
  · rw [← h.f2]; unfold World.frozen?; rw [hg]
/-- a store into another variable's block -/
theorem Fa.far (h : Fa w G x) (k : Fa w H y) (hne : H ≠ G) {a b c : Value} : Fa (((w.setCell ⟨H, 0, none⟩ a).setCell ⟨H, 1, none⟩ b).setCell ⟨H, 2, none⟩ c) G x :=
  ⟨h.bk.far hne, set3_ok h.ok k.bk rfl rfl rfl⟩
/-- a store into this variable's block -/
theorem Fa.put {z : Fx} (k : Fa w H y) (h : z.ok w) : Fa (((w.setCell ⟨H, 0, none⟩ (.bool z.b)).setCell ⟨H, 1, none⟩ (.slice z.A z.xs.length z.c)).setCell ⟨H, 2, none⟩ (.slice z.D z.ys.length z.d)) H z :=
  ⟨bk3_put k.bk, set3_ok h k.bk rfl rfl rfl⟩
end
theorem fa_alloc {w : World} {x : Fx} (h : x.ok w) : Fa (w.alloc (.cells x.cells 26)) w.heap.size x ∧ Below w.heap.size w (w.alloc (.cells x.cells 26)) := by
  have b0 := (Below.refl w.heap.size w).alloc (Nat.le_refl _) (.cells x.cells 26)
  exact ⟨Fa.of_bk (bk3_alloc w _ _ _) (h.below b0), b0⟩
end Go.Proofs.Ytnmomigaedfdoaa
