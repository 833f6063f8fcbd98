/- A variable that holds a fraction. -/
import Derived.Test.YtnmomigaedfdoaaFrC
namespace Go.Proofs.Ytnmomigaedfdoaa
set_option maxRecDepth 100000
open Go.RowKit

theorem heap_set_fv (w : World) (g i : Nat) (cs : Array Value) (t : TypeId) (fr : Nat × Nat) (v : Value) (hg : w.heap[g]? = some (.cells cs t fr)) :
    (w.setCell ⟨g, i, none⟩ v).heap[g]? = some (.cells (cs.setIfInBounds i v) t fr) := by
  simp [World.setCell, Array.getElem?_modify, hg]
theorem bk3_put {w : World} {G : Nat} {v0 v1 v2 a b c : Value} (bk : Bk3 w G v0 v1 v2) : Bk3 (((w.setCell ⟨G, 0, none⟩ a).setCell ⟨G, 1, none⟩ b).setCell ⟨G, 2, none⟩ c) G a b c := by
  obtain ⟨k0, k1, k2, f0, f1, f2, lt, t, fr, e⟩ := bk
  refine ⟨?_, ?_, ?_, ?_, ?_, ?_, ?_, t, fr, ?_⟩
  · simp [go_sem, k0]
  · simp [go_sem, k1]
  · simp [go_sem, k2]
  · simp [go_sem, f0]
  · simp [go_sem, f1]
  · simp [go_sem, f2]
  · simp [World.setCell]; exact lt
  · exact heap_set_fv _ _ _ _ _ _ _ (heap_set_fv _ _ _ _ _ _ _ (heap_set_fv _ _ _ _ _ _ _ e))
/-- a variable of the law: the fraction that lies in a block -/
structure Fa (w : World) (G : Nat) (x : Fx) : Prop where
  bk : Bk3 w G (.bool x.b) (.slice x.A x.xs.length x.c) (.slice x.D x.ys.length x.d)
  ok : x.ok w
section
variable {w w' : World} {G H : Nat} {x y : Fx}
theorem Fa.c0 (h : Fa w G x) : w.cell? ⟨G, 0, none⟩ = some (.bool x.b) := h.bk.c0
theorem Fa.c1 (h : Fa w G x) : w.cell? ⟨G, 1, none⟩ = some (.slice x.A x.xs.length x.c) := h.bk.c1
theorem Fa.c2 (h : Fa w G x) : w.cell? ⟨G, 2, none⟩ = some (.slice x.D x.ys.length x.d) := h.bk.c2
theorem Fa.lt (h : Fa w G x) : G < w.heap.size := h.bk.lt
theorem Fa.below (h : Fa w G x) (hb : Below w.heap.size w w') : Fa w' G x := ⟨h.bk.below hb, h.ok.below hb⟩
theorem Fa.of_bk (bk : Bk3 w G (.bool x.b) (.slice x.A x.xs.length x.c) (.slice x.D x.ys.length x.d)) (h : x.ok w) : Fa w G x := ⟨bk, h⟩
theorem heap_set_ne {a b c : Value} (hne : H ≠ G) : (((w.setCell ⟨H, 0, none⟩ a).setCell ⟨H, 1, none⟩ b).setCell ⟨H, 2, none⟩ c).heap[G]? = w.heap[G]? := by
  rw [heap_setCell_other _ _ _ _ (by exact fun e => hne e.symm), heap_setCell_other _ _ _ _ (by exact fun e => hne e.symm), heap_setCell_other _ _ _ _ (by exact fun e => hne e.symm)]
theorem Bk3.far {v0 v1 v2 a b c : Value} (h : Bk3 w G v0 v1 v2) (hne : H ≠ G) : Bk3 (((w.setCell ⟨H, 0, none⟩ a).setCell ⟨H, 1, none⟩ b).setCell ⟨H, 2, none⟩ c) G v0 v1 v2 := by
  have hg := heap_set_ne (w := w) (a := a) (b := b) (c := c) hne
  refine ⟨cell_set3 h.c0 hne, cell_set3 h.c1 hne, cell_set3 h.c2 hne, ?_, ?_, ?_, by simp [World.setCell]; exact h.lt, by rw [hg]; exact h.blk⟩
  · rw [← h.f0]; unfold World.frozen?; rw [hg]
  · rw [← h.f1]; unfold World.frozen?; rw [hg]
  · rw [← h.f2]; unfold World.frozen?; rw [hg]
/-- a store into another variable's block -/
theorem Fa.far (h : Fa w G x) (k : Fa w H y) (hne : H ≠ G) {a b c : Value} : Fa (((w.setCell ⟨H, 0, none⟩ a).setCell ⟨H, 1, none⟩ b).setCell ⟨H, 2, none⟩ c) G x :=
  ⟨h.bk.far hne, set3_ok h.ok k.bk rfl rfl rfl⟩
/-- a store into this variable's block -/
theorem Fa.put {z : Fx} (k : Fa w H y) (h : z.ok w) : Fa (((w.setCell ⟨H, 0, none⟩ (.bool z.b)).setCell ⟨H, 1, none⟩ (.slice z.A z.xs.length z.c)).setCell ⟨H, 2, none⟩ (.slice z.D z.ys.length z.d)) H z :=
  ⟨bk3_put k.bk, set3_ok h k.bk rfl rfl rfl⟩
end
theorem fa_alloc {w : World} {x : Fx} (h : x.ok w) : Fa (w.alloc (.cells x.cells 26)) w.heap.size x ∧ Below w.heap.size w (w.alloc (.cells x.cells 26)) := by
  have b0 := (Below.refl w.heap.size w).alloc (Nat.le_refl _) (.cells x.cells 26)
  exact ⟨Fa.of_bk (bk3_alloc w _ _ _) (h.below b0), b0⟩
end Go.Proofs.Ytnmomigaedfdoaa
