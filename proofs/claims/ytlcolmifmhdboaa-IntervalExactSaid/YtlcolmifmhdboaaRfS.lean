/- The walk of drydockref02.Sum. -/
import Derived.Test.YtlcolmifmhdboaaFrcA
import Derived.Test.YtlcolmifmhdboaaRfD
namespace Go.Proofs.Ytlcolmifmhdboaa
open Go.RowKit

set_option maxRecDepth 100000 in
theorem Fx.ok.alloc {x : Fx} {w : World} (h : x.ok w) (o : Obj) : x.ok (w.alloc o) := h.below ((Below.refl w.heap.size w).alloc (Nat.le_refl _) o)
set_option maxRecDepth 100000 in
theorem below_unalloc {w w' : World} {o : Obj} (h : Below (w.alloc o).heap.size (w.alloc o) w') : Below w.heap.size w w' := below_on ((Below.refl w.heap.size w).alloc (Nat.le_refl _) o) h (by simp)
set_option maxRecDepth 100000 in
theorem El.below {w w' : World} {ad : Addr} {j : Nat} {v0 v1 v2 : Value} (h : ad.block < w.heap.size ∧ w.cell? (ad.add j) = some v0 ∧ w.cell? ⟨(ad.add j).block, (ad.add j).off + 1, none⟩ = some v1 ∧ w.cell? ⟨(ad.add j).block, (ad.add j).off + 2, none⟩ = some v2) (hb : Below w.heap.size w w') :
    ad.block < w'.heap.size ∧ w'.cell? (ad.add j) = some v0 ∧ w'.cell? ⟨(ad.add j).block, (ad.add j).off + 1, none⟩ = some v1 ∧ w'.cell? ⟨(ad.add j).block, (ad.add j).off + 2, none⟩ = some v2 := by
  obtain ⟨hl, h0, h1, h2⟩ := h
  have e2 : (ad.add j).block = ad.block := block_of_add _ _
  exact ⟨Nat.lt_of_lt_of_le hl hb.size, (hb.cell (p := ad.add j) (by rw [e2]; exact hl)).trans h0, (hb.cell (p := ⟨(ad.add j).block, (ad.add j).off + 1, none⟩) (by show (ad.add j).block < _; rw [e2]; exact hl)).trans h1, (hb.cell (p := ⟨(ad.add j).block, (ad.add j).off + 2, none⟩) (by show (ad.add j).block < _; rw [e2]; exact hl)).trans h2⟩
set_option maxRecDepth 100000 in
theorem El.far {w : World} {ad : Addr} {j G : Nat} {v0 v1 v2 a b c : Value} (h : ad.block < w.heap.size ∧ w.cell? (ad.add j) = some v0 ∧ w.cell? ⟨(ad.add j).block, (ad.add j).off + 1, none⟩ = some v1 ∧ w.cell? ⟨(ad.add j).block, (ad.add j).off + 2, none⟩ = some v2) (hne : ad.block ≠ G) :
    (((w.setCell ⟨G, 0, none⟩ a).setCell ⟨G, 1, none⟩ b).setCell ⟨G, 2, none⟩ c).cell? (ad.add j) = some v0 ∧ (((w.setCell ⟨G, 0, none⟩ a).setCell ⟨G, 1, none⟩ b).setCell ⟨G, 2, none⟩ c).cell? ⟨(ad.add j).block, (ad.add j).off + 1, none⟩ = some v1 ∧ (((w.setCell ⟨G, 0, none⟩ a).setCell ⟨G, 1, none⟩ b).setCell ⟨G, 2, none⟩ c).cell? ⟨(ad.add j).block, (ad.add j).off + 2, none⟩ = some v2 := by
  obtain ⟨hl, h0, h1, h2⟩ := h
  have e2 : (ad.add j).block = ad.block := block_of_add _ _
  have ne : ∀ n m, (⟨G, n, none⟩ : Addr).block ≠ (⟨(ad.add j).block, m, none⟩ : Addr).block := fun n m => by show G ≠ (ad.add j).block; rw [e2]; exact fun e => hne e.symm
  have ne0 : ∀ n, (⟨G, n, none⟩ : Addr).block ≠ (ad.add j).block := fun n => by rw [e2]; exact fun e => hne e.symm
  refine ⟨?_, ?_, ?_⟩
  · rw [World.cell?_setCell_far _ _ _ _ (ne0 2), World.cell?_setCell_far _ _ _ _ (ne0 1), World.cell?_setCell_far _ _ _ _ (ne0 0)]; exact h0
  · rw [World.cell?_setCell_far _ _ _ _ (ne 2 _), World.cell?_setCell_far _ _ _ _ (ne 1 _), World.cell?_setCell_far _ _ _ _ (ne 0 _)]; exact h1
  · rw [World.cell?_setCell_far _ _ _ _ (ne 2 _), World.cell?_setCell_far _ _ _ _ (ne 1 _), World.cell?_setCell_far _ _ _ _ (ne 0 _)]; exact h2
end Go.Proofs.Ytlcolmifmhdboaa
