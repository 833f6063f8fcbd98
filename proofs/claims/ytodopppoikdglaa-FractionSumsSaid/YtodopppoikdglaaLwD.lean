/- What the laws of fractions share. -/
import Derived.Test.YtodopppoikdglaaLwC
import Derived.Test.YtodopppoikdglaaFrcV
namespace Go.Proofs.Ytodopppoikdglaa
open Go.RowKit

theorem Fx.ok.drew {x : Fx} {w : World} (h : x.ok w) : x.ok w.drew := h.below ((Below.refl w.heap.size w).drew)
def lensB (vs : List Fx) : Prop := ∀ v ∈ vs, v.xs.length ≤ 9223372036854775807 ∧ v.ys.length ≤ 9223372036854775807
theorem lens_ok {w : World} {x : Fx} (h : x.ok w) : x.xs.length ≤ 9223372036854775807 ∧ x.ys.length ≤ 9223372036854775807 := ⟨h.num.len, h.den.len⟩
theorem addF_ok {x y : Fx} {p q : Rat} (hx : x.v) (hy : y.v) (ex : x.q = p) (ey : y.q = q) (h : Sz (p + q) 128 128) : addF x y = okS (p + q) := by
  rw [addF, if_pos ⟨hx, hy⟩, ex, ey]; exact frS_ok h
theorem mulF_ok {x y : Fx} {p q : Rat} (hx : x.v) (hy : y.v) (ex : x.q = p) (ey : y.q = q) (h : Sz (p * q) 128 128) : mulF x y = okS (p * q) := by
  rw [mulF, if_pos ⟨hx, hy⟩, ex, ey]; exact frS_ok h
theorem cmpF_ok {x y : Fx} {p q : Rat} {z : Int} (hx : x.v) (hy : y.v) (ex : x.q = p) (ey : y.q = q) (h : cmpQ p q = z) : cmpF x y = (z, 0) := by
  rw [cmpF, if_pos ⟨hx, hy⟩, ex, ey, h]
theorem subF_ok {x y : Fx} {p q : Rat} (hx : x.v) (hy : y.v) (ex : x.q = p) (ey : y.q = q) (h : Sz (p - q) 128 128) : subF x y = okS (p - q) := by
  rw [subF, if_pos ⟨hx, hy⟩, ex, ey]; exact frS_ok h
theorem Rp.zero {x : Fx} {q : Rat} (h : Rp x q) : nv x.xs = 0 ↔ q = 0 := by
  rw [h.n, nv_lim, Int.natAbs_eq_zero, Rat.num_eq_zero]
theorem quoF_ok {x y : Fx} {p q : Rat} (hx : x.v) (hy : Rp y q) (ex : x.q = p) (hv : y.v) (hq : q ≠ 0) (h : Sz (p / q) 128 128) : quoF x y = okS (p / q) := by
  rw [quoF, if_pos ⟨hx, hv⟩, if_neg (fun e => hq (hy.zero.1 e)), ex, hy.q]; exact frS_ok h
theorem redS_okS {x : Fx} (hv : x.v) : redS x = okS x.q := (redS_ok hv).1
theorem longB_no {vs : List Fx} (h : longB vs = false) : ∀ v ∈ vs, v.xs.length ≤ 24 ∧ v.ys.length ≤ 24 := by
  intro v hv
  unfold longB at h
  have := List.any_eq_false.1 h v hv
  simp at this
  exact this
end Go.Proofs.Ytodopppoikdglaa
