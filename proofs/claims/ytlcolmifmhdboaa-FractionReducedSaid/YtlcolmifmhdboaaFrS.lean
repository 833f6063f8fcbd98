/- What the laws of fractions share. The walk of fraction.Sum. -/
import Derived.Test.YtlcolmifmhdboaaLwC
import Derived.Test.YtlcolmifmhdboaaFrcV
namespace Go.Proofs.Ytlcolmifmhdboaa
open Go.RowKit

set_option maxRecDepth 100000 in
theorem Fx.ok.drew {x : Fx} {w : World} (h : x.ok w) : x.ok w.drew := h.below ((Below.refl w.heap.size w).drew)
def lensB (vs : List Fx) : Prop := ∀ v ∈ vs, v.xs.length ≤ 9223372036854775807 ∧ v.ys.length ≤ 9223372036854775807
set_option maxRecDepth 100000 in
theorem lens_ok {w : World} {x : Fx} (h : x.ok w) : x.xs.length ≤ 9223372036854775807 ∧ x.ys.length ≤ 9223372036854775807 := ⟨h.num.len, h.den.len⟩
set_option maxRecDepth 100000 in
theorem addF_ok {x y : Fx} {p q : Rat} (hx : x.v) (hy : y.v) (ex : x.q = p) (ey : y.q = q) (h : Sz (p + q) 128 128) : addF x y = okS (p + q) := by
  rw [addF, if_pos ⟨hx, hy⟩, ex, ey]; exact frS_ok h
set_option maxRecDepth 100000 in
theorem mulF_ok {x y : Fx} {p q : Rat} (hx : x.v) (hy : y.v) (ex : x.q = p) (ey : y.q = q) (h : Sz (p * q) 128 128) : mulF x y = okS (p * q) := by
  rw [mulF, if_pos ⟨hx, hy⟩, ex, ey]; exact frS_ok h
set_option maxRecDepth 100000 in
theorem cmpF_ok {x y : Fx} {p q : Rat} {z : Int} (hx : x.v) (hy : y.v) (ex : x.q = p) (ey : y.q = q) (h : cmpQ p q = z) : cmpF x y = (z, 0) := by
  rw [cmpF, if_pos ⟨hx, hy⟩, ex, ey, h]
set_option maxRecDepth 100000 in
theorem subF_ok {x y : Fx} {p q : Rat} (hx : x.v) (hy : y.v) (ex : x.q = p) (ey : y.q = q) (h : Sz (p - q) 128 128) : subF x y = okS (p - q) := by
  rw [subF, if_pos ⟨hx, hy⟩, ex, ey]; exact frS_ok h
set_option maxRecDepth 100000 in
theorem Rp.zero {x : Fx} {q : Rat} (h : Rp x q) : nv x.xs = 0 ↔ q = 0 := by
  rw [h.n, nv_lim, Int.natAbs_eq_zero, Rat.num_eq_zero]
set_option maxRecDepth 100000 in
theorem quoF_ok {x y : Fx} {p q : Rat} (hx : x.v) (hy : Rp y q) (ex : x.q = p) (hv : y.v) (hq : q ≠ 0) (h : Sz (p / q) 128 128) : quoF x y = okS (p / q) := by
  rw [quoF, if_pos ⟨hx, hv⟩, if_neg (fun e => hq (hy.zero.1 e)), ex, hy.q]; exact frS_ok h
set_option maxRecDepth 100000 in
theorem redS_okS {x : Fx} (hv : x.v) : redS x = okS x.q := (redS_ok hv).1
set_option maxRecDepth 100000 in
theorem longB_no {vs : List Fx} (h : longB vs = false) : ∀ v ∈ vs, v.xs.length ≤ 24 ∧ v.ys.length ≤ 24 := by
  intro v hv
  unfold longB at h
  have := List.any_eq_false.1 h v hv
  simp at this
  exact this
end Go.Proofs.Ytlcolmifmhdboaa
namespace Go.Proofs.Ytlcolmifmhdboaa
open Go.RowKit

/-- what Sum reckons from the partial sum q on -/
def sumS : List Fx → Rat → Bool × List Nat × List Nat × Int
  | [], q => okS q
  | x :: vs, q => if x.v then (if bigQ (q + x.q) then errF 2 else sumS vs (q + x.q)) else errF 1
set_option maxRecDepth 100000 in
theorem RdF.below {w w' : World} {A : Option Addr} {vs : List Fx} (h : RdF w A vs) (hb : Below w.heap.size w w') : RdF w' A vs := fun hn => by
  obtain ⟨ad, e, hl, hc⟩ := h hn
  refine ⟨ad, e, Nat.lt_of_lt_of_le hl hb.size, fun k hk => ?_⟩
  obtain ⟨h0, h1, h2⟩ := hc k hk
  have e2 : (ad.add (k * 3)).block = ad.block := block_of_add _ _
  exact ⟨(hb.cell (p := ad.add (k * 3)) (by rw [e2]; exact hl)).trans h0, (hb.cell (p := ⟨(ad.add (k * 3)).block, (ad.add (k * 3)).off + 1, none⟩) (by show (ad.add (k * 3)).block < _; rw [e2]; exact hl)).trans h1, (hb.cell (p := ⟨(ad.add (k * 3)).block, (ad.add (k * 3)).off + 2, none⟩) (by show (ad.add (k * 3)).block < _; rw [e2]; exact hl)).trans h2⟩
/-- the elements hold numbers -/
def OkF (w : World) (vs : List Fx) : Prop := ∀ v ∈ vs, v.ok w ∧ v.xs.length ≤ 10000 ∧ v.ys.length ≤ 10000
set_option maxRecDepth 100000 in
theorem OkF.below {w w' : World} {vs : List Fx} (h : OkF w vs) (hb : Below w.heap.size w w') : OkF w' vs := fun v hv => ⟨(h v hv).1.below hb, (h v hv).2⟩
set_option maxRecDepth 100000 in
theorem sumS_step {vs : List Fx} {k : Nat} (h : k < vs.length) (q : Rat) : sumS (vs.drop k) q = if vs[k].v then (if bigQ (q + vs[k].q) then errF 2 else sumS (vs.drop (k + 1)) (q + vs[k].q)) else errF 1 := by
  rw [List.drop_eq_getElem_cons h, sumS]
set_option maxRecDepth 100000 in
theorem addF_err {x y : Fx} {q : Rat} (_hx : x.v) (_ex : x.q = q) (h : ¬ y.v) : addF x y = errF 1 := by rw [addF, if_neg (fun e => h e.2)]
set_option maxRecDepth 100000 in
theorem addF_big {x y : Fx} {q : Rat} (hx : x.v) (hy : y.v) (ex : x.q = q) (h : bigQ (q + y.q)) : addF x y = errF 2 := by
  rw [addF, if_pos ⟨hx, hy⟩, ex, frS, if_pos h]; rfl
set_option maxRecDepth 100000 in
theorem Sz.of_big {q : Rat} (h : ¬ bigQ q) : Sz q 128 128 := by
  rw [bigQ] at h
  constructor <;> omega
set_option maxRecDepth 100000 in
theorem fa_build' {w : World} {b : Bool} {A D : Option Addr} {c d n m : Nat} {xs ys : List Nat} (hA : Nt w A c xs) (hD : Nt w D d ys) (hn : n = xs.length) (hm : m = ys.length) : ∃ x : Fx, (x.b = b ∧ x.xs = xs ∧ x.ys = ys) ∧ Fa (w.alloc (.cells #[.bool b, .slice A n c, .slice D m d] 25)) w.heap.size x ∧ Below w.heap.size w (w.alloc (.cells #[.bool b, .slice A n c, .slice D m d] 25)) := by
  subst hn hm
  have h : (⟨b, A, c, xs, D, d, ys⟩ : Fx).ok w := ⟨hA, hD⟩
  exact ⟨⟨b, A, c, xs, D, d, ys⟩, ⟨rfl, rfl, rfl⟩, (fa_alloc h).1, (fa_alloc h).2⟩
end Go.Proofs.Ytlcolmifmhdboaa
