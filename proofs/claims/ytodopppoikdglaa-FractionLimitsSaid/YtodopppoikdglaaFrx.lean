/- Fractions as the program holds them. -/
import Derived.Test.YtodopppoikdglaaFrcT
namespace Go.Proofs.Ytodopppoikdglaa
open Go.RowKit

/-- a fraction: its sign, and where its numbers lie -/
structure Fx where
  b : Bool
  A : Option Addr
  c : Nat
  xs : List Nat
  D : Option Addr
  d : Nat
  ys : List Nat
abbrev Fx.val (x : Fx) : Value := .agg #[.bool x.b, .slice x.A x.xs.length x.c, .slice x.D x.ys.length x.d]
abbrev Fx.cells (x : Fx) : Array Value := #[.bool x.b, .slice x.A x.xs.length x.c, .slice x.D x.ys.length x.d]
/-- the nil fraction -/
abbrev Fx.nil : Fx := ⟨false, none, 0, [], none, 0, []⟩
structure Fx.ok (x : Fx) (w : World) : Prop where
  num : Nt w x.A x.c x.xs
  den : Nt w x.D x.d x.ys
theorem Fx.ok.below {x : Fx} {w w' : World} (h : x.ok w) (hb : Below w.heap.size w w') : x.ok w' := ⟨h.num.below hb, h.den.below hb⟩
theorem Fx.nil_ok (w : World) : Fx.nil.ok w := ⟨Nt.nil _ _ _ (by show 0 ≤ _; omega), Nt.nil _ _ _ (by show 0 ≤ _; omega)⟩
def Fx.v (x : Fx) : Prop := Vf (nv x.xs) (nv x.ys)
instance (x : Fx) : Decidable x.v := inferInstanceAs (Decidable (Vf _ _))
def Fx.q (x : Fx) : Rat := qv x.b (nv x.xs) (nv x.ys)
/-- what a call hands back: a fraction and an error -/
def FracRes (w : World) (s : Bool × List Nat × List Nat × Int) (e : Ending) (w' : World) : Prop :=
  ∃ x : Fx, e = .returned (.tuple #[x.val, .int .i64 s.2.2.2]) ∧ (x.b = s.1 ∧ x.xs = s.2.1 ∧ x.ys = s.2.2.1) ∧ x.ok w' ∧ Below w.heap.size w w'
/-- what a call hands back: a fraction -/
def FracNew (w : World) (s : Bool × List Nat × List Nat) (e : Ending) (w' : World) : Prop :=
  ∃ x : Fx, e = .returned x.val ∧ (x.b = s.1 ∧ x.xs = s.2.1 ∧ x.ys = s.2.2) ∧ x.ok w' ∧ Below w.heap.size w w'
end Go.Proofs.Ytodopppoikdglaa
