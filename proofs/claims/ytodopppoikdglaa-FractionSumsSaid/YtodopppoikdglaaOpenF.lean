/- A fraction that came in as an argument, opened to what the walks ask. -/
import Derived.Test.YtodopppoikdglaaOpen
import Derived.Test.YtodopppoikdglaaFrx
import Derived.Lib.SmallJoins
namespace Go.Proofs.Ytodopppoikdglaa
open Go.Joins Go.ChangeShapes Go.WideShapes Go.ChangeAt Go.RowKit

theorem nat_of_trod {H : Type} {enc : TypeId × Value → H} {W : World} {base : Nat} {spare : Nat → Bool} {held : Bool} {t : TypeId} {v : Value} {n : Nat} {y : DataW H × List MemPlace}
    (ht : Try.prog.underlying t = some (.slice 37)) (h : DataW.trod enc Try.prog W base spare held n t [v] = some y) : ∃ (A : Option Addr) (c : Nat) (xs : List Nat), v = .slice A xs.length c ∧ Nt W A c xs := by
  have hcs : ∃ A len c, v = .slice A len c := by
    rcases open_ints ht Try.underlying37 (by kernel_rfl) h with ⟨hcs, _⟩ | ⟨x, l, c, zs, hcs, _⟩
    · simp only [List.cons.injEq, and_true] at hcs; exact ⟨_, _, _, hcs⟩
    · simp only [List.cons.injEq, and_true] at hcs; exact ⟨_, _, _, hcs⟩
  obtain ⟨A, len, c, rfl⟩ := hcs
  obtain ⟨y1, y2⟩ := y
  have h2 : DataW.Trod enc Try.prog W base spare held t (.slice A len c) y1 y2 := ⟨n, by simpa [Value.cells] using h⟩
  obtain ⟨xs, rfl, hx⟩ := nt_of_ints ht h2
  exact ⟨A, c, xs, rfl, hx⟩
theorem fx_of_frac {H : Type} {enc : TypeId × Value → H} {W : World} {base b0 : Nat} {r : Reach} {spare : Nat → Bool} {held : Bool} {v : Value} {d : DataW H} {p : List MemPlace}
    (hv : Value.okWide Try.prog W r b0 25 v) (h : DataW.Trod enc Try.prog W base spare held 25 v d p) : ∃ x : Fx, v = x.val ∧ x.ok W := by
  obtain ⟨c0, c1, c2, y0, y1, y2, m, rfl, rfl, rfl, hy0, hy1, hy2⟩ := open_agg3 Try.underlying25 (by kernel_rfl) (by kernel_rfl) hv h
  have hb : ∃ b, c0 = .bool b := by
    obtain ⟨b, hb, _⟩ := DataW.trod_bool Try.underlying4 hy0
    simp only [List.cons.injEq, and_true] at hb
    exact ⟨b, hb⟩
  obtain ⟨b, rfl⟩ := hb
  obtain ⟨A, c, xs, rfl, hA⟩ := nat_of_trod Try.underlying23 hy1
  obtain ⟨D, e, ys, rfl, hD⟩ := nat_of_trod Try.underlying23 hy2
  exact ⟨⟨b, A, c, xs, D, e, ys⟩, rfl, hA, hD⟩
end Go.Proofs.Ytodopppoikdglaa
