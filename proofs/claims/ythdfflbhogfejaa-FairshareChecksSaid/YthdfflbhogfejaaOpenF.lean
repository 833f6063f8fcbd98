/- A fraction that came in as an argument, opened to what the walks ask. -/
import Derived.Test.YthdfflbhogfejaaOpenT
import Derived.Test.YthdfflbhogfejaaNatH
import Derived.Lib.SmallJoins
namespace Go.Proofs.Ythdfflbhogfejaa
set_option maxRecDepth 100000
open Go.Joins Go.ChangeShapes Go.WideShapes Go.ChangeAt Go.RowKit

theorem nat_of_trod {H : Type} {enc : TypeId × Value → H} {W : World} {base : Nat} {spare : Nat → Bool} {held : Bool} {t : TypeId} {v : Value} {n : Nat} {y : DataW H × List MemPlace}
    (ht : Try.prog.underlying t = some (.slice 77)) (h : DataW.trod enc Try.prog W base spare held n t [v] = some y) : ∃ (A : Option Addr) (c : Nat) (xs : List Nat), v = .slice A xs.length c ∧ Nt W A c xs := by
  have hcs : ∃ A len c, v = .slice A len c := by
    rcases open_ints ht Try.underlying77 (by kernel_rfl) h with ⟨hcs, _⟩ | ⟨x, l, c, zs, hcs, _⟩
    · simp only [List.cons.injEq, and_true] at hcs; exact ⟨_, _, _, hcs⟩
    · simp only [List.cons.injEq, and_true] at hcs; exact ⟨_, _, _, hcs⟩
  obtain ⟨A, len, c, rfl⟩ := hcs
  obtain ⟨y1, y2⟩ := y
  have h2 : DataW.Trod enc Try.prog W base spare held t (.slice A len c) y1 y2 := ⟨n, by simpa [Value.cells] using h⟩
  obtain ⟨xs, rfl, hx⟩ := nt_of_ints ht h2
  exact ⟨A, c, xs, rfl, hx⟩
end Go.Proofs.Ythdfflbhogfejaa
