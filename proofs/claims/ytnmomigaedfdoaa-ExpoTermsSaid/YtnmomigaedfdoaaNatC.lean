/- The walk of natural.Sub. -/
import Derived.Test.YtnmomigaedfdoaaNatB
namespace Go.Proofs.Ytnmomigaedfdoaa
set_option maxRecDepth 100000
open Go.RowKit

def subS (m n : Nat) : List Nat × Int := if 512 < (lim m).length ∨ 512 < (lim n).length then ([], 2) else if m < n then ([], 4) else (lim (m - n), 0)
/-- Sub after j limbs: the limbs so far and the borrow -/
def SubInv (X Y : List Nat) (j C : Nat) (O : List Nat) : Prop := C ≤ 1 ∧ O.length = j ∧ U32 O ∧ nv O + nv (Y.take j) = nv (X.take j) + pw j * C
theorem SubInv.start (X Y : List Nat) : SubInv X Y 0 0 [] := ⟨by omega, rfl, U32.nil, by simp [nv_nil]⟩
theorem SubInv.step {X Y : List Nat} {j C : Nat} {O : List Nat} (h : SubInv X Y j C O) (hj : j < X.length) (x C' : Nat) (hx : x < 4294967296) (hC : C' ≤ 1)
    (hs : x + C + Y.getD j 0 = X[j] + 4294967296 * C') : SubInv X Y (j + 1) C' (O ++ [x]) := by
  obtain ⟨h1, h2, h3, h4⟩ := h
  refine ⟨hC, by simp [h2], h3.append (U32.one hx), ?_⟩
  rw [nv_append, nv_take_succ X j hj, nv_take_getD, h2, nv_cons, nv_nil, pw_succ]
  have h6 : pw j * (x + C + Y.getD j 0) = pw j * (X[j] + 4294967296 * C') := by rw [hs]
  grind
theorem SubInv.done {X Y : List Nat} {C : Nat} {O : List Nat} (h : SubInv X Y X.length C O) (hl : Y.length ≤ X.length) (hle : nv Y ≤ nv X) : U32 O ∧ nv O = nv X - nv Y ∧ O.length = X.length := by
  obtain ⟨h1, h2, h3, h4⟩ := h
  rw [List.take_of_length_le (Nat.le_refl _), List.take_of_length_le hl] at h4
  have h5 := nv_lt h3
  rw [h2] at h5
  refine ⟨h3, ?_, h2⟩
  rcases Nat.eq_zero_or_pos C with h0 | h0
  · subst h0; omega
  · obtain rfl : C = 1 := by omega
    omega

/-- the borrow and the limb of a step -/
def bor (x y c : Nat) : Nat := if x < y + c then 1 else 0
def dig (x y c : Nat) : Nat := x + 4294967296 * bor x y c - y - c
theorem bor_dig {x y c : Nat} (hx : x < 4294967296) (hy : y < 4294967296) (hc : c ≤ 1) : dig x y c < 4294967296 ∧ bor x y c ≤ 1 ∧ dig x y c + c + y = x + 4294967296 * bor x y c := by
  unfold dig bor; split <;> omega
end Go.Proofs.Ytnmomigaedfdoaa
