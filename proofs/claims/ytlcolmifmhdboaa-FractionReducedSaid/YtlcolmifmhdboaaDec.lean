/- Decimal digits of a number. No program in sight. -/
namespace Go.Proofs.Ytlcolmifmhdboaa

/-- the decimal digits, least first -/
def decR (n : Nat) : List Nat := if h : n = 0 then [] else n % 10 :: decR (n / 10)
  termination_by n
  decreasing_by omega
set_option maxRecDepth 100000 in
theorem decR_zero : decR 0 = [] := by rw [decR]; simp
set_option maxRecDepth 100000 in
theorem decR_pos {n : Nat} (h : n ≠ 0) : decR n = n % 10 :: decR (n / 10) := by rw [decR]; simp [h]
set_option maxRecDepth 100000 in
theorem decR_small (n : Nat) : ∀ d ∈ decR n, d < 10 := by
  induction n using Nat.strongRecOn with
  | ind n ih =>
    by_cases h : n = 0
    · subst h; rw [decR_zero]; intro d hd; cases hd
    · rw [decR_pos h]
      intro d hd
      rcases List.mem_cons.1 hd with rfl | hd
      · omega
      · exact ih _ (by omega) d hd
set_option maxRecDepth 100000 in
theorem decR_nil {n : Nat} : decR n = [] ↔ n = 0 := by
  constructor
  · intro h
    by_cases h0 : n = 0
    · exact h0
    · rw [decR_pos h0] at h; cases h
  · rintro rfl; exact decR_zero
set_option maxRecDepth 100000 in
theorem decR_lt (n k : Nat) : (decR n).length ≤ k ↔ n < 10 ^ k := by
  induction k generalizing n with
  | zero =>
    by_cases h : n = 0
    · subst h; rw [decR_zero]; simp
    · rw [decR_pos h]; simp; omega
  | succ k ih =>
    by_cases h : n = 0
    · subst h; rw [decR_zero]; simp [Nat.pow_pos]
    · rw [decR_pos h, List.length_cons, Nat.pow_succ]
      have h1 := ih (n / 10)
      have h2 : n / 10 < 10 ^ k ↔ n < 10 ^ k * 10 := Nat.div_lt_iff_lt_mul (by omega)
      omega
/-- a digit as a byte -/
def digB (d : Nat) : Nat := 48 + d
/-- the text of a number, as bytes -/
def decT (n : Nat) : List Nat := if n = 0 then [48] else ((decR n).map digB).reverse
/-- a list of small numbers as a string -/
def bstr (l : List Nat) : ByteArray := ⟨(l.map UInt8.ofNat).toArray⟩
end Go.Proofs.Ytlcolmifmhdboaa
