/- The reference's long division: plain arithmetic. -/
import Derived.Test.YtnmomigaedfdoaaDivV
import Derived.Test.YtnmomigaedfdoaaNatG
namespace Go.Proofs.Ytnmomigaedfdoaa
set_option maxRecDepth 100000

theorem norm_bits {N n k : Nat} (hn : (lim N).length = n + 2) (hk : k + bits2 N = 32 * (n + 2)) :
    k < 32 ∧ (lim (N * 2 ^ k)).length = n + 2 ∧ 2147483648 * pw (n + 1) ≤ N * 2 ^ k ∧ ∀ h : n + 1 < (lim (N * 2 ^ k)).length, 2147483648 ≤ (lim (N * 2 ^ k))[n + 1] := by
  have hN : N ≠ 0 := by intro h; rw [h, lim_zero] at hn; simp at hn
  have h1 : pw (n + 1) ≤ N := (lim_length_lt N (n + 1)).1 (by omega)
  have h2 : ¬ bits2 N ≤ 32 * (n + 1) := by rw [bits2_le, ← pw_two]; omega
  have hb : bits2 (N * 2 ^ k) = 32 * (n + 2) := by rw [bits2_mul _ _ hN]; omega
  have h3 : N * 2 ^ k < 2 ^ (32 * (n + 2)) := (bits2_le _ _).1 (by omega)
  have h4 : ¬ N * 2 ^ k < 2 ^ (32 * (n + 1) + 31) := fun h => by have := (bits2_le _ _).2 h; omega
  have h5 : 2 ^ (32 * (n + 1) + 31) = pw (n + 1) * 2147483648 := by rw [Nat.pow_add, ← pw_two]
  rw [← pw_two] at h3
  have h6 : 2147483648 * pw (n + 1) ≤ N * 2 ^ k := by rw [h5] at h4; omega
  have hl : (lim (N * 2 ^ k)).length = n + 2 := by
    have a := (lim_length_le (N * 2 ^ k) (n + 2)).2 h3
    have b := (lim_length_lt (N * 2 ^ k) (n + 1)).2 (by omega)
    omega
  refine ⟨by omega, hl, h6, fun h => ?_⟩
  have h7 := nv_bounds (lim (N * 2 ^ k)) (lim_u32 _) (n + 1) (by omega) h
  rw [nv_lim] at h7
  have h8 : 2147483648 * pw (n + 1) < ((lim (N * 2 ^ k))[n + 1] + 1) * pw (n + 1) := by omega
  have h9 := Nat.lt_of_mul_lt_mul_right h8
  omega
theorem rdiv_start {M N n k K L : Nat} (hL : (lim (M * 2 ^ k)).length = L) (hK : L + 1 = n + 2 + K) (hV : pw (n + 1) ≤ N * 2 ^ k) : DivInv (M * 2 ^ k) (lim (N * 2 ^ k)) (n + 2) (L + 1) K (lim (M * 2 ^ k) ++ [0]) [] := by
  have h := DivInv.start (V := lim (N * 2 ^ k)) (U := lim (M * 2 ^ k) ++ [0]) (M := M * 2 ^ k) (n := n) (m := L) (K := K) (s := 0) (by simp [hL]) ((lim_u32 _).append (U32.one (by omega))) hK (by rw [nv_append, nv_lim]; simp [nv_cons, nv_nil]) ((lim_length_le _ _).1 (by omega)) (by rw [nv_lim]; simpa using hV)
  simpa using h
/-- a guess that is not too small -/
def GuessN (nS nV g : Nat) : Prop := g < 4294967296 ∧ nS < (g + 1) * nV
theorem GuessN.start {nS nV p top next u2 hd : Nat} (hp : 0 < p) (ht : 0 < top) (ht2 : top < 4294967296) (hv1 : (top * 4294967296 + next) * p ≤ nV) (hS2 : nS < (hd * 4294967296 + u2 + 1) * p) (h2 : u2 < 4294967296) (hb : hd / top < 4294967296) : GuessN nS nV (hd / top) := by
  have h := (GuessInv.start hp ht ht2 hv1 hS2 h2).2.2.2.1
  refine ⟨hb, ?_⟩
  rw [show (hd : Int) / top = ((hd / top : Nat) : Int) from (Int.natCast_ediv _ _).symm] at h
  exact_mod_cast h
theorem GuessN.most {nS nV : Nat} (h : nS < 4294967296 * nV) : GuessN nS nV 4294967295 := ⟨by omega, by simpa using h⟩
theorem GuessN.less {nS nV g : Nat} (h : GuessN nS nV g) (hgt : nS < nV * g) : 1 ≤ g ∧ GuessN nS nV (g - 1) := by
  have h0 : 1 ≤ g := by
    rcases Nat.eq_zero_or_pos g with h0 | h0
    · subst h0; simp at hgt
    · exact h0
  exact ⟨h0, by have := h.1; omega, by rw [show g - 1 + 1 = g from by omega, Nat.mul_comm]; exact hgt⟩
theorem GuessN.done {nS nV g : Nat} (h : GuessN nS nV g) (hle : nV * g ≤ nS) : g = nS / nV ∧ nS - nV * g = nS % nV := by
  have hV : 0 < nV := by
    rcases Nat.eq_zero_or_pos nV with h0 | h0
    · have := h.2; rw [h0] at this; simp at this
    · exact h0
  have hg : nS / nV = g := by
    apply Nat.div_eq_of_lt_le
    · rw [Nat.mul_comm]; exact hle
    · exact h.2
  refine ⟨hg.symm, ?_⟩
  have := Nat.div_add_mod nS nV
  rw [hg] at this
  omega
/-- limbs with zeros behind them -/
def padl (l : List Nat) (n : Nat) : List Nat := l ++ List.replicate (n - l.length) 0
theorem padl_length {l : List Nat} {n : Nat} (h : l.length ≤ n) : (padl l n).length = n := by simp [padl]; omega
theorem padl_nv (l : List Nat) (n : Nat) : nv (padl l n) = nv l := by rw [padl, nv_append, nv_replicate]; simp
theorem padl_u32 {l : List Nat} (h : U32 l) (n : Nat) : U32 (padl l n) := h.append (U32.replicate _)
theorem padl_in {l : List Nat} {n t : Nat} (h : t < l.length) (h2 : t < (padl l n).length) : (padl l n)[t] = l[t] := by simp only [padl]; rw [List.getElem_append_left h]
theorem padl_out {l : List Nat} {n t : Nat} (h : ¬ t < l.length) (h2 : t < (padl l n).length) : (padl l n)[t] = 0 := by simp only [padl]; rw [List.getElem_append_right (by omega)]; simp
theorem mix_set {A B : List Nat} {t : Nat} (hA : t < A.length) (hAB : A.length = B.length) (v : Nat) (hv : v = A[t]) : (A.take t ++ B.drop t).set t v = A.take (t + 1) ++ B.drop (t + 1) := by
  have ht : (A.take t).length = t := by simp; omega
  rw [List.set_append_right _ _ (by omega), ht, Nat.sub_self, List.drop_eq_getElem_cons (show t < B.length by omega), List.set_cons_zero, List.take_succ_eq_append_getElem hA, hv, List.append_assoc]
  rfl
end Go.Proofs.Ytnmomigaedfdoaa
