/- Long division of limbs: the guess of a digit, and what a round leaves. No program in sight. -/
import Derived.Test.YtodopppoikdglaaLimb
namespace Go.Proofs.Ytodopppoikdglaa

/-- the guess before and while it is corrected: head = guess * top + rest, and it is not below the true digit -/
theorem guess_keep {nS nV p top next u2 head guess rest : Nat} (hp : 0 < p) (hv1 : (top * 4294967296 + next) * p ≤ nV) (hS2 : nS < (head * 4294967296 + u2 + 1) * p)
    (hg : guess * top + rest = head) (hbig : rest * 4294967296 + u2 < guess * next) : nS < guess * nV := by
  have h1 : head * 4294967296 + u2 + 1 ≤ guess * (top * 4294967296 + next) := by
    rw [← hg]
    have e : guess * (top * 4294967296 + next) = guess * top * 4294967296 + guess * next := by grind
    rw [e]
    have e2 : (guess * top + rest) * 4294967296 = guess * top * 4294967296 + rest * 4294967296 := by grind
    omega
  have h2 : (head * 4294967296 + u2 + 1) * p ≤ guess * (top * 4294967296 + next) * p := Nat.mul_le_mul_right _ h1
  have h3 : guess * (top * 4294967296 + next) * p ≤ guess * nV := by rw [Nat.mul_assoc]; exact Nat.mul_le_mul_left _ hv1
  omega
theorem guess_end {nS nV p top next u2 head guess rest : Nat} (hp : 0 < p) (hv1 : (top * 4294967296 + next) * p ≤ nV) (hv2 : nV < (top * 4294967296 + next + 1) * p) (hS1 : (head * 4294967296 + u2) * p ≤ nS)
    (htop : 2147483648 ≤ top) (hg : guess * top + rest = head) (hlt : guess < 4294967296) (hok : guess * next ≤ rest * 4294967296 + u2) (hge : 1 ≤ guess) : (guess - 1) * nV ≤ nS := by
  obtain ⟨k, rfl⟩ : ∃ k, guess = k + 1 := ⟨guess - 1, by omega⟩
  rw [Nat.add_sub_cancel]
  have h1 : (k + 1) * (top * 4294967296 + next) ≤ head * 4294967296 + u2 := by
    rw [← hg]
    have e : (k + 1) * (top * 4294967296 + next) = (k + 1) * top * 4294967296 + (k + 1) * next := by grind
    rw [e]
    have e2 : ((k + 1) * top + rest) * 4294967296 = (k + 1) * top * 4294967296 + rest * 4294967296 := by grind
    omega
  have h2 : (k + 1) * (top * 4294967296 + next) * p ≤ nS := Nat.le_trans (Nat.mul_le_mul_right _ h1) hS1
  have h3 : k * nV ≤ k * ((top * 4294967296 + next + 1) * p) := Nat.mul_le_mul_left _ (Nat.le_of_lt hv2)
  have e3 : k * ((top * 4294967296 + next + 1) * p) = k * (top * 4294967296 + next) * p + k * p := by grind
  have e4 : (k + 1) * (top * 4294967296 + next) * p = k * (top * 4294967296 + next) * p + (top * 4294967296 + next) * p := by grind
  have h4 : k * p ≤ (top * 4294967296 + next) * p := Nat.mul_le_mul_right _ (by omega)
  omega
/-- the digit that is subtracted is the true one, or one more -/
theorem digit_of {nS nV guess neg nR P1 : Nat} (hV : 0 < nV) (h1 : nS < (guess + 1) * nV) (h2 : (guess - 1) * nV ≤ nS) (hge : 1 ≤ guess ∨ guess = 0) (hneg : neg ≤ 1) (hR : nR + guess * nV = nS + P1 * neg) (hRlt : nR < P1) (hVP : nV < P1) :
    (neg = 0 → guess = nS / nV ∧ nR = nS % nV) ∧ (neg = 1 → 1 ≤ guess ∧ guess - 1 = nS / nV ∧ ∀ nR2 k, nR2 < P1 → nR2 + P1 * k = nR + nV → nR2 = nS % nV) := by
  constructor
  · intro h0
    subst h0
    rw [Nat.mul_zero, Nat.add_zero] at hR
    have h3 : nR < nV := by
      have e : (guess + 1) * nV = guess * nV + nV := by grind
      omega
    have e : nS = nR + nV * guess := by rw [Nat.mul_comm]; omega
    rw [e, Nat.add_mul_div_left _ _ hV, Nat.add_mul_mod_self_left, Nat.div_eq_of_lt h3, Nat.mod_eq_of_lt h3]
    omega
  · intro h0
    subst h0
    rw [Nat.mul_one] at hR
    have hlt : nS < guess * nV := by omega
    have hg1 : 1 ≤ guess := by
      rcases Nat.eq_zero_or_pos guess with h | h
      · subst h; simp at hlt
      · exact h
    obtain ⟨k, rfl⟩ : ∃ k, guess = k + 1 := ⟨guess - 1, by omega⟩
    rw [Nat.add_sub_cancel] at h2 ⊢
    have e : (k + 1) * nV = k * nV + nV := by grind
    have h3 : nS - k * nV < nV := by omega
    have e2 : nS = (nS - k * nV) + nV * k := by rw [Nat.mul_comm nV k]; omega
    have hd : k = nS / nV := by rw [e2, Nat.add_mul_div_left _ _ hV, Nat.div_eq_of_lt h3]; omega
    have hm : nS % nV = nS - k * nV := by
      have : nS % nV = ((nS - k * nV) + nV * k) % nV := by rw [← e2]
      rw [this, Nat.add_mul_mod_self_left, Nat.mod_eq_of_lt h3]
    refine ⟨by omega, hd, fun nR2 c hlt2 hc => ?_⟩
    rw [hm]
    rcases Nat.eq_zero_or_pos c with h | h
    · subst h; rw [Nat.mul_zero] at hc; omega
    · rcases Nat.lt_or_ge c 2 with h4 | h4
      · obtain rfl : c = 1 := by omega
        rw [Nat.mul_one] at hc
        omega
      · have : P1 * 2 ≤ P1 * c := Nat.mul_le_mul_left _ h4
        omega

/-- the digits of a number read off place by place -/
theorem nv_digits (M n : Nat) (r : List Nat) (hl : r.length = n) (h : ∀ i (hi : i < r.length), r[i] = M / pw i % 4294967296) : nv r = M % pw n := by
  subst hl
  induction r generalizing M with
  | nil => simp [nv_nil, pw_zero, Nat.mod_one]
  | cons x r ih =>
    have h0 := h 0 (by simp)
    simp only [List.getElem_cons_zero, pw_zero, Nat.div_one] at h0
    have ih' := ih (M / 4294967296) (fun i hi => by
      have := h (i + 1) (by simp; omega)
      rw [List.getElem_cons_succ] at this
      rw [this, pw_succ, Nat.div_div_eq_div_mul])
    rw [nv_cons, ih', h0, List.length_cons, pw_succ, Nat.mod_mul]
theorem nv_drop_div (xs : List Nat) (hu : U32 xs) (i : Nat) (hi : i ≤ xs.length) : nv xs / pw i = nv (xs.drop i) := by
  rw [nv_split xs i hi]
  have h := nv_lt (hu.take i)
  rw [List.length_take, Nat.min_eq_left hi] at h
  rw [Nat.add_mul_div_left _ _ (pw_pos i), Nat.div_eq_of_lt h, Nat.zero_add]
theorem two_dvd {s : Nat} (h : s < 32) : ∃ q, 4294967296 = 2 ^ s * q := ⟨2 ^ (32 - s), by rw [← Nat.pow_add, show s + (32 - s) = 32 from by omega]⟩
/-- a limb of a number shifted down -/
theorem shift_limb {x y rest s : Nat} (hx : x < 4294967296) (hy : y < 4294967296) (hs : s < 32) : (y * 4294967296 + x) / 2 ^ s % 4294967296 = (x + 4294967296 * (y + 4294967296 * rest)) / 2 ^ s % 4294967296 := by
  obtain ⟨q, hq⟩ := two_dvd hs
  have hp : 0 < 2 ^ s := Nat.pow_pos (by omega)
  have e : x + 4294967296 * (y + 4294967296 * rest) = (y * 4294967296 + x) + 2 ^ s * (q * 4294967296 * rest) := by
    have : 4294967296 * (4294967296 * rest) = 2 ^ s * (q * 4294967296 * rest) := by
      rw [← Nat.mul_assoc, ← Nat.mul_assoc]
      have h2 : 4294967296 * 4294967296 = 2 ^ s * (q * 4294967296) := by
        rw [← Nat.mul_assoc, ← hq]
      rw [h2]
    rw [Nat.mul_add, this]; omega
  rw [e, Nat.add_mul_div_left _ _ hp]
  rw [show q * 4294967296 * rest = 4294967296 * (q * rest) from by grind, Nat.add_mul_mod_self_left]
end Go.Proofs.Ytodopppoikdglaa
