/- Long division of limbs: the numbers brought to their place, and the rest brought back. No program in sight. -/
import Derived.Test.YtodopppoikdglaaDivU
namespace Go.Proofs.Ytodopppoikdglaa

theorem nv_bounds (xs : List Nat) (hu : U32 xs) (k : Nat) (hk : xs.length = k + 1) (h : k < xs.length) : xs[k] * pw k ≤ nv xs ∧ nv xs < (xs[k] + 1) * pw k := by
  have e := nv_at xs k h
  rw [List.drop_eq_nil_of_le (by omega), nv_nil, Nat.mul_zero, Nat.add_zero] at e
  have h2 := nv_lt (hu.take k)
  rw [List.length_take, Nat.min_eq_left (by omega)] at h2
  constructor
  · rw [e, Nat.mul_comm]; omega
  · rw [e, Nat.add_mul, Nat.one_mul, Nat.mul_comm]; omega
theorem two_up {x s : Nat} (hs : s < 32) (h : x * 2 ^ s < 4294967296) : (x + 1) * 2 ^ s ≤ 4294967296 := by
  obtain ⟨q, hq⟩ := two_dvd hs
  have hp : 0 < 2 ^ s := Nat.pow_pos (by omega)
  rw [hq, Nat.mul_comm] at h
  have h1 : x < q := Nat.lt_of_mul_lt_mul_left h
  rw [hq, Nat.mul_comm]
  exact Nat.mul_le_mul_left _ h1
/-- the divisor brought to its place -/
theorem norm_v {X O : List Nat} {n N s x : Nat} (hX : nv X = N) (hn : X.length = n + 2) (hu : U32 X) (hl : n + 1 < X.length) (hx : x = X[n + 1]) (hs : s < 32) (hxs : x * 2 ^ s < 4294967296) (h31 : 2147483648 ≤ x * 2 ^ s)
    (hO : O.length = n + 3) (hv : nv O = N * 2 ^ s) (hOu : U32 O) : nv (O.take (n + 2)) = N * 2 ^ s ∧ (∀ h : n + 1 < (O.take (n + 2)).length, 2147483648 ≤ (O.take (n + 2))[n + 1]) ∧ pw (n + 1) * 2 ^ s ≤ N * 2 ^ s := by
  have hp : 0 < 2 ^ s := Nat.pow_pos (by omega)
  have hb := nv_bounds X hu (n + 1) (by omega) hl
  rw [← hx, hX] at hb
  have hup := two_up hs hxs
  have hlt : nv O < pw (n + 2) := by
    rw [hv, pw_succ]
    have h1 : N * 2 ^ s < (x + 1) * pw (n + 1) * 2 ^ s := Nat.mul_lt_mul_of_pos_right hb.2 hp
    have h2 : (x + 1) * 2 ^ s * pw (n + 1) ≤ 4294967296 * pw (n + 1) := Nat.mul_le_mul_right _ hup
    have e : (x + 1) * pw (n + 1) * 2 ^ s = (x + 1) * 2 ^ s * pw (n + 1) := by rw [Nat.mul_right_comm]
    omega
  have hsp := nv_split O (n + 2) (by omega)
  have hz : nv (O.drop (n + 2)) = 0 := by
    rcases Nat.eq_zero_or_pos (nv (O.drop (n + 2))) with h | h
    · exact h
    · have : pw (n + 2) * 1 ≤ pw (n + 2) * nv (O.drop (n + 2)) := Nat.mul_le_mul_left _ h
      omega
  rw [hz, Nat.mul_zero, Nat.add_zero] at hsp
  refine ⟨by rw [← hsp, hv], fun h => ?_, ?_⟩
  · have hb2 := nv_bounds (O.take (n + 2)) (hOu.take _) (n + 1) (by rw [List.length_take]; omega) h
    rw [← hsp, hv] at hb2
    have h3 : x * 2 ^ s * pw (n + 1) ≤ N * 2 ^ s := by
      rw [Nat.mul_right_comm]
      exact Nat.mul_le_mul_right _ hb.1
    have h4 : 2147483648 * pw (n + 1) ≤ x * 2 ^ s * pw (n + 1) := Nat.mul_le_mul_right _ h31
    have h5 : 2147483648 * pw (n + 1) < ((O.take (n + 2))[n + 1] + 1) * pw (n + 1) := by omega
    have h6 := Nat.lt_of_mul_lt_mul_right h5
    omega
  · apply Nat.mul_le_mul_right
    have hx0 : 0 < x := by
      rcases Nat.eq_zero_or_pos x with h | h
      · subst h; simp at h31
      · exact h
    have : 1 * pw (n + 1) ≤ x * pw (n + 1) := Nat.mul_le_mul_right _ hx0
    omega
/-- the start of the rounds -/
theorem DivInv.start {V U : List Nat} {M n m K s : Nat} (hl : U.length = m + 1) (hu : U32 U) (hK : m + 1 = n + 2 + K) (hv : nv U = M * 2 ^ s) (hM : M < pw m) (hV : pw (n + 1) * 2 ^ s ≤ nv V) : DivInv (M * 2 ^ s) V (n + 2) (m + 1) K U [] := by
  refine ⟨hl, hu, by simp; omega, U32.nil, by rw [nv_nil, Nat.mul_zero, Nat.mul_zero, Nat.zero_add, hv], ?_⟩
  rw [← nv_drop_div U hu K (by omega), hv, Nat.div_lt_iff_lt_mul (pw_pos K)]
  have hp : 0 < 2 ^ s := Nat.pow_pos (by omega)
  have h1 : M * 2 ^ s < pw m * 2 ^ s := Nat.mul_lt_mul_of_pos_right hM hp
  have h2 : pw (n + 1) * 2 ^ s * pw K ≤ nv V * pw K := Nat.mul_le_mul_right _ hV
  have e : pw m = pw (n + 1) * pw K := by rw [show m = n + 1 + K from by omega]; unfold pw; exact Nat.pow_add _ _ _
  rw [e] at h1
  have e2 : pw (n + 1) * pw K * 2 ^ s = pw (n + 1) * 2 ^ s * pw K := by rw [Nat.mul_right_comm]
  omega
/-- the end: quotient and remainder -/
theorem DivInv.done {V U Qs : List Nat} {M N n m s : Nat} (h : DivInv (M * 2 ^ s) V n m 0 U Qs) (hV : nv V = N * 2 ^ s) : nv Qs = M / N ∧ nv U = M % N * 2 ^ s ∧ U32 Qs := by
  have hp : 0 < 2 ^ s := Nat.pow_pos (by omega)
  have h1 := h.eq
  have h2 := h.lt
  rw [List.drop_zero] at h2
  rw [pw_zero, Nat.one_mul] at h1
  have h3 : M * 2 ^ s / nv V = nv Qs := by
    rw [h1, Nat.mul_add_div (by omega), Nat.div_eq_of_lt h2, Nat.add_zero]
  have h4 : M * 2 ^ s % nv V = nv U := by
    rw [h1, Nat.mul_add_mod, Nat.mod_eq_of_lt h2]
  rw [hV, Nat.mul_div_mul_right _ _ hp] at h3
  rw [hV, Nat.mul_mod_mul_right] at h4
  exact ⟨h3.symm, h4.symm, h.qu⟩
/-- the limbs of the remainder, read off the rest of the rounds -/
theorem rest_limb {U : List Nat} (hu : U32 U) {R s i : Nat} (hv : nv U = R * 2 ^ s) (hs : s < 32) (hi : i + 1 < U.length) : (U[i + 1] * 4294967296 + U[i]) / 2 ^ s % 4294967296 = R / pw i % 4294967296 := by
  have h1 := nv_drop_div U hu i (by omega)
  rw [List.drop_eq_getElem_cons (show i < U.length by omega), List.drop_eq_getElem_cons hi, nv_cons, nv_cons, hv] at h1
  rw [shift_limb (rest := nv (U.drop (i + 1 + 1))) (hu.at i (by omega)) (hu.at (i + 1) hi) hs, ← h1]
  have hp : 0 < 2 ^ s := Nat.pow_pos (by omega)
  rw [Nat.div_div_eq_div_mul, Nat.mul_comm (pw i), ← Nat.div_div_eq_div_mul, Nat.mul_div_cancel _ hp]
/-- the guess while it is corrected -/
def GuessInv (nS nV top hd : Nat) (g r : Int) : Prop := 0 ≤ g ∧ 0 ≤ r ∧ g * top + r = hd ∧ (nS : Int) < (g + 1) * nV ∧ r < 4294967296
theorem GuessInv.start {nS nV p top next u2 hd : Nat} (hp : 0 < p) (ht : 0 < top) (ht2 : top < 4294967296) (hv1 : (top * 4294967296 + next) * p ≤ nV) (hS2 : nS < (hd * 4294967296 + u2 + 1) * p) (h2 : u2 < 4294967296) : GuessInv nS nV top hd ((hd : Int) / top) ((hd : Int) % top) := by
  have e1 : (hd : Int) / top = ((hd / top : Nat) : Int) := (Int.natCast_ediv _ _).symm
  have e2 : (hd : Int) % top = ((hd % top : Nat) : Int) := (Int.natCast_emod _ _).symm
  have h3 := Nat.mod_lt hd ht
  have h4 := Nat.div_add_mod hd top
  rw [e1, e2]
  refine ⟨Int.natCast_nonneg _, Int.natCast_nonneg _, ?_, ?_, by have : ((hd % top : Nat) : Int) < (top : Int) := Int.ofNat_lt.2 h3; omega⟩
  · rw [Nat.mul_comm] at h4
    exact_mod_cast h4
  · have h5 : hd * 4294967296 + u2 + 1 ≤ (hd / top + 1) * (top * 4294967296 + next) := by
      have h6 : hd + 1 ≤ (hd / top + 1) * top := by rw [Nat.add_mul, Nat.one_mul, Nat.mul_comm]; omega
      have h7 : (hd + 1) * 4294967296 ≤ (hd / top + 1) * top * 4294967296 := Nat.mul_le_mul_right _ h6
      rw [Nat.mul_add, ← Nat.mul_assoc]
      omega
    have h8 : (hd * 4294967296 + u2 + 1) * p ≤ (hd / top + 1) * nV := Nat.le_trans (Nat.mul_le_mul_right _ h5) (by rw [Nat.mul_assoc]; exact Nat.mul_le_mul_left _ hv1)
    have h9 : nS < (hd / top + 1) * nV := by omega
    exact_mod_cast h9
/-- one less -/
theorem GuessInv.less {nS nV p top next u2 hd : Nat} {g r : Int} (h : GuessInv nS nV top hd g r) (hp : 0 < p) (hv1 : (top * 4294967296 + next) * p ≤ nV) (hS2 : nS < (hd * 4294967296 + u2 + 1) * p) (hlt : nS < 4294967296 * nV)
    (hc : 4294967296 ≤ g ∨ r * 4294967296 + u2 < g * next) : 1 ≤ g ∧ (nS : Int) < (g - 1 + 1) * nV ∧ (g - 1) * top + (r + top) = hd := by
  obtain ⟨h0, h1, h2, h3, h4⟩ := h
  obtain ⟨G, rfl⟩ : ∃ G : Nat, g = G := ⟨g.toNat, by omega⟩
  obtain ⟨R, rfl⟩ : ∃ R : Nat, r = R := ⟨r.toNat, by omega⟩
  have e2 : G * top + R = hd := by exact_mod_cast h2
  have hkey : nS < G * nV := by
    rcases hc with hc | hc
    · have : 4294967296 * nV ≤ G * nV := Nat.mul_le_mul_right _ (by omega)
      omega
    · exact guess_keep hp hv1 hS2 e2 (by rw [← Int.natCast_mul] at hc; omega)
  have hG : 1 ≤ G := by
    rcases Nat.eq_zero_or_pos G with h | h
    · subst h; simp at hkey
    · exact h
  refine ⟨by omega, ?_, ?_⟩
  · rw [Int.sub_add_cancel]; exact_mod_cast hkey
  · rw [← h2]; grind
theorem GuessInv.again {nS nV top hd : Nat} {g r : Int} (hg : 1 ≤ g) (hr : 0 ≤ r) (h1 : (nS : Int) < (g - 1 + 1) * nV) (h2 : (g - 1) * top + (r + top) = hd) (hlt : r + top < 4294967296) : GuessInv nS nV top hd (g - 1) (r + top) :=
  ⟨by omega, by omega, h2, h1, hlt⟩
/-- what the tail of a round needs of the guess -/
def GuessOk (nS nV : Nat) (g : Int) : Prop := ∃ G : Nat, g = G ∧ G < 4294967296 ∧ nS < (G + 1) * nV ∧ (G - 1) * nV ≤ nS
theorem GuessInv.ok {nS nV p top next u2 hd : Nat} {g r : Int} (h : GuessInv nS nV top hd g r) (hp : 0 < p) (hv1 : (top * 4294967296 + next) * p ≤ nV) (hv2 : nV < (top * 4294967296 + next + 1) * p) (hS1 : (hd * 4294967296 + u2) * p ≤ nS) (htop : 2147483648 ≤ top)
    (hlt : g < 4294967296) (hc : g * next ≤ r * 4294967296 + u2) : GuessOk nS nV g := by
  obtain ⟨h0, h1, h2, h3, h4⟩ := h
  obtain ⟨G, rfl⟩ : ∃ G : Nat, g = G := ⟨g.toNat, by omega⟩
  obtain ⟨R, rfl⟩ : ∃ R : Nat, r = R := ⟨r.toNat, by omega⟩
  have e2 : G * top + R = hd := by exact_mod_cast h2
  refine ⟨G, rfl, by omega, by exact_mod_cast h3, ?_⟩
  rcases Nat.eq_zero_or_pos G with h | h
  · subst h; simp
  · exact guess_end hp hv1 hv2 hS1 htop e2 (by omega) (by rw [← Int.natCast_mul] at hc; omega) h
theorem GuessInv.broke {nS nV p top next u0 u1 u2 : Nat} {g r : Int} (hp : 0 < p) (hv1 : (top * 4294967296 + next) * p ≤ nV) (hv2 : nV < (top * 4294967296 + next + 1) * p) (hS1 : ((u0 * 4294967296 + u1) * 4294967296 + u2) * p ≤ nS) (htop : 2147483648 ≤ top) (hn : next < 4294967296) (h1 : u1 < 4294967296) (hu : u0 ≤ top)
    (hg : 1 ≤ g) (hr : 0 ≤ r) (h3 : (nS : Int) < (g - 1 + 1) * nV) (h2 : (g - 1) * top + (r + top) = (u0 * 4294967296 + u1 : Nat)) (hbig : 4294967296 ≤ r + top) : GuessOk nS nV (g - 1) := by
  obtain ⟨G, hG⟩ : ∃ G : Nat, g - 1 = G := ⟨(g - 1).toNat, by omega⟩
  obtain ⟨R, hR⟩ : ∃ R : Nat, r + top = R := ⟨(r + top).toNat, by omega⟩
  rw [hG] at h2 h3 ⊢
  rw [hR] at h2 hbig
  have e2 : G * top + R = u0 * 4294967296 + u1 := by exact_mod_cast h2
  have hGlt : G < 4294967296 := by
    have h5 : u0 * 4294967296 ≤ top * 4294967296 := Nat.mul_le_mul_right _ hu
    have h6 : G * top < 4294967296 * top := by omega
    exact Nat.lt_of_mul_lt_mul_right h6
  refine ⟨G, rfl, hGlt, by exact_mod_cast h3, ?_⟩
  rcases Nat.eq_zero_or_pos G with h | h
  · subst h; simp
  · refine guess_end hp hv1 hv2 hS1 htop e2 hGlt ?_ h
    have h7 : G * next ≤ 4294967295 * 4294967295 := Nat.mul_le_mul (by omega) (by omega)
    omega
theorem GuessInv.bound {nS nV top hd : Nat} {g r : Int} (h : GuessInv nS nV top hd g r) (ht : 0 < top) : g ≤ hd := by
  obtain ⟨h0, h1, h2, h3, h4⟩ := h
  have : g * 1 ≤ g * top := Int.mul_le_mul_of_nonneg_left (by omega) h0
  omega
theorem prod_lt {g : Int} {nxt : Nat} (h0 : 0 ≤ g) (h : g < 4294967296) (hn : nxt < 4294967296) : 0 ≤ g * nxt ∧ g * nxt < 18446744073709551616 := by
  obtain ⟨G, rfl⟩ : ∃ G : Nat, g = G := ⟨g.toNat, by omega⟩
  have h7 : G * nxt ≤ 4294967295 * 4294967295 := Nat.mul_le_mul (by omega) (by omega)
  rw [← Int.natCast_mul]
  omega
theorem div_le_int (hd top : Nat) : 0 ≤ (hd : Int) / top ∧ (hd : Int) / top ≤ hd := by
  have e1 : (hd : Int) / top = ((hd / top : Nat) : Int) := (Int.natCast_ediv _ _).symm
  rw [e1]
  have := Nat.div_le_self hd top
  exact ⟨Int.natCast_nonneg _, Int.ofNat_le.2 this⟩
theorem mod_le_int (hd top : Nat) : 0 ≤ (hd : Int) % top ∧ (hd : Int) % top ≤ hd := by
  have e1 : (hd : Int) % top = ((hd % top : Nat) : Int) := (Int.natCast_emod _ _).symm
  rw [e1]
  have := Nat.mod_le hd top
  exact ⟨Int.natCast_nonneg _, Int.ofNat_le.2 this⟩
end Go.Proofs.Ytodopppoikdglaa
