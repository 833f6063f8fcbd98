/- The sums of expo's series and the exponential, and what floor tells of it. No program in sight. What expo's floor is for e^-x, x = num / den up to 64, den up to 256. No program in sight. -/
import Derived.Test.YtnmomigaedfdoaaEnE
namespace Go.Proofs.Ytnmomigaedfdoaa
set_option maxRecDepth 100000

section
variable {num den : Nat}
theorem eq_one_le {x : Rat} (hx : 0 ≤ x) (i : Nat) : 1 ≤ eq_ x (i + 1) := by
  have h := eq_mono hx (show 1 ≤ i + 1 by omega)
  have e : eq_ x 1 = 1 := by show (0 : Rat) + 1 = 1; grind
  rw [e] at h; exact h
theorem allE_enc (h0 : 0 < den) (one : Nat) : ∀ m, ((allE num den one m).lo : Rat) ≤ (one : Rat) * eq_ (xR num den) m ∧ (one : Rat) * eq_ (xR num den) m ≤ ((allE num den one m).hi : Rat) := by
  intro m
  induction m with
  | zero => exact ⟨by show ((0 : Nat) : Rat) ≤ (one : Rat) * 0; grind, by show (one : Rat) * 0 ≤ ((0 : Nat) : Rat); grind⟩
  | succ m ih =>
    have h := tE_enc (num := num) h0 one m
    have e : eq_ (xR num den) (m + 1) = eq_ (xR num den) m + tq (xR num den) m := rfl
    have e1 : (((allE num den one (m + 1)).lo : Nat) : Rat) = ((allE num den one m).lo : Rat) + ((tE num den one m).lo : Rat) := Rat.natCast_add _ _
    have e2 : (((allE num den one (m + 1)).hi : Nat) : Rat) = ((allE num den one m).hi : Rat) + ((tE num den one m).hi : Rat) := Rat.natCast_add _ _
    rw [e, e1, e2]
    grind
theorem allE_wid (h0 : 0 < den) (one : Nat) : ∀ m, ((allE num den one m).hi : Rat) ≤ ((allE num den one m).lo : Rat) + 2 * (m : Rat) * eq_ (xR num den) m := by
  have hx := xR_nn (num := num) h0
  intro m
  induction m with
  | zero => show ((0 : Nat) : Rat) ≤ ((0 : Nat) : Rat) + 2 * ((0 : Nat) : Rat) * 0; grind
  | succ m ih =>
    have h := tE_wid (num := num) h0 one m
    have e1 : (((allE num den one (m + 1)).lo : Nat) : Rat) = ((allE num den one m).lo : Rat) + ((tE num den one m).lo : Rat) := Rat.natCast_add _ _
    have e2 : (((allE num den one (m + 1)).hi : Nat) : Rat) = ((allE num den one m).hi : Rat) + ((tE num den one m).hi : Rat) := Rat.natCast_add _ _
    have h2 := eq_mono hx (show m ≤ m + 1 by omega)
    have h3 := mul_le_l (show (0 : Rat) ≤ 2 * (m : Rat) by have := natR_nn m; grind) h2
    have c : ((m + 1 : Nat) : Rat) = (m : Rat) + 1 := Rat.natCast_add _ _
    rw [e1, e2, c]
    generalize eq_ (xR num den) (m + 1) = S1 at *
    generalize eq_ (xR num den) m = S0 at *
    generalize (m : Rat) = k at *
    have e3 : 2 * (k + 1) * S1 = 2 * k * S1 + 2 * S1 := by grind
    rw [e3]
    grind
/-- behind twice x the terms fall at least by half -/
theorem tq_half2 {x : Rat} (hx : 0 ≤ x) {i : Nat} (h : 2 * x ≤ ((i + 1 : Nat) : Rat)) : 2 * tq x (i + 1) ≤ tq x i := by
  have e := tq_step x i
  have hk := nat_pos i
  have n0 := tq_nn hx i
  generalize ((i + 1 : Nat) : Rat) = k at *
  generalize tq x (i + 1) = t1 at *
  generalize tq x i = t0 at *
  refine Rat.le_of_mul_le_mul_right (c := k) ?_ hk
  have e1 : 2 * t1 * k = 2 * x * t0 := by
    have : 2 * t1 * k = 2 * (k * t1) := by grind
    rw [this, e]; grind
  have h2 := Rat.mul_le_mul_of_nonneg_right h n0
  rw [e1]
  have e2 : t0 * k = k * t0 := by grind
  rw [e2]; exact h2
theorem eq_tail2 {x : Rat} (hx : 0 ≤ x) {m : Nat} (h : 2 * x ≤ ((m + 1 : Nat) : Rat)) : ∀ k, eq_ x (m + 1 + k) + tq x (m + k) ≤ eq_ x (m + 1) + tq x m := by
  intro k
  induction k with
  | zero => exact Rat.le_refl
  | succ k ih =>
    have e : eq_ x (m + 1 + (k + 1)) = eq_ x (m + 1 + k) + tq x (m + 1 + k) := rfl
    have c : ((m + 1 : Nat) : Rat) ≤ ((m + k + 1 : Nat) : Rat) := by exact_mod_cast (show m + 1 ≤ m + k + 1 by omega)
    have h2 := tq_half2 hx (i := m + k) (Rat.le_trans h c)
    rw [show m + k + 1 = m + 1 + k by omega] at h2
    rw [e, show m + (k + 1) = m + 1 + k by omega]
    grind
theorem eq_bound2 {x : Rat} (hx : 0 ≤ x) {m : Nat} (h : 2 * x ≤ ((m + 1 : Nat) : Rat)) (M : Nat) : eq_ x M ≤ eq_ x (m + 1) + tq x m := by
  have n0 := tq_nn hx m
  rcases Nat.le_total M (m + 1) with h2 | h2
  · have := eq_mono hx h2
    grind
  · obtain ⟨d, rfl⟩ := Nat.exists_eq_add_of_le h2
    have := eq_tail2 hx h d
    have := tq_nn hx (m + d)
    grind
/-- what the sums at a stop say: L and H stand for the two sums of all terms -/
structure Enc (x : Rat) (p I L H : Nat) : Prop where
  up : ∀ M, ((2 ^ p : Nat) : Rat) * eq_ x M ≤ (H : Rat)
  lo : (L : Rat) ≤ ((2 ^ p : Nat) : Rat) * eq_ x (I + 1)
  wid : 2 ^ p * H ≤ 2 ^ p * L + 131072 * H
  one : 2 ^ p ≤ L
  le : L ≤ H
theorem enc_stop {n p : Nat} (hx : XOk num den) (hn : n ≤ 256) : Enc (xR num den) p (stopI num den (2 ^ p) n) (sAE num den (2 ^ p) (stopI num den (2 ^ p) n)).lo (sAE num den (2 ^ p) (stopI num den (2 ^ p) n)).hi ∨ ¬ (tP num den (2 ^ p) (stopI num den (2 ^ p) n) = tE num den (2 ^ p) (stopI num den (2 ^ p) n)) := by
  by_cases ht : tP num den (2 ^ p) (stopI num den (2 ^ p) n) = tE num den (2 ^ p) (stopI num den (2 ^ p) n)
  · left
    have h0 := hx.d0
    obtain ⟨⟨_, hI1, hI2⟩, hI3, _⟩ := stop_spec (2 ^ p) hx hn
    rw [ht] at hI2
    generalize stopI num den (2 ^ p) n = I at *
    have hxn := xR_nn (num := num) h0
    have e1 : (sAE num den (2 ^ p) I).lo = (allE num den (2 ^ p) (I + 1)).lo := rfl
    have e2 : (sAE num den (2 ^ p) I).hi = (allE num den (2 ^ p) (I + 1)).hi + (tE num den (2 ^ p) I).hi := rfl
    obtain ⟨a1, a2⟩ := allE_enc (num := num) h0 (2 ^ p) (I + 1)
    have a3 := allE_wid (num := num) h0 (2 ^ p) (I + 1)
    have a4 := (tE_enc (num := num) h0 (2 ^ p) I).2
    have h2x : 2 * xR num den ≤ ((I + 1 : Nat) : Rat) := by
      have h5 := Nat.div_add_mod num den
      have h6 := Nat.mod_lt num h0
      have h7 : 2 * num ≤ (I + 1) * den := by
        have : (2 * (num / den) + 2) * den ≤ (I + 1) * den := Nat.mul_le_mul_right _ (by omega)
        have e : (2 * (num / den) + 2) * den = 2 * (den * (num / den)) + 2 * den := by grind
        omega
      have h8 : 2 * (num : Rat) ≤ ((I + 1 : Nat) : Rat) * (den : Rat) := by exact_mod_cast h7
      have hd : (0 : Rat) < (den : Rat) := by exact_mod_cast h0
      refine Rat.le_of_mul_le_mul_right (c := (den : Rat)) ?_ hd
      have e : 2 * xR num den * (den : Rat) = 2 * (num : Rat) := by rw [Rat.mul_assoc, xR_mul h0]
      rw [e]; exact h8
    have hT := two_pos p
    have cH : (((sAE num den (2 ^ p) I).hi : Nat) : Rat) = ((allE num den (2 ^ p) (I + 1)).hi : Rat) + ((tE num den (2 ^ p) I).hi : Rat) := Rat.natCast_add _ _
    have hup : ∀ M, ((2 ^ p : Nat) : Rat) * eq_ (xR num den) M ≤ ((sAE num den (2 ^ p) I).hi : Rat) := fun M => by
      have h1 := mul_le_l (Rat.le_of_lt hT) (eq_bound2 hxn h2x M)
      rw [cH]
      grind
    have hone : 2 ^ p ≤ (sAE num den (2 ^ p) I).lo := by rw [e1]; exact (tE_in_all num den (2 ^ p) (i := 0) (m := I + 1) (by omega)).1
    have hle : (sAE num den (2 ^ p) I).lo ≤ (sAE num den (2 ^ p) I).hi := by
      rw [e1, e2]
      have : ((allE num den (2 ^ p) (I + 1)).lo : Rat) ≤ ((allE num den (2 ^ p) (I + 1)).hi : Rat) := Rat.le_trans a1 a2
      have : (allE num den (2 ^ p) (I + 1)).lo ≤ (allE num den (2 ^ p) (I + 1)).hi := by exact_mod_cast this
      omega
    refine ⟨hup, by rw [e1]; exact a1, ?_, hone, hle⟩
    have k1 := hup (I + 1)
    have cl : (((sAE num den (2 ^ p) I).lo : Nat) : Rat) = ((allE num den (2 ^ p) (I + 1)).lo : Rat) := rfl
    have ht1 : ((tE num den (2 ^ p) I).hi : Rat) ≤ 1 := by exact_mod_cast (show (tE num den (2 ^ p) I).hi ≤ 1 by omega)
    have hTH : ((2 ^ p : Nat) : Rat) ≤ ((sAE num den (2 ^ p) I).hi : Rat) := by exact_mod_cast Nat.le_trans hone hle
    have cI : 2 * ((I + 1 : Nat) : Rat) + 1 ≤ 131072 := by exact_mod_cast (show 2 * (I + 1) + 1 ≤ 131072 by omega)
    have nI := natR_nn (I + 1)
    suffices hs : ((2 ^ p : Nat) : Rat) * ((sAE num den (2 ^ p) I).hi : Rat) ≤ ((2 ^ p : Nat) : Rat) * ((sAE num den (2 ^ p) I).lo : Rat) + 131072 * ((sAE num den (2 ^ p) I).hi : Rat) by
      exact_mod_cast hs
    have hwid : ((sAE num den (2 ^ p) I).hi : Rat) ≤ ((sAE num den (2 ^ p) I).lo : Rat) + 2 * ((I + 1 : Nat) : Rat) * eq_ (xR num den) (I + 1) + 1 := by rw [cH, cl]; grind
    generalize ((sAE num den (2 ^ p) I).hi : Rat) = H at *
    generalize ((sAE num den (2 ^ p) I).lo : Rat) = L at *
    generalize ((2 ^ p : Nat) : Rat) = T at *
    generalize ((I + 1 : Nat) : Rat) = k at *
    generalize eq_ (xR num den) (I + 1) = S at *
    have g1 := mul_le_l (Rat.le_of_lt hT) hwid
    have g2 : 2 * k * (T * S) ≤ 2 * k * H := mul_le_l (by grind) k1
    have hH : 0 ≤ H := Rat.le_trans (Rat.le_of_lt hT) hTH
    have g3 := Rat.mul_le_mul_of_nonneg_right cI hH
    have e5 : T * (L + 2 * k * S + 1) = T * L + 2 * k * (T * S) + T := by grind
    have e6 : (2 * k + 1) * H = 2 * k * H + H := by grind
    rw [e5] at g1
    rw [e6] at g3
    grind
  · exact Or.inr ht
end
end Go.Proofs.Ytnmomigaedfdoaa
namespace Go.Proofs.Ytnmomigaedfdoaa
set_option maxRecDepth 100000

theorem enc_at {num den n p : Nat} (hx : XOk num den) (hn : n ≤ 256) (h0 : 40 ≤ p) (h1 : p ≤ 16130) :
    Enc (xR num den) p (stopI num den (2 ^ p) n) (sAE num den (2 ^ p) (stopI num den (2 ^ p) n)).lo (sAE num den (2 ^ p) (stopI num den (2 ^ p) n)).hi := by
  have hp := pOk h0 h1
  rw [shO_ok (by omega)] at hp
  obtain ⟨_, hI, _⟩ := stop_spec (2 ^ p) hx hn
  exact (enc_stop hx hn).resolve_right fun k => k (tP_eq hx hp _ (by omega))
/-- where the digits behind the k-th are not alike, the two floors agree -/
theorem floor_agree {x : Rat} {p I L H k v : Nat} (h : Enc x p I L H) (hv : v ≤ 2 ^ 160) (hlo : ApL 160 (v - 131072) x) (hhi : ApU 160 (v + 131072) x) (k1 : 1 ≤ k) (k2 : k ≤ 64) (hf : FarK v k) (hp : p = 2 * (k + 48)) :
    2 ^ p * 2 ^ k / H = 2 ^ p * 2 ^ k / L := by
  obtain ⟨T, hT⟩ : ∃ T, 2 ^ p = T := ⟨_, rfl⟩
  obtain ⟨R, hR⟩ : ∃ R, 2 ^ (160 - k) = R := ⟨_, rfl⟩
  obtain ⟨G, hG⟩ : ∃ G, 2 ^ (95 - k) = G := ⟨_, rfl⟩
  obtain ⟨Z, hZ⟩ : ∃ Z, (2 : Nat) ^ 160 = Z := ⟨_, rfl⟩
  obtain ⟨K, hK⟩ : ∃ K, (2 : Nat) ^ k = K := ⟨_, rfl⟩
  have hLn : 0 < L := Nat.lt_of_lt_of_le (Nat.pow_pos (by omega)) h.one
  have hHn : 0 < H := Nat.lt_of_lt_of_le hLn h.le
  have hTp := two_pos p
  have hZp := two_pos 160
  have r1 : R * K = Z := by rw [← hR, ← hK, ← hZ, ← Nat.pow_add]; congr 1; omega
  have r2 : 2147483648 ≤ G := by rw [← hG]; exact Nat.pow_le_pow_right (n := 2) (by omega) (show 31 ≤ 95 - k by omega)
  have r3 : 2 * G ≤ R := by
    rw [← hG, ← hR, Nat.mul_comm, ← Nat.pow_succ]; exact Nat.pow_le_pow_right (by omega) (by omega)
  have r4 : 131072 * (8 * Z) ≤ T * (G - 131072) := by
    have a1 : 2 ^ (94 - k) ≤ G - 131072 := by
      have e : G = 2 * 2 ^ (94 - k) := by rw [← hG, show 95 - k = 94 - k + 1 by omega, Nat.pow_succ, Nat.mul_comm]
      omega
    refine Nat.le_trans ?_ (Nat.mul_le_mul_left T a1)
    rw [← hT, ← hZ, ← Nat.pow_add]
    exact Nat.le_trans (Nat.le_of_eq (show 131072 * (8 * 2 ^ 160) = 2 ^ 180 by decide)) (Nat.pow_le_pow_right (by omega) (by omega))
  have hT0 : 262144 ≤ T := by rw [← hT]; exact Nat.pow_le_pow_right (n := 2) (by omega) (show 18 ≤ p by omega)
  have hGZ : G ≤ Z := by rw [← hG, ← hZ]; exact Nat.pow_le_pow_right (by omega) (by omega)
  have hZ0 : 0 < Z := by rw [← hZ]; exact Nat.pow_pos (by omega)
  -- v and the two sums
  have f1 : (v - 131072) * L ≤ Z * T := by
    have a := hlo (I + 1)
    have b := mul_le_l (natR_nn (v - 131072)) h.lo
    rw [hZ] at a
    rw [hT] at b
    have c := Rat.mul_le_mul_of_nonneg_right a (natR_nn T)
    have e : ((v - 131072 : Nat) : Rat) * ((T : Rat) * eq_ x (I + 1)) = ((v - 131072 : Nat) : Rat) * eq_ x (I + 1) * (T : Rat) := by grind
    rw [e] at b
    have d := Rat.le_trans b c
    exact_mod_cast d
  have f2 : Z * T ≤ (v + 131072) * H := by
    obtain ⟨M, a⟩ := hhi
    have b := mul_le_l (natR_nn (v + 131072)) (h.up M)
    rw [hZ] at a
    rw [hT] at b
    have c := Rat.mul_le_mul_of_nonneg_right a (natR_nn T)
    have e : ((v + 131072 : Nat) : Rat) * ((T : Rat) * eq_ x M) = ((v + 131072 : Nat) : Rat) * eq_ x M * (T : Rat) := by grind
    rw [e] at b
    have d := Rat.le_trans c b
    exact_mod_cast d
  have hw := h.wid
  have ho := h.one
  have hle := h.le
  rw [hT] at hw ho
  rw [hZ] at hv
  rw [FarK, hR, hG] at hf
  rw [hT, hK]
  clear hlo hhi hTp hZp hT hR hG hZ hK h
  have hH2 : H ≤ 2 * L := by
    have a : 262144 * (H - L) ≤ T * (H - L) := Nat.mul_le_mul_right _ hT0
    have e : T * H = T * L + T * (H - L) := by rw [← Nat.mul_add]; congr 1; omega
    omega
  have hR0 : 0 < R := by omega
  obtain ⟨m, u, hvm, hu⟩ : ∃ m u, v = R * m + u ∧ u = v % R := ⟨v / R, v % R, (Nat.div_add_mod v R).symm, rfl⟩
  have huR : u < R := by rw [hu]; exact Nat.mod_lt _ hR0
  have hfar : (m = 0 ∧ v + G ≤ R) ∨ (G ≤ u ∧ u + G ≤ R) := by
    rcases hf with h1 | ⟨h1, h2⟩
    · refine Or.inl ⟨?_, by omega⟩
      rcases Nat.eq_zero_or_pos m with h3 | h3
      · exact h3
      · have := Nat.mul_le_mul_left R h3
        omega
    · rw [← hu] at h1 h2
      exact Or.inr ⟨h1, h2⟩
  have hGE : 131072 ≤ G := by omega
  obtain ⟨g, hg⟩ : ∃ g, G = g + 131072 := ⟨G - 131072, by omega⟩
  rw [hg, Nat.add_sub_cancel] at r4
  obtain ⟨W, hW⟩ : ∃ W, H = L + W := ⟨H - L, by omega⟩
  have hTW : T * W ≤ 131072 * (2 * L) := by
    have e : T * H = T * L + T * W := by rw [hW, Nat.mul_add]
    have : 131072 * H ≤ 131072 * (2 * L) := Nat.mul_le_mul_left _ hH2
    omega
  -- (a)
  have ga : m * H ≤ T * K := by
    rcases hfar with ⟨h1, _⟩ | ⟨h1, _⟩
    · rw [h1, Nat.zero_mul]; exact Nat.zero_le _
    · have hmv : R * m + G ≤ v := by omega
      have s1 : (R * m + g) * L ≤ Z * T := Nat.le_trans (Nat.mul_le_mul_right _ (by omega)) f1
      have s2 : R * m * (T * W) ≤ Z * (131072 * (2 * L)) := Nat.mul_le_mul (by omega) hTW
      have s3 : 131072 * (8 * Z) * L ≤ T * g * L := Nat.mul_le_mul_right _ r4
      have s4 : T * (R * m * H) ≤ T * (Z * T) := by
        have e1 : T * (R * m * H) = T * (R * m * L) + R * m * (T * W) := by rw [hW]; grind
        have e2 : T * ((R * m + g) * L) = T * (R * m * L) + T * g * L := by grind
        have e3 : Z * (131072 * (2 * L)) * 4 = 131072 * (8 * Z) * L := by grind
        have s5 := Nat.mul_le_mul_left T s1
        omega
      have s6 := Nat.le_of_mul_le_mul_left s4 (show 0 < T by omega)
      rw [← r1] at s6
      have e4 : R * m * H = R * (m * H) := by grind
      have e5 : R * K * T = R * (T * K) := by grind
      rw [e4, e5] at s6
      exact Nat.le_of_mul_le_mul_left s6 hR0
  -- (b)
  have gb : T * K < (m + 1) * L := by
    have hmv : v + G ≤ R * (m + 1) := by
      rw [Nat.mul_add, Nat.mul_one]
      rcases hfar with ⟨h1, h2⟩ | ⟨_, h2⟩
      · omega
      · omega
    have s1 : (v + G) * L ≤ R * (m + 1) * L := Nat.mul_le_mul_right _ hmv
    have s2 : (v + 131072) * (T * W) ≤ 2 * Z * (131072 * (2 * L)) := Nat.mul_le_mul (by omega) hTW
    have s3 : 131072 * (8 * Z) * L ≤ T * g * L := Nat.mul_le_mul_right _ r4
    have s4 : T * (Z * T) < T * (R * (m + 1) * L) := by
      have e1 : T * ((v + 131072) * H) = T * ((v + 131072) * L) + (v + 131072) * (T * W) := by rw [hW]; grind
      have e2 : T * ((v + G) * L) = T * ((v + 131072) * L) + T * g * L := by rw [hg]; grind
      have e3 : 2 * Z * (131072 * (2 * L)) * 2 = 131072 * (8 * Z) * L := by grind
      have s5 := Nat.mul_le_mul_left T s1
      have s6 := Nat.mul_le_mul_left T f2
      have s7 : 0 < 2 * Z * (131072 * (2 * L)) := Nat.mul_pos (by omega) (by omega)
      omega
    have s6 := Nat.lt_of_mul_lt_mul_left s4
    rw [← r1] at s6
    have e4 : R * (m + 1) * L = R * ((m + 1) * L) := by grind
    have e5 : R * K * T = R * (T * K) := by grind
    rw [e4, e5] at s6
    exact Nat.lt_of_mul_lt_mul_left s6
  have q1 : m ≤ T * K / H := (Nat.le_div_iff_mul_le hHn).2 ga
  have q2 : T * K / L < m + 1 := (Nat.div_lt_iff_lt_mul hLn).2 gb
  have q3 : T * K / H ≤ T * K / L := Nat.div_le_div_left hle hLn
  omega
end Go.Proofs.Ytnmomigaedfdoaa
