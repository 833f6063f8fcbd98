/- Where the digits change, the program's two floors agree at the third precision at the latest; and what they say then. No program in sight. The program's floors of the weights and the tails are the true ones, for x up to 64 with denominators up to 256. No program in sight. -/
import Derived.Test.YtnmomigaedfdoaaEnG
import Derived.Test.YtnmomigaedfdoaaEnI
import Derived.Test.YtnmomigaedfdoaaEnO
namespace Go.Proofs.Ytnmomigaedfdoaa
set_option maxRecDepth 100000

/-- the two floors agree -/
theorem agree2 {x : Rat} {p I L H k lo hi D m : Nat} (h : Enc x p I L H) (hw : 2 ^ p * hi ≤ 2 ^ p * lo + 131072 * H) (hle : lo ≤ hi) (hD : D ≤ 2 ^ 135) (f2 : 2 ^ 135 * lo ≤ (D + 65536) * H) (k2 : k ≤ 63) (hp : p = (k + 48) * 2 ^ 2)
    (hm : m = 0 ∨ (m * 2 ^ (135 - k) + 2 ^ 23 ≤ D ∧ (D - 65536) * L ≤ 2 ^ 135 * hi)) (hf : D + 2 ^ 23 ≤ (m + 1) * 2 ^ (135 - k)) : lo * 2 ^ k / H = hi * 2 ^ k / L := by
  obtain ⟨T, hT⟩ : ∃ T, 2 ^ p = T := ⟨_, rfl⟩
  obtain ⟨R, hR⟩ : ∃ R, 2 ^ (135 - k) = R := ⟨_, rfl⟩
  obtain ⟨Z, hZ⟩ : ∃ Z, (2 : Nat) ^ 135 = Z := ⟨_, rfl⟩
  obtain ⟨K, hK⟩ : ∃ K, (2 : Nat) ^ k = K := ⟨_, rfl⟩
  have hLn : 0 < L := Nat.lt_of_lt_of_le (Nat.pow_pos (by omega)) h.one
  have hHn : 0 < H := Nat.lt_of_lt_of_le hLn h.le
  have r1 : R * K = Z := by rw [← hR, ← hK, ← hZ, ← Nat.pow_add]; congr 1; omega
  have hR0 : 0 < R := by rw [← hR]; exact Nat.pow_pos (by omega)
  have hZ0 : 0 < Z := by rw [← hZ]; exact Nat.pow_pos (by omega)
  have hZ1 : 65536 ≤ Z := by rw [← hZ]; exact Nat.pow_le_pow_right (n := 2) (by omega) (show 16 ≤ 135 by omega)
  have hT0 : 262144 ≤ T := by rw [← hT]; exact Nat.pow_le_pow_right (n := 2) (by omega) (show 18 ≤ p by omega)
  have r4 : 131072 * (32 * Z) ≤ T * 8323072 := by
    have a : 2 ^ 157 ≤ T := by rw [← hT]; exact Nat.pow_le_pow_right (by omega) (by omega)
    have b : 131072 * (32 * Z) ≤ 2 ^ 157 * 8323072 := by rw [← hZ]; decide
    exact Nat.le_trans b (Nat.mul_le_mul_right _ a)
  have e23 : 2 ^ 23 = 8388608 := by decide
  have hwid := h.wid
  have hLH := h.le
  rw [hT] at hw hwid
  rw [hZ] at hD f2 hm
  rw [hR] at hm hf
  rw [e23] at hm hf
  rw [hK]
  clear hT hR hZ hK h e23
  have hH2 : H ≤ 2 * L := by
    have a : 262144 * (H - L) ≤ T * (H - L) := Nat.mul_le_mul_right _ hT0
    have e : T * H = T * L + T * (H - L) := by rw [← Nat.mul_add]; congr 1; omega
    omega
  obtain ⟨W, hW⟩ : ∃ W, H = L + W := ⟨H - L, by omega⟩
  have hTW : T * W ≤ 131072 * (2 * L) := by
    have e : T * H = T * L + T * W := by rw [hW, Nat.mul_add]
    have : 131072 * H ≤ 131072 * (2 * L) := Nat.mul_le_mul_left _ hH2
    omega
  have s3 : 131072 * (32 * Z) * L ≤ T * 8323072 * L := Nat.mul_le_mul_right _ r4
  have hZw : T * (Z * hi) ≤ T * (Z * lo) + Z * (131072 * (2 * L)) := by
    have a := Nat.mul_le_mul_left Z hw
    have b := Nat.mul_le_mul_left (Z * 131072) hH2
    have e1 : Z * (T * hi) = T * (Z * hi) := by grind
    have e2 : Z * (T * lo + 131072 * H) = T * (Z * lo) + Z * 131072 * H := by grind
    have e3 : Z * 131072 * (2 * L) = Z * (131072 * (2 * L)) := by grind
    omega
  have e0 : Z * (131072 * (2 * L)) * 16 = 131072 * (32 * Z) * L := by grind
  have p0 : 0 < Z * (131072 * (2 * L)) := Nat.mul_pos hZ0 (by omega)
  -- (a)
  have ga : m * H ≤ lo * K := by
    rcases hm with h1 | ⟨h1, f1⟩
    · rw [h1, Nat.zero_mul]; exact Nat.zero_le _
    · have s1 : (m * R + 8323072) * L ≤ Z * hi := Nat.le_trans (Nat.mul_le_mul_right _ (by omega)) f1
      have s2 : m * R * (T * W) ≤ Z * (131072 * (2 * L)) := Nat.mul_le_mul (by omega) hTW
      have s4 : T * (m * R * H) ≤ T * (Z * lo) := by
        have e1 : T * (m * R * H) = T * (m * R * L) + m * R * (T * W) := by rw [hW]; grind
        have e2 : T * ((m * R + 8323072) * L) = T * (m * R * L) + T * 8323072 * L := by grind
        have s5 := Nat.mul_le_mul_left T s1
        omega
      have s6 := Nat.le_of_mul_le_mul_left s4 (show 0 < T by omega)
      rw [← r1] at s6
      have e4 : m * R * H = R * (m * H) := by grind
      have e5 : R * K * lo = R * (lo * K) := by grind
      rw [e4, e5] at s6
      exact Nat.le_of_mul_le_mul_left s6 hR0
  -- (b)
  have gb : hi * K < (m + 1) * L := by
    have s1 : (D + 8388608) * L ≤ (m + 1) * R * L := Nat.mul_le_mul_right _ hf
    have s2 : (D + 65536) * (T * W) ≤ 2 * Z * (131072 * (2 * L)) := by
      exact Nat.mul_le_mul (by omega) hTW
    have s4 : T * (Z * hi) < T * ((m + 1) * R * L) := by
      have e1 : T * ((D + 65536) * H) = T * ((D + 65536) * L) + (D + 65536) * (T * W) := by rw [hW]; grind
      have e2 : T * ((D + 8388608) * L) = T * ((D + 65536) * L) + T * 8323072 * L := by grind
      have e3 : 2 * Z * (131072 * (2 * L)) = 2 * (Z * (131072 * (2 * L))) := by grind
      have s5 := Nat.mul_le_mul_left T s1
      have s6 := Nat.mul_le_mul_left T f2
      omega
    have s6 := Nat.lt_of_mul_lt_mul_left s4
    rw [← r1] at s6
    have e4 : (m + 1) * R * L = R * ((m + 1) * L) := by grind
    have e5 : R * K * hi = R * (hi * K) := by grind
    rw [e4, e5] at s6
    exact Nat.lt_of_mul_lt_mul_left s6
  have q1 : m ≤ lo * K / H := (Nat.le_div_iff_mul_le hHn).2 ga
  have q2 : hi * K / L < m + 1 := (Nat.div_lt_iff_lt_mul hLn).2 gb
  have q3 : lo * K / H ≤ hi * K / L := Nat.le_trans (Nat.div_le_div_left hLH hLn) (Nat.div_le_div_right (Nat.mul_le_mul_right K hle))
  omega
/-- q units of 1 / K are at most s e^-x, and q + 1 are more -/
def Flo (K q : Nat) (x : Rat) (s : Nat → Rat) : Prop := ∃ M0, ∀ M, M0 ≤ M → (q : Rat) * eq_ x M ≤ (K : Rat) * s M ∧ (K : Rat) * s M < ((q + 1 : Nat) : Rat) * eq_ x M
section
variable {x : Rat} {p I L H K q lo hi : Nat}
theorem told_hi (h : Enc x p I L H) (hx : 0 ≤ x) (hL : 0 < L) (hq : hi * K / L = q) {s : Rat} (h2 : ((2 ^ p : Nat) : Rat) * s ≤ (hi : Rat)) (M : Nat) (hM : I + 1 ≤ M) : (K : Rat) * s < ((q + 1 : Nat) : Rat) * eq_ x M := by
  have a := Nat.div_add_mod (hi * K) L
  have b := Nat.mod_lt (hi * K) hL
  rw [hq] at a
  have c : hi * K < (q + 1) * L := by rw [Nat.add_mul, Nat.one_mul, Nat.mul_comm q]; omega
  have c' : (hi : Rat) * (K : Rat) < ((q + 1 : Nat) : Rat) * (L : Rat) := by exact_mod_cast c
  have d := mul_le_l (natR_nn (q + 1)) h.lo
  have e := mul_le_l (natR_nn (q + 1)) (mul_le_l (natR_nn (2 ^ p)) (eq_mono hx hM))
  have g := Rat.mul_le_mul_of_nonneg_right h2 (natR_nn K)
  have hT := two_pos p
  generalize ((2 ^ p : Nat) : Rat) = T at *
  generalize ((q + 1 : Nat) : Rat) = q1 at *
  have e1 : (K : Rat) * s * T = T * s * (K : Rat) := by grind
  have e2 : q1 * eq_ x M * T = q1 * (T * eq_ x M) := by grind
  have r : (K : Rat) * s * T < q1 * eq_ x M * T := by
    rw [e1, e2]
    have r2 := Rat.le_trans d e
    generalize q1 * (T * eq_ x M) = u at *
    generalize T * s * (K : Rat) = w at *
    grind
  apply Classical.byContradiction
  intro k
  have k2 := Rat.mul_le_mul_of_nonneg_right (Rat.not_lt.1 k) (Rat.le_of_lt hT)
  grind
theorem told_lo (h : Enc x p I L H) (hq : lo * K / H = q) {s : Rat} (h1 : (lo : Rat) ≤ ((2 ^ p : Nat) : Rat) * s) (M : Nat) : (q : Rat) * eq_ x M ≤ (K : Rat) * s := by
  have a := Nat.div_mul_le_self (lo * K) H
  rw [hq] at a
  have a' : (q : Rat) * (H : Rat) ≤ (lo : Rat) * (K : Rat) := by exact_mod_cast a
  have b := mul_le_l (natR_nn q) (h.up M)
  have g := Rat.mul_le_mul_of_nonneg_right h1 (natR_nn K)
  have hT := two_pos p
  generalize ((2 ^ p : Nat) : Rat) = T at *
  refine Rat.le_of_mul_le_mul_right (c := T) ?_ hT
  have e1 : (K : Rat) * s * T = T * s * (K : Rat) := by grind
  have e2 : (q : Rat) * eq_ x M * T = (q : Rat) * (T * eq_ x M) := by grind
  rw [e1, e2]
  exact Rat.le_trans b (Rat.le_trans a' g)
/-- a number s e^-x -/
theorem told_c (h : Enc x p I L H) (hx : 0 ≤ x) (hL : 0 < L) (hq : lo * K / H = q) (hq2 : hi * K / L = q) {s : Rat} (h1 : (lo : Rat) ≤ ((2 ^ p : Nat) : Rat) * s) (h2 : ((2 ^ p : Nat) : Rat) * s ≤ (hi : Rat)) : Flo K q x (fun _ => s) :=
  ⟨I + 1, fun M hM => ⟨told_lo h hq h1 M, told_hi h hx hL hq2 h2 M hM⟩⟩
/-- 1 - c e^-x -/
theorem told_t (h : Enc x p I L H) (hx : 0 ≤ x) (hL : 0 < L) (hq : lo * K / H = q) (hq2 : hi * K / L = q) {c : Rat} (hc : 0 ≤ c) (h1 : (lo : Rat) ≤ ((2 ^ p : Nat) : Rat) * (eq_ x (I + 1) - c)) (h2 : ∀ M, ((2 ^ p : Nat) : Rat) * (eq_ x M - c) ≤ (hi : Rat)) : Flo K q x (fun M => eq_ x M - c) := by
  refine ⟨I + 1, fun M hM => ⟨?_, told_hi h hx hL hq2 (h2 M) M hM⟩⟩
  have a := told_lo h hq h1 (I + 1)
  have b := eq_mono hx hM
  have o := eq_one_le hx I
  have hqK : (q : Rat) ≤ (K : Rat) := by
    refine Rat.le_of_mul_le_mul_right (c := eq_ x (I + 1)) ?_ (by grind)
    have := Rat.mul_nonneg (natR_nn K) hc
    grind
  have d := mul_le_l (show (0 : Rat) ≤ (K : Rat) - (q : Rat) by grind) b
  show (q : Rat) * eq_ x M ≤ (K : Rat) * (eq_ x M - c)
  grind
end
/-- which precision tells -/
theorem floorM_some {num den n k kind : Nat} (h2 : (fAt num den n k kind ((k + 48) * 2 ^ 2)).1 = (fAt num den n k kind ((k + 48) * 2 ^ 2)).2) :
    ∃ j, j ≤ 2 ∧ (fAt num den n k kind ((k + 48) * 2 ^ j)).1 = (fAt num den n k kind ((k + 48) * 2 ^ j)).2 ∧ floorM num den n k kind = (fAt num den n k kind ((k + 48) * 2 ^ j)).1 := by
  by_cases h0 : (fAt num den n k kind ((k + 48) * 2 ^ 0)).1 = (fAt num den n k kind ((k + 48) * 2 ^ 0)).2
  · exact ⟨0, by omega, h0, floorM_at (by omega) (fun i hi => by omega) h0⟩
  · by_cases h1 : (fAt num den n k kind ((k + 48) * 2 ^ 1)).1 = (fAt num den n k kind ((k + 48) * 2 ^ 1)).2
    · exact ⟨1, by omega, h1, floorM_at (by omega) (fun i hi => (show i = 0 by omega) ▸ h0) h1⟩
    · refine ⟨2, by omega, h2, floorM_at (by omega) (fun i hi => ?_) h2⟩
      rcases (show i = 0 ∨ i = 1 by omega) with rfl | rfl
      · exact h0
      · exact h1
end Go.Proofs.Ytnmomigaedfdoaa
namespace Go.Proofs.Ytnmomigaedfdoaa
set_option maxRecDepth 100000

section
variable {num den : Nat}
theorem restE_zero (num den one n : Nat) : ∀ i, i ≤ n + 1 → restE num den one n i = ⟨0, 0⟩ := by
  intro i
  induction i with
  | zero => intro _; rfl
  | succ i ih => intro h; rw [restE, if_neg (by omega), ih (by omega)]
theorem restE_enc (h0 : 0 < den) (one n : Nat) : ∀ t, ((restE num den one n (n + 1 + t)).lo : Rat) ≤ (one : Rat) * (eq_ (xR num den) (n + 1 + t) - eq_ (xR num den) (n + 1)) ∧ (one : Rat) * (eq_ (xR num den) (n + 1 + t) - eq_ (xR num den) (n + 1)) ≤ ((restE num den one n (n + 1 + t)).hi : Rat) := by
  intro t
  induction t with
  | zero =>
    rw [Nat.add_zero, restE_zero num den one n (n + 1) (Nat.le_refl _)]
    constructor
    · show ((0 : Nat) : Rat) ≤ _; grind
    · show _ ≤ ((0 : Nat) : Rat); grind
  | succ t ih =>
    have h := tE_enc (num := num) h0 one (n + 1 + t)
    have e : eq_ (xR num den) (n + 1 + (t + 1)) = eq_ (xR num den) (n + 1 + t) + tq (xR num den) (n + 1 + t) := rfl
    have er : restE num den one n (n + 1 + (t + 1)) = ⟨(restE num den one n (n + 1 + t)).lo + (tE num den one (n + 1 + t)).lo, (restE num den one n (n + 1 + t)).hi + (tE num den one (n + 1 + t)).hi⟩ := by
      show (if n < n + 1 + t then _ else _) = _
      rw [if_pos (by omega)]
      rfl
    rw [e, er]
    have e1 : (((restE num den one n (n + 1 + t)).lo + (tE num den one (n + 1 + t)).lo : Nat) : Rat) = ((restE num den one n (n + 1 + t)).lo : Rat) + ((tE num den one (n + 1 + t)).lo : Rat) := Rat.natCast_add _ _
    have e2 : (((restE num den one n (n + 1 + t)).hi + (tE num den one (n + 1 + t)).hi : Nat) : Rat) = ((restE num den one n (n + 1 + t)).hi : Rat) + ((tE num den one (n + 1 + t)).hi : Rat) := Rat.natCast_add _ _
    constructor
    · show (((restE num den one n (n + 1 + t)).lo + (tE num den one (n + 1 + t)).lo : Nat) : Rat) ≤ _
      rw [e1]; grind
    · show _ ≤ (((restE num den one n (n + 1 + t)).hi + (tE num den one (n + 1 + t)).hi : Nat) : Rat)
      rw [e2]; grind
theorem restE_wid (h0 : 0 < den) (one n : Nat) : ∀ m, ((restE num den one n m).hi : Rat) ≤ ((restE num den one n m).lo : Rat) + 2 * (m : Rat) * eq_ (xR num den) m := by
  have hx := xR_nn (num := num) h0
  intro m
  induction m with
  | zero => show ((0 : Nat) : Rat) ≤ ((0 : Nat) : Rat) + 2 * ((0 : Nat) : Rat) * 0; grind
  | succ m ih =>
    have h := tE_wid (num := num) h0 one m
    have h2 := eq_mono hx (show m ≤ m + 1 by omega)
    have h3 := mul_le_l (show (0 : Rat) ≤ 2 * (m : Rat) by have := natR_nn m; grind) h2
    have n1 := eq_nn hx (m + 1)
    have c : ((m + 1 : Nat) : Rat) = (m : Rat) + 1 := Rat.natCast_add _ _
    rw [restE, c]
    have e3 : 2 * ((m : Rat) + 1) * eq_ (xR num den) (m + 1) = 2 * (m : Rat) * eq_ (xR num den) (m + 1) + 2 * eq_ (xR num den) (m + 1) := by grind
    rw [e3]
    split
    · have e1 : (((restE num den one n m).lo + (tE num den one m).lo : Nat) : Rat) = ((restE num den one n m).lo : Rat) + ((tE num den one m).lo : Rat) := Rat.natCast_add _ _
      have e2 : (((restE num den one n m).hi + (tE num den one m).hi : Nat) : Rat) = ((restE num den one n m).hi : Rat) + ((tE num den one m).hi : Rat) := Rat.natCast_add _ _
      show (((restE num den one n m).hi + (tE num den one m).hi : Nat) : Rat) ≤ (((restE num den one n m).lo + (tE num den one m).lo : Nat) : Rat) + _
      rw [e1, e2]; grind
    · grind
end
section
variable {x : Rat} {p I L H Z z lo hi : Nat} {s c : Rat}
theorem f1c (h : Enc x p I L H) (g : GL Z z s x) (h2 : ((2 ^ p : Nat) : Rat) * s ≤ (hi : Rat)) : z * L ≤ Z * hi := by
  have a := mul_le_l (natR_nn z) h.lo
  have b := mul_le_l (natR_nn (2 ^ p)) (g (I + 1))
  have d := mul_le_l (natR_nn Z) h2
  have : (z : Rat) * (L : Rat) ≤ (Z : Rat) * (hi : Rat) := by
    generalize ((2 ^ p : Nat) : Rat) = T at *
    have e1 : (z : Rat) * (T * eq_ x (I + 1)) = T * ((z : Rat) * eq_ x (I + 1)) := by grind
    have e2 : T * ((Z : Rat) * s) = (Z : Rat) * (T * s) := by grind
    rw [e1] at a
    rw [e2] at b
    exact Rat.le_trans a (Rat.le_trans b d)
  exact_mod_cast this
theorem f2c (h : Enc x p I L H) (g : GU Z z s x) (h1 : (lo : Rat) ≤ ((2 ^ p : Nat) : Rat) * s) : Z * lo ≤ z * H := by
  obtain ⟨M, g⟩ := g
  have a := mul_le_l (natR_nn z) (h.up M)
  have b := mul_le_l (natR_nn (2 ^ p)) g
  have d := mul_le_l (natR_nn Z) h1
  have : (Z : Rat) * (lo : Rat) ≤ (z : Rat) * (H : Rat) := by
    generalize ((2 ^ p : Nat) : Rat) = T at *
    have e1 : (z : Rat) * (T * eq_ x M) = T * ((z : Rat) * eq_ x M) := by grind
    have e2 : T * ((Z : Rat) * s) = (Z : Rat) * (T * s) := by grind
    rw [e1] at a
    rw [e2] at b
    exact Rat.le_trans d (Rat.le_trans b a)
  exact_mod_cast this
theorem f1t (h : Enc x p I L H) (hx : 0 ≤ x) (g : GU Z z c x) (h2 : ∀ M, ((2 ^ p : Nat) : Rat) * (eq_ x M - c) ≤ (hi : Rat)) : (Z - z) * L ≤ Z * hi := by
  by_cases hz : z ≤ Z
  · obtain ⟨w, hw⟩ := Nat.exists_eq_add_of_le hz
    rw [hw, Nat.add_sub_cancel_left, ← hw]
    obtain ⟨M0, g⟩ := g.up hx
    have g1 := g (max M0 (I + 1)) (by omega)
    have h3 := h2 (max M0 (I + 1))
    have h4 := eq_mono hx (show I + 1 ≤ max M0 (I + 1) by omega)
    have a := mul_le_l (natR_nn w) h.lo
    have b := mul_le_l (natR_nn w) (mul_le_l (natR_nn (2 ^ p)) h4)
    have d := mul_le_l (natR_nn Z) h3
    have g2 := mul_le_l (natR_nn (2 ^ p)) g1
    have cw : (Z : Rat) = (z : Rat) + (w : Rat) := by rw [hw, Rat.natCast_add]
    have : (w : Rat) * (L : Rat) ≤ (Z : Rat) * (hi : Rat) := by
      generalize ((2 ^ p : Nat) : Rat) = T at *
      generalize eq_ x (max M0 (I + 1)) = S at *
      have e1 : (Z : Rat) * (T * (S - c)) = (z : Rat) * T * S + (w : Rat) * (T * S) - T * ((Z : Rat) * c) := by rw [cw]; grind
      have e2 : T * ((z : Rat) * S) = (z : Rat) * T * S := by grind
      rw [e1] at d
      rw [e2] at g2
      grind
    exact_mod_cast this
  · rw [Nat.sub_eq_zero_of_le (by omega), Nat.zero_mul]; exact Nat.zero_le _
theorem f2t (h : Enc x p I L H) (hz : z ≤ Z) (g : GL Z z c x) {M : Nat} (h1 : (lo : Rat) ≤ ((2 ^ p : Nat) : Rat) * (eq_ x M - c)) : Z * lo ≤ (Z - z) * H := by
  obtain ⟨w, hw⟩ := Nat.exists_eq_add_of_le hz
  rw [hw, Nat.add_sub_cancel_left, ← hw]
  have g1 := g M
  have a := mul_le_l (natR_nn w) (h.up M)
  have d := mul_le_l (natR_nn Z) h1
  have g2 := mul_le_l (natR_nn (2 ^ p)) g1
  have cw : (Z : Rat) = (z : Rat) + (w : Rat) := by rw [hw, Rat.natCast_add]
  have : (Z : Rat) * (lo : Rat) ≤ (w : Rat) * (H : Rat) := by
    generalize ((2 ^ p : Nat) : Rat) = T at *
    generalize eq_ x M = S at *
    have e1 : (Z : Rat) * (T * (S - c)) = (z : Rat) * T * S + (w : Rat) * (T * S) - T * ((Z : Rat) * c) := by rw [cw]; grind
    have e2 : T * ((z : Rat) * S) = (z : Rat) * T * S := by grind
    rw [e1] at d
    rw [e2] at g2
    grind
  exact_mod_cast this
end
/-- what the sums at a stop say of a weight and of a tail -/
structure EncP (x : Rat) (p H lo hi : Nat) : Prop where
  le : lo ≤ hi
  wid : 2 ^ p * hi ≤ 2 ^ p * lo + 131072 * H
theorem enc_wt {num den n p : Nat} (hx : XOk num den) {I L H : Nat} (h : Enc (xR num den) p I L H) :
    EncP (xR num den) p H (tE num den (2 ^ p) n).lo (tE num den (2 ^ p) n).hi := by
  refine ⟨tE_lo_hi num den (2 ^ p) n, ?_⟩
  have a := tE_wid (num := num) hx.d0 (2 ^ p) n
  have b := h.up n
  have d := mul_le_l (natR_nn (2 ^ p)) a
  have o := eq_nn (xR_nn (num := num) hx.d0) n
  have nH := natR_nn H
  have : ((2 ^ p : Nat) : Rat) * ((tE num den (2 ^ p) n).hi : Rat) ≤ ((2 ^ p : Nat) : Rat) * ((tE num den (2 ^ p) n).lo : Rat) + 131072 * (H : Rat) := by
    generalize ((2 ^ p : Nat) : Rat) = T at *
    generalize ((tE num den (2 ^ p) n).hi : Rat) = u at *
    generalize ((tE num den (2 ^ p) n).lo : Rat) = v at *
    generalize eq_ (xR num den) n = S at *
    have e1 : T * (v + 2 * S) = T * v + 2 * (T * S) := by grind
    rw [e1] at d
    grind
  exact_mod_cast this
theorem enc_tail {num den n p : Nat} (hx : XOk num den) (hn : n ≤ 256) (h0 : 40 ≤ p) (h1 : p ≤ 16130) :
    EncP (xR num den) p (sAE num den (2 ^ p) (stopI num den (2 ^ p) n)).hi (sRE num den (2 ^ p) n (stopI num den (2 ^ p) n)).lo (sRE num den (2 ^ p) n (stopI num den (2 ^ p) n)).hi ∧
    ((sRE num den (2 ^ p) n (stopI num den (2 ^ p) n)).lo : Rat) ≤ ((2 ^ p : Nat) : Rat) * (eq_ (xR num den) (stopI num den (2 ^ p) n + 1) - eq_ (xR num den) (n + 1)) ∧
    ∀ M, ((2 ^ p : Nat) : Rat) * (eq_ (xR num den) M - eq_ (xR num den) (n + 1)) ≤ ((sRE num den (2 ^ p) n (stopI num den (2 ^ p) n)).hi : Rat) := by
  have h := enc_at hx hn h0 h1
  have hp := pOk h0 h1
  rw [shO_ok (by omega)] at hp
  obtain ⟨⟨hI0, hI1, hI2⟩, hI3, _⟩ := stop_spec (2 ^ p) hx hn
  rw [tP_eq hx hp _ (by omega)] at hI2
  generalize stopI num den (2 ^ p) n = I at *
  have hd0 := hx.d0
  have hxn := xR_nn (num := num) hd0
  obtain ⟨t, ht⟩ : ∃ t, I + 1 = n + 1 + t := ⟨I - n, by omega⟩
  obtain ⟨r1, r2⟩ := restE_enc (num := num) hd0 (2 ^ p) n t
  have r3 := restE_wid (num := num) hd0 (2 ^ p) n (I + 1)
  rw [← ht] at r1 r2
  have a4 := (tE_enc (num := num) hd0 (2 ^ p) I).2
  have e1 : (sRE num den (2 ^ p) n I).lo = (restE num den (2 ^ p) n (I + 1)).lo := rfl
  have cH : (((sRE num den (2 ^ p) n I).hi : Nat) : Rat) = ((restE num den (2 ^ p) n (I + 1)).hi : Rat) + ((tE num den (2 ^ p) I).hi : Rat) := Rat.natCast_add _ _
  have h2x : 2 * xR num den ≤ ((I + 1 : Nat) : Rat) := by
    have h5 := Nat.div_add_mod num den
    have h6 := Nat.mod_lt num hd0
    have h7 : 2 * num ≤ (I + 1) * den := by
      have : (2 * (num / den) + 2) * den ≤ (I + 1) * den := Nat.mul_le_mul_right _ (by omega)
      have e : (2 * (num / den) + 2) * den = 2 * (den * (num / den)) + 2 * den := by grind
      omega
    have h8 : 2 * (num : Rat) ≤ ((I + 1 : Nat) : Rat) * (den : Rat) := by exact_mod_cast h7
    have hd : (0 : Rat) < (den : Rat) := by exact_mod_cast hd0
    refine Rat.le_of_mul_le_mul_right (c := (den : Rat)) ?_ hd
    have e : 2 * xR num den * (den : Rat) = 2 * (num : Rat) := by rw [Rat.mul_assoc, xR_mul hd0]
    rw [e]; exact h8
  have hT := two_pos p
  refine ⟨⟨?_, ?_⟩, by rw [e1]; exact r1, fun M => ?_⟩
  · have a : ((restE num den (2 ^ p) n (I + 1)).lo : Rat) ≤ ((restE num den (2 ^ p) n (I + 1)).hi : Rat) := Rat.le_trans r1 r2
    have b : (restE num den (2 ^ p) n (I + 1)).lo ≤ (restE num den (2 ^ p) n (I + 1)).hi := by exact_mod_cast a
    show (restE num den (2 ^ p) n (I + 1)).lo ≤ (restE num den (2 ^ p) n (I + 1)).hi + (tE num den (2 ^ p) I).hi
    omega
  · have k1 := h.up (I + 1)
    have hTH : ((2 ^ p : Nat) : Rat) ≤ ((sAE num den (2 ^ p) I).hi : Rat) := by exact_mod_cast Nat.le_trans h.one h.le
    have ht1 : ((tE num den (2 ^ p) I).hi : Rat) ≤ 1 := by exact_mod_cast (show (tE num den (2 ^ p) I).hi ≤ 1 by omega)
    have cI : 2 * ((I + 1 : Nat) : Rat) + 1 ≤ 131072 := by exact_mod_cast (show 2 * (I + 1) + 1 ≤ 131072 by omega)
    have nI := natR_nn (I + 1)
    suffices hs : ((2 ^ p : Nat) : Rat) * ((sRE num den (2 ^ p) n I).hi : Rat) ≤ ((2 ^ p : Nat) : Rat) * ((sRE num den (2 ^ p) n I).lo : Rat) + 131072 * ((sAE num den (2 ^ p) I).hi : Rat) by
      exact_mod_cast hs
    have hwid : ((sRE num den (2 ^ p) n I).hi : Rat) ≤ ((sRE num den (2 ^ p) n I).lo : Rat) + 2 * ((I + 1 : Nat) : Rat) * eq_ (xR num den) (I + 1) + 1 := by rw [cH, e1]; grind
    generalize ((sRE num den (2 ^ p) n I).hi : Rat) = u at *
    generalize ((sRE num den (2 ^ p) n I).lo : Rat) = v at *
    generalize ((sAE num den (2 ^ p) I).hi : Rat) = H at *
    generalize ((2 ^ p : Nat) : Rat) = T at *
    generalize ((I + 1 : Nat) : Rat) = k at *
    generalize eq_ (xR num den) (I + 1) = S at *
    have g1 := mul_le_l (Rat.le_of_lt hT) hwid
    have g2 : 2 * k * (T * S) ≤ 2 * k * H := mul_le_l (by grind) k1
    have hH : 0 ≤ H := Rat.le_trans (Rat.le_of_lt hT) hTH
    have g3 := Rat.mul_le_mul_of_nonneg_right cI hH
    have e5 : T * (v + 2 * k * S + 1) = T * v + 2 * k * (T * S) + T := by grind
    have e6 : (2 * k + 1) * H = 2 * k * H + H := by grind
    rw [e5] at g1
    rw [e6] at g3
    grind
  · have h1 := mul_le_l (Rat.le_of_lt hT) (eq_bound2 hxn h2x M)
    rw [cH]
    grind
end Go.Proofs.Ytnmomigaedfdoaa
