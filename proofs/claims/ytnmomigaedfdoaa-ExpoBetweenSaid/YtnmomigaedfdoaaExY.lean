/- What expo's floor is for e^-x, x = num / den up to 64, den up to 256. No program in sight. The reference's Add, Sub and Quo for fractions in lowest terms, and what Exp's interval is for a number of the laws. -/
import Derived.Test.YtnmomigaedfdoaaEnF
import Derived.Test.YtnmomigaedfdoaaEwTerms
import Derived.Test.YtnmomigaedfdoaaRfE
import Derived.Test.YtnmomigaedfdoaaRfC
namespace Go.Proofs.Ytnmomigaedfdoaa
set_option maxRecDepth 100000

theorem enc_at {num den n p : Nat} (hx : XOk num den) (hn : n ≤ 256) (h0 : 40 ≤ p) (h1 : p ≤ 16130) :
    Enc (xR num den) p (stopI num den (2 ^ p) n) (sAE num den (2 ^ p) (stopI num den (2 ^ p) n)).lo (sAE num den (2 ^ p) (stopI num den (2 ^ p) n)).hi := by
  have hp := pOk h0 h1
  rw [shO_ok (by omega)] at hp
  obtain ⟨_, hI, _⟩ := stop_spec (2 ^ p) hx hn
  exact (enc_stop hx hn).resolve_right fun k => k (tP_eq hx hp _ (by omega))
/-- a pair of floors that agree tells -/
theorem floor_told {x : Rat} {p I L H k : Nat} (h : Enc x p I L H) (he : 2 ^ p * 2 ^ k / H = 2 ^ p * 2 ^ k / L) : ApL k (2 ^ p * 2 ^ k / H) x ∧ ApU k (2 ^ p * 2 ^ k / H + 1) x := by
  have hL : 0 < L := Nat.lt_of_lt_of_le (Nat.pow_pos (by omega)) h.one
  have hT := two_pos p
  constructor
  · intro M
    have h1 := Nat.div_mul_le_self (2 ^ p * 2 ^ k) H
    generalize 2 ^ p * 2 ^ k / H = m at *
    have h2 : (m : Rat) * (H : Rat) ≤ ((2 ^ p : Nat) : Rat) * ((2 ^ k : Nat) : Rat) := by exact_mod_cast h1
    have h3 := mul_le_l (natR_nn m) (h.up M)
    generalize ((2 ^ p : Nat) : Rat) = T at *
    refine Rat.le_of_mul_le_mul_right (c := T) ?_ hT
    have e : (m : Rat) * eq_ x M * T = (m : Rat) * (T * eq_ x M) := by grind
    rw [e]
    refine Rat.le_trans h3 (Rat.le_trans h2 ?_)
    rw [Rat.mul_comm]; exact Rat.le_refl
  · refine ⟨I + 1, ?_⟩
    rw [he]
    have h1 := Nat.div_add_mod (2 ^ p * 2 ^ k) L
    have h2 := Nat.mod_lt (2 ^ p * 2 ^ k) hL
    generalize 2 ^ p * 2 ^ k / L = m at *
    have h3 : 2 ^ p * 2 ^ k ≤ (m + 1) * L := by rw [Nat.add_mul, Nat.one_mul, Nat.mul_comm m]; omega
    have h4 : ((2 ^ p : Nat) : Rat) * ((2 ^ k : Nat) : Rat) ≤ ((m + 1 : Nat) : Rat) * (L : Rat) := by exact_mod_cast h3
    have h5 := mul_le_l (natR_nn (m + 1)) h.lo
    generalize ((2 ^ p : Nat) : Rat) = T at *
    refine Rat.le_of_mul_le_mul_right (c := T) ?_ hT
    have e : ((m + 1 : Nat) : Rat) * eq_ x (I + 1) * T = ((m + 1 : Nat) : Rat) * (T * eq_ x (I + 1)) := by grind
    rw [e, Rat.mul_comm]
    exact Rat.le_trans h4 h5
/-- where the digits behind the k-th are not alike, the two floors agree -/
theorem floor_agree {x : Rat} {p I L H k v : Nat} (h : Enc x p I L H) (hv : v ≤ 2 ^ 160) (hlo : ApL 160 (v - 131072) x) (hhi : ApU 160 (v + 131072) x) (k1 : 1 ≤ k) (k2 : k ≤ 64) (hf : FarK v k) (hp : p = 2 * (k + 48)) :
    2 ^ p * 2 ^ k / H = 2 ^ p * 2 ^ k / L := by
  obtain ⟨T, hT⟩ : ∃ T, 2 ^ p = T := ⟨_, rfl⟩
  obtain ⟨R, hR⟩ : ∃ R, 2 ^ (160 - k) = R := ⟨_, rfl⟩
  obtain ⟨G, hG⟩ : ∃ G, 2 ^ (95 - k) = G := ⟨_, rfl⟩
  obtain ⟨Z, hZ⟩ : ∃ Z, (2 : Nat) ^ 160 = Z := ⟨_, rfl⟩
  obtain ⟨K, hK⟩ : ∃ K, (2 : Nat) ^ k = K := ⟨_, rfl⟩
  have hLn : 0 < L := Nat.lt_of_lt_of_le (Nat.pow_pos (by omega)) h.one
  have hHn : 0 < H := Nat.lt_of_lt_of_le hLn h.le
  have hTp := two_pos p
  have hZp := two_pos 160
  have r1 : R * K = Z := by rw [← hR, ← hK, ← hZ, ← Nat.pow_add]; congr 1; omega
  have r2 : 2147483648 ≤ G := by rw [← hG]; exact Nat.pow_le_pow_right (n := 2) (by omega) (show 31 ≤ 95 - k by omega)
  have r3 : 2 * G ≤ R := by
    rw [← hG, ← hR, Nat.mul_comm, ← Nat.pow_succ]; exact Nat.pow_le_pow_right (by omega) (by omega)
  have r4 : 131072 * (8 * Z) ≤ T * (G - 131072) := by
    have a1 : 2 ^ (94 - k) ≤ G - 131072 := by
      have e : G = 2 * 2 ^ (94 - k) := by rw [← hG, show 95 - k = 94 - k + 1 by omega, Nat.pow_succ, Nat.mul_comm]
      omega
    refine Nat.le_trans ?_ (Nat.mul_le_mul_left T a1)
    rw [← hT, ← hZ, ← Nat.pow_add]
    exact Nat.le_trans (Nat.le_of_eq (show 131072 * (8 * 2 ^ 160) = 2 ^ 180 by decide)) (Nat.pow_le_pow_right (by omega) (by omega))
  have hT0 : 262144 ≤ T := by rw [← hT]; exact Nat.pow_le_pow_right (n := 2) (by omega) (show 18 ≤ p by omega)
  have hGZ : G ≤ Z := by rw [← hG, ← hZ]; exact Nat.pow_le_pow_right (by omega) (by omega)
  have hZ0 : 0 < Z := by rw [← hZ]; exact Nat.pow_pos (by omega)
  -- v and the two sums
  have f1 : (v - 131072) * L ≤ Z * T := by
    have a := hlo (I + 1)
    have b := mul_le_l (natR_nn (v - 131072)) h.lo
    rw [hZ] at a
    rw [hT] at b
    have c := Rat.mul_le_mul_of_nonneg_right a (natR_nn T)
    have e : ((v - 131072 : Nat) : Rat) * ((T : Rat) * eq_ x (I + 1)) = ((v - 131072 : Nat) : Rat) * eq_ x (I + 1) * (T : Rat) := by grind
    rw [e] at b
    have d := Rat.le_trans b c
    exact_mod_cast d
  have f2 : Z * T ≤ (v + 131072) * H := by
    obtain ⟨M, a⟩ := hhi
    have b := mul_le_l (natR_nn (v + 131072)) (h.up M)
    rw [hZ] at a
    rw [hT] at b
    have c := Rat.mul_le_mul_of_nonneg_right a (natR_nn T)
    have e : ((v + 131072 : Nat) : Rat) * ((T : Rat) * eq_ x M) = ((v + 131072 : Nat) : Rat) * eq_ x M * (T : Rat) := by grind
    rw [e] at b
    have d := Rat.le_trans c b
    exact_mod_cast d
  have hw := h.wid
  have ho := h.one
  have hle := h.le
  rw [hT] at hw ho
  rw [hZ] at hv
  rw [FarK, hR, hG] at hf
  rw [hT, hK]
  clear hlo hhi hTp hZp hT hR hG hZ hK h
  have hH2 : H ≤ 2 * L := by
    have a : 262144 * (H - L) ≤ T * (H - L) := Nat.mul_le_mul_right _ hT0
    have e : T * H = T * L + T * (H - L) := by rw [← Nat.mul_add]; congr 1; omega
    omega
  have hR0 : 0 < R := by omega
  obtain ⟨m, u, hvm, hu⟩ : ∃ m u, v = R * m + u ∧ u = v % R := ⟨v / R, v % R, (Nat.div_add_mod v R).symm, rfl⟩
  have huR : u < R := by rw [hu]; exact Nat.mod_lt _ hR0
  have hfar : (m = 0 ∧ v + G ≤ R) ∨ (G ≤ u ∧ u + G ≤ R) := by
    rcases hf with h1 | ⟨h1, h2⟩
    · refine Or.inl ⟨?_, by omega⟩
      rcases Nat.eq_zero_or_pos m with h3 | h3
      · exact h3
      · have := Nat.mul_le_mul_left R h3
        omega
    · rw [← hu] at h1 h2
      exact Or.inr ⟨h1, h2⟩
  have hGE : 131072 ≤ G := by omega
  obtain ⟨g, hg⟩ : ∃ g, G = g + 131072 := ⟨G - 131072, by omega⟩
  rw [hg, Nat.add_sub_cancel] at r4
  obtain ⟨W, hW⟩ : ∃ W, H = L + W := ⟨H - L, by omega⟩
  have hTW : T * W ≤ 131072 * (2 * L) := by
    have e : T * H = T * L + T * W := by rw [hW, Nat.mul_add]
    have : 131072 * H ≤ 131072 * (2 * L) := Nat.mul_le_mul_left _ hH2
    omega
  -- (a)
  have ga : m * H ≤ T * K := by
    rcases hfar with ⟨h1, _⟩ | ⟨h1, _⟩
    · rw [h1, Nat.zero_mul]; exact Nat.zero_le _
    · have hmv : R * m + G ≤ v := by omega
      have s1 : (R * m + g) * L ≤ Z * T := Nat.le_trans (Nat.mul_le_mul_right _ (by omega)) f1
      have s2 : R * m * (T * W) ≤ Z * (131072 * (2 * L)) := Nat.mul_le_mul (by omega) hTW
      have s3 : 131072 * (8 * Z) * L ≤ T * g * L := Nat.mul_le_mul_right _ r4
      have s4 : T * (R * m * H) ≤ T * (Z * T) := by
        have e1 : T * (R * m * H) = T * (R * m * L) + R * m * (T * W) := by rw [hW]; grind
        have e2 : T * ((R * m + g) * L) = T * (R * m * L) + T * g * L := by grind
        have e3 : Z * (131072 * (2 * L)) * 4 = 131072 * (8 * Z) * L := by grind
        have s5 := Nat.mul_le_mul_left T s1
        omega
      have s6 := Nat.le_of_mul_le_mul_left s4 (show 0 < T by omega)
      rw [← r1] at s6
      have e4 : R * m * H = R * (m * H) := by grind
      have e5 : R * K * T = R * (T * K) := by grind
      rw [e4, e5] at s6
      exact Nat.le_of_mul_le_mul_left s6 hR0
  -- (b)
  have gb : T * K < (m + 1) * L := by
    have hmv : v + G ≤ R * (m + 1) := by
      rw [Nat.mul_add, Nat.mul_one]
      rcases hfar with ⟨h1, h2⟩ | ⟨_, h2⟩
      · omega
      · omega
    have s1 : (v + G) * L ≤ R * (m + 1) * L := Nat.mul_le_mul_right _ hmv
    have s2 : (v + 131072) * (T * W) ≤ 2 * Z * (131072 * (2 * L)) := Nat.mul_le_mul (by omega) hTW
    have s3 : 131072 * (8 * Z) * L ≤ T * g * L := Nat.mul_le_mul_right _ r4
    have s4 : T * (Z * T) < T * (R * (m + 1) * L) := by
      have e1 : T * ((v + 131072) * H) = T * ((v + 131072) * L) + (v + 131072) * (T * W) := by rw [hW]; grind
      have e2 : T * ((v + G) * L) = T * ((v + 131072) * L) + T * g * L := by rw [hg]; grind
      have e3 : 2 * Z * (131072 * (2 * L)) * 2 = 131072 * (8 * Z) * L := by grind
      have s5 := Nat.mul_le_mul_left T s1
      have s6 := Nat.mul_le_mul_left T f2
      have s7 : 0 < 2 * Z * (131072 * (2 * L)) := Nat.mul_pos (by omega) (by omega)
      omega
    have s6 := Nat.lt_of_mul_lt_mul_left s4
    rw [← r1] at s6
    have e4 : R * (m + 1) * L = R * ((m + 1) * L) := by grind
    have e5 : R * K * T = R * (T * K) := by grind
    rw [e4, e5] at s6
    exact Nat.lt_of_mul_lt_mul_left s6
  have q1 : m ≤ T * K / H := (Nat.le_div_iff_mul_le hHn).2 ga
  have q2 : T * K / L < m + 1 := (Nat.div_lt_iff_lt_mul hLn).2 gb
  have q3 : T * K / H ≤ T * K / L := Nat.div_le_div_left hle hLn
  omega
/-- floor of e^-x: m units of 2^-k are at most e^-x, and m + 1 at least -/
theorem exp_floor {num den k : Nat} (hx : XOk num den) (hd : den ≤ 256) (hn : 1 ≤ num) (k1 : 1 ≤ k) (k2 : k ≤ 64) :
    ApL k (floorM num den 0 k 0) (xR num den) ∧ ApU k (floorM num den 0 k 0 + 1) (xR num den) := by
  obtain ⟨v, hv, hlo, hhi, hf⟩ := expo_far hx.d0 hd hn hx.le
  have hxe : (num : Rat) * (1 / (den : Rat)) = xR num den := by rw [xR, Rat.div_def, Rat.div_def, Rat.one_mul]
  rw [hxe] at hlo hhi
  have at_ : ∀ p, 40 ≤ p → p ≤ 16130 → fAt num den 0 k 0 p = (2 ^ p * 2 ^ k / (sAE num den (2 ^ p) (stopI num den (2 ^ p) 0)).hi, 2 ^ p * 2 ^ k / (sAE num den (2 ^ p) (stopI num den (2 ^ p) 0)).lo) := fun p h0 h1 => by
    rw [fAt_eq hx (by omega) k2 h0 h1, partE, if_pos rfl]
  have h2 : (fAt num den 0 k 0 ((k + 48) * 2 ^ 1)).1 = (fAt num den 0 k 0 ((k + 48) * 2 ^ 1)).2 := by
    rw [at_ _ (by omega) (by omega)]
    exact floor_agree (enc_at hx (by omega) (by omega) (by omega)) hv hlo hhi k1 k2 (hf k k1 k2) (by omega)
  by_cases h1 : (fAt num den 0 k 0 ((k + 48) * 2 ^ 0)).1 = (fAt num den 0 k 0 ((k + 48) * 2 ^ 0)).2
  · have e := floorM_at (num := num) (den := den) (n := 0) (bits := k) (kind := 0) (j := 0) (by omega) (fun i hi => by omega) h1
    rw [at_ _ (by omega) (by omega)] at h1 e
    rw [e]
    exact floor_told (enc_at hx (by omega) (by omega) (by omega)) h1
  · have e := floorM_at (num := num) (den := den) (n := 0) (bits := k) (kind := 0) (j := 1) (by omega) (fun i hi => (show i = 0 by omega) ▸ h1) h2
    rw [at_ _ (by omega) (by omega)] at h2 e
    rw [e]
    exact floor_told (enc_at hx (by omega) (by omega) (by omega)) h2
end Go.Proofs.Ytnmomigaedfdoaa
namespace Go.Proofs.Ytnmomigaedfdoaa
set_option maxRecDepth 100000
open Go.RowKit

theorem radd_rp (w : World) (x y : Fx) (p q : Rat) (ox : x.ok w) (oy : y.ok w) (rx : Rp x p) (ry : Rp y q) (sp : Sz p 128 128) (sq : Sz q 128 128) (sz : Sz (p + q) 128 128) :
    Calls Try.prog 14 #[x.val, y.val] w fun e w' => ∃ z : Fx, e = .returned (.tuple #[z.val, .int .i64 0]) ∧ Rp z (p + q) ∧ z.ok w' ∧ Below w.heap.size w w' :=
  (rfadd_any w x y _ ox oy (rx.l1 sp) (rx.l2 sp) (ry.l1 sq) (ry.l2 sq) (addF_ok (rx.v sp) (ry.v sq) rx.q ry.q sz)).mono (fun _ _ ⟨z, he, hs, ok, bb⟩ => ⟨z, he, Rp.of hs, ok, bb⟩)
theorem rsub_rp (w : World) (x y : Fx) (p q : Rat) (ox : x.ok w) (oy : y.ok w) (rx : Rp x p) (ry : Rp y q) (sp : Sz p 128 128) (sq : Sz q 128 128) (sz : Sz (p - q) 128 128) :
    Calls Try.prog 21 #[x.val, y.val] w fun e w' => ∃ z : Fx, e = .returned (.tuple #[z.val, .int .i64 0]) ∧ Rp z (p - q) ∧ z.ok w' ∧ Below w.heap.size w w' :=
  (rfsub_any w x y _ ox oy (rx.l1 sp) (rx.l2 sp) (ry.l1 sq) (ry.l2 sq) (subF_ok (rx.v sp) (ry.v sq) rx.q ry.q sz)).mono (fun _ _ ⟨z, he, hs, ok, bb⟩ => ⟨z, he, Rp.of hs, ok, bb⟩)
theorem rquo_rp (w : World) (x y : Fx) (p q : Rat) (ox : x.ok w) (oy : y.ok w) (rx : Rp x p) (ry : Rp y q) (sp : Sz p 128 128) (sq : Sz q 128 128) (hq : q ≠ 0) (sz : Sz (p / q) 128 128) :
    Calls Try.prog 22 #[x.val, y.val] w fun e w' => ∃ z : Fx, e = .returned (.tuple #[z.val, .int .i64 0]) ∧ Rp z (p / q) ∧ z.ok w' ∧ Below w.heap.size w w' :=
  (rfquo_any w x y _ ox oy (rx.l1 sp) (rx.l2 sp) (ry.l1 sq) (ry.l2 sq) (quoF_ok (rx.v sp) ry rx.q (ry.v sq) hq sz)).mono (fun _ _ ⟨z, he, hs, ok, bb⟩ => ⟨z, he, Rp.of hs, ok, bb⟩)
theorem numQ_sz {num den : Nat} (hn : num < 65536) (hd : den < 256) : Sz (numQ num den) 2 2 := by
  have h := (numQ_ok hn hd).2.2.2
  exact ⟨Nat.le_of_not_lt fun k => h (Or.inl k), Nat.le_of_not_lt fun k => h (Or.inr k)⟩
theorem numQ_den (num : Nat) {den : Nat} (hd : den < 256) : (numQ num den).den ≤ 256 := by
  rw [numQ]
  split
  · show (1 : Nat) ≤ 256; omega
  · rw [numP, show ((den : Int) + 1) = ((den + 1 : Nat) : Int) by omega, Rat.divInt_ofNat, Rat.den_mkRat, if_neg (by omega)]
    exact Nat.le_trans (Nat.div_le_self _ _) (by omega)
theorem one_sz : Sz (1 : Rat) 1 1 := ⟨by rw [show (1 : Rat).num.natAbs = 1 from rfl, lim_one]; decide, by rw [show (1 : Rat).den = 1 from rfl, lim_one]; decide⟩
/-- m units of 2^-b -/
theorem prt_mul (m b : Nat) : prt m b * ((2 ^ b : Nat) : Rat) = (m : Rat) := by
  show qv false m (2 ^ b) * ((2 ^ b : Nat) : Rat) = (m : Rat)
  rw [qv, show sg false m = (m : Int) from rfl, Rat.mkRat_eq_div]
  have h : (((2 ^ b : Nat) : Int) : Rat) ≠ 0 := by
    have := two_pos b
    show ((2 ^ b : Nat) : Rat) ≠ 0
    grind
  exact Rat.div_mul_cancel h
theorem prt_sz {m b : Nat} (hm : m ≤ 36893488147419103232) (hb : b ≤ 64) : Sz (prt m b) 128 128 := by
  have hp := pow64 hb
  exact Sz.of_qv (by omega) (len128 (by omega)) (len128 (by omega))
/-- a fraction that is not negative, as a quotient -/
theorem xR_q {q : Rat} (h : 0 ≤ q) : xR q.num.natAbs q.den = q := by
  have hn : 0 ≤ q.num := Rat.num_nonneg.2 h
  have e : ((q.num.natAbs : Nat) : Rat) = (q.num : Rat) := by
    show (((q.num.natAbs : Nat) : Int) : Rat) = _
    rw [Int.natAbs_of_nonneg hn]
  rw [xR, e]
  have h2 := Rat.mkRat_eq_div q.num q.den
  rw [Rat.mkRat_self] at h2
  exact h2.symm
/-- Exp's interval -/
theorem exp_int {q : Rat} {b : Nat} {i : Ix} (h : encP q 0 b 0 1 i) (h0 : 0 ≤ q) (hx : XOk q.num.natAbs q.den) (hd : q.den ≤ 256) (b0 : 1 ≤ b) (b1 : b ≤ 64) :
    (q = 0 ∧ Rp i.lo 1 ∧ Rp i.hi 1) ∨ (q ≠ 0 ∧ ∃ m, m ≤ 2 ^ b ∧ Rp i.lo (prt m b) ∧ Rp i.hi (prt (m + 1) b) ∧ ApL b m q ∧ ApU b (m + 1) q) := by
  by_cases hq : q = 0
  · exact Or.inl ⟨hq, h.1 hq⟩
  · right
    have hn : 1 ≤ q.num.natAbs := by
      have : q.num ≠ 0 := fun k => hq (Rat.num_eq_zero.1 k)
      omega
    have h1 := exp_floor hx hd hn b0 b1
    rw [xR_q h0] at h1
    exact ⟨hq, _, floorM_le hx (by omega) b0 b1, (h.2 hq).1, (h.2 hq).2, h1.1, h1.2⟩
end Go.Proofs.Ytnmomigaedfdoaa
