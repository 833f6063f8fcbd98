/- Weights: how great the numbers of a tableau are for a program of a given weight -/
import Derived.Test.YtkpfbekmaafehaaGreatNatA
import Derived.Test.YtkpfbekmaafehaaGreatNatG
namespace Go.Proofs.YtkpfbekmaafehaaGreat
set_option maxRecDepth 100000
def wgB (x : Rat) : Nat := if x = 0 then 0 else bits2 x.num.natAbs + if 1 < bits2 x.den then bits2 x.den else 0
theorem lt_bits (n : Nat) : n < 2 ^ bits2 n := (bits2_le n (bits2 n)).1 (Nat.le_refl _)
theorem pow_add_le {a b : Nat} (ha : 1 ≤ a) (hb : 1 ≤ b) : 2 ^ a + 2 ^ b ≤ 2 ^ (a + b) + 2 := by
 obtain ⟨x, hx⟩ : ∃ x, 2 ^ a = x + 2 := ⟨2 ^ a - 2, by have := Nat.pow_le_pow_right (n := 2) (by omega) ha; omega⟩
 obtain ⟨y, hy⟩ : ∃ y, 2 ^ b = y + 2 := ⟨2 ^ b - 2, by have := Nat.pow_le_pow_right (n := 2) (by omega) hb; omega⟩
 rw [Nat.pow_add, hx, hy]
 have e : (x + 2) * (y + 2) = x * y + 2 * x + 2 * y + 4 := by grind
 rw [e]
 have := Nat.zero_le (x * y)
 omega
theorem wtR_le (x : Rat) : wtR x ≤ 2 ^ wgB x := by
 unfold wtR wgB
 by_cases h : x = 0
 ·subst h
  rw [if_pos rfl]
  show 1 + 0 ≤ 2 ^ 0
  omega
 ·rw [if_neg h]
  have h1 := lt_bits x.num.natAbs
  have h2 := lt_bits x.den
  have hn : x.num.natAbs ≠ 0 := by
   have : x.num ≠ 0 := fun k => h (Rat.num_eq_zero.1 k)
   omega
  have hb : 1 ≤ bits2 x.num.natAbs := by
   rcases Nat.eq_zero_or_pos (bits2 x.num.natAbs) with k | k
   ·rw [k] at h1; omega
   ·exact k
  have hd := x.den_pos
  by_cases h3 : 1 < bits2 x.den
  ·rw [if_pos h3]
   have := pow_add_le hb (show 1 ≤ bits2 x.den by omega)
   omega
  ·rw [if_neg h3, Nat.add_zero]
   have h4 : 2 ^ bits2 x.den ≤ 2 ^ 1 := Nat.pow_le_pow_right (by omega) (by omega)
   omega
theorem pr1_pow (f : Nat → Nat) (n : Nat) : pr1 (fun i => 2 ^ f i) n = 2 ^ sumM f n := by
 induction n with
 | zero => rfl
 | succ n ih => rw [pr1, sumM, ih, Nat.pow_add]
theorem colW_le (m : Nat) (O : Nat → Nat → Rat) (j : Nat) : colW m O j ≤ 2 ^ sumM (fun r => wgB (O r j)) m := by
 rw [← pr1_pow]
 exact pr1_mono m fun r _ => wtR_le _
theorem colW_art {m n : Nat} {O : Nat → Nat → Rat} (hO : ∀ r, r < m → ∀ k, k < m → O r (n + k) = if r = k then 1 else 0) {k : Nat} (hk : k < m) : colW m O (n + k) = 2 := by
 have e1 : wtR 1 = 2 := rfl
 have e0 : wtR 0 = 1 := rfl
 unfold colW
 rw [pr1_out _ hk, hO k hk k hk, if_pos rfl, e1]
 have : pr1 (fun j => if j = k then 1 else wtR (O j (n + k))) m = pr1 (fun _ => 1) m := pr1_congr m fun j hj => by
  by_cases h : j = k
  ·rw [if_pos h]
  ·rw [if_neg h, hO j hj k hk, if_neg h, e0]
 rw [this]
 have : ∀ M, pr1 (fun _ => 1) M = 1 := by
  intro M
  induction M with
  | zero => rfl
  | succ M ih => rw [pr1, ih]
 rw [this]
theorem pr1_app (f : Nat → Nat) (n m : Nat) : pr1 f (n + m) = pr1 f n * pr1 (fun k => f (n + k)) m := by
 induction m with
 | zero => show pr1 f n = pr1 f n * 1; omega
 | succ m ih => rw [← Nat.add_assoc, pr1, ih, pr1, Nat.mul_assoc]
theorem allW_le {m n W : Nat} {O : Nat → Nat → Rat} (hO : ∀ r, r < m → ∀ k, k < m → O r (n + k) = if r = k then 1 else 0) (hW : sumM (fun j => sumM (fun r => wgB (O r j)) m) n ≤ W) : pr1 (colW m O) (n + m) ≤ 2 ^ (W + m) := by
 rw [pr1_app, Nat.pow_add]
 refine Nat.mul_le_mul ?_ ?_
 ·refine Nat.le_trans (pr1_mono n fun j _ => colW_le m O j) ?_
  rw [pr1_pow]
  exact Nat.pow_le_pow_right (by omega) hW
 ·have : pr1 (fun k => colW m O (n + k)) m = pr1 (fun _ => 2 ^ 1) m := pr1_congr m fun k hk => colW_art hO hk
  rw [this, pr1_pow]
  have : ∀ M, sumM (fun _ => 1) M = M := by
   intro M
   induction M with
   | zero => rfl
   | succ M ih => rw [sumM, ih]
  rw [this]
  exact Nat.le_refl _
theorem sumM_one (g : Nat → Nat) {n k : Nat} (hk : k < n) : g k ≤ sumM g n := by
 induction n with
 | zero => omega
 | succ n ih =>
   rw [sumM]
   rcases Nat.lt_or_ge k n with h | h
   ·exact Nat.le_trans (ih h) (Nat.le_add_right _ _)
   ·obtain rfl : k = n := by omega
    exact Nat.le_add_left _ _
set_option maxRecDepth 100000
def BdR (x : Rat) (a b : Nat) : Prop := x.num.natAbs ≤ a ∧ x.den ≤ b
theorem frac_bd {x : Rat} {d N : Int} (hd : d ≠ 0) (h : ((d : Int) : Rat) * x = ((N : Int) : Rat)) : BdR x N.natAbs d.natAbs := by
 have h1 := den_mul_num x
 have e : d * x.num = N * (x.den : Int) := by
  have e2 : ((d * x.num : Int) : Rat) = ((N * (x.den : Int) : Int) : Rat) := by
   rw [Rat.intCast_mul, Rat.intCast_mul, ← h, ← h1]
   have c : (((x.den : Nat) : Int) : Rat) = ((x.den : Nat) : Rat) := rfl
   rw [c]; grind
  exact_mod_cast e2
 have e3 : d.natAbs * x.num.natAbs = N.natAbs * x.den := by
  have := congrArg Int.natAbs e
  rw [Int.natAbs_mul, Int.natAbs_mul, Int.natAbs_natCast] at this
  exact this
 have hdv : x.den ∣ d.natAbs := by
  have h2 : x.den ∣ d.natAbs * x.num.natAbs := ⟨N.natAbs, by rw [e3, Nat.mul_comm]⟩
  exact Nat.Coprime.dvd_of_dvd_mul_right x.reduced.symm h2
 obtain ⟨k, hk⟩ := hdv
 have hd0 : 0 < d.natAbs := by omega
 have hk0 : 0 < k := by
  rcases Nat.eq_zero_or_pos k with h2 | h2
  ·rw [h2, Nat.mul_zero] at hk; omega
  ·exact h2
 refine ⟨?_, by rw [hk]; exact Nat.le_mul_of_pos_right _ hk0⟩
 have h3 : x.den * (k * x.num.natAbs) = x.den * N.natAbs := by rw [← Nat.mul_assoc, ← hk, e3, Nat.mul_comm]
 have h4 := Nat.eq_of_mul_eq_mul_left x.den_pos h3
 rw [← h4]
 exact Nat.le_mul_of_pos_left _ hk0
section
variable {m n : Nat} {O : Nat → Nat → Rat} {x : St} {c : Nat → Rat}
theorem tab_bd (h : Okx m n O x) {i j : Nat} (hi : i < m) (hj : j ≤ n + m) : BdR (x.T i j) (pr1 (colW m O) (n + m) * colW m O j) (pr1 (colW m O) (n + m) * colW m O j) := by
 obtain ⟨N2, h0, h1, h2⟩ := tab_size h.tab h.nz
 obtain ⟨N, h3, h4⟩ := h2 i hi j hj
 have hc := colD_pos m O j
 have h5 := frac_bd (x := x.T i j) (d := N2 * (colD m O j : Int)) (N := N) (by
  intro e
  rcases Int.mul_eq_zero.1 e with k | k
  ·exact h0 k
  ·omega) (by rw [Rat.intCast_mul]; exact h3)
 refine ⟨Nat.le_trans h5.1 h4, Nat.le_trans h5.2 ?_⟩
 rw [Int.natAbs_mul, Int.natAbs_natCast]
 exact Nat.mul_le_mul h1 (colD_le m O j)
theorem dot_bd (h : Okx m n O x) {j : Nat} (hj : j ≤ n + m) (M : Nat) (hM : M ≤ m) :
 BdR (sumTo (fun i => c (x.B i) * x.T i j) M) (M * (pr1 (fun i => wtR (c (x.B i))) m * (pr1 (colW m O) (n + m) * colW m O j))) (pr1 (fun i => wtR (c (x.B i))) m * (pr1 (colW m O) (n + m) * colW m O j)) := by
 obtain ⟨N2, h0, h1, h2⟩ := tab_size h.tab h.nz
 have hc := colD_pos m O j
 have hN : ∀ i, ∃ N : Int, i < m → ((N2 : Int) : Rat) * ((colD m O j : Nat) : Rat) * x.T i j = ((N : Int) : Rat) ∧ N.natAbs ≤ pr1 (colW m O) (n + m) * colW m O j := fun i => by
  by_cases hi : i < m
  ·obtain ⟨N, k⟩ := h2 i hi j hj
   exact ⟨N, fun _ => k⟩
  ·exact ⟨0, fun k => absurd k hi⟩
 obtain ⟨Nf, hN⟩ := Classical.axiomOfChoice hN
 obtain ⟨Dc, hDc⟩ : ∃ Dc, Dc = pr1 (fun i => (c (x.B i)).den) m := ⟨_, rfl⟩
 have hDp : 0 < Dc := by rw [hDc]; exact pr1_pos m fun i _ => (c (x.B i)).den_pos
 have hDw : Dc ≤ pr1 (fun i => wtR (c (x.B i))) m := by rw [hDc]; exact pr1_mono m fun i _ => Nat.le_add_right _ _
 obtain ⟨Q, hQ⟩ : ∃ Q : Nat → Nat, Q = fun i => pr1 (fun k => if k = i then 1 else (c (x.B k)).den) m := ⟨_, rfl⟩
 have hDQ : ∀ i, i < m → Dc = (c (x.B i)).den * Q i := fun i hi => by rw [hDc, pr1_out (fun k => (c (x.B k)).den) hi, hQ]
 have hQw : ∀ i, i < m → (c (x.B i)).num.natAbs * Q i ≤ pr1 (fun i => wtR (c (x.B i))) m := fun i hi => by
  rw [pr1_out (fun i => wtR (c (x.B i))) hi, hQ]
  refine Nat.mul_le_mul (Nat.le_add_left _ _) (pr1_mono m fun k _ => ?_)
  split
  ·exact Nat.le_refl _
  ·exact Nat.le_add_right _ _
 have key : ((((Dc : Nat) : Int) * (N2 * (colD m O j : Int)) : Int) : Rat) * sumTo (fun i => c (x.B i) * x.T i j) M = ((sumZ (fun i => (c (x.B i)).num * (Q i : Int) * Nf i) M : Int) : Rat) := by
  rw [sumZ_cast, ← sumTo_scale]
  refine sumTo_congr fun i hi => ?_
  have k1 := (hN i (by omega)).1
  have k2 := den_mul_num (c (x.B i))
  rw [Rat.intCast_mul, Rat.intCast_mul, Rat.intCast_mul, Rat.intCast_mul, ← k1, ← k2, hDQ i (by omega)]
  have c1 : ((((c (x.B i)).den * Q i : Nat) : Int) : Rat) = (((c (x.B i)).den : Nat) : Rat) * ((Q i : Nat) : Rat) := by
   show (((c (x.B i)).den * Q i : Nat) : Rat) = _
   rw [Rat.natCast_mul]
  have c2 : (((Q i : Nat) : Int) : Rat) = ((Q i : Nat) : Rat) := rfl
  have c3 : (((colD m O j : Nat) : Int) : Rat) = ((colD m O j : Nat) : Rat) := rfl
  rw [c1, c2, c3]
  generalize (((c (x.B i)).den : Nat) : Rat) = a1
  generalize ((Q i : Nat) : Rat) = a2
  generalize ((colD m O j : Nat) : Rat) = a3
  generalize ((N2 : Int) : Rat) = a4
  generalize c (x.B i) = a5
  generalize x.T i j = a6
  grind
 have hb := frac_bd (by
  intro e
  rcases Int.mul_eq_zero.1 e with k | k
  ·omega
  ·rcases Int.mul_eq_zero.1 k with k | k
   ·exact h0 k
   ·omega) key
 constructor
 ·refine Nat.le_trans hb.1 (Nat.le_trans (sumZ_abs _ _) ?_)
  have b1 : ∀ i, i < M → ((c (x.B i)).num * (Q i : Int) * Nf i).natAbs ≤ pr1 (fun i => wtR (c (x.B i))) m * (pr1 (colW m O) (n + m) * colW m O j) := fun i hi => by
   rw [Int.natAbs_mul, Int.natAbs_mul, Int.natAbs_natCast]
   exact Nat.mul_le_mul (hQw i (by omega)) (hN i (by omega)).2
  refine Nat.le_trans (sumM_le (g := fun _ => pr1 (fun i => wtR (c (x.B i))) m * (pr1 (colW m O) (n + m) * colW m O j)) M b1) ?_
  have : ∀ (K : Nat) M, sumM (fun _ => K) M = M * K := by
   intro K M
   induction M with
   | zero => show 0 = 0 * K; omega
   | succ M ih => rw [sumM, ih, Nat.add_mul, Nat.one_mul]
  rw [this]
  exact Nat.le_refl _
 ·refine Nat.le_trans hb.2 ?_
  rw [Int.natAbs_mul, Int.natAbs_mul, Int.natAbs_natCast, Int.natAbs_natCast]
  exact Nat.mul_le_mul hDw (Nat.mul_le_mul h1 (colD_le m O j))
theorem cost_wt (h : Okx m n O x) {N : Nat} (hN : n + m ≤ N) : pr1 (fun i => wtR (c (x.B i))) m ≤ pr1 (fun j => wtR (c j)) N :=
 inj_prod m x.B (fun j => wtR (c j)) N (fun i hi => by have := h.tab.lt i hi; omega) (fun i hi r hr e => basis_inj h.tab hi hr e) (fun j => by have := (c j).den_pos; unfold wtR; omega)
end
set_option maxRecDepth 100000
structure LPx (m n : Nat) (A : Nat → Nat → Rat) (b x : Nat → Rat) : Prop where
 nn : ∀ j, j < n → 0 ≤ x j
 eq : ∀ r, r < m → sumTo (fun j => A r j * x j) n = b r
structure LPOpt (m n : Nat) (A : Nat → Nat → Rat) (b c x y : Nat → Rat) (v : Rat) : Prop where
 pt : LPx m n A b x
 le : ∀ j, j < n → sumTo (fun r => y r * A r j) m ≤ c j
 vx : sumTo (fun j => c j * x j) n = v
 vy : sumTo (fun r => y r * b r) m = v
structure LPInf (m n : Nat) (A : Nat → Nat → Rat) (b y : Nat → Rat) : Prop where
 le : ∀ j, j < n → sumTo (fun r => y r * A r j) m ≤ 0
 pos : 0 < sumTo (fun r => y r * b r) m
structure LPUnb (m n : Nat) (A : Nat → Nat → Rat) (b c x u : Nat → Rat) : Prop where
 pt : LPx m n A b x
 dir : LPx m n A (fun _ => 0) u
 neg : sumTo (fun j => c j * u j) n < 0
section
variable {m n : Nat} {A : Nat → Nat → Rat} {b c x y x' y' u : Nat → Rat} {v v' : Rat}
theorem lp_weak (hx : LPx m n A b x) (hy : ∀ j, j < n → sumTo (fun r => y r * A r j) m ≤ c j) : sumTo (fun r => y r * b r) m ≤ sumTo (fun j => c j * x j) n := by
 have e1 : sumTo (fun r => y r * b r) m = sumTo (fun j => sumTo (fun r => y r * A r j) m * x j) n := by
  have e2 : sumTo (fun r => y r * b r) m = sumTo (fun r => sumTo (fun j => y r * A r j * x j) n) m := sumTo_congr fun r hr' => by
   rw [← hx.eq r hr', ← sumTo_scale]
   exact sumTo_congr fun j _ => by grind
  rw [e2, sumTo_swap]
  exact sumTo_congr fun j _ => sumTo_mul_r _ _ _
 rw [e1]
 exact sumTo_le fun j hj => Rat.mul_le_mul_of_nonneg_right (hy j hj) (hx.nn j hj)
theorem lp_value (h : LPOpt m n A b c x y v) (h' : LPOpt m n A b c x' y' v') : v = v' := by
 have h1 := lp_weak h.pt h'.le
 have h2 := lp_weak h'.pt h.le
 rw [h'.vy, h.vx] at h1
 rw [h.vy, h'.vx] at h2
 grind
theorem lp_pt_inf (h : LPx m n A b x) (h' : LPInf m n A b y) : False := by
 have h1 := lp_weak (c := fun _ => 0) h h'.le
 have h2 := h'.pos
 have h3 : sumTo (fun j => (fun _ : Nat => (0 : Rat)) j * x j) n = 0 := sumTo_zero fun j _ => by grind
 rw [h3] at h1
 grind
theorem lp_opt_unb (h : LPOpt m n A b c x y v) (h' : LPUnb m n A b c x' u) : False := by
 have h1 := lp_weak h'.dir h.le
 have h2 := h'.neg
 have h3 : sumTo (fun r => y r * (fun _ : Nat => (0 : Rat)) r) m = 0 := sumTo_zero fun r _ => by grind
 rw [h3] at h1
 grind
def sgT (t : Bool) : Rat := if t then -1 else 1
theorem sgT_sq (t : Bool) : sgT t * sgT t = 1 := by
 cases t with
 | true => rw [sgT, if_pos rfl]; grind
 | false => rw [sgT, if_neg (by decide)]; grind
theorem turn_x (t : Bool) {g : Nat → Rat} {n : Nat} {v : Rat} (h : sumTo (fun j => sgT t * g j) n = sgT t * v) : sumTo g n = v := by
 rw [sumTo_scale] at h
 have h1 := sgT_sq t
 have h2 : sgT t * (sgT t * sumTo g n) = sgT t * (sgT t * v) := by rw [h]
 have h3 : sgT t * sgT t * sumTo g n = sgT t * sgT t * v := by grind
 rw [h1] at h3
 grind
end
set_option maxRecDepth 100000
def orgT (m n : Nat) (A : Nat → Nat → Rat) (b : Nat → Rat) (r j : Nat) : Rat :=
 if j < n then sgT (decide (b r < 0)) * A r j else if j < n + m then (if r = j - n then 1 else 0) else sgT (decide (b r < 0)) * b r
section
variable {m n : Nat} {A : Nat → Nat → Rat} {b c : Nat → Rat} {x : St}
theorem org_art : ∀ r, r < m → ∀ k, k < m → orgT m n A b r (n + k) = if r = k then 1 else 0 := by
 intro r _ k hk
 rw [orgT, if_neg (by omega), if_pos (by omega), show n + k - n = k by omega]
theorem org_col {j : Nat} (hj : j < n) (r : Nat) : orgT m n A b r j = sgT (decide (b r < 0)) * A r j := if_pos hj
theorem org_rt (r : Nat) : orgT m n A b r (n + m) = sgT (decide (b r < 0)) * b r := by rw [orgT, if_neg (by omega), if_neg (by omega)]
theorem org_nn (r : Nat) : 0 ≤ orgT m n A b r (n + m) := by
 rw [org_rt]
 by_cases h : b r < 0
 ·rw [decide_eq_true h, sgT, if_pos rfl]; grind
 ·rw [decide_eq_false h, sgT, if_neg (by decide)]; grind
def begT (m n : Nat) (A : Nat → Nat → Rat) (b : Nat → Rat) : St := ⟨orgT m n A b, fun i => n + i⟩
theorem beg_ok : Okx m n (orgT m n A b) (begT m n A b) := by
 refine ⟨Tab.start org_art, ?_, fun i _ => org_nn i⟩
 show detC m (basV (orgT m n A b) (fun i => n + i)) ≠ 0
 rw [det_start org_art]
 decide
def prcT (m n : Nat) (b c : Nat → Rat) (x : St) (r : Nat) : Rat := sgT (decide (b r < 0)) * priT m n c x.T x.B r
theorem prc_col {j : Nat} (hj : j < n) : sumTo (fun r => prcT m n b c x r * A r j) m = sumTo (fun r => priT m n c x.T x.B r * orgT m n A b r j) m := sumTo_congr fun r _ => by
 rw [org_col hj, prcT]; grind
theorem prc_rt : sumTo (fun r => prcT m n b c x r * b r) m = sumTo (fun r => priT m n c x.T x.B r * orgT m n A b r (n + m)) m := sumTo_congr fun r _ => by
 rw [org_rt, prcT]; grind
theorem org_rows {v : Nat → Rat} {r : Nat} (h : sumTo (fun j => orgT m n A b r j * v j) n = orgT m n A b r (n + m)) : sumTo (fun j => A r j * v j) n = b r := by
 refine turn_x (decide (b r < 0)) ?_
 rw [← org_rt (m := m) (n := n) (A := A), ← h]
 exact sumTo_congr fun j hj => by rw [org_col hj]; grind
theorem org_rows0 {v : Nat → Rat} {r : Nat} (h : sumTo (fun j => orgT m n A b r j * v j) n = 0) : sumTo (fun j => A r j * v j) n = 0 := by
 refine turn_x (decide (b r < 0)) ?_
 rw [Rat.mul_zero, ← h]
 exact sumTo_congr fun j hj => by rw [org_col hj]; grind
theorem end_inf (h : Okx m n (orgT m n A b) x) (hx : nxtP m n n (cst1 n) x = none) (hp : 0 < dotT m (cst1 n) x.T x.B (n + m)) : LPInf m n A b (prcT m n b (cst1 n) x) := by
 obtain ⟨h1, h2⟩ := ph1_inf h (ph1_red hx) hp
 exact ⟨fun j hj => by rw [prc_col hj]; exact h1 j hj, by rw [prc_rt (A := A)]; exact h2⟩
theorem end_opt (h : Okx m n (orgT m n A b) x) (ha : Art m n m x) (he : entP m (cst2 n c) x.T x.B n 0 = none) :
 LPOpt m n A b c (pntT m x.T x.B (n + m)) (prcT m n b (cst2 n c) x) (dotT m (cst2 n c) x.T x.B (n + m)) := by
 obtain ⟨h1, h2, h3, h4, h5⟩ := ph2_opt h ha he
 exact ⟨⟨fun j _ => h1 j, fun r hr => org_rows (h2 r hr)⟩, fun j hj => by rw [prc_col hj]; exact h3 j hj, h4, by rw [prc_rt (A := A)]; exact h5⟩
theorem end_unb (h : Okx m n (orgT m n A b) x) (ha : Art m n m x) {s : Nat} (he : entP m (cst2 n c) x.T x.B n 0 = some s) (hl : leaP x.T x.B (n + m) s m = none) :
 LPUnb m n A b c (pntT m x.T x.B (n + m)) (rayT m x.T x.B s) := by
 obtain ⟨_, h1, h2, h3⟩ := ph2_unb h ha he hl
 exact ⟨⟨fun j _ => pnt_nn h.fe j, fun r hr => org_rows (pnt_rows h.tab ha.z hr)⟩, ⟨fun j _ => h1 j, fun r hr => org_rows0 (h2 r hr)⟩, h3⟩
end
set_option maxRecDepth 100000
def fstN (g : Nat → Rat) : Nat → Nat → Option Nat
 | 0, _ => none
 | f + 1, j => if g j = 0 then fstN g f (j + 1) else some j
theorem fstN_none {g : Nat → Rat} : ∀ f j, fstN g f j = none → ∀ k, j ≤ k → k < j + f → g k = 0 := by
 intro f
 induction f with
 | zero => intro j _ k h1 h2; omega
 | succ f ih =>
   intro j h k h1 h2
   rw [fstN] at h
   by_cases h0 : g j = 0
   ·rw [if_pos h0] at h
    rcases Nat.lt_or_ge j k with h3 | h3
    ·exact ih (j + 1) h k h3 (by omega)
    ·obtain rfl : k = j := by omega
     exact h0
   ·rw [if_neg h0] at h; exact absurd h (by simp)
theorem fstN_some {g : Nat → Rat} : ∀ f j s, fstN g f j = some s → j ≤ s ∧ s < j + f ∧ g s ≠ 0 ∧ ∀ k, j ≤ k → k < s → g k = 0 := by
 intro f
 induction f with
 | zero => intro j s h; exact absurd h (by simp [fstN])
 | succ f ih =>
   intro j s h
   rw [fstN] at h
   by_cases h0 : g j = 0
   ·rw [if_pos h0] at h
    obtain ⟨k1, k2, k3, k4⟩ := ih (j + 1) s h
    refine ⟨by omega, by omega, k3, fun k h1 h2 => ?_⟩
    rcases Nat.lt_or_ge j k with h3 | h3
    ·exact k4 k h3 h2
    ·obtain rfl : k = j := by omega
     exact h0
   ·rw [if_neg h0] at h
    obtain rfl : j = s := by simpa using h
    exact ⟨by omega, by omega, h0, fun k h1 h2 => by omega⟩
def clrR (n : Nat) (x : St) (i : Nat) : St :=
 if n ≤ x.B i then match fstN (x.T i) n 0 with
  | none => x
  | some j => ⟨pivT x.T i j, pivB x.B i j⟩
 else x
def clrA (n : Nat) (x : St) : Nat → St
 | 0 => x
 | i + 1 => clrR n (clrA n x i) i
section
variable {m n : Nat} {O : Nat → Nat → Rat} {x : St}
theorem clrR_ok (h : Okx m n O x) {i : Nat} (hi : i < m) (ha : Art m n i x) : Okx m n O (clrR n x i) ∧ Art m n (i + 1) (clrR n x i) := by
 rw [clrR]
 by_cases hb : n ≤ x.B i
 ·rw [if_pos hb]
  cases hf : fstN (x.T i) n 0 with
  | none =>
    have h0 := fstN_none n 0 hf
    refine ⟨h, ha.z, fun k hk hbk j hj => ?_⟩
    rcases Nat.lt_or_ge k i with h1 | h1
    ·exact ha.r k h1 hbk j hj
    ·obtain rfl : k = i := by omega
     exact h0 j (by omega) (by omega)
  | some j =>
    obtain ⟨_, j1, j2, _⟩ := fstN_some n 0 j hf
    obtain ⟨c1, c2, c3⟩ := clear_step h hi ha (show j < n by omega) hb j2
    refine ⟨c1, c2.z, fun k hk hbk l hl => ?_⟩
    rcases Nat.lt_or_ge k i with h1 | h1
    ·exact c2.r k h1 hbk l hl
    ·obtain rfl : k = i := by omega
     have hbk : n ≤ pivB x.B k j k := hbk
     rw [c3] at hbk
     omega
 ·rw [if_neg hb]
  refine ⟨h, ha.z, fun k hk hbk j hj => ?_⟩
  rcases Nat.lt_or_ge k i with h1 | h1
  ·exact ha.r k h1 hbk j hj
  ·obtain rfl : k = i := by omega
   exact absurd hbk hb
theorem clrA_ok (h : Okx m n O x) (hz : ∀ i, i < m → n ≤ x.B i → x.T i (n + m) = 0) : ∀ M, M ≤ m → Okx m n O (clrA n x M) ∧ Art m n M (clrA n x M) := by
 intro M
 induction M with
 | zero => intro _; exact ⟨h, hz, fun i hi => by omega⟩
 | succ M ih =>
   intro hM
   obtain ⟨h1, h2⟩ := ih (by omega)
   exact clrR_ok h1 (by omega) h2
end
set_option maxRecDepth 100000
theorem bits2_lim (n k : Nat) : bits2 n ≤ 32 * k ↔ (lim n).length ≤ k := by rw [bits2_le, lim_length_le, pw_two]
def sg (b : Bool) (n : Nat) : Int := if b then -(n : Int) else n
def qv (b : Bool) (n d : Nat) : Rat := mkRat (sg b n) d
theorem sg_natAbs (b : Bool) (n : Nat) : (sg b n).natAbs = n := by cases b <;> simp [sg]
theorem sg_neg (b : Bool) (n : Nat) : sg (!b) n = - sg b n := by cases b <;> simp [sg]
theorem sg_eq_zero {b : Bool} {n : Nat} : sg b n = 0 ↔ n = 0 := by cases b <;> simp [sg]
theorem sg_lt (b : Bool) (n : Nat) : decide (sg b n < 0) = (b && decide (n ≠ 0)) := by
 cases b
 ·simp [sg]
 ·simp only [sg, if_true, Bool.true_and, decide_eq_decide]; omega
theorem sg_div {b : Bool} {n g : Nat} (h : g ∣ n) : sg b n / (g : Int) = sg b (n / g) := by
 obtain ⟨k, rfl⟩ := h
 rcases Nat.eq_zero_or_pos g with h0 | h0
 ·subst h0; simp [sg]
 ·rw [Nat.mul_div_cancel_left _ h0]
  cases b
  ·simp only [sg]
   rw [Int.natCast_mul]
   exact Int.mul_ediv_cancel_left _ (by omega)
  ·simp only [sg, if_true]
   rw [Int.natCast_mul, ← Int.mul_neg]
   exact Int.mul_ediv_cancel_left _ (by omega)
theorem sg_mul (a b : Bool) (m n : Nat) : sg a m * sg b n = sg (a != b) (m * n) := by
 cases a <;> cases b <;> simp [sg, Int.neg_mul, Int.mul_neg]
theorem sg_add (b : Bool) (m n : Nat) : sg b m + sg b n = sg b (m + n) := by cases b <;> simp [sg]; omega
theorem sg_sub {a b : Bool} (h : a ≠ b) {m n : Nat} (hle : n ≤ m) : sg a m + sg b n = sg a (m - n) := by
 cases a <;> cases b <;> simp [sg] at * <;> omega
theorem qv_num {b : Bool} {n d : Nat} (hd : d ≠ 0) : (qv b n d).num = sg b (n / Nat.gcd n d) := by
 rw [qv, Rat.num_mkRat, if_neg hd, sg_natAbs, Nat.gcd_comm, sg_div (Nat.gcd_dvd_left n d)]
theorem qv_abs {b : Bool} {n d : Nat} (hd : d ≠ 0) : (qv b n d).num.natAbs = n / Nat.gcd n d := by rw [qv_num hd, sg_natAbs]
theorem qv_den {b : Bool} {n d : Nat} (hd : d ≠ 0) : (qv b n d).den = d / Nat.gcd n d := by
 rw [qv, Rat.den_mkRat, if_neg hd, sg_natAbs, Nat.gcd_comm]
theorem qv_neg' {b : Bool} {n d : Nat} (hd : d ≠ 0) : decide ((qv b n d).num < 0) = (b && decide (n / Nat.gcd n d ≠ 0)) := by rw [qv_num hd, sg_lt]
def bigQ (q : Rat) : Prop := 128 < (lim q.num.natAbs).length ∨ 128 < (lim q.den).length
instance (q : Rat) : Decidable (bigQ q) := inferInstanceAs (Decidable (_ ∨ _))
def frS (q : Rat) : Bool × List Nat × List Nat × Int := if bigQ q then (false, [], [], 2) else (decide (q.num < 0), lim q.num.natAbs, lim q.den, 0)
def Vf (n d : Nat) : Prop := d ≠ 0 ∧ (lim d).length ≤ 128 ∧ (lim n).length ≤ 128
instance (n d : Nat) : Decidable (Vf n d) := inferInstanceAs (Decidable (_ ∧ _))
theorem qv_opp (b : Bool) (n d : Nat) : qv (!b) n d = - qv b n d := by rw [qv, qv, sg_neg, Rat.neg_mkRat]
theorem qv_add_same {b : Bool} {n d n' d' : Nat} (h : d ≠ 0) (h' : d' ≠ 0) : qv b n d + qv b n' d' = qv b (n * d' + n' * d) (d * d') := by
 rw [qv, qv, Rat.mkRat_add_mkRat _ _ h h', qv, ← sg_add]
 congr 1
 cases b <;> simp [sg, Int.natCast_mul, Int.neg_mul]
theorem sg_mulr (b : Bool) (n d : Nat) : sg b n * (d : Int) = sg b (n * d) := by cases b <;> simp [sg, Int.neg_mul]
theorem qv_add_ge {b b' : Bool} {n d n' d' : Nat} (h : d ≠ 0) (h' : d' ≠ 0) (hb : b ≠ b') (hle : n' * d ≤ n * d') : qv b n d + qv b' n' d' = qv b (n * d' - n' * d) (d * d') := by
 rw [qv, qv, Rat.mkRat_add_mkRat _ _ h h', qv, ← sg_sub hb hle, sg_mulr, sg_mulr]
theorem qv_add_lt {b b' : Bool} {n d n' d' : Nat} (h : d ≠ 0) (h' : d' ≠ 0) (hb : b ≠ b') (hle : n * d' ≤ n' * d) : qv b n d + qv b' n' d' = qv b' (n' * d - n * d') (d * d') := by
 rw [Rat.add_comm, qv_add_ge h' h hb.symm hle, Nat.mul_comm d' d]
theorem qv_mul (b b' : Bool) (n d n' d' : Nat) : qv b n d * qv b' n' d' = qv (b != b') (n * n') (d * d') := by
 rw [qv, qv, Rat.mkRat_mul_mkRat, qv, sg_mul]
theorem qv_inv {b : Bool} {n d : Nat} (_hn : n ≠ 0) : (qv b n d)⁻¹ = qv b d n := by
 rw [qv, qv, ← Rat.divInt_ofNat, Rat.inv_divInt, ← Rat.divInt_ofNat]
 cases b
 ·simp [sg]
 ·simp only [sg, if_true]
  rw [Rat.divInt_neg']
theorem qv_quo {b b' : Bool} {n d n' d' : Nat} (hn : n' ≠ 0) : qv b n d / qv b' n' d' = qv (b != b') (n * d') (d * n') := by
 rw [Rat.div_def, qv_inv hn, qv_mul]
theorem qv_zero {b : Bool} {n d : Nat} (hd : d ≠ 0) : qv b n d = 0 ↔ n = 0 := by
 rw [qv, Rat.mkRat_eq_zero hd, sg_eq_zero]
def cmpQ (p q : Rat) : Int := if p < q then -1 else if q < p then 1 else 0
theorem qv_lt {b b' : Bool} {n d n' d' : Nat} (h : d ≠ 0) (h' : d' ≠ 0) : qv b n d < qv b' n' d' ↔ sg b (n * d') < sg b' (n' * d) := by
 rw [Rat.lt_iff_sub_pos]
 have e : qv b' n' d' - qv b n d = mkRat (sg b' n' * d - sg b n * d') (d' * d) := by
  rw [qv, qv, ← Rat.divInt_ofNat, ← Rat.divInt_ofNat, Rat.divInt_sub_divInt _ _ (by omega) (by omega), ← Int.natCast_mul, Rat.divInt_ofNat]
 rw [e, sg_mulr, sg_mulr, Rat.lt_iff_le_and_ne, ← Rat.divInt_ofNat]
 have hp : (0 : Int) < ((d' * d : Nat) : Int) := by have := Nat.mul_pos (Nat.pos_of_ne_zero h') (Nat.pos_of_ne_zero h); omega
 rw [Rat.divInt_nonneg_iff_of_pos_right hp, Rat.divInt_ofNat]
 have hne : (0 : Rat) ≠ mkRat (sg b' (n' * d) - sg b (n * d')) (d' * d) ↔ sg b' (n' * d) - sg b (n * d') ≠ 0 := by
  rw [ne_comm]
  exact Rat.mkRat_ne_zero (by have := Nat.mul_pos (Nat.pos_of_ne_zero h') (Nat.pos_of_ne_zero h); omega)
 rw [hne]
 omega
theorem cmpQ_qv {b b' : Bool} {n d n' d' : Nat} (h : d ≠ 0) (h' : d' ≠ 0) : cmpQ (qv b n d) (qv b' n' d') = if sg b (n * d') < sg b' (n' * d) then -1 else if sg b' (n' * d) < sg b (n * d') then 1 else 0 := by
 unfold cmpQ
 simp only [qv_lt h h', qv_lt h' h]
theorem cmpQ_code {b b' : Bool} {n d n' d' : Nat} (h : d ≠ 0) (h' : d' ≠ 0) :
 cmpQ (qv b n d) (qv b' n' d') = if (b && decide (n ≠ 0)) && (b' && decide (n' ≠ 0)) then - cmp3 (n * d') (n' * d) else if b && decide (n ≠ 0) then -1 else if b' && decide (n' ≠ 0) then 1 else cmp3 (n * d') (n' * d) := by
 rw [cmpQ_qv h h']
 have e1 : n * d' = 0 ↔ n = 0 := by rw [Nat.mul_eq_zero]; omega
 have e2 : n' * d = 0 ↔ n' = 0 := by rw [Nat.mul_eq_zero]; omega
 have hc := Nat.lt_trichotomy (n * d') (n' * d)
 generalize n * d' = x at *
 generalize n' * d = y at *
 unfold cmp3
 cases b <;> cases b' <;> simp only [sg, Bool.false_and, Bool.true_and, Bool.and_false, if_true, if_false, Bool.false_eq_true, decide_eq_true_eq, ne_eq, Bool.and_eq_true] <;> (repeat' split) <;> omega
set_option maxRecDepth 100000
open Go.RowKit
structure Fx where
 b : Bool
 A : Option Addr
 c : Nat
 xs : List Nat
 D : Option Addr
 d : Nat
 ys : List Nat
abbrev Fx.val (x : Fx) : Value := .agg #[.bool x.b, .slice x.A x.xs.length x.c, .slice x.D x.ys.length x.d]
abbrev Fx.cells (x : Fx) : Array Value := #[.bool x.b, .slice x.A x.xs.length x.c, .slice x.D x.ys.length x.d]
abbrev Fx.nil : Fx := ⟨false, none, 0, [], none, 0, []⟩
structure Fx.ok (x : Fx) (w : World) : Prop where
 num : Nt w x.A x.c x.xs
 den : Nt w x.D x.d x.ys
theorem Fx.ok.below {x : Fx} {w w' : World} (h : x.ok w) (hb : Below w.heap.size w w') : x.ok w' := ⟨h.num.below hb, h.den.below hb⟩
theorem Fx.nil_ok (w : World) : Fx.nil.ok w := ⟨Nt.nil _ _ _ (by show 0 ≤ _; omega), Nt.nil _ _ _ (by show 0 ≤ _; omega)⟩
def Fx.v (x : Fx) : Prop := Vf (nv x.xs) (nv x.ys)
instance (x : Fx) : Decidable x.v := inferInstanceAs (Decidable (Vf _ _))
def Fx.q (x : Fx) : Rat := qv x.b (nv x.xs) (nv x.ys)
def FracRes (w : World) (s : Bool × List Nat × List Nat × Int) (e : Ending) (w' : World) : Prop :=
 ∃ x : Fx, e = .returned (.tuple #[x.val, .int .i64 s.2.2.2]) ∧ (x.b = s.1 ∧ x.xs = s.2.1 ∧ x.ys = s.2.2.1) ∧ x.ok w' ∧ Below w.heap.size w w'
def FracNew (w : World) (s : Bool × List Nat × List Nat) (e : Ending) (w' : World) : Prop :=
 ∃ x : Fx, e = .returned x.val ∧ (x.b = s.1 ∧ x.xs = s.2.1 ∧ x.ys = s.2.2) ∧ x.ok w' ∧ Below w.heap.size w w'
set_option maxRecDepth 100000
open Go.RowKit
def mulS (m n : Nat) : List Nat × Int := if 512 < (lim m).length ∨ 512 < (lim n).length then ([], 2) else sizS (m * n)
theorem mulS_big1 {m n : Nat} (h : 512 < (lim m).length) : mulS m n = ([], 2) := by simp [mulS, h]
theorem mulS_big2 {m n : Nat} (h : 512 < (lim n).length) : mulS m n = ([], 2) := by simp [mulS, h]
theorem mulS_ok {m n : Nat} (h : ¬ 512 < (lim m).length) (h2 : ¬ 512 < (lim n).length) : mulS m n = sizS (m * n) := by simp [mulS, h, h2]
def MulInv (X Y : List Nat) (j : Nat) (O : List Nat) : Prop := O.length = X.length + Y.length ∧ U32 O ∧ nv O = nv (X.take j) * nv Y ∧ ∀ k (hk : k < O.length), j + Y.length ≤ k → O[k] = 0
theorem MulInv.start (X Y : List Nat) : MulInv X Y 0 (List.replicate (X.length + Y.length) 0) :=
 ⟨by simp, U32.replicate _, by simp [nv_replicate, nv_nil], by intro k hk _; simp⟩
def MulIn (X Y : List Nat) (x j i C : Nat) (O : List Nat) : Prop := O.length = X.length + Y.length ∧ U32 O ∧ C < 4294967296 ∧ nv O + pw (j + i) * C = nv (X.take j) * nv Y + pw j * (x * nv (Y.take i)) ∧ ∀ k (hk : k < O.length), j + Y.length ≤ k → O[k] = 0
theorem MulInv.in_ {X Y : List Nat} {j : Nat} {O : List Nat} (h : MulInv X Y j O) (x : Nat) : MulIn X Y x j 0 0 O := by
 obtain ⟨h1, h2, h3, h4⟩ := h
 exact ⟨h1, h2, by omega, by simp [h3, nv_nil], h4⟩
theorem mul_bound {x y z c : Nat} (hx : x < 4294967296) (hy : y < 4294967296) (hz : z < 4294967296) (hc : c < 4294967296) : x * y + z + c < 18446744073709551616 := by
 have h1 : x * y ≤ 4294967295 * 4294967295 := Nat.mul_le_mul (by omega) (by omega)
 omega
theorem MulIn.step {X Y : List Nat} {x j i C : Nat} {O : List Nat} (h : MulIn X Y x j i C O) (hY : U32 Y) (hx : x < 4294967296) (hi : i < Y.length) (_hj : j < X.length) (ho : j + i < O.length) :
 MulIn X Y x j (i + 1) ((C + (x * Y[i] + O[j + i])) / 4294967296) (O.set (j + i) ((C + (x * Y[i] + O[j + i])) % 4294967296)) := by
 obtain ⟨h1, h2, h3, h4, h5⟩ := h
 have b := mul_bound hx (hY.at i hi) (h2.at (j + i) ho) h3
 refine ⟨by simpa using h1, h2.set _ (by omega), by omega, ?_, ?_⟩
 ·have hs := nv_set O (j + i) ((C + (x * Y[i] + O[j + i])) % 4294967296) ho
  have hd := Nat.div_add_mod (C + (x * Y[i] + O[j + i])) 4294967296
  rw [nv_take_succ Y i hi, show j + (i + 1) = (j + i) + 1 from by omega, pw_succ]
  have hp := pw_add j i
  grind
 ·intro k hk hle
  rw [List.getElem_set_ne (by omega)]
  exact h5 k (by simpa using hk) hle
theorem MulIn.done {X Y : List Nat} {j C : Nat} {O : List Nat} (hj : j < X.length) (h : MulIn X Y X[j] j Y.length C O) : MulInv X Y (j + 1) (O.set (j + Y.length) C) := by
 obtain ⟨h1, h2, h3, h4, h5⟩ := h
 have ho : j + Y.length < O.length := by omega
 refine ⟨by simpa using h1, h2.set _ h3, ?_, ?_⟩
 ·have hs := nv_set O (j + Y.length) C ho
  rw [h5 _ ho (Nat.le_refl _)] at hs
  rw [List.take_length] at h4
  rw [nv_take_succ X j hj, Nat.add_mul]
  grind
 ·intro k hk hle
  rw [List.getElem_set_ne (by omega)]
  exact h5 k (by simpa using hk) (by omega)
theorem cast_mac (a x y z : Nat) : ((a : Int) + ((x : Int) * y + z)) = ((a + (x * y + z) : Nat) : Int) := by
 rw [Int.natCast_add, Int.natCast_add, Int.natCast_mul]
theorem cast_mac_mod (a x y z : Nat) : ((a : Int) + ((x : Int) * y + z)) % 4294967296 = (((a + (x * y + z)) % 4294967296 : Nat) : Int) := by rw [cast_mac, cast_mod]
theorem cast_mac_div (a x y z : Nat) : ((a : Int) + ((x : Int) * y + z)) / 4294967296 = (((a + (x * y + z)) / 4294967296 : Nat) : Int) := by rw [cast_mac, cast_div]
set_option maxHeartbeats 400000 in
theorem mul_any (w : World) (A D : Option Addr) (c d n m : Nat) (xs ys R : List Nat) (E : Int) (h : Nt w A c xs) (k : Nt w D d ys) (hn : n = xs.length) (hm : m = ys.length) (hr : mulS (nv xs) (nv ys) = (R, E)) :
 Calls Tryz.prog 108 #[.slice A n c, .slice D m d] w (NatRes w R E) := by
 subst hn hm
 have HR := Lib.hid hr; clear hr
 have h1 := h.lim
 have h2 := lim_length_le_length h.u
 have h3 := h.cap
 have h4 := h.max
 have k1 := k.lim
 have k2 := lim_length_le_length k.u
 have k3 := k.cap
 have k4 := k.max
 obtain ⟨i0, hi, hz0, hz1, hz2⟩ := info_parts u32_info
 by_cases hl : 512 < (lim (nv xs)).length
 ·go_enter Tryz.func108, Tryz.ntmps108
  go_wp2_with fail
  refine (large_any w A c _ xs true h rfl (by simpa using hl)).mono ?_
  rintro e w' ⟨rfl, rfl⟩
  go_wp2_with fail
  go_ret2
  have e := HR.out
  rw [mulS_big1 hl] at e
  obtain ⟨rfl, rfl⟩ := Prod.mk.inj e
  exact ⟨_, _, rfl, Nt.nil _ _ _ (by omega), Below.refl _ _⟩
 ·by_cases hl2 : 512 < (lim (nv ys)).length
  ·go_enter Tryz.func108, Tryz.ntmps108
   go_wp2_with fail
   refine (large_any w A c _ xs false h rfl (by simpa using hl)).mono ?_
   rintro e w' ⟨rfl, rfl⟩
   go_wp2_with fail
   refine (large_any w D d _ ys true k rfl (by simpa using hl2)).mono ?_
   rintro e w' ⟨rfl, rfl⟩
   go_wp2_with fail
   go_ret2
   have e := HR.out
   rw [mulS_big2 hl2] at e
   obtain ⟨rfl, rfl⟩ := Prod.mk.inj e
   exact ⟨_, _, rfl, Nt.nil _ _ _ (by omega), Below.refl _ _⟩
  ·go_enter Tryz.func108, Tryz.ntmps108
   go_wp2_with fail
   refine (large_any w A c _ xs false h rfl (by simpa using hl)).mono ?_
   rintro e w' ⟨rfl, rfl⟩
   go_wp2_with fail
   refine (large_any w D d _ ys false k rfl (by simpa using hl2)).mono ?_
   rintro e w' ⟨rfl, rfl⟩
   go_wp2_with fail
   go_quiet ((first | with_reducible exact length_q h | with_reducible exact length_q k))
   have hX := h1.below (below_drewN (Below.refl w.heap.size w) nq)
   have hY := k1.below (below_drewN (Below.refl w.heap.size w) nq)
   have hb0 := below_drewN (Below.refl w.heap.size w) nq
   revert hX hY hb0
   generalize w.drewN nq = w0
   intro hX hY hb0
   have hs0 := hb0.size
   generalize hXe : lim (nv xs) = X at *
   generalize hYe : lim (nv ys) = Y at *
   have HX := Lib.hid hXe
   have HY := Lib.hid hYe
   clear hXe hYe h k h1 k1
   go_wp2_with (refine wpList_make_rd w0 (mk := lmv) 0 rfl _ _ 27 rfl 58 i0 4 Tryz.underlying27 hi hz0 hz1 hz2 rfl .i64 .i64 _ _ (X.length + Y.length) rfl rfl (by omega) (by omega) (by omega) (by simp only [maxLen]; omega) ?_; intro w1 hg1 hb1 hs1)
   go_loopw [34] (fun i wr => ∃ (j : Nat) (O : List Nat), j ≤ X.length ∧ i = .int .i64 j ∧ MulInv X Y j O ∧ Gr lmv 58 wr w0.heap.size (some ⟨w0.heap.size, 0, none⟩) (X.length + Y.length) O ∧ Below w0.heap.size w0 wr) (fun i _ => X.length - (intOf i).toNat)
   case atStart => exact ⟨0, _, by omega, rfl, MulInv.start _ _, by simpa using hg1, hb1⟩
   case round =>
    obtain ⟨j, O, hj, rfl, hinv, hgr, hbr⟩ := hrel
    have HI := Lib.hid hinv
    have HO := Lib.hid hinv.1
    clear hinv hg1 hb1 hs1
    have hsz := hbr.size
    have HB := Lib.hid hbr
    have HG := Lib.hid hgr
    by_cases hlt : j < X.length
    ·obtain ⟨adX, hadX, hbX, hcX, hvX⟩ := (hX.below hbr).at j hlt
     subst hadX
     clear hbr hgr
     go_wp2_with fail
     obtain ⟨w2, hw2⟩ : ∃ w2 : World, w2 = wr := ⟨_, rfl⟩
     rw [← hw2] at HB HG hsz hcX ⊢
     clear hw2
     go_loopw [9, 41] (fun cy i wr => ∃ (m C : Nat) (O : List Nat), m ≤ Y.length ∧ i = .int .i64 m ∧ cy = .int .u64 C ∧ MulIn X Y X[j] j m C O ∧ Gr lmv 58 wr w0.heap.size (some ⟨w0.heap.size, 0, none⟩) (X.length + Y.length) O ∧ Below w0.heap.size w0 wr) (fun _ i _ => Y.length - (intOf i).toNat)
     case atStart => exact ⟨0, 0, O, by omega, rfl, rfl, HI.out.in_ _, HG.out, HB.out⟩
     case round =>
      obtain ⟨m, C, O', hm, rfl, rfl, hinv, hgr, hbr⟩ := hrel
      have HI2 := Lib.hid hinv
      have HO2 := Lib.hid hinv.1
      have hC : C < 4294967296 := hinv.2.2.1
      have hOu := hinv.2.1
      clear hinv
      have hsz2 := hbr.size
      have HB2 := Lib.hid hbr
      have HG2 := Lib.hid hgr
      by_cases hlt2 : m < Y.length
      ·obtain ⟨adY, hadY, hbY, hcY, hvY⟩ := (hY.below hbr).at m hlt2
       subst hadY
       have ho : j + m < O'.length := by have := HO2.out; omega
       have hcell := hgr.cell (j + m) ho
       have hfree := hgr.free (j + m)
       have hz := hOu.at (j + m) ho
       have hmul : X[j] * Y[m] + O'[j + m] + C < 18446744073709551616 := mul_bound hvX hvY hz hC
       clear hbr hgr hOu
       go_wp2_with fail
       go_roundw
       case rel => exact ⟨m + 1, _, _, by omega, by go_num, by rw [cast_mac_div], HI2.out.step hY.u hvX hlt2 hlt ho, by rw [cast_mac_mod]; exact HG2.out.store _ _, HB2.out.setCell (Nat.le_refl _) _⟩
       case measure => simp [intOf]; omega
      ·obtain rfl : m = Y.length := by omega
       have ho : j + Y.length < O'.length := by have := HO2.out; omega
       have hcell := hgr.cell (j + Y.length) ho
       have hfree := hgr.free (j + Y.length)
       have hYl : Y.length ≤ 512 := by omega
       clear hbr hgr hOu
       go_wp2_with fail
       go_roundw
       case rel => exact ⟨j + 1, _, by omega, by go_num, HI2.out.done hlt, HG2.out.store _ _, HB2.out.setCell (Nat.le_refl _) _⟩
       case measure => simp [intOf]; omega
    ·obtain rfl : j = X.length := by omega
     have hXn : nv X = nv xs := by rw [← HX.out, nv_lim]
     have hYn : nv Y = nv ys := by rw [← HY.out, nv_lim]
     have hfin : U32 O ∧ nv O = nv xs * nv ys := ⟨HI.out.2.1, by rw [HI.out.2.2.1, List.take_length, hXn, hYn]⟩
     rw [show X.length + Y.length = O.length from HO.out.symm] at hgr
     have hnt := hgr.nt hfin.1
     have HF := Lib.hid hfin
     rw [show O.length = X.length + Y.length from HO.out] at hnt
     clear hfin hgr hbr hXn hYn
     go_wp2_with fail
     refine (sized_any _ _ _ _ O R E hnt HO.out.symm (by rw [HF.out.2, ← HR.out, mulS_ok (by rw [HX.out]; exact hl) (by rw [HY.out]; exact hl2)])).mono ?_
     rintro e w' ⟨⟨A', c', rfl, hnt'⟩, rfl⟩
     clear hnt
     go_wp2_with fail
     go_ret2
     exact ⟨A', c', rfl, hnt', below_on hb0 HB.out hs0⟩
end Go.Proofs.YtkpfbekmaafehaaGreat
