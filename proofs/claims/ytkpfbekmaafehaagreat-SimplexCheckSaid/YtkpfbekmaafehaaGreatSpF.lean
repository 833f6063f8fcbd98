/- What a tableau without a negative reduced cost proves -/
import Derived.Test.YtkpfbekmaafehaaGreatSpB
namespace Go.Proofs.YtkpfbekmaafehaaGreat
set_option maxRecDepth 100000
def pntT (m : Nat) (T : Nat → Nat → Rat) (B : Nat → Nat) (L j : Nat) : Rat := sumTo (fun i => if B i = j then T i L else 0) m
def priT (m n : Nat) (c : Nat → Rat) (T : Nat → Nat → Rat) (B : Nat → Nat) (r : Nat) : Rat := dotT m c T B (n + r)
section
variable {m n : Nat} {O T : Nat → Nat → Rat} {B : Nat → Nat} {c : Nat → Rat}
theorem sumTo_mul_r (g : Nat → Rat) (c : Rat) (n : Nat) : sumTo (fun i => g i * c) n = sumTo g n * c := by
 induction n with
 | zero => show (0 : Rat) = 0 * c; grind
 | succ n ih => rw [sumTo, sumTo, ih]; grind
theorem pri_col (h : Tab m n O T B) {k : Nat} (hk : k ≤ n + m) : sumTo (fun r => priT m n c T B r * O r k) m = dotT m c T B k := by
 unfold priT dotT
 have e1 : sumTo (fun i => c (B i) * T i k) m = sumTo (fun i => sumTo (fun r => c (B i) * T i (n + r) * O r k) m) m := sumTo_congr fun i hi => by
  rw [h.inv i hi k hk, ← sumTo_scale]
  exact sumTo_congr fun r _ => by grind
 rw [e1, sumTo_swap]
 exact sumTo_congr fun r _ => (sumTo_mul_r (fun i => c (B i) * T i (n + r)) (O r k) m).symm
theorem pnt_sum (g : Nat → Rat) (v : Nat → Rat) (B : Nat → Nat) (M N : Nat) : sumTo (fun j => g j * sumTo (fun i => if B i = j then v i else 0) M) N = sumTo (fun i => if B i < N then g (B i) * v i else 0) M := by
 have e1 : sumTo (fun j => g j * sumTo (fun i => if B i = j then v i else 0) M) N = sumTo (fun j => sumTo (fun i => g j * (if B i = j then v i else 0)) M) N := sumTo_congr fun j _ => (sumTo_scale _ _ _).symm
 rw [e1, sumTo_swap]
 refine sumTo_congr fun i _ => ?_
 by_cases h : B i < N
 ·rw [if_pos h, sumTo_out _ h, if_pos rfl, sumTo_zero]
  ·grind
  ·intro j _
   by_cases hj : j = B i
   ·rw [if_pos hj]
   ·rw [if_neg hj, if_neg (fun e => hj e.symm)]; grind
 ·rw [if_neg h]
  exact sumTo_zero fun j hj => by rw [if_neg (by omega)]; grind
theorem pnt_rows (h : Tab m n O T B) (ha : ∀ i, i < m → n ≤ B i → T i (n + m) = 0) {r : Nat} (hr : r < m) : sumTo (fun j => O r j * pntT m T B (n + m) j) n = O r (n + m) := by
 unfold pntT
 rw [pnt_sum (O r) (fun i => T i (n + m)) B m n, h.back r hr (n + m) (Nat.le_refl _)]
 refine sumTo_congr fun i hi => ?_
 by_cases hb : B i < n
 ·rw [if_pos hb]
 ·rw [if_neg hb, ha i hi (by omega)]; grind
theorem pnt_cost (ha : ∀ i, i < m → n ≤ B i → c (B i) * T i (n + m) = 0) : sumTo (fun j => c j * pntT m T B (n + m) j) n = dotT m c T B (n + m) := by
 unfold pntT dotT
 rw [pnt_sum c (fun i => T i (n + m)) B m n]
 refine sumTo_congr fun i hi => ?_
 by_cases hb : B i < n
 ·rw [if_pos hb]
 ·rw [if_neg hb, ha i hi (by omega)]
theorem pnt_nn (hf : ∀ i, i < m → 0 ≤ T i (n + m)) (j : Nat) : 0 ≤ pntT m T B (n + m) j := sumTo_nn fun i hi => by
 split
 ·exact hf i hi
 ·exact Rat.le_refl
def rayT (m : Nat) (T : Nat → Nat → Rat) (B : Nat → Nat) (s j : Nat) : Rat := (if j = s then 1 else 0) - sumTo (fun i => if B i = j then T i s else 0) m
theorem ray_rows (h : Tab m n O T B) {s : Nat} (hs : s < n) (ha : ∀ i, i < m → n ≤ B i → T i s = 0) {r : Nat} (hr : r < m) : sumTo (fun j => O r j * rayT m T B s j) n = 0 := by
 have e : sumTo (fun j => O r j * rayT m T B s j) n = sumTo (fun j => O r j * (if j = s then 1 else 0)) n - sumTo (fun j => O r j * sumTo (fun i => if B i = j then T i s else 0) m) n := by
  have : ∀ M, sumTo (fun j => O r j * rayT m T B s j) M = sumTo (fun j => O r j * (if j = s then 1 else 0)) M - sumTo (fun j => O r j * sumTo (fun i => if B i = j then T i s else 0) m) M := by
   intro M
   induction M with
   | zero => show (0 : Rat) = 0 - 0; grind
   | succ M ih => rw [sumTo, sumTo, sumTo, ih, rayT]; grind
  exact this n
 have e1 : sumTo (fun j => O r j * (if j = s then (1 : Rat) else 0)) n = O r s := by
  rw [sumTo_out _ hs, if_pos rfl, sumTo_zero]
  ·grind
  ·intro j _
   by_cases hj : j = s
   ·rw [if_pos hj]
   ·rw [if_neg hj, if_neg hj]; grind
 rw [e, e1, pnt_sum (O r) (fun i => T i s) B m n, h.back r hr s (by omega)]
 have e2 : sumTo (fun i => if B i < n then O r (B i) * T i s else 0) m = sumTo (fun i => O r (B i) * T i s) m := sumTo_congr fun i hi => by
  by_cases hb : B i < n
  ·rw [if_pos hb]
  ·rw [if_neg hb, ha i hi (by omega)]; grind
 rw [e2]; grind
theorem ray_cost {s : Nat} (hs : s < n) (ha : ∀ i, i < m → n ≤ B i → T i s = 0) : sumTo (fun j => c j * rayT m T B s j) n = redT m c T B s := by
 have e : sumTo (fun j => c j * rayT m T B s j) n = sumTo (fun j => c j * (if j = s then 1 else 0)) n - sumTo (fun j => c j * sumTo (fun i => if B i = j then T i s else 0) m) n := by
  have : ∀ M, sumTo (fun j => c j * rayT m T B s j) M = sumTo (fun j => c j * (if j = s then 1 else 0)) M - sumTo (fun j => c j * sumTo (fun i => if B i = j then T i s else 0) m) M := by
   intro M
   induction M with
   | zero => show (0 : Rat) = 0 - 0; grind
   | succ M ih => rw [sumTo, sumTo, sumTo, ih, rayT]; grind
  exact this n
 have e1 : sumTo (fun j => c j * (if j = s then (1 : Rat) else 0)) n = c s := by
  rw [sumTo_out _ hs, if_pos rfl, sumTo_zero]
  ·grind
  ·intro j _
   by_cases hj : j = s
   ·rw [if_pos hj]
   ·rw [if_neg hj, if_neg hj]; grind
 rw [e, e1, pnt_sum c (fun i => T i s) B m n, redT, dotT]
 congr 1
 refine sumTo_congr fun i hi => ?_
 by_cases hb : B i < n
 ·rw [if_pos hb]
 ·rw [if_neg hb, ha i hi (by omega)]; grind
theorem ray_nn {s : Nat} (_h : Tab m n O T B) (_hneg : redT m c T B s < 0) (hs : ∀ i, i < m → T i s ≤ 0) (j : Nat) : 0 ≤ rayT m T B s j := by
 have h1 : 0 ≤ sumTo (fun i => - (if B i = j then T i s else 0)) m := sumTo_nn fun i hi => by
  have := hs i hi
  split <;> grind
 have e : ∀ M, sumTo (fun i => - (if B i = j then T i s else 0)) M = - sumTo (fun i => if B i = j then T i s else 0) M := by
  intro M
  induction M with
  | zero => show (0 : Rat) = -0; grind
  | succ M ih => rw [sumTo, sumTo, ih]; grind
 rw [e] at h1
 rw [rayT]
 split <;> grind
end
set_option maxRecDepth 100000
def delC (V : Nat → Nat → Rat) (k : Nat) : Nat → Nat → Rat := fun j r => V (if j < k then j else j + 1) (r + 1)
def sgnN (k : Nat) : Rat := if k % 2 = 0 then 1 else -1
theorem sgnN_succ (k : Nat) : sgnN (k + 1) = - sgnN k := by
 unfold sgnN
 by_cases h : k % 2 = 0
 ·rw [if_neg (by omega), if_pos h]
 ·rw [if_pos (by omega), if_neg h]; grind
def detC : Nat → (Nat → Nat → Rat) → Rat
 | 0, _ => 1
 | m + 1, V => sumTo (fun k => sgnN k * V k 0 * detC m (delC V k)) (m + 1)
theorem detC_congr : ∀ m (V W : Nat → Nat → Rat), (∀ k, k < m → ∀ r, r < m → V k r = W k r) → detC m V = detC m W := by
 intro m
 induction m with
 | zero => intro _ _ _; rfl
 | succ m ih =>
   intro V W h
   refine sumTo_congr fun k hk => ?_
   rw [h k hk 0 (by omega), ih (delC V k) (delC W k) fun j hj r hr => ?_]
   show V _ _ = W _ _
   exact h _ (by split <;> omega) _ (by omega)
def setC (V : Nat → Nat → Rat) (i : Nat) (w : Nat → Rat) : Nat → Nat → Rat := fun j => if j = i then w else V j
theorem setC_at (V : Nat → Nat → Rat) (i : Nat) (w : Nat → Rat) : setC V i w i = w := if_pos rfl
theorem setC_ne (V : Nat → Nat → Rat) {i j : Nat} (w : Nat → Rat) (h : j ≠ i) : setC V i w j = V j := if_neg h
theorem delC_set_at (V : Nat → Nat → Rat) (i : Nat) (w : Nat → Rat) : delC (setC V i w) i = delC V i := by
 funext j r
 show setC V i w _ _ = V _ _
 rw [setC_ne]
 split <;> omega
theorem delC_set_ne (V : Nat → Nat → Rat) {i k : Nat} (w : Nat → Rat) (h : i ≠ k) : delC (setC V i w) k = setC (delC V k) (if i < k then i else i - 1) (fun r => w (r + 1)) := by
 funext j r
 show setC V i w (if j < k then j else j + 1) (r + 1) = setC (delC V k) (if i < k then i else i - 1) (fun r => w (r + 1)) j r
 by_cases hj : (if j < k then j else j + 1) = i
 ·have e : j = if i < k then i else i - 1 := by
   by_cases h1 : j < k
   ·rw [if_pos h1] at hj; rw [if_pos (by omega)]; omega
   ·rw [if_neg h1] at hj; rw [if_neg (by omega)]; omega
  rw [hj, setC_at, ← e, setC_at]
 ·have e : j ≠ if i < k then i else i - 1 := by
   intro e
   apply hj
   rw [e]
   by_cases h1 : i < k
   ·rw [if_pos h1, if_pos h1]
   ·rw [if_neg h1, if_neg (by omega)]; omega
  rw [setC_ne _ _ hj, setC_ne _ _ e]; rfl
theorem detC_lin : ∀ m (V : Nat → Nat → Rat) (i : Nat) (a b : Rat) (w u : Nat → Rat), i < m → detC m (setC V i (fun r => a * w r + b * u r)) = a * detC m (setC V i w) + b * detC m (setC V i u) := by
 intro m
 induction m with
 | zero => intro V i a b w u hi; omega
 | succ m ih =>
   intro V i a b w u hi
   show sumTo _ _ = a * sumTo _ _ + b * sumTo _ _
   rw [← sumTo_scale, ← sumTo_scale, ← sumTo_add]
   refine sumTo_congr fun k hk => ?_
   by_cases h : i = k
   ·subst h
    rw [setC_at, setC_at, setC_at, delC_set_at, delC_set_at, delC_set_at]; grind
   ·rw [setC_ne _ _ (fun e => h e.symm), setC_ne _ _ (fun e => h e.symm), setC_ne _ _ (fun e => h e.symm), delC_set_ne _ _ h, delC_set_ne _ _ h, delC_set_ne _ _ h, ih _ _ a b (fun r => w (r + 1)) (fun r => u (r + 1)) (by split <;> omega)]
    grind
theorem detC_adj : ∀ m (V : Nat → Nat → Rat) (k : Nat), k + 1 < m → V k = V (k + 1) → detC m V = 0 := by
 intro m
 induction m with
 | zero => intro V k h _; omega
 | succ m ih =>
   intro V k hk he
   show sumTo (fun j => sgnN j * V j 0 * detC m (delC V j)) (m + 1) = 0
   rw [sumTo_out _ (show k < m + 1 by omega), sumTo_out (fun i => if i = k then 0 else sgnN i * V i 0 * detC m (delC V i)) hk, if_neg (by omega), sumTo_zero]
   ·have e1 : delC V k = delC V (k + 1) := by
     funext j r
     show V (if j < k then j else j + 1) (r + 1) = V (if j < k + 1 then j else j + 1) (r + 1)
     by_cases h1 : j < k
     ·rw [if_pos h1, if_pos (by omega)]
     ·by_cases h2 : j = k
      ·subst h2
       rw [if_neg h1, if_pos (by omega), he]
      ·rw [if_neg h1, if_neg (by omega)]
    rw [sgnN_succ, e1, he]; grind
   ·intro j hj
    by_cases h1 : j = k + 1
    ·rw [if_pos h1]
    ·by_cases h2 : j = k
     ·rw [if_neg h1, if_pos h2]
     ·rw [if_neg h1, if_neg h2]
      have h0 : detC m (delC V j) = 0 := by
       by_cases h3 : j < k
       ·refine ih (delC V j) (k - 1) (by omega) ?_
        funext r
        show V (if k - 1 < j then k - 1 else k - 1 + 1) (r + 1) = V (if k - 1 + 1 < j then k - 1 + 1 else k - 1 + 1 + 1) (r + 1)
        rw [if_neg (by omega), if_neg (by omega), show k - 1 + 1 = k by omega, he]
       ·refine ih (delC V j) k (by omega) ?_
        funext r
        show V (if k < j then k else k + 1) (r + 1) = V (if k + 1 < j then k + 1 else k + 1 + 1) (r + 1)
        rw [if_pos (by omega), if_pos (by omega), he]
      rw [h0]; grind
theorem setC_self (V : Nat → Nat → Rat) (i : Nat) : setC V i (V i) = V := by
 funext j
 by_cases h : j = i
 ·rw [h, setC_at]
 ·rw [setC_ne _ _ h]
theorem setC_comm (V : Nat → Nat → Rat) {i j : Nat} (w u : Nat → Rat) (h : i ≠ j) : setC (setC V i w) j u = setC (setC V j u) i w := by
 funext k
 by_cases h1 : k = i
 ·subst h1; rw [setC_ne _ _ h, setC_at, setC_at]
 ·by_cases h2 : k = j
  ·subst h2; rw [setC_at, setC_ne _ _ h1, setC_at]
  ·rw [setC_ne _ _ h2, setC_ne _ _ h1, setC_ne _ _ h1, setC_ne _ _ h2]
theorem detC_swap {m : Nat} (V : Nat → Nat → Rat) {k : Nat} (hk : k + 1 < m) (a b : Nat → Rat) : detC m (setC (setC V k a) (k + 1) b) = - detC m (setC (setC V k b) (k + 1) a) := by
 have hne : k ≠ k + 1 := by omega
 have z : ∀ w : Nat → Rat, detC m (setC (setC V k w) (k + 1) w) = 0 := fun w => detC_adj m _ k hk (by rw [setC_ne _ _ hne, setC_at, setC_at])
 have l1 : ∀ w : Nat → Rat, detC m (setC (setC V k w) (k + 1) (fun r => 1 * a r + 1 * b r)) = 1 * detC m (setC (setC V k w) (k + 1) a) + 1 * detC m (setC (setC V k w) (k + 1) b) := fun w => detC_lin m _ _ 1 1 a b hk
 have l2 : ∀ u : Nat → Rat, detC m (setC (setC V k (fun r => 1 * a r + 1 * b r)) (k + 1) u) = 1 * detC m (setC (setC V k a) (k + 1) u) + 1 * detC m (setC (setC V k b) (k + 1) u) := fun u => by
  rw [setC_comm _ _ _ hne, setC_comm _ _ _ hne, setC_comm _ _ _ hne]
  exact detC_lin m _ _ 1 1 a b (by omega)
 have h := z (fun r => 1 * a r + 1 * b r)
 rw [l2, l1, l1, z a, z b] at h
 grind
theorem detC_eq {m : Nat} : ∀ d (V : Nat → Nat → Rat) (j : Nat), j + d + 1 < m → V j = V (j + d + 1) → detC m V = 0 := by
 intro d
 induction d with
 | zero => intro V j h e; exact detC_adj m V j h e
 | succ d ih =>
   intro V j h e
   have hV : V = setC (setC V (j + d + 1) (V (j + d + 1))) (j + d + 1 + 1) (V (j + d + 1 + 1)) := by rw [setC_self, setC_self]
   rw [hV, detC_swap V (k := j + d + 1) (by omega), ih _ j (by omega)]
   ·grind
   ·rw [setC_ne _ _ (by omega), setC_ne _ _ (by omega), setC_ne _ _ (by omega), setC_at]
    exact e
theorem detC_eq' {m : Nat} (V : Nat → Nat → Rat) {i j : Nat} (hi : i < m) (hj : j < m) (hne : i ≠ j) (e : V i = V j) : detC m V = 0 := by
 rcases Nat.lt_or_gt_of_ne hne with h | h
 ·obtain ⟨d, rfl⟩ := Nat.exists_eq_add_of_le (show i + 1 ≤ j from h)
  exact detC_eq d V i (by omega) (by rw [e]; congr 1; omega)
 ·obtain ⟨d, rfl⟩ := Nat.exists_eq_add_of_le (show j + 1 ≤ i from h)
  exact detC_eq d V j (by omega) (by rw [← e]; congr 1; omega)
theorem detC_zero {m : Nat} (V : Nat → Nat → Rat) {i : Nat} (hi : i < m) : detC m (setC V i (fun _ => 0)) = 0 := by
 have h := detC_lin m V i 0 0 (fun _ => 0) (fun _ => 0) hi
 have e : (fun r : Nat => (0 : Rat) * (fun _ : Nat => (0 : Rat)) r + 0 * (fun _ : Nat => (0 : Rat)) r) = fun _ => 0 := by funext r; grind
 rw [e] at h
 grind
theorem cramer {m : Nat} (V : Nat → Nat → Rat) (y : Nat → Rat) {i : Nat} (hi : i < m) : detC m (setC V i (fun r => sumTo (fun k => y k * V k r) m)) = y i * detC m V := by
 have key : ∀ M, detC m (setC V i (fun r => sumTo (fun k => y k * V k r) M)) = sumTo (fun k => y k * detC m (setC V i (V k))) M := by
  intro M
  induction M with
  | zero => exact detC_zero V hi
  | succ M ih =>
    have e : (fun r => sumTo (fun k => y k * V k r) (M + 1)) = fun r => 1 * sumTo (fun k => y k * V k r) M + y M * V M r := by
     funext r
     rw [sumTo]; grind
    rw [e, detC_lin m V i 1 (y M) (fun r => sumTo (fun k => y k * V k r) M) (V M) hi, ih, sumTo]; grind
 rw [key, sumTo_out _ hi, setC_self, sumTo_zero]
 ·grind
 ·intro k hk
  by_cases h : k = i
  ·rw [if_pos h]
  ·rw [if_neg h, detC_eq' (setC V i (V k)) hi hk (fun e => h e.symm) (by rw [setC_at, setC_ne _ _ h])]; grind
theorem detC_one : ∀ m, detC m (fun k r => if r = k then 1 else 0) = 1 := by
 intro m
 induction m with
 | zero => rfl
 | succ m ih =>
   show sumTo _ _ = 1
   rw [sumTo_out _ (show 0 < m + 1 by omega), sumTo_zero]
   ·have e : detC m (delC (fun k r => if r = k then 1 else 0) 0) = 1 := by
     refine Eq.trans (detC_congr m _ _ fun k _ r _ => ?_) ih
     show (if r + 1 = (if k < 0 then k else k + 1) then (1 : Rat) else 0) = _
     rw [if_neg (show ¬ k < 0 by omega)]
     by_cases h : r = k
     ·rw [if_pos (by omega), if_pos h]
     ·rw [if_neg (by omega), if_neg h]
    rw [e]
    show sgnN 0 * (if 0 = 0 then (1 : Rat) else 0) * 1 + 0 = 1
    rw [if_pos rfl, sgnN, if_pos rfl]; grind
   ·intro k hk
    by_cases h : k = 0
    ·rw [if_pos h]
    ·rw [if_neg h]
     show sgnN k * (if 0 = k then (1 : Rat) else 0) * _ = 0
     rw [if_neg (fun e => h e.symm)]; grind
set_option maxRecDepth 100000
def pr1 (f : Nat → Nat) : Nat → Nat
 | 0 => 1
 | n + 1 => pr1 f n * f n
theorem pr1_congr {f g : Nat → Nat} : ∀ n, (∀ i, i < n → f i = g i) → pr1 f n = pr1 g n := by
 intro n
 induction n with
 | zero => intro _; rfl
 | succ n ih => intro h; rw [pr1, pr1, ih fun i hi => h i (by omega), h n (by omega)]
theorem pr1_mono {f g : Nat → Nat} : ∀ n, (∀ i, i < n → f i ≤ g i) → pr1 f n ≤ pr1 g n := by
 intro n
 induction n with
 | zero => intro _; exact Nat.le_refl _
 | succ n ih => intro h; exact Nat.mul_le_mul (ih fun i hi => h i (by omega)) (h n (by omega))
theorem pr1_mul (f g : Nat → Nat) (n : Nat) : pr1 (fun i => f i * g i) n = pr1 f n * pr1 g n := by
 induction n with
 | zero => rfl
 | succ n ih => rw [pr1, pr1, pr1, ih]; grind
theorem pr1_head (f : Nat → Nat) (n : Nat) : pr1 f (n + 1) = f 0 * pr1 (fun i => f (i + 1)) n := by
 induction n with
 | zero => show 1 * f 0 = f 0 * 1; omega
 | succ n ih => rw [pr1, ih, pr1]; grind
theorem pr1_out (f : Nat → Nat) {n k : Nat} (hk : k < n) : pr1 f n = f k * pr1 (fun j => if j = k then 1 else f j) n := by
 induction n with
 | zero => omega
 | succ n ih =>
   rw [pr1, pr1]
   by_cases h : k = n
   ·subst h
    rw [if_pos rfl, pr1_congr (g := fun j => if j = k then 1 else f j) k fun i hi => by rw [if_neg (by omega)]]
    grind
   ·rw [ih (by omega), if_neg (by omega)]; grind
theorem pr1_skip (F : Nat → Nat) (k : Nat) : ∀ m, k ≤ m → pr1 (fun j => F (if j < k then j else j + 1)) m = pr1 (fun j => if j = k then 1 else F j) (m + 1) := by
 intro m
 induction m with
 | zero =>
   intro h
   obtain rfl : k = 0 := by omega
   show 1 = 1 * (if 0 = 0 then 1 else F 0)
   rw [if_pos rfl]
 | succ m ih =>
   intro h
   by_cases h1 : k ≤ m
   ·rw [pr1, ih h1, pr1.eq_2 _ (m + 1), if_neg (by omega), if_neg (by omega)]
   ·obtain rfl : k = m + 1 := by omega
    rw [pr1.eq_2 _ (m + 1), if_pos rfl, Nat.mul_one]
    exact pr1_congr _ fun i hi => by rw [if_pos (by omega), if_neg (by omega)]
def sumM (g : Nat → Nat) : Nat → Nat
 | 0 => 0
 | n + 1 => sumM g n + g n
theorem sumM_le {f g : Nat → Nat} : ∀ n, (∀ i, i < n → f i ≤ g i) → sumM f n ≤ sumM g n := by
 intro n
 induction n with
 | zero => intro _; exact Nat.le_refl _
 | succ n ih => intro h; exact Nat.add_le_add (ih fun i hi => h i (by omega)) (h n (by omega))
theorem sumM_mul (g : Nat → Nat) (c n : Nat) : sumM (fun i => g i * c) n = sumM g n * c := by
 induction n with
 | zero => show 0 = 0 * c; omega
 | succ n ih => rw [sumM, sumM, ih]; grind
theorem sum_le_pr (q a : Nat → Nat) : ∀ n, sumM (fun k => a k * pr1 (fun j => if j = k then 1 else q j) n) n + pr1 q n ≤ pr1 (fun j => q j + a j) n := by
 intro n
 induction n with
 | zero => show 0 + 1 ≤ 1; omega
 | succ n ih =>
   have e1 : sumM (fun k => a k * pr1 (fun j => if j = k then 1 else q j) (n + 1)) n = sumM (fun k => a k * pr1 (fun j => if j = k then 1 else q j) n) n * q n := by
    rw [← sumM_mul]
    have : ∀ M, M ≤ n → sumM (fun k => a k * pr1 (fun j => if j = k then 1 else q j) (n + 1)) M = sumM (fun k => a k * pr1 (fun j => if j = k then 1 else q j) n * q n) M := by
     intro M
     induction M with
     | zero => intro _; rfl
     | succ M ih => intro hM; rw [sumM, sumM, ih (by omega), pr1, if_neg (by omega), Nat.mul_assoc]
    exact this n (Nat.le_refl _)
   have e2 : pr1 (fun j => if j = n then 1 else q j) (n + 1) = pr1 q n := by
    rw [pr1, if_pos rfl, Nat.mul_one]
    exact pr1_congr n fun i hi => by rw [if_neg (by omega)]
   rw [sumM, e1, e2, pr1, pr1]
   have h1 := Nat.mul_le_mul_right (q n) ih
   have h2 : a n * pr1 q n ≤ a n * pr1 (fun j => q j + a j) n := Nat.mul_le_mul_left _ (Nat.le_trans (Nat.le_add_left _ _) ih)
   rw [Nat.add_mul] at h1
   rw [Nat.mul_add, Nat.mul_comm _ (a n)]
   omega
def sumZ (g : Nat → Int) : Nat → Int
 | 0 => 0
 | n + 1 => sumZ g n + g n
theorem sumZ_cast (g : Nat → Int) (n : Nat) : ((sumZ g n : Int) : Rat) = sumTo (fun i => ((g i : Int) : Rat)) n := by
 induction n with
 | zero => rfl
 | succ n ih => rw [sumZ, sumTo, Rat.intCast_add, ih]
theorem sumZ_abs (g : Nat → Int) (n : Nat) : (sumZ g n).natAbs ≤ sumM (fun i => (g i).natAbs) n := by
 induction n with
 | zero => exact Nat.le_refl _
 | succ n ih => rw [sumZ, sumM]; exact Nat.le_trans (Int.natAbs_add_le _ _) (Nat.add_le_add_right ih _)
def sgnZ (k : Nat) : Int := if k % 2 = 0 then 1 else -1
theorem sgnZ_cast (k : Nat) : ((sgnZ k : Int) : Rat) = sgnN k := by
 unfold sgnZ sgnN
 split <;> rfl
theorem sgnZ_abs (k : Nat) : (sgnZ k).natAbs = 1 := by unfold sgnZ; split <;> rfl
theorem detC_int : ∀ m (V : Nat → Nat → Rat) (q : Nat → Nat → Nat) (a : Nat → Nat → Int), (∀ k r, ((q k r : Nat) : Rat) * V k r = ((a k r : Int) : Rat)) →
 ∃ N : Int, ((pr1 (fun k => pr1 (fun r => q k r) m) m : Nat) : Rat) * detC m V = (N : Rat) ∧ N.natAbs ≤ pr1 (fun k => pr1 (fun r => q k r + (a k r).natAbs) m) m := by
 intro m
 induction m with
 | zero => intro V q a _; exact ⟨1, by show ((1 : Nat) : Rat) * 1 = ((1 : Int) : Rat); rw [Rat.mul_one]; rfl, Nat.le_refl _⟩
 | succ m ih =>
   intro V q a h
   have hk := fun k => ih (delC V k) (fun j r => q (if j < k then j else j + 1) (r + 1)) (fun j r => a (if j < k then j else j + 1) (r + 1)) (fun j r => h _ _)
   obtain ⟨Nf, hN⟩ := Classical.axiomOfChoice hk
-- the parts
   obtain ⟨R, hR⟩ : ∃ R : Nat → Nat, R = fun k => pr1 (fun r => q k (r + 1)) m := ⟨_, rfl⟩
   obtain ⟨W, hW⟩ : ∃ W : Nat → Nat, W = fun k => pr1 (fun r => q k (r + 1) + (a k (r + 1)).natAbs) m := ⟨_, rfl⟩
   have eD : pr1 (fun k => pr1 (fun r => q k r) (m + 1)) (m + 1) = pr1 (fun k => q k 0) (m + 1) * pr1 R (m + 1) := by
    rw [← pr1_mul, hR]
    exact pr1_congr _ fun k _ => pr1_head _ _
   have eW : pr1 (fun k => pr1 (fun r => q k r + (a k r).natAbs) (m + 1)) (m + 1) = pr1 (fun k => q k 0 + (a k 0).natAbs) (m + 1) * pr1 W (m + 1) := by
    rw [← pr1_mul, hW]
    exact pr1_congr _ fun k _ => pr1_head _ _
   have dR : ∀ k, k < m + 1 → pr1 R (m + 1) = R k * pr1 (fun j => pr1 (fun r => q (if j < k then j else j + 1) (r + 1)) m) m := fun k hk => by
    rw [pr1_out R hk, ← pr1_skip R k m (by omega), hR]
   have dW : ∀ k, k < m + 1 → pr1 W (m + 1) = W k * pr1 (fun j => pr1 (fun r => q (if j < k then j else j + 1) (r + 1) + (a (if j < k then j else j + 1) (r + 1)).natAbs) m) m := fun k hk => by
    rw [pr1_out W hk, ← pr1_skip W k m (by omega), hW]
   obtain ⟨Q, hQ⟩ : ∃ Q : Nat → Nat, Q = fun k => pr1 (fun j => if j = k then 1 else q j 0) (m + 1) := ⟨_, rfl⟩
   have dQ : ∀ k, k < m + 1 → pr1 (fun j => q j 0) (m + 1) = q k 0 * Q k := fun k hk => by rw [pr1_out (fun j => q j 0) hk, hQ]
   refine ⟨sumZ (fun k => sgnZ k * (a k 0 * (Q k : Int)) * ((R k : Int) * Nf k)) (m + 1), ?_, ?_⟩
   ·rw [sumZ_cast]
    show _ * sumTo (fun k => sgnN k * V k 0 * detC m (delC V k)) (m + 1) = _
    rw [← sumTo_scale]
    refine sumTo_congr fun k hk => ?_
    have h1 := h k 0
    have h2 := (hN k).1
    rw [eD, dQ k hk, dR k hk]
    rw [Rat.intCast_mul, Rat.intCast_mul, Rat.intCast_mul, Rat.intCast_mul, sgnZ_cast, ← h1, ← h2]
    rw [Rat.natCast_mul, Rat.natCast_mul, Rat.natCast_mul]
    have c1 : (((Q k : Nat) : Int) : Rat) = ((Q k : Nat) : Rat) := rfl
    have c2 : (((R k : Nat) : Int) : Rat) = ((R k : Nat) : Rat) := rfl
    rw [c1, c2]
    generalize ((q k 0 : Nat) : Rat) = x1
    generalize ((Q k : Nat) : Rat) = x2
    generalize ((R k : Nat) : Rat) = x3
    generalize ((pr1 (fun j => pr1 (fun r => q (if j < k then j else j + 1) (r + 1)) m) m : Nat) : Rat) = x4
    generalize V k 0 = x5
    generalize detC m (delC V k) = x6
    generalize sgnN k = x7
    grind
   ·refine Nat.le_trans (sumZ_abs _ _) ?_
    have b1 : ∀ k, k < m + 1 → (sgnZ k * (a k 0 * (Q k : Int)) * ((R k : Int) * Nf k)).natAbs ≤ (a k 0).natAbs * Q k * pr1 W (m + 1) := fun k hk => by
     rw [Int.natAbs_mul, Int.natAbs_mul, Int.natAbs_mul, Int.natAbs_mul, sgnZ_abs, Nat.one_mul, Int.natAbs_natCast, Int.natAbs_natCast]
     refine Nat.mul_le_mul_left _ ?_
     rw [dW k hk]
     refine Nat.mul_le_mul ?_ (hN k).2
     rw [hR, hW]
     exact pr1_mono _ fun r _ => Nat.le_add_right _ _
    refine Nat.le_trans (sumM_le _ b1) ?_
    rw [sumM_mul, eW]
    refine Nat.mul_le_mul_right _ ?_
    have b2 := sum_le_pr (fun k => q k 0) (fun k => (a k 0).natAbs) (m + 1)
    rw [hQ]
    exact Nat.le_trans (Nat.le_add_right _ _) b2
set_option maxRecDepth 100000
def wtR (x : Rat) : Nat := x.den + x.num.natAbs
def colD (m : Nat) (O : Nat → Nat → Rat) (j : Nat) : Nat := pr1 (fun r => (O r j).den) m
def colW (m : Nat) (O : Nat → Nat → Rat) (j : Nat) : Nat := pr1 (fun r => wtR (O r j)) m
theorem pr1_pos {f : Nat → Nat} (n : Nat) (h : ∀ i, i < n → 0 < f i) : 0 < pr1 f n := by
 induction n with
 | zero => exact Nat.one_pos
 | succ n ih => exact Nat.mul_pos (ih fun i hi => h i (by omega)) (h n (by omega))
theorem colD_pos (m : Nat) (O : Nat → Nat → Rat) (j : Nat) : 0 < colD m O j := pr1_pos m fun r _ => (O r j).den_pos
theorem colD_le (m : Nat) (O : Nat → Nat → Rat) (j : Nat) : colD m O j ≤ colW m O j := pr1_mono m fun _ _ => Nat.le_add_right _ _
theorem colW_pos (m : Nat) (O : Nat → Nat → Rat) (j : Nat) : 0 < colW m O j := Nat.lt_of_lt_of_le (colD_pos m O j) (colD_le m O j)
theorem den_mul_num (x : Rat) : ((x.den : Nat) : Rat) * x = ((x.num : Int) : Rat) := by
 have h := Rat.mkRat_eq_div x.num x.den
 rw [Rat.mkRat_self] at h
 have h2 : ((x.den : Nat) : Rat) ≠ 0 := by exact_mod_cast x.den_nz
 have h3 := Rat.div_mul_cancel (a := ((x.num : Int) : Rat)) h2
 have h4 : x * ((x.den : Nat) : Rat) = ((x.num : Int) : Rat) := by
  have : x * ((x.den : Nat) : Rat) = ((x.num : Int) : Rat) / ((x.den : Nat) : Rat) * ((x.den : Nat) : Rat) := congrArg (· * ((x.den : Nat) : Rat)) h
  rw [this, h3]
 rw [Rat.mul_comm]
 exact h4
theorem inj_prod : ∀ m (B : Nat → Nat) (w : Nat → Nat) (M : Nat), (∀ i, i < m → B i < M) → (∀ i, i < m → ∀ r, r < m → B i = B r → i = r) → (∀ j, 0 < w j) → pr1 (fun k => w (B k)) m ≤ pr1 w M := by
 intro m
 induction m with
 | zero => intro B w M _ _ hw; exact pr1_pos M fun i _ => hw i
 | succ m ih =>
   intro B w M hB hi hw
   rw [pr1, pr1_out w (hB m (by omega)), Nat.mul_comm]
   refine Nat.mul_le_mul_left _ ?_
   have h1 := ih B (fun j => if j = B m then 1 else w j) M (fun i h => hB i (by omega)) (fun i h r h' e => hi i (by omega) r (by omega) e) (fun j => by split; exact Nat.one_pos; exact hw j)
   refine Nat.le_trans (Nat.le_of_eq (pr1_congr m fun k hk => ?_)) h1
   rw [if_neg]
   intro e
   exact absurd (hi k (by omega) m (by omega) e) (by omega)
section
variable {m n : Nat} {O T : Nat → Nat → Rat} {B : Nat → Nat}
def basV (O : Nat → Nat → Rat) (B : Nat → Nat) : Nat → Nat → Rat := fun k r => O r (B k)
theorem basV_set (i j : Nat) : basV O (pivB B i j) = setC (basV O B) i (fun r => O r j) := by
 funext k r
 show O r (pivB B i j k) = setC (basV O B) i (fun r => O r j) k r
 by_cases h : k = i
 ·subst h; rw [setC_at, pivB, if_pos rfl]
 ·rw [setC_ne _ _ h, pivB, if_neg h]; rfl
theorem tab_cramer (h : Tab m n O T B) {i j : Nat} (hi : i < m) (hj : j ≤ n + m) : detC m (setC (basV O B) i (fun r => O r j)) = T i j * detC m (basV O B) := by
 rw [← cramer (basV O B) (fun k => T k j) hi]
 refine detC_congr m _ _ fun k hk r hr => ?_
 by_cases hki : k = i
 ·subst hki
  rw [setC_at, setC_at, h.back r hr j hj]
  exact sumTo_congr fun l _ => by rw [Rat.mul_comm]; rfl
 ·rw [setC_ne _ _ hki, setC_ne _ _ hki]
theorem det_start (hO : ∀ r, r < m → ∀ k, k < m → O r (n + k) = if r = k then 1 else 0) : detC m (basV O (fun i => n + i)) = 1 :=
 Eq.trans (detC_congr m _ _ fun k hk r hr => hO r hr k hk) (detC_one m)
theorem det_pivot (h : Tab m n O T B) {i j : Nat} (hi : i < m) (hj : j ≤ n + m) : detC m (basV O (pivB B i j)) = T i j * detC m (basV O B) := by
 rw [basV_set]; exact tab_cramer h hi hj
theorem tab_size (h : Tab m n O T B) (hz : detC m (basV O B) ≠ 0) : ∃ N2 : Int, N2 ≠ 0 ∧ N2.natAbs ≤ pr1 (colW m O) (n + m) ∧
 ∀ i, i < m → ∀ j, j ≤ n + m → ∃ N : Int, ((N2 : Int) : Rat) * ((colD m O j : Nat) : Rat) * T i j = ((N : Int) : Rat) ∧ N.natAbs ≤ pr1 (colW m O) (n + m) * colW m O j := by
 have hq : ∀ (V : Nat → Nat → Rat) k r, (((V k r).den : Nat) : Rat) * V k r = (((V k r).num : Int) : Rat) := fun V k r => den_mul_num (V k r)
 obtain ⟨N2, h1, h2⟩ := detC_int m (basV O B) (fun k r => (basV O B k r).den) (fun k r => (basV O B k r).num) (hq _)
 have hD : pr1 (fun k => pr1 (fun r => (basV O B k r).den) m) m = pr1 (fun k => colD m O (B k)) m := rfl
 have hW : pr1 (fun k => pr1 (fun r => (basV O B k r).den + (basV O B k r).num.natAbs) m) m = pr1 (fun k => colW m O (B k)) m := rfl
 rw [hD] at h1
 rw [hW] at h2
 have hBi : ∀ i, i < m → ∀ r, r < m → B i = B r → i = r := fun i hi r hr e => basis_inj h hi hr e
 have hinj := inj_prod m B (colW m O) (n + m) h.lt hBi (colW_pos m O)
 have hDp : 0 < pr1 (fun k => colD m O (B k)) m := pr1_pos m fun k _ => colD_pos m O (B k)
 refine ⟨N2, ?_, Nat.le_trans h2 hinj, fun i hi j hj => ?_⟩
 ·rintro rfl
  rcases Rat.mul_eq_zero.1 h1 with k | k
  ·have : pr1 (fun k => colD m O (B k)) m = 0 := by exact_mod_cast k
   omega
  ·exact hz k
 ·obtain ⟨N1, k1, k2⟩ := detC_int m (setC (basV O B) i (fun r => O r j)) (fun k r => (setC (basV O B) i (fun r => O r j) k r).den) (fun k r => (setC (basV O B) i (fun r => O r j) k r).num) (hq _)
  have part : ∀ f : Rat → Nat, ∀ k, pr1 (fun r => f (setC (basV O B) i (fun r => O r j) k r)) m = if k = i then pr1 (fun r => f (O r j)) m else pr1 (fun r => f (O r (B k))) m := fun f k => by
   by_cases hk : k = i
   ·subst hk; rw [if_pos rfl, setC_at]
   ·rw [if_neg hk, setC_ne _ _ hk]; rfl
  have eD : pr1 (fun k => pr1 (fun r => (setC (basV O B) i (fun r => O r j) k r).den) m) m = colD m O j * pr1 (fun k => if k = i then 1 else colD m O (B k)) m := by
   rw [pr1_congr (g := fun k => if k = i then colD m O j else colD m O (B k)) m fun k _ => part Rat.den k, pr1_out _ hi, if_pos rfl]
   congr 1
   exact pr1_congr m fun k _ => by split <;> rfl
  have eW : pr1 (fun k => pr1 (fun r => (setC (basV O B) i (fun r => O r j) k r).den + (setC (basV O B) i (fun r => O r j) k r).num.natAbs) m) m = colW m O j * pr1 (fun k => if k = i then 1 else colW m O (B k)) m := by
   show pr1 (fun k => pr1 (fun r => wtR (setC (basV O B) i (fun r => O r j) k r)) m) m = _
   rw [pr1_congr (g := fun k => if k = i then colW m O j else colW m O (B k)) m fun k _ => part wtR k, pr1_out _ hi, if_pos rfl]
   congr 1
   exact pr1_congr m fun k _ => by split <;> rfl
  rw [eD, tab_cramer h hi hj] at k1
  rw [eW] at k2
  have oD := pr1_out (fun k => colD m O (B k)) hi
  have oW := pr1_out (fun k => colW m O (B k)) hi
  refine ⟨N1 * (colD m O (B i) : Int), ?_, ?_⟩
  ·rw [← h1, oD, Rat.intCast_mul, ← k1, Rat.natCast_mul, Rat.natCast_mul]
   have c1 : (((colD m O (B i) : Nat) : Int) : Rat) = ((colD m O (B i) : Nat) : Rat) := rfl
   rw [c1]
   generalize ((colD m O (B i) : Nat) : Rat) = x1
   generalize ((colD m O j : Nat) : Rat) = x2
   generalize ((pr1 (fun k => if k = i then 1 else colD m O (B k)) m : Nat) : Rat) = x3
   generalize detC m (basV O B) = x4
   grind
  ·rw [Int.natAbs_mul, Int.natAbs_natCast]
   have a1 := Nat.mul_le_mul k2 (colD_le m O (B i))
   refine Nat.le_trans a1 ?_
   have a2 : colW m O j * pr1 (fun k => if k = i then 1 else colW m O (B k)) m * colW m O (B i) = pr1 (fun k => colW m O (B k)) m * colW m O j := by rw [oW]; grind
   rw [a2]
   exact Nat.mul_le_mul_right _ hinj
end
end Go.Proofs.YtkpfbekmaafehaaGreat
