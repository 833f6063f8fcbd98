/- Plain arithmetic of limbs: lists of 32-bit numbers, least first. No program in sight. -/
namespace Go.Proofs.Ytlcolmifmhdboaa

/-- the power of the base -/
def pw (k : Nat) : Nat := 4294967296 ^ k
set_option maxRecDepth 100000 in
theorem pw_zero : pw 0 = 1 := rfl
set_option maxRecDepth 100000 in
theorem pw_succ (k : Nat) : pw (k + 1) = 4294967296 * pw k := by unfold pw; rw [Nat.pow_succ, Nat.mul_comm]
set_option maxRecDepth 100000 in
theorem pw_pos (k : Nat) : 0 < pw k := by unfold pw; exact Nat.pow_pos (by omega)
set_option maxRecDepth 100000 in
theorem pw_add (j k : Nat) : pw (j + k) = pw j * pw k := by unfold pw; exact Nat.pow_add ..
set_option maxRecDepth 100000 in
theorem pw_le {j k : Nat} (h : j ≤ k) : pw j ≤ pw k := by unfold pw; exact Nat.pow_le_pow_right (by omega) h
set_option maxRecDepth 100000 in
theorem pw_lt {j k : Nat} (h : j < k) : pw j < pw k := by unfold pw; exact Nat.pow_lt_pow_right (by omega) h
set_option maxRecDepth 100000 in
theorem pw_one : pw 1 = 4294967296 := rfl

/-- the value of limbs -/
def nv : List Nat → Nat
  | [] => 0
  | x :: xs => x + 4294967296 * nv xs
set_option maxRecDepth 100000 in
theorem nv_nil : nv [] = 0 := rfl
set_option maxRecDepth 100000 in
theorem nv_cons (x : Nat) (xs : List Nat) : nv (x :: xs) = x + 4294967296 * nv xs := rfl
def U32 (xs : List Nat) : Prop := ∀ x ∈ xs, x < 4294967296
set_option maxRecDepth 100000 in
theorem U32.nil : U32 [] := by intro x hx; cases hx
set_option maxRecDepth 100000 in
theorem U32.tail {x : Nat} {xs : List Nat} (h : U32 (x :: xs)) : U32 xs := fun y hy => h y (List.mem_cons_of_mem _ hy)
set_option maxRecDepth 100000 in
theorem U32.head {x : Nat} {xs : List Nat} (h : U32 (x :: xs)) : x < 4294967296 := h x (List.mem_cons_self ..)
set_option maxRecDepth 100000 in
theorem U32.cons {x : Nat} {xs : List Nat} (hx : x < 4294967296) (h : U32 xs) : U32 (x :: xs) := by
  intro y hy
  rcases List.mem_cons.1 hy with rfl | hy
  · exact hx
  · exact h y hy
set_option maxRecDepth 100000 in
theorem U32.append {xs ys : List Nat} (h : U32 xs) (k : U32 ys) : U32 (xs ++ ys) := by
  intro y hy
  rcases List.mem_append.1 hy with hy | hy
  · exact h y hy
  · exact k y hy
set_option maxRecDepth 100000 in
theorem U32.take {xs : List Nat} (h : U32 xs) (k : Nat) : U32 (xs.take k) := fun y hy => h y (List.mem_of_mem_take hy)
set_option maxRecDepth 100000 in
theorem U32.drop {xs : List Nat} (h : U32 xs) (k : Nat) : U32 (xs.drop k) := fun y hy => h y (List.mem_of_mem_drop hy)
set_option maxRecDepth 100000 in
theorem U32.at {xs : List Nat} (h : U32 xs) (k : Nat) (hk : k < xs.length) : xs[k] < 4294967296 := h _ (List.getElem_mem hk)
set_option maxRecDepth 100000 in
theorem U32.set {xs : List Nat} (h : U32 xs) (k : Nat) {v : Nat} (hv : v < 4294967296) : U32 (xs.set k v) := by
  intro y hy
  rcases List.mem_or_eq_of_mem_set hy with hy | rfl
  · exact h y hy
  · exact hv
set_option maxRecDepth 100000 in
theorem U32.replicate (n : Nat) : U32 (List.replicate n 0) := by
  intro y hy
  have := List.eq_of_mem_replicate hy
  omega
set_option maxRecDepth 100000 in
theorem U32.one {x : Nat} (h : x < 4294967296) : U32 [x] := U32.cons h U32.nil

set_option maxRecDepth 100000 in
theorem nv_append (xs ys : List Nat) : nv (xs ++ ys) = nv xs + pw xs.length * nv ys := by
  induction xs with
  | nil => simp [nv_nil, pw_zero]
  | cons x xs ih => simp only [List.cons_append, nv_cons, ih, List.length_cons, pw_succ]; grind
set_option maxRecDepth 100000 in
theorem nv_replicate (n : Nat) : nv (List.replicate n 0) = 0 := by
  induction n with
  | zero => rfl
  | succ n ih => simp [List.replicate_succ, nv_cons, ih]
set_option maxRecDepth 100000 in
theorem nv_lt {xs : List Nat} (h : U32 xs) : nv xs < pw xs.length := by
  induction xs with
  | nil => simp [nv_nil, pw_zero]
  | cons x xs ih =>
    have h1 := ih h.tail
    have h2 := h.head
    simp only [nv_cons, List.length_cons, pw_succ]
    omega
set_option maxRecDepth 100000 in
theorem nv_take_succ (xs : List Nat) (k : Nat) (h : k < xs.length) : nv (xs.take (k + 1)) = nv (xs.take k) + pw k * xs[k] := by
  rw [List.take_succ_eq_append_getElem h, nv_append, List.length_take, Nat.min_eq_left (by omega), nv_cons, nv_nil]
  simp
set_option maxRecDepth 100000 in
theorem nv_split (xs : List Nat) (k : Nat) (h : k ≤ xs.length) : nv xs = nv (xs.take k) + pw k * nv (xs.drop k) := by
  have h1 := nv_append (xs.take k) (xs.drop k)
  rw [List.take_append_drop, List.length_take, Nat.min_eq_left h] at h1
  exact h1
set_option maxRecDepth 100000 in
theorem nv_at (xs : List Nat) (k : Nat) (h : k < xs.length) : nv xs = nv (xs.take k) + pw k * xs[k] + pw (k + 1) * nv (xs.drop (k + 1)) := by
  rw [nv_split xs (k + 1) (by omega), nv_take_succ xs k h]
set_option maxRecDepth 100000 in
theorem nv_set (xs : List Nat) (k : Nat) (v : Nat) (h : k < xs.length) : nv (xs.set k v) + pw k * xs[k] = nv xs + pw k * v := by
  rw [nv_at (xs.set k v) k (by simpa using h), nv_at xs k h]
  have e1 : (xs.set k v).take k = xs.take k := by rw [List.take_set_of_le (Nat.le_refl _)]
  have e2 : (xs.set k v).drop (k + 1) = xs.drop (k + 1) := by rw [List.drop_set_of_lt (by omega)]
  rw [e1, e2]
  simp
  omega

/-- the limbs of a number -/
def lim (n : Nat) : List Nat := if h : n = 0 then [] else n % 4294967296 :: lim (n / 4294967296)
  termination_by n
  decreasing_by omega
set_option maxRecDepth 100000 in
theorem lim_zero : lim 0 = [] := by rw [lim]; simp
set_option maxRecDepth 100000 in
theorem lim_pos {n : Nat} (h : n ≠ 0) : lim n = n % 4294967296 :: lim (n / 4294967296) := by rw [lim]; simp [h]
set_option maxRecDepth 100000 in
theorem nv_lim (n : Nat) : nv (lim n) = n := by
  induction n using Nat.strongRecOn with
  | ind n ih =>
    by_cases h : n = 0
    · subst h; rw [lim_zero]; rfl
    · rw [lim_pos h, nv_cons, ih _ (by omega)]; omega
set_option maxRecDepth 100000 in
theorem lim_u32 (n : Nat) : U32 (lim n) := by
  induction n using Nat.strongRecOn with
  | ind n ih =>
    by_cases h : n = 0
    · subst h; rw [lim_zero]; exact U32.nil
    · rw [lim_pos h]; exact U32.cons (by omega) (ih _ (by omega))
set_option maxRecDepth 100000 in
theorem lim_length_le (n k : Nat) : (lim n).length ≤ k ↔ n < pw k := by
  induction k generalizing n with
  | zero =>
    by_cases h : n = 0
    · subst h; rw [lim_zero]; simp [pw_zero]
    · rw [lim_pos h]; simp [pw_zero, h]
  | succ k ih =>
    by_cases h : n = 0
    · subst h; rw [lim_zero]; simp [pw_pos]
    · rw [lim_pos h, List.length_cons, pw_succ]
      have := ih (n / 4294967296)
      have h2 : n / 4294967296 < pw k ↔ n < 4294967296 * pw k := by
        rw [Nat.div_lt_iff_lt_mul (by omega), Nat.mul_comm]
      omega
set_option maxRecDepth 100000 in
theorem lim_length_lt (n k : Nat) : k < (lim n).length ↔ pw k ≤ n := by
  have := lim_length_le n k
  omega
set_option maxRecDepth 100000 in
theorem lim_length_mono {m n : Nat} (h : m ≤ n) : (lim m).length ≤ (lim n).length :=
  (lim_length_le m _).2 (Nat.lt_of_le_of_lt h ((lim_length_le n _).1 (Nat.le_refl _)))
set_option maxRecDepth 100000 in
theorem lim_eq_nil {n : Nat} : lim n = [] ↔ n = 0 := by
  constructor
  · intro h
    have := nv_lim n
    rw [h] at this
    exact this.symm
  · rintro rfl; exact lim_zero
set_option maxRecDepth 100000 in
theorem lim_length_pos {n : Nat} : 0 < (lim n).length ↔ n ≠ 0 := by
  rw [List.length_pos_iff]
  exact not_congr lim_eq_nil
set_option maxRecDepth 100000 in
theorem nv_inj {xs ys : List Nat} (hx : U32 xs) (hy : U32 ys) (hl : xs.length = ys.length) (h : nv xs = nv ys) : xs = ys := by
  induction xs generalizing ys with
  | nil => cases ys with
    | nil => rfl
    | cons y ys => simp at hl
  | cons x xs ih => cases ys with
    | nil => simp at hl
    | cons y ys =>
      simp only [nv_cons] at h
      have h1 := hx.head
      have h2 := hy.head
      have e1 : x = y := by omega
      have e2 : nv xs = nv ys := by omega
      rw [e1, ih hx.tail hy.tail (by simpa using hl) e2]
set_option maxRecDepth 100000 in
/-- limbs without a zero at the end are the limbs of their value -/
theorem lim_of {xs : List Nat} (hx : U32 xs) (h : ∀ k (hk : k + 1 = xs.length), xs[k] ≠ 0) : lim (nv xs) = xs := by
  have hl : (lim (nv xs)).length = xs.length := by
    apply Nat.le_antisymm
    · rw [lim_length_le]; exact nv_lt hx
    · rcases Nat.eq_zero_or_pos xs.length with h0 | h0
      · omega
      · obtain ⟨k, hk⟩ : ∃ k, k + 1 = xs.length := ⟨xs.length - 1, by omega⟩
        have h1 : k < (lim (nv xs)).length := by
          rw [lim_length_lt, nv_at xs k (by omega)]
          have h2 := h k hk
          have h3 : pw k * 1 ≤ pw k * xs[k] := Nat.mul_le_mul_left _ (by omega)
          omega
        omega
  exact nv_inj (lim_u32 _) hx hl (nv_lim _)
set_option maxRecDepth 100000 in
theorem lim_last (n : Nat) (k : Nat) (hk : k + 1 = (lim n).length) : (lim n)[k] ≠ 0 := by
  intro h0
  have h1 := nv_at (lim n) k (by omega)
  rw [nv_lim, h0, List.drop_eq_nil_of_le (by omega), nv_nil] at h1
  have h2 := nv_lt ((lim_u32 n).take k)
  rw [List.length_take, Nat.min_eq_left (by omega)] at h2
  have h3 : k < (lim n).length := by omega
  rw [lim_length_lt] at h3
  omega

/-- how many of the first n limbs are left without the zeros at their end -/
def tl (xs : List Nat) : Nat → Nat
  | 0 => 0
  | n + 1 => if xs.getD n 0 = 0 then tl xs n else n + 1
set_option maxRecDepth 100000 in
theorem tl_le (xs : List Nat) (n : Nat) : tl xs n ≤ n := by
  induction n with
  | zero => simp [tl]
  | succ n ih => simp only [tl]; split <;> omega
set_option maxRecDepth 100000 in
theorem take_tl {xs : List Nat} (hx : U32 xs) (n : Nat) (hn : n ≤ xs.length) : xs.take (tl xs n) = lim (nv (xs.take n)) := by
  induction n with
  | zero => simp [tl, nv_nil, lim_zero]
  | succ n ih =>
    have hn' : n < xs.length := by omega
    simp only [tl]
    split
    · rename_i h
      rw [List.getD_eq_getElem?_getD, List.getElem?_eq_getElem hn', Option.getD_some] at h
      rw [ih (by omega), nv_take_succ xs n hn', h]
      simp
    · rename_i h
      rw [List.getD_eq_getElem?_getD, List.getElem?_eq_getElem hn', Option.getD_some] at h
      refine (lim_of (hx.take _) fun k hk => ?_).symm
      rw [List.length_take, Nat.min_eq_left (by omega)] at hk
      have : k = n := by omega
      subst this
      simpa using h
set_option maxRecDepth 100000 in
theorem tl_all {xs : List Nat} (hx : U32 xs) : xs.take (tl xs xs.length) = lim (nv xs) := by
  have := take_tl hx xs.length (Nat.le_refl _)
  rwa [List.take_length] at this
set_option maxRecDepth 100000 in
theorem tl_length {xs : List Nat} (hx : U32 xs) : tl xs xs.length = (lim (nv xs)).length := by
  rw [← tl_all hx, List.length_take, Nat.min_eq_left (tl_le _ _)]
set_option maxRecDepth 100000 in
theorem lim_take {xs : List Nat} (hx : U32 xs) : xs.take (lim (nv xs)).length = lim (nv xs) := by
  rw [← tl_length hx]; exact tl_all hx
set_option maxRecDepth 100000 in
theorem lim_length_le_length {xs : List Nat} (hx : U32 xs) : (lim (nv xs)).length ≤ xs.length := by
  rw [← tl_length hx]; exact tl_le _ _
set_option maxRecDepth 100000 in
theorem lim_at {xs : List Nat} (hx : U32 xs) (k : Nat) (hk : k < (lim (nv xs)).length) : (lim (nv xs))[k] = xs[k]'(by have := lim_length_le_length hx; omega) := by
  have h := lim_take hx
  have e : (lim (nv xs))[k]? = (xs.take (lim (nv xs)).length)[k]? := by rw [h]
  rw [List.getElem?_take, if_pos hk, List.getElem?_eq_getElem hk, List.getElem?_eq_getElem (by have := lim_length_le_length hx; omega)] at e
  simpa using e

/-- three-way comparison -/
def cmp3 (m n : Nat) : Int := if m < n then -1 else if n < m then 1 else 0
set_option maxRecDepth 100000 in
theorem nv_lt_at {xs ys : List Nat} (hx : U32 xs) (hl : xs.length = ys.length) (k : Nat) (hk : k < xs.length) (h : xs[k] < ys[k]'(by omega))
    (hs : ∀ j (hj : j < xs.length), k < j → xs[j] = ys[j]'(by omega)) : nv xs < nv ys := by
  have hk' : k < ys.length := by omega
  rw [nv_at xs k hk, nv_at ys k hk']
  have e : xs.drop (k + 1) = ys.drop (k + 1) := by
    apply List.ext_getElem
    · simp [hl]
    · intro i h1 h2
      simp only [List.getElem_drop]
      exact hs _ (by simp at h1; omega) (by omega)
  rw [e]
  have h1 := nv_lt (hx.take k)
  rw [List.length_take, Nat.min_eq_left (by omega)] at h1
  have h2 : pw k * (xs[k] + 1) ≤ pw k * ys[k] := Nat.mul_le_mul_left _ h
  rw [Nat.mul_add] at h2
  omega
end Go.Proofs.Ytlcolmifmhdboaa
