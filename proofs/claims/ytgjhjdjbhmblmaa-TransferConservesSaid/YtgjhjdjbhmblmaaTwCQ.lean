/- The loads of the links in a tick, as lists. No program in sight. -/
import Derived.Test.YtgjhjdjbhmblmaaTwCP
namespace Go.Proofs.Ytgjhjdjbhmblmaa

theorem ld_take_mono {l : List Fl} {u : List Int} (e : Int) (hu : ∀ j, 0 ≤ u.getD j 0) (hl : l.length ≤ u.length) (i : Nat) : ∀ m, i + m ≤ l.length → ld (l.take i) u e ≤ ld (l.take (i + m)) u e := by
  intro m
  induction m with
  | zero => intro _; exact Int.le_refl _
  | succ m ih =>
    intro h
    have h1 := ih (by omega)
    rw [← Nat.add_assoc, ld_take_succ l u e (i + m) (by omega) (by omega)]
    have h2 : 0 ≤ ((lkA l (i + m)).count e : Int) * u.getD (i + m) 0 := Int.mul_nonneg (by omega) (hu _)
    omega
theorem loadTo_bd {l : List Tr} {u : List Int} {i k : Nat} (e : Int) (hu : ∀ j, 0 ≤ u.getD j 0) (hl : l.length ≤ u.length) (hi : i < l.length) : 0 ≤ loadTo l u i k e ∧ loadTo l u i k e ≤ ld (l.map fun t => (t.1, (0 : Int))) u e := by
  have hlen : (l.map fun t => (t.1, (0 : Int))).length = l.length := by simp
  constructor
  · unfold loadTo
    have h1 := ld_nonneg ((l.map fun t => (t.1, (0 : Int))).take i) u e (fun j _ => hu j)
    have h2 : 0 ≤ ((((l.getD i ([], 0, 0)).1.take k).count e : Nat) : Int) * u.getD i 0 := Int.mul_nonneg (by omega) (hu _)
    omega
  · have h1 := ld_take_mono (l := l.map fun t => (t.1, (0 : Int))) e hu (by omega) (i + 1) (l.length - (i + 1)) (by omega)
    have e1 : (l.map fun t => (t.1, (0 : Int))).take (i + 1 + (l.length - (i + 1))) = l.map fun t => (t.1, (0 : Int)) := List.take_of_length_le (by omega)
    rw [e1, ld_take_succ _ _ _ _ (by omega) (by omega)] at h1
    have h2 : lkA (l.map fun t => (t.1, (0 : Int))) i = (l.getD i ([], 0, 0)).1 := by
      rw [lkA, List.getD_eq_getElem?_getD, List.getElem?_map, List.getElem?_eq_getElem hi, getD_lt _ _ _ hi]; rfl
    rw [h2] at h1
    unfold loadTo
    have h3 : ((l.getD i ([], 0, 0)).1.take k).count e ≤ (l.getD i ([], 0, 0)).1.count e := List.Sublist.count_le _ (List.take_sublist _ _)
    have h4 : ((((l.getD i ([], 0, 0)).1.take k).count e : Nat) : Int) * u.getD i 0 ≤ (((l.getD i ([], 0, 0)).1.count e : Nat) : Int) * u.getD i 0 := Int.mul_le_mul_of_nonneg_right (by omega) (hu _)
    omega
/-- the loads of n links -/
def loadL (n : Nat) (l : List Tr) (u : List Int) (i k : Nat) : List Int := (List.range n).map fun c => loadTo l u i k (c : Nat)
theorem loadL_len (n : Nat) (l : List Tr) (u : List Int) (i k : Nat) : (loadL n l u i k).length = n := by simp [loadL]
theorem loadL_get {n : Nat} {l : List Tr} {u : List Int} {i k c : Nat} (hc : c < n) : (loadL n l u i k)[c]'(by rw [loadL_len]; exact hc) = loadTo l u i k (c : Nat) := by simp [loadL]
theorem loadL_zero (n : Nat) (l : List Tr) (u : List Int) : loadL n l u 0 0 = List.replicate n 0 := by
  apply List.ext_getElem
  · simp [loadL]
  · intro c h1 h2
    rw [loadL_get (by simpa using h2), loadTo_zero]; simp
theorem loadL_link {n : Nat} {l : List Tr} {u : List Int} {i k t : Nat} (hk : k < (l.getD i ([], 0, 0)).1.length) (ht : (l.getD i ([], 0, 0)).1[k] = (t : Nat)) (hn : t < n) (v : Int) (hv : v = loadTo l u i k (t : Nat) + u.getD i 0) : (loadL n l u i k).set t v = loadL n l u i (k + 1) := by
  apply List.ext_getElem
  · simp [loadL]
  · intro c h1 h2
    rw [loadL_len] at h2
    rw [loadL_get h2, loadTo_link hk, ht, List.getElem_set]
    by_cases e : t = c
    · subst e; rw [if_pos rfl, if_pos rfl, hv]
    · rw [if_neg e, if_neg (by omega), loadL_get h2]; simp
theorem loadL_next {n : Nat} {l : List Tr} {u : List Int} {i : Nat} (hi : i < l.length) (hu : i < u.length) : loadL n l u (i + 1) 0 = loadL n l u i (l[i].1.length) := by
  unfold loadL
  congr 1
  funext c
  exact loadTo_next hi hu
theorem sentM_nn {caps : List Int} {l : List Tr} {left : List Int} {t : Int} (h : stepOk caps l left t) (j : Nat) : 0 ≤ (sentM caps l left t).getD j 0 := by
  rcases Nat.lt_or_ge j l.length with hj | hj
  · exact (sentM_bd h j hj).1
  · rw [getD_ge _ _ _ (by rw [sentM_len]; exact hj)]; exact Int.le_refl _
end Go.Proofs.Ytgjhjdjbhmblmaa
