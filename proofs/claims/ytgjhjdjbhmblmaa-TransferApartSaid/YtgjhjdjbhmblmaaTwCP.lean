/- What the steps of a run do. No program in sight. -/
import Derived.Test.YtgjhjdjbhmblmaaTwB
namespace Go.Proofs.Ytgjhjdjbhmblmaa

theorem sim_fn {caps : List Int} {l : List Tr} (k : Nat) (j : Nat) (hj : j < l.length) : (simM caps l (k + 1)).fn.getD j 0 = if endsT (sentM caps l (simM caps l k).left k) (simM caps l k) j then (k : Int) else (simM caps l k).fn.getD j 0 := by
  have h1 := simM_len caps l k
  rw [simM, tickM, fpart_fn _ _ _ _ (by rw [h1.1]; exact Nat.le_refl _) (by rw [h1.1, h1.2])]
  by_cases h : endsT (sentM caps l (simM caps l k).left k) (simM caps l k) j
  · rw [if_pos h, if_pos ⟨hj, h⟩]
  · rw [if_neg h, if_neg (fun q => h q.2)]
theorem fn_lt (caps : List Int) (l : List Tr) (k : Nat) (j : Nat) (hj : j < l.length) : (simM caps l k).fn.getD j 0 < k := by
  induction k with
  | zero => show (List.replicate l.length (-1 : Int)).getD j 0 < _; rw [getD_rep _ _ _ _ hj]; simp
  | succ k ih => rw [sim_fn k j hj]; split <;> omega
theorem left_zero' {caps : List Int} {l : List Tr} (hv : validTr caps l) (j : Nat) (hj : j < l.length) (k m : Nat) (h : (simM caps l k).left.getD j 0 = 0) : (simM caps l (k + m)).left.getD j 0 = 0 := by
  induction m with
  | zero => exact h
  | succ m ih =>
    have hI := SInv.sim hv (k + m) (caps := caps)
    have h2 := ((SInv.sim hv (k + m + 1) (caps := caps)).bd j hj).1
    rw [← Nat.add_assoc]
    have h3 := sentM_bd (hI.ok hv (k + m)) j hj
    have h4 := tick_left (caps := caps) hI ((k + m : Nat) : Int) j hj
    have e1 : simM caps l (k + m + 1) = tickM caps l (simM caps l (k + m)) ((k + m : Nat) : Int) := rfl
    rw [e1] at h2 ⊢
    omega
theorem ends_next {caps : List Int} {l : List Tr} (hv : validTr caps l) (t m : Nat) (j : Nat) (hj : j < l.length) (h : endsT (sentM caps l (simM caps l t).left t) (simM caps l t) j) : ¬ endsT (sentM caps l (simM caps l (t + 1 + m)).left ((t + 1 + m : Nat) : Int)) (simM caps l (t + 1 + m)) j := by
  have hI := SInv.sim hv t (caps := caps)
  have h1 : (simM caps l (t + 1)).left.getD j 0 = 0 := by rw [simM, tick_left hI _ j hj]; exact h.2
  have h2 := left_zero' hv j hj (t + 1) m h1
  have hI2 := SInv.sim hv (t + 1 + m) (caps := caps)
  have h3 := sentM_bd (hI2.ok hv (t + 1 + m)) j hj
  have h4 := limT_le (l := l) (t := ((t + 1 + m : Nat) : Int)) (hI2.bd j hj).1
  intro h5
  have := h5.1
  omega
/-- a transfer ends in the tick that the run tells, and in no other -/
theorem fn_iff {caps : List Int} {l : List Tr} (hv : validTr caps l) (t m : Nat) (j : Nat) (hj : j < l.length) : (simM caps l (t + 1 + m)).fn.getD j 0 = t ↔ endsT (sentM caps l (simM caps l t).left t) (simM caps l t) j := by
  induction m with
  | zero =>
    have h1 := fn_lt caps l t j hj
    rw [Nat.add_zero, sim_fn t j hj]
    by_cases h : endsT (sentM caps l (simM caps l t).left t) (simM caps l t) j
    · rw [if_pos h]; exact ⟨fun _ => h, fun _ => rfl⟩
    · rw [if_neg h]; exact ⟨fun q => by omega, fun q => absurd q h⟩
  | succ m ih =>
    rw [← Nat.add_assoc, sim_fn (t + 1 + m) j hj]
    by_cases h : endsT (sentM caps l (simM caps l (t + 1 + m)).left ((t + 1 + m : Nat) : Int)) (simM caps l (t + 1 + m)) j
    · rw [if_pos h]
      refine ⟨fun q => by omega, fun q => absurd h (ends_next hv t m j hj q)⟩
    · rw [if_neg h]; exact ih
/-- what never ends has no bytes -/
theorem fn_neg {caps : List Int} {l : List Tr} (hv : validTr caps l) (k : Nat) (j : Nat) (hj : j < l.length) : (simM caps l k).fn.getD j 0 < 0 ↔ ((simM caps l k).left.getD j 0 ≠ 0 ∨ l[j].2.1 = 0) := by
  induction k with
  | zero =>
    have h1 := sim_start (caps := caps) hv j hj 0 (by have := (hv.1 _ (List.getElem_mem hj)).2.2.1; omega)
    rw [h1]
    refine ⟨fun _ => by omega, fun _ => ?_⟩
    show (List.replicate l.length (-1 : Int)).getD j 0 < _; rw [getD_rep _ _ _ _ hj]; omega
  | succ k ih =>
    have hI := SInv.sim hv k (caps := caps)
    have h3 := sentM_bd (hI.ok hv k) j hj
    have h4 := limT_le (l := l) (t := (k : Int)) (hI.bd j hj).1
    have h5 := hI.bd j hj
    rw [sim_fn k j hj]
    have e1 : (simM caps l (k + 1)).left.getD j 0 = _ := tick_left (caps := caps) hI k j hj
    rw [e1]
    by_cases h : endsT (sentM caps l (simM caps l k).left k) (simM caps l k) j
    · rw [if_pos h]
      have := h.1; have := h.2
      refine ⟨fun q => by omega, fun q => by omega⟩
    · rw [if_neg h, ih]
      have h6 : ¬ (0 < (sentM caps l (simM caps l k).left k).getD j 0 ∧ (simM caps l k).left.getD j 0 - (sentM caps l (simM caps l k).left k).getD j 0 = 0) := h
      omega
/-- a run from a tick behind all starts on -/
theorem sim_sum' {caps : List Int} {l : List Tr} (hv : validTr caps l) (hns : ∀ x ∈ l, ¬ stuckT caps x) (S : Nat) (hS : ∀ x ∈ l, x.2.2 ≤ S) (m : Nat) : allZ (simM caps l (S + m)) ∨ sumI (simM caps l (S + m)).left ≤ sumI (simM caps l S).left - m := by
  induction m with
  | zero => right; simp
  | succ m ih =>
    rcases ih with ih | ih
    · left
      have := sim_stay hv ih 1
      rw [← Nat.add_assoc, this]; exact ih
    · by_cases hz : allZ (simM caps l (S + m))
      · left
        have := sim_stay hv hz 1
        rw [← Nat.add_assoc, this]; exact hz
      · right
        have hI := SInv.sim hv (S + m) (caps := caps)
        obtain ⟨i, hi, h0⟩ : ∃ i, i < l.length ∧ (simM caps l (S + m)).left.getD i 0 ≠ 0 := by
          false_or_by_contra
          rename_i hn
          exact hz (fun i hi => by
            false_or_by_contra
            rename_i h0
            exact hn ⟨i, by rw [← hI.ll]; exact hi, h0⟩)
        have hst := hS _ (List.getElem_mem hi)
        have := tick_less hI hv hns (S + m) i hi h0 (by omega)
        rw [← Nat.add_assoc, simM]
        omega
/-- the runs of the laws are short -/
theorem made_ticks (cs ts : List Int) (h : checkM (capsM cs) (transM ts (capsM cs).length) = 0) : ∃ T : Nat, (runS (capsM cs) (transM ts (capsM cs).length)).tk = T ∧ T ≤ 500 ∧ runS (capsM cs) (transM ts (capsM cs).length) = simM (capsM cs) (transM ts (capsM cs).length) T ∧ allZ (simM (capsM cs) (transM ts (capsM cs).length) T) := by
  have hlen := transM_len ts (capsM cs).length
  have hmem : ∀ t ∈ transM ts (capsM cs).length, _ := fun t ht => transM_mem ht
  obtain ⟨caps, hcaps⟩ : ∃ caps, capsM cs = caps := ⟨_, rfl⟩
  rw [hcaps] at h hlen hmem ⊢
  obtain ⟨l, hl⟩ : ∃ l, transM ts caps.length = l := ⟨_, rfl⟩
  rw [hl] at h hlen hmem ⊢
  have hc := checkM_zero h
  have hI := SInv.sim hc.1 11 (caps := caps)
  have hmax := sumI_max (xs := (simM caps l 11).left) (m := 23) (fun j hj => by
    have hj' : j < l.length := by rw [← hI.ll]; exact hj
    have h1 := (hI.bd j hj').2
    have h2 := (hmem _ (List.getElem_mem hj')).2.1
    omega)
  rw [hI.ll] at hmax
  have hz : allZ (simM caps l (11 + 138)) := by
    rcases sim_sum' hc.1 hc.2 11 (fun x hx => by have := (hmem x hx).2.2.2.1; omega) 138 with h | h
    · exact h
    · have hI2 := SInv.sim hc.1 (11 + 138) (caps := caps)
      intro j hj
      exact sumI_zero (fun j hj => (hI2.bd j (by rw [← hI2.ll]; exact hj)).1) (by omega) j hj
  have hr : runS caps l = simM caps l (11 + 138) := runS_of h hz
  obtain ⟨T, h1, h2, h3⟩ := tk_inv hc.1 (11 + 138) (caps := caps)
  have hT : allZ (simM caps l T) := fun i hi => by
    rw [(simM_len caps l T).1] at hi
    exact h3 i hi (hz i (by rw [(simM_len caps l _).1]; exact hi))
  exact ⟨T, by rw [hr, h1], by omega, by rw [hr]; exact sim_unique hc.1 hz hT, hT⟩
/-- no link carries more than it may -/
theorem sent_cap' {caps : List Int} {l : List Tr} {left : List Int} {t : Int} (h : stepOk caps l left t) (c : Nat) (hc : c < caps.length) : ld (l.map fun t => (t.1, 0)) (sentM caps l left t) c ≤ caps[c] := by
  by_cases hu : ∃ j, ∃ hj : j < l.length, (c : Int) ∈ l[j].1
  · obtain ⟨j, hj, he⟩ := hu
    have := sent_cap h j hj c he
    have e0 : cpF caps (c : Int) = caps.getD (c : Int).toNat 0 := rfl
    rw [e0, Int.toNat_natCast, getD_lt _ _ _ hc] at this
    exact this
  · rw [ld_none _ _ _ (fun i hi he => by
      have hi' : i < l.length := by simpa using hi
      refine hu ⟨i, hi', ?_⟩
      rw [lkA, List.getD_eq_getElem?_getD, List.getElem?_map, List.getElem?_eq_getElem hi'] at he
      exact he)]
    exact (h.1.2.2.2.1 _ (List.getElem_mem hc)).1
theorem ld_take_succ (l : List Fl) : ∀ (u : List Int) (e : Int) (i : Nat), i < l.length → i < u.length → ld (l.take (i + 1)) u e = ld (l.take i) u e + ((lkA l i).count e : Int) * u.getD i 0 := by
  induction l with
  | nil => intro u e i h; simp at h
  | cons f l ih =>
    intro u e i hi hu
    cases u with
    | nil => simp at hu
    | cons a u =>
      cases i with
      | zero => cases u <;> simp [ld, lkA]
      | succ i =>
        have := ih u e i (by simpa using hi) (by simpa using hu)
        have e1 : lkA (f :: l) (i + 1) = lkA l i := by simp [lkA]
        simp only [List.take_succ_cons, ld, this, e1, List.getD_cons_succ]
        omega
/-- the load of a link behind some transfers, and some links of the next -/
def loadTo (l : List Tr) (u : List Int) (i k : Nat) (e : Int) : Int := ld ((l.map fun t => (t.1, (0 : Int))).take i) u e + ((((l.getD i ([], 0, 0)).1.take k).count e : Nat) : Int) * u.getD i 0
theorem loadTo_zero (l : List Tr) (u : List Int) (e : Int) : loadTo l u 0 0 e = 0 := by simp [loadTo, ld]
theorem loadTo_link {l : List Tr} {u : List Int} {i k : Nat} {e : Int} (hk : k < (l.getD i ([], 0, 0)).1.length) : loadTo l u i (k + 1) e = loadTo l u i k e + if (l.getD i ([], 0, 0)).1[k] = e then u.getD i 0 else 0 := by
  unfold loadTo
  rw [List.take_succ_eq_append_getElem hk, List.count_append, List.count_singleton]
  by_cases h : (l.getD i ([], 0, 0)).1[k] = e
  · rw [if_pos h, if_pos (beq_iff_eq.2 h), Int.natCast_add, Int.add_mul]; simp; omega
  · rw [if_neg h, if_neg (fun q => h (beq_iff_eq.1 q))]; simp
theorem loadTo_next {l : List Tr} {u : List Int} {i : Nat} {e : Int} (hi : i < l.length) (hu : i < u.length) : loadTo l u (i + 1) 0 e = loadTo l u i (l[i].1.length) e := by
  unfold loadTo
  rw [ld_take_succ _ _ _ _ (by simpa using hi) hu, getD_lt l _ _ hi, List.take_length]
  have : lkA (l.map fun t => (t.1, (0 : Int))) i = l[i].1 := by
    rw [lkA, List.getD_eq_getElem?_getD, List.getElem?_map, List.getElem?_eq_getElem hi]; rfl
  rw [this]; simp
theorem loadTo_all (l : List Tr) (u : List Int) (e : Int) : loadTo l u l.length 0 e = ld (l.map fun t => (t.1, (0 : Int))) u e := by
  unfold loadTo
  rw [List.take_of_length_le (by simp)]; simp
end Go.Proofs.Ytgjhjdjbhmblmaa
