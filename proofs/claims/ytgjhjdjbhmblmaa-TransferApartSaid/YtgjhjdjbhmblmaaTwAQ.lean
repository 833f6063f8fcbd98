/- Transfers on other links do not delay a transfer. No program in sight. -/
import Derived.Test.YtgjhjdjbhmblmaaTwCP
import Derived.Test.YtgjhjdjbhmblmaaTwAP
namespace Go.Proofs.Ytgjhjdjbhmblmaa

/-- transfers moved to other links -/
def shT (k : Int) (l : List Tr) : List Tr := l.map fun t => (t.1.map (k + ·), t.2.1, t.2.2)
theorem shT_len (k : Int) (l : List Tr) : (shT k l).length = l.length := by simp [shT]
theorem shT_get {k : Int} {l : List Tr} {i : Nat} (h : i < l.length) : (shT k l)[i]'(by rw [shT_len]; exact h) = (l[i].1.map (k + ·), l[i].2.1, l[i].2.2) := by simp [shT]
theorem ext_getD {xs ys : List Int} (hl : xs.length = ys.length) (h : ∀ j, j < xs.length → xs.getD j 0 = ys.getD j 0) : xs = ys := by
  apply List.ext_getElem hl
  intro j h1 h2
  have := h j h1
  rwa [getD_lt _ _ _ h1, getD_lt _ _ _ h2] at this
theorem limT_left {k : Int} {l m : List Tr} {o p : List Int} {t : Int} (ho : o.length = l.length) (i : Nat) (hi : i < l.length) : limT (l ++ shT k m) (o ++ p) t i = limT l o t i := by
  rw [limT, limT, getD_app _ _ _ _ hi, getD_app _ _ _ _ (by omega)]
theorem limT_right {k : Int} {l m : List Tr} {o p : List Int} {t : Int} (ho : o.length = l.length) (i : Nat) (hi : i < m.length) : limT (l ++ shT k m) (o ++ p) t (l.length + i) = limT m p t i := by
  have e : (o ++ p).getD (l.length + i) 0 = p.getD i 0 := by rw [← ho]; exact getD_app2 _ _ _ _
  rw [limT, limT, e, getD_app2, getD_lt _ _ _ (by rw [shT_len]; exact hi), shT_get hi, getD_lt _ _ _ hi]
theorem flT_both {k : Int} {l m : List Tr} {o p : List Int} {t : Int} (ho : o.length = l.length) : flT (l ++ shT k m) (limT (l ++ shT k m) (o ++ p) t) = flT l (limT l o t) ++ shF k (flT m (limT m p t)) := by
  have hlen : (l ++ shT k m).length = l.length + m.length := by rw [List.length_append, shT_len]
  apply List.ext_getElem
  · simp only [flT_len, List.length_append, shF_len, shT_len]
  · intro i h1 h2
    rw [flT_len, hlen] at h1
    rw [flT_get (by rw [hlen]; exact h1)]
    rcases Nat.lt_or_ge i l.length with hi | hi
    · rw [List.getElem_append_left hi, limT_left ho i hi, List.getElem_append_left (by rw [flT_len]; exact hi), flT_get hi]
    · obtain ⟨j, rfl⟩ : ∃ j, i = l.length + j := ⟨i - l.length, by omega⟩
      have hj : j < m.length := by omega
      rw [List.getElem_append_right (show l.length ≤ l.length + j by omega), limT_right ho j hj, List.getElem_append_right (by rw [flT_len]; omega)]
      have e1 : l.length + j - (flT l (limT l o t)).length = j := by rw [flT_len]; omega
      have e2 : l.length + j - l.length = j := by omega
      simp only [e1, e2]
      rw [shT_get hj]
      simp only [shF, List.getElem_map]
      rw [flT_get hj]
theorem apart_of {caps : List Int} {l m : List Tr} (hl : validTr caps l) (hm : validTr caps m) (f g : Nat → Int) : Apart (caps.length : Int) (flT l f) (flT m g) (cpF (caps ++ caps)) (cpF caps) (cpF caps) := by
  refine ⟨fun i hi e he => ?_, fun i hi e he => ?_⟩
  · rw [flT_len] at hi
    rw [flT_lk hi] at he
    have h1 := (hl.links (List.getElem_mem hi)).mem he
    refine ⟨by omega, ?_⟩
    show (caps ++ caps).getD e.toNat 0 = caps.getD e.toNat 0
    exact getD_app _ _ _ _ (by omega)
  · rw [flT_len] at hi
    rw [flT_lk hi] at he
    have h1 := (hm.links (List.getElem_mem hi)).mem he
    refine ⟨by omega, ?_⟩
    show (caps ++ caps).getD ((caps.length : Int) + e).toNat 0 = caps.getD e.toNat 0
    rw [show ((caps.length : Int) + e).toNat = caps.length + e.toNat by omega]
    exact getD_app2 _ _ _ _
theorem sent_both {caps : List Int} {l m : List Tr} (hl : validTr caps l) (hm : validTr caps m) {o p : List Int} (ho : o.length = l.length) (t : Int) : sentM (caps ++ caps) (l ++ shT caps.length m) (o ++ p) t = sentM caps l o t ++ sentM caps m p t := by
  rw [sentM, flT_both ho, (apart_of hl hm _ _).units]; rfl
theorem tick_len (caps : List Int) (l : List Tr) (s : Sm) (t : Int) : (tickM caps l s t).left.length = s.left.length ∧ (tickM caps l s t).fn.length = s.fn.length := fpart_len _ _ _ _
set_option maxHeartbeats 1600000 in
/-- a run of transfers on links apart is two runs -/
theorem sim_both {caps : List Int} {l m : List Tr} (hl : validTr caps l) (hm : validTr caps m) (n : Nat) :
    (simM (caps ++ caps) (l ++ shT caps.length m) n).left = (simM caps l n).left ++ (simM caps m n).left ∧
    (simM (caps ++ caps) (l ++ shT caps.length m) n).fn = (simM caps l n).fn ++ (simM caps m n).fn ∧
    (simM (caps ++ caps) (l ++ shT caps.length m) n).tk = max (simM caps l n).tk (simM caps m n).tk := by
  have hlen : (l ++ shT (caps.length : Int) m).length = l.length + m.length := by rw [List.length_append, shT_len]
  induction n with
  | zero =>
    refine ⟨?_, ?_, rfl⟩
    · show bytesM _ = bytesM l ++ bytesM m
      simp [bytesM, shT]
    · show List.replicate _ (-1) = List.replicate _ _ ++ List.replicate _ _
      rw [hlen, List.replicate_append_replicate]
  | succ n ih =>
    obtain ⟨i1, i2, i3⟩ := ih
    have L1 := simM_len caps l n
    have L2 := simM_len caps m n
    have L0 := simM_len (caps ++ caps) (l ++ shT caps.length m) n
    have M1 := simM_len caps l (n + 1)
    have M2 := simM_len caps m (n + 1)
    have M0 := simM_len (caps ++ caps) (l ++ shT caps.length m) (n + 1)
    have I1 := SInv.sim hl n (caps := caps)
    have I2 := SInv.sim hm n (caps := caps)
    have hs := sent_both hl hm L1.1 (p := (simM caps m n).left) (n : Int)
    rw [← i1] at hs
    have hsl := sentM_len caps l (simM caps l n).left (n : Int)
    -- what is sent and left at each place
    have sL : ∀ j, j < l.length → (sentM (caps ++ caps) (l ++ shT caps.length m) (simM (caps ++ caps) (l ++ shT caps.length m) n).left n).getD j 0 = (sentM caps l (simM caps l n).left n).getD j 0 := fun j hj => by rw [hs, getD_app _ _ _ _ (by omega)]
    have sR : ∀ j, (sentM (caps ++ caps) (l ++ shT caps.length m) (simM (caps ++ caps) (l ++ shT caps.length m) n).left n).getD (l.length + j) 0 = (sentM caps m (simM caps m n).left n).getD j 0 := fun j => by rw [hs, ← hsl, getD_app2]
    have lL : ∀ j, j < l.length → (simM (caps ++ caps) (l ++ shT caps.length m) n).left.getD j 0 = (simM caps l n).left.getD j 0 := fun j hj => by rw [i1, getD_app _ _ _ _ (by omega)]
    have lR : ∀ j, (simM (caps ++ caps) (l ++ shT caps.length m) n).left.getD (l.length + j) 0 = (simM caps m n).left.getD j 0 := fun j => by rw [i1, ← L1.1, getD_app2]
    have eL : ∀ j, j < l.length → (endsT (sentM (caps ++ caps) (l ++ shT caps.length m) (simM (caps ++ caps) (l ++ shT caps.length m) n).left n) (simM (caps ++ caps) (l ++ shT caps.length m) n) j ↔ endsT (sentM caps l (simM caps l n).left n) (simM caps l n) j) := fun j hj => by rw [endsT, endsT, sL j hj, lL j hj]
    have eR : ∀ j, (endsT (sentM (caps ++ caps) (l ++ shT caps.length m) (simM (caps ++ caps) (l ++ shT caps.length m) n).left n) (simM (caps ++ caps) (l ++ shT caps.length m) n) (l.length + j) ↔ endsT (sentM caps m (simM caps m n).left n) (simM caps m n) j) := fun j => by rw [endsT, endsT, sR j, lR j]
    refine ⟨?_, ?_, ?_⟩
    · refine ext_getD (by rw [M0.1, hlen, List.length_append, M1.1, M2.1]) (fun j hj => ?_)
      rw [M0.1, hlen] at hj
      rw [simM, tickM, fpart_left _ _ _ _ (by rw [L0.1]; exact Nat.le_refl _), if_pos (by rw [hlen]; exact hj)]
      rcases Nat.lt_or_ge j l.length with h | h
      · rw [sL j h, lL j h, getD_app _ _ _ _ (by omega)]
        exact (tick_left I1 _ j h).symm
      · obtain ⟨q, rfl⟩ : ∃ q, j = l.length + q := ⟨j - l.length, by omega⟩
        rw [sR q, lR q, ← M1.1, getD_app2]
        exact (tick_left I2 _ q (by omega)).symm
    · refine ext_getD (by rw [M0.2, hlen, List.length_append, M1.2, M2.2]) (fun j hj => ?_)
      rw [M0.2, hlen] at hj
      rw [sim_fn n j (by rw [hlen]; exact hj)]
      rcases Nat.lt_or_ge j l.length with h | h
      · rw [getD_app _ _ _ _ (by omega), sim_fn n j h, i2, getD_app _ _ _ _ (by omega)]
        by_cases hc : endsT (sentM caps l (simM caps l n).left n) (simM caps l n) j
        · rw [if_pos hc, if_pos ((eL j h).2 hc)]
        · rw [if_neg hc, if_neg (fun x => hc ((eL j h).1 x))]
      · obtain ⟨q, rfl⟩ : ∃ q, j = l.length + q := ⟨j - l.length, by omega⟩
        have e1 : ((simM caps l (n + 1)).fn ++ (simM caps m (n + 1)).fn).getD (l.length + q) 0 = (simM caps m (n + 1)).fn.getD q 0 := by rw [← M1.2, getD_app2]
        have e2 : ((simM caps l n).fn ++ (simM caps m n).fn).getD (l.length + q) 0 = (simM caps m n).fn.getD q 0 := by rw [← L1.2, getD_app2]
        rw [e1, sim_fn n q (by omega), i2, e2]
        by_cases hc : endsT (sentM caps m (simM caps m n).left n) (simM caps m n) q
        · rw [if_pos hc, if_pos ((eR q).2 hc)]
        · rw [if_neg hc, if_neg (fun x => hc ((eR q).1 x))]
    · have t1 := tick_tk (caps := caps) I1 n
      have t2 := tick_tk (caps := caps) I2 n
      obtain ⟨T1, a1, b1, _⟩ := tk_inv hl n (caps := caps)
      obtain ⟨T2, a2, b2, _⟩ := tk_inv hm n (caps := caps)
      have e1 : (simM caps l (n + 1)).tk = _ := t1
      have e2 : (simM caps m (n + 1)).tk = _ := t2
      rw [e1, e2, simM, tickM, fpart_tk _ _ _ _ (by rw [L0.1]; exact Nat.le_refl _)]
      by_cases c1 : ∃ j, j < l.length ∧ endsT (sentM caps l (simM caps l n).left n) (simM caps l n) j
      · obtain ⟨j, hj, hc⟩ := c1
        rw [if_pos ⟨j, by rw [hlen]; omega, (eL j hj).2 hc⟩, if_pos ⟨j, hj, hc⟩]
        split <;> omega
      · by_cases c2 : ∃ j, j < m.length ∧ endsT (sentM caps m (simM caps m n).left n) (simM caps m n) j
        · obtain ⟨j, hj, hc⟩ := c2
          rw [if_pos ⟨l.length + j, by rw [hlen]; omega, (eR j).2 hc⟩, if_neg c1, if_pos ⟨j, hj, hc⟩]
          omega
        · rw [if_neg c1, if_neg c2, if_neg, i3]
          rintro ⟨j, hj, hc⟩
          rw [hlen] at hj
          rcases Nat.lt_or_ge j l.length with h | h
          · exact c1 ⟨j, h, (eL j h).1 hc⟩
          · obtain ⟨q, rfl⟩ : ∃ q, j = l.length + q := ⟨j - l.length, by omega⟩
            exact c2 ⟨q, by omega, (eR q).1 hc⟩
end Go.Proofs.Ytgjhjdjbhmblmaa
