/- Long division of limbs: the state of the rounds. No program in sight. -/
import Derived.Test.YtodopppoikdglaaDivT
namespace Go.Proofs.Ytodopppoikdglaa

/-- before the round for digit jj - 1: what is left of the number, and the digits so far -/
structure DivInv (U0 : Nat) (V : List Nat) (n m jj : Nat) (U Qs : List Nat) : Prop where
  len : U.length = m
  u : U32 U
  ql : Qs.length + jj + n = m
  qu : U32 Qs
  eq : U0 = nv V * (pw jj * nv Qs) + nv U
  lt : nv (U.drop jj) < nv V
def seg (U : List Nat) (j n : Nat) : List Nat := (U.drop j).take (n + 1)
theorem seg_split (U : List Nat) (j n : Nat) : U = U.take j ++ seg U j n ++ U.drop (j + n + 1) := by
  unfold seg
  rw [List.append_assoc, show U.drop (j + n + 1) = (U.drop j).drop (n + 1) from by rw [List.drop_drop]; rfl, List.take_append_drop, List.take_append_drop]
theorem seg_len {U : List Nat} {j n : Nat} (h : j + n + 1 ≤ U.length) : (seg U j n).length = n + 1 := by simp [seg]; omega
theorem seg_at {U : List Nat} {j n i : Nat} (h : j + n + 1 ≤ U.length) (hi : i ≤ n) : (seg U j n)[i]'(by rw [seg_len h]; omega) = U[j + i]'(by omega) := by simp [seg]
theorem seg_u {U : List Nat} (h : U32 U) (j n : Nat) : U32 (seg U j n) := (h.drop j).take _
section
variable {U0 n m j : Nat} {U V Qs : List Nat}
theorem DivInv.room (h : DivInv U0 V n m (j + 1) U Qs) : j + n + 1 ≤ U.length := by have := h.ql; have := h.len; omega
theorem DivInv.rest0 (h : DivInv U0 V n m (j + 1) U Qs) (hV : U32 V) (hn : V.length = n) : nv (U.drop (j + n + 1)) = 0 := by
  have h1 := h.lt
  have hr := h.room
  rw [nv_split (U.drop (j + 1)) n (by simp; omega), List.drop_drop] at h1
  have h2 := nv_lt hV
  rw [hn] at h2
  rw [show j + n + 1 = j + 1 + n from by omega]
  rcases Nat.eq_zero_or_pos (nv (U.drop (j + 1 + n))) with h3 | h3
  · exact h3
  · have : pw n * 1 ≤ pw n * nv (U.drop (j + 1 + n)) := Nat.mul_le_mul_left _ h3
    omega
theorem DivInv.segv (h : DivInv U0 V n m (j + 1) U Qs) (hV : U32 V) (hn : V.length = n) : nv (U.drop j) = nv (seg U j n) := by
  have hr := h.room
  have h0 := h.rest0 hV hn
  have e := nv_split (U.drop j) (n + 1) (by simp; omega)
  have e2 : (U.drop j).drop (n + 1) = U.drop (j + n + 1) := by rw [List.drop_drop, Nat.add_assoc]
  rw [e2, h0, Nat.mul_zero, Nat.add_zero] at e
  exact e
theorem DivInv.seg_lt (h : DivInv U0 V n m (j + 1) U Qs) (hV : U32 V) (hn : V.length = n) : nv (seg U j n) < 4294967296 * nv V := by
  have hr := h.room
  have h1 := h.lt
  rw [← h.segv hV hn, List.drop_eq_getElem_cons (by omega), nv_cons]
  have h2 := h.u.at j (by omega)
  omega
theorem DivInv.next (h : DivInv U0 V n m (j + 1) U Qs) (hV : U32 V) (hn : V.length = n) (hV0 : 0 < nv V) {S' : List Nat} (hl : S'.length = n + 1) (hu : U32 S') (hv : nv S' = nv (seg U j n) % nv V) :
    DivInv U0 V n m j (U.take j ++ S' ++ U.drop (j + n + 1)) (nv (seg U j n) / nv V :: Qs) := by
  have hr := h.room
  have h0 := h.rest0 hV hn
  have hlt := h.seg_lt hV hn
  have hq : nv (seg U j n) / nv V < 4294967296 := by rw [Nat.div_lt_iff_lt_mul hV0]; exact hlt
  have hj : (U.take j).length = j := by simp; omega
  refine ⟨by simp [hl]; have := h.len; omega, ((h.u.take j).append hu).append (h.u.drop _), by have := h.ql; simp; omega, U32.cons hq h.qu, ?_, ?_⟩
  · have e := h.eq
    have e1 : nv U = nv (U.take j) + pw j * nv (seg U j n) := by
      rw [nv_split U j (by omega), h.segv hV hn]
    have e2 : nv (U.take j ++ S' ++ U.drop (j + n + 1)) = nv (U.take j) + pw j * nv S' := by
      rw [nv_append, nv_append, h0, hj]; omega
    have e3 := Nat.div_add_mod (nv (seg U j n)) (nv V)
    rw [← hv] at e3
    rw [e2, nv_cons, e, e1, pw_succ, ← e3]
    grind
  · have e : (U.take j ++ S' ++ U.drop (j + n + 1)).drop j = S' ++ U.drop (j + n + 1) := by
      rw [List.append_assoc, List.drop_append_of_le_length (by omega), List.drop_eq_nil_of_le (by omega), List.nil_append]
    rw [e, nv_append, h0, hv]
    have := Nat.mod_lt (nv (seg U j n)) hV0
    omega
/-- the numbers that a round looks at -/
theorem DivInv.look (h : DivInv U0 V n m (j + 1) U Qs) (hV : U32 V) (hn : V.length = n) (h2 : 2 ≤ n) (top next u0 u1 u2 : Nat) (ht : V[n - 1]'(by omega) = top) (hx : V[n - 2]'(by omega) = next)
    (e0 : U[j + n]'(by have := h.room; omega) = u0) (e1 : U[j + n - 1]'(by have := h.room; omega) = u1) (e2 : U[j + n - 2]'(by have := h.room; omega) = u2) :
    (top * 4294967296 + next) * pw (n - 2) ≤ nv V ∧ nv V < (top * 4294967296 + next + 1) * pw (n - 2) ∧ ((u0 * 4294967296 + u1) * 4294967296 + u2) * pw (n - 2) ≤ nv (seg U j n) ∧
      nv (seg U j n) < ((u0 * 4294967296 + u1) * 4294967296 + u2 + 1) * pw (n - 2) ∧ u0 ≤ top := by
  have hr := h.room
  obtain ⟨k, rfl⟩ : ∃ k, n = k + 2 := ⟨n - 2, by omega⟩
  simp only [show k + 2 - 1 = k + 1 from rfl, show k + 2 - 2 = k from rfl] at *
  have hvs := nv_split V k (by omega)
  rw [List.drop_eq_getElem_cons (show k < V.length by omega), List.drop_eq_getElem_cons (show k + 1 < V.length by omega), List.drop_eq_nil_of_le (by omega), nv_cons, nv_cons, nv_nil, hx, ht] at hvs
  have hvl := nv_lt (hV.take k)
  rw [List.length_take, Nat.min_eq_left (by omega)] at hvl
  have hsl : (seg U j (k + 2)).length = k + 3 := seg_len hr
  have hss := nv_split (seg U j (k + 2)) k (by omega)
  have hsu := nv_lt ((seg_u h.u j (k + 2)).take k)
  rw [List.length_take, Nat.min_eq_left (by omega)] at hsu
  rw [List.drop_eq_getElem_cons (show k < (seg U j (k + 2)).length by omega), List.drop_eq_getElem_cons (show k + 1 < (seg U j (k + 2)).length by omega), List.drop_eq_getElem_cons (show k + 1 + 1 < (seg U j (k + 2)).length by omega), List.drop_eq_nil_of_le (by omega),
    nv_cons, nv_cons, nv_cons, nv_nil, seg_at hr (by omega), seg_at hr (by omega), seg_at hr (by omega)] at hss
  have a0 : U[j + (k + 1 + 1)]'(by omega) = u0 := e0
  have a1 : U[j + (k + 1)]'(by omega) = u1 := e1
  have a2 : U[j + k]'(by omega) = u2 := e2
  rw [a0, a1, a2] at hss
  have hlt := h.lt
  refine ⟨?_, ?_, ?_, ?_, ?_⟩
  · rw [hvs]; grind
  · rw [hvs]; grind
  · rw [hss]; grind
  · rw [hss]; grind
  · rcases Nat.lt_or_ge top u0 with h3 | h3
    · exfalso
      have h4 := nv_at (U.drop (j + 1)) (k + 1) (by simp; omega)
      have h5 : (U.drop (j + 1))[k + 1]'(by simp; omega) = u0 := by
        rw [List.getElem_drop]
        have : j + 1 + (k + 1) = j + (k + 2) := by omega
        simp only [this]
        exact e0
      rw [h5] at h4
      have h6 : pw (k + 1) * (top + 1) ≤ pw (k + 1) * u0 := Nat.mul_le_mul_left _ h3
      have h7 := nv_at V (k + 1) (by omega)
      rw [List.drop_eq_nil_of_le (by omega), nv_nil, ht] at h7
      have h8 := nv_lt (hV.take (k + 1))
      rw [List.length_take, Nat.min_eq_left (by omega)] at h8
      rw [Nat.mul_add] at h6
      omega
    · exact h3
end
end Go.Proofs.Ytodopppoikdglaa
