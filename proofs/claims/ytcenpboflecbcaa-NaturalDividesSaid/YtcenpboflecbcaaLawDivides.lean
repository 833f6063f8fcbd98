/- NaturalDivides, the walk: a is the quotient times b plus the remainder, which is less than b. -/
import Derived.Test.YtcenpboflecbcaaLawA
import Derived.Test.YtcenpboflecbcaaNatK
namespace Go.Proofs.Ytcenpboflecbcaa
open Go.RowKit

theorem divides_long (w : World) (A B : Option Addr) (a b : Nat) (xs ys : List Nat) (hA : Nt w A a xs) (hB : Nt w B b ys) (h : 60 < xs.length ∨ 60 < ys.length) :
    Calls Try.prog 7 #[.slice A xs.length a, .slice B ys.length b] w fun e w' => e = .returned (.bool true) ∧ Below w.heap.size w w' := by
  go_enter Try.func7, Try.ntmps7
  go_wp2_with fail
  have hAl := hA.len
  have hBl := hB.len
  have hrd : Rd slv (w.alloc (.cells #[.slice A xs.length a, .slice B ys.length b] 25)) (some ⟨w.heap.size, 0, none⟩) [(A, xs.length, a), (B, ys.length, b)] := (Gr.lit (mk := slv) (e := 25) (B := w.heap.size) w [(A, xs.length, a), (B, ys.length, b)] _ rfl (by simp [maxLen]) (Nat.le_refl _)).rd
  have b1 : Below w.heap.size w (w.alloc (.cells #[.slice A xs.length a, .slice B ys.length b] 25)) := (Below.refl w.heap.size w).alloc (Nat.le_refl _) _
  revert hrd b1
  generalize (w.alloc (.cells #[.slice A xs.length a, .slice B ys.length b] 25)) = w1
  intro hrd b1
  refine (long_any w1 _ _ _ _ true hrd rfl (by simp) (by intro v hv; simp only [List.mem_cons, List.not_mem_nil, or_false] at hv; rcases hv with rfl | rfl <;> simp <;> omega) (by simp <;> omega)).mono ?_
  rintro e w' ⟨rfl, rfl⟩
  clear hrd
  go_wp2_with fail
  have bw := b1
  refine (awake_any _).mono ?_
  rintro e wn ⟨rfl, bb⟩
  replace bw := below_on bw bb bw.size
  go_wp2_with fail
  go_ret
  exact ⟨rfl, bw⟩

theorem mulS_le {m n k : Nat} (hm : (lim m).length ≤ 512) (hn : (lim n).length ≤ 512) (hk : m * n ≤ k) (h : (lim k).length ≤ 512) : mulS m n = (lim (m * n), 0) := by
  have := lim_length_mono hk
  rw [mulS_ok (by omega) (by omega), sizS, if_neg (by omega)]
theorem addS_le {m n k : Nat} (hk : m + n ≤ k) (h : (lim k).length ≤ 512) : addS m n = (lim (m + n), 0) := by
  have := lim_length_mono hk
  have := lim_length_mono (show m ≤ k by omega)
  have := lim_length_mono (show n ≤ k by omega)
  rw [addS_ok (by omega) (by omega), sizS, if_neg (by omega)]

theorem divides_zero (w : World) (A B : Option Addr) (a b : Nat) (xs ys : List Nat) (hA : Nt w A a xs) (hB : Nt w B b ys) (h1 : xs.length ≤ 60) (h2 : ys.length ≤ 60) (h0 : nv ys = 0) :
    Calls Try.prog 7 #[.slice A xs.length a, .slice B ys.length b] w fun e w' => e = .returned (.bool true) ∧ Below w.heap.size w w' := by
  have la : (lim (nv xs)).length ≤ 60 := Nat.le_trans (lim_length_le_length hA.u) h1
  have lb : (lim (nv ys)).length ≤ 60 := Nat.le_trans (lim_length_le_length hB.u) h2
  have hz : bits2 (nv ys) = 0 := by rw [h0]; rfl
  have H0 := Lib.hid h0
  have hz1 : (((bits2 (nv ys) : Nat) : Int) == 0) = true := by rw [hz]; rfl
  clear h0 hz
  go_enter Try.func7, Try.ntmps7
  go_wp2_with fail
  have hAl := hA.len
  have hBl := hB.len
  have hrd : Rd slv (w.alloc (.cells #[.slice A xs.length a, .slice B ys.length b] 25)) (some ⟨w.heap.size, 0, none⟩) [(A, xs.length, a), (B, ys.length, b)] := (Gr.lit (mk := slv) (e := 25) (B := w.heap.size) w [(A, xs.length, a), (B, ys.length, b)] _ rfl (by simp [maxLen]) (Nat.le_refl _)).rd
  have b1 : Below w.heap.size w (w.alloc (.cells #[.slice A xs.length a, .slice B ys.length b] 25)) := (Below.refl w.heap.size w).alloc (Nat.le_refl _) _
  revert hrd b1
  generalize (w.alloc (.cells #[.slice A xs.length a, .slice B ys.length b] 25)) = w1
  intro hrd b1
  refine (long_any w1 _ _ _ _ false hrd rfl (by simp) (by intro v hv; simp only [List.mem_cons, List.not_mem_nil, or_false] at hv; rcases hv with rfl | rfl <;> simp <;> omega) (by simp <;> omega)).mono ?_
  rintro e w' ⟨rfl, rfl⟩
  clear hrd
  have na := hA.below b1
  have nb := hB.below b1
  have bw := b1
  obtain ⟨Aa, rfl⟩ : ∃ Aa, Aa = A := ⟨_, rfl⟩
  obtain ⟨Ab, rfl⟩ : ∃ Ab, Ab = B := ⟨_, rfl⟩
  obtain ⟨ca, rfl⟩ : ∃ ca, ca = a := ⟨_, rfl⟩
  obtain ⟨cb, rfl⟩ : ∃ cb, cb = b := ⟨_, rfl⟩
  clear hA hB b1
  go_wp2_with fail
  refine (div_any _ Aa Ab ca cb _ _ xs ys [] [] 3 na nb rfl rfl (divS_zero (by omega) (by omega) H0.out)).mono ?_
  rintro e wn ⟨A1, c1, A2, c2, rfl, m1, m2, bb⟩
  try replace na := na.below bb
  try replace nb := nb.below bb
  try replace nc := nc.below bb
  try replace n1 := n1.below bb
  try replace n2 := n2.below bb
  try replace n3 := n3.below bb
  try replace n4 := n4.below bb
  try replace n5 := n5.below bb
  try replace n6 := n6.below bb
  try replace n7 := n7.below bb
  try replace n8 := n8.below bb
  try replace n9 := n9.below bb
  try replace n10 := n10.below bb
  try replace n11 := n11.below bb
  try replace n12 := n12.below bb
  try replace n13 := n13.below bb
  try replace n14 := n14.below bb
  replace bw := below_on bw bb bw.size
  clear bb
  have n1 := m1
  have n2 := m2
  clear m1 m2
  go_wp2_with fail
  refine (bits_any _ Ab cb _ ys nb rfl (by omega)).mono ?_
  rintro e wn ⟨rfl, rfl⟩
  go_wp2_with fail
  refine (awake_any _).mono ?_
  rintro e wn ⟨rfl, bb⟩
  replace bw := below_on bw bb bw.size
  go_wp2_with fail
  go_ret
  exact ⟨rfl, bw⟩

set_option maxHeartbeats 1000000 in
theorem divides_short (w : World) (A B : Option Addr) (a b : Nat) (xs ys : List Nat) (hA : Nt w A a xs) (hB : Nt w B b ys) (h1 : xs.length ≤ 60) (h2 : ys.length ≤ 60) (h0 : nv ys ≠ 0) :
    Calls Try.prog 7 #[.slice A xs.length a, .slice B ys.length b] w fun e w' => e = .returned (.bool true) ∧ Below w.heap.size w w' := by
  have la : (lim (nv xs)).length ≤ 60 := Nat.le_trans (lim_length_le_length hA.u) h1
  have lb : (lim (nv ys)).length ≤ 60 := Nat.le_trans (lim_length_le_length hB.u) h2
  have hz : bits2 (nv ys) ≠ 0 := by unfold bits2; rw [if_neg h0]; omega
  have H0 : Hid (nv ys ≠ 0) := h0
  have hz1 : (((bits2 (nv ys) : Nat) : Int) == 0) = false := beq_eq_false_iff_ne.2 (by omega)
  have lq := lim_length_mono (Nat.div_le_self (nv xs) (nv ys))
  have HD := Lib.hid (Nat.div_add_mod' (nv xs) (nv ys))
  have hlt := Nat.mod_lt (nv xs) (Nat.pos_of_ne_zero h0)
  have HLT := Lib.hid hlt
  clear h0 hz hlt
  go_enter Try.func7, Try.ntmps7
  go_wp2_with fail
  have hAl := hA.len
  have hBl := hB.len
  have hrd : Rd slv (w.alloc (.cells #[.slice A xs.length a, .slice B ys.length b] 25)) (some ⟨w.heap.size, 0, none⟩) [(A, xs.length, a), (B, ys.length, b)] := (Gr.lit (mk := slv) (e := 25) (B := w.heap.size) w [(A, xs.length, a), (B, ys.length, b)] _ rfl (by simp [maxLen]) (Nat.le_refl _)).rd
  have b1 : Below w.heap.size w (w.alloc (.cells #[.slice A xs.length a, .slice B ys.length b] 25)) := (Below.refl w.heap.size w).alloc (Nat.le_refl _) _
  revert hrd b1
  generalize (w.alloc (.cells #[.slice A xs.length a, .slice B ys.length b] 25)) = w1
  intro hrd b1
  refine (long_any w1 _ _ _ _ false hrd rfl (by simp) (by intro v hv; simp only [List.mem_cons, List.not_mem_nil, or_false] at hv; rcases hv with rfl | rfl <;> simp <;> omega) (by simp <;> omega)).mono ?_
  rintro e w' ⟨rfl, rfl⟩
  clear hrd
  have na := hA.below b1
  have nb := hB.below b1
  have bw := b1
  obtain ⟨Aa, rfl⟩ : ∃ Aa, Aa = A := ⟨_, rfl⟩
  obtain ⟨Ab, rfl⟩ : ∃ Ab, Ab = B := ⟨_, rfl⟩
  obtain ⟨ca, rfl⟩ : ∃ ca, ca = a := ⟨_, rfl⟩
  obtain ⟨cb, rfl⟩ : ∃ cb, cb = b := ⟨_, rfl⟩
  clear hA hB b1
  go_wp2_with fail
  refine (div_any _ Aa Ab ca cb _ _ xs ys (lim (nv xs / nv ys)) (lim (nv xs % nv ys)) 0 na nb rfl rfl (divS_ok (by omega) (by omega) H0.out)).mono ?_
  rintro e wn ⟨A1, c1, A2, c2, rfl, m1, m2, bb⟩
  try replace na := na.below bb
  try replace nb := nb.below bb
  try replace nc := nc.below bb
  try replace n1 := n1.below bb
  try replace n2 := n2.below bb
  try replace n3 := n3.below bb
  try replace n4 := n4.below bb
  try replace n5 := n5.below bb
  try replace n6 := n6.below bb
  try replace n7 := n7.below bb
  try replace n8 := n8.below bb
  try replace n9 := n9.below bb
  try replace n10 := n10.below bb
  try replace n11 := n11.below bb
  try replace n12 := n12.below bb
  try replace n13 := n13.below bb
  try replace n14 := n14.below bb
  replace bw := below_on bw bb bw.size
  clear bb
  have n1 := m1
  have n2 := m2
  clear m1 m2
  go_wp2_with fail
  refine (bits_any _ Ab cb _ ys nb rfl (by omega)).mono ?_
  rintro e wn ⟨rfl, rfl⟩
  go_wp2_with fail
  refine (mul_any _ A1 Ab c1 cb _ _ (lim (nv xs / nv ys)) ys (lim (nv xs / nv ys * nv ys)) 0 n1 nb rfl rfl (by rw [nv_lim]; exact mulS_le (by omega) (by omega) (Nat.div_mul_le_self _ _) (by omega))).mono ?_
  rintro e wn ⟨A3, c3, rfl, m3, bb⟩
  try replace na := na.below bb
  try replace nb := nb.below bb
  try replace nc := nc.below bb
  try replace n1 := n1.below bb
  try replace n2 := n2.below bb
  try replace n3 := n3.below bb
  try replace n4 := n4.below bb
  try replace n5 := n5.below bb
  try replace n6 := n6.below bb
  try replace n7 := n7.below bb
  try replace n8 := n8.below bb
  try replace n9 := n9.below bb
  try replace n10 := n10.below bb
  try replace n11 := n11.below bb
  try replace n12 := n12.below bb
  try replace n13 := n13.below bb
  try replace n14 := n14.below bb
  replace bw := below_on bw bb bw.size
  clear bb
  have n3 := m3
  clear m3
  go_wp2_with fail
  refine (add_any _ A3 A2 c3 c2 _ _ (lim (nv xs / nv ys * nv ys)) (lim (nv xs % nv ys)) (lim (nv xs)) 0 n3 n2 rfl rfl (by rw [nv_lim, nv_lim, addS_le (Nat.le_of_eq HD.out) (by omega), HD.out])).mono ?_
  rintro e wn ⟨A4, c4, rfl, m4, bb⟩
  try replace na := na.below bb
  try replace nb := nb.below bb
  try replace nc := nc.below bb
  try replace n1 := n1.below bb
  try replace n2 := n2.below bb
  try replace n3 := n3.below bb
  try replace n4 := n4.below bb
  try replace n5 := n5.below bb
  try replace n6 := n6.below bb
  try replace n7 := n7.below bb
  try replace n8 := n8.below bb
  try replace n9 := n9.below bb
  try replace n10 := n10.below bb
  try replace n11 := n11.below bb
  try replace n12 := n12.below bb
  try replace n13 := n13.below bb
  try replace n14 := n14.below bb
  replace bw := below_on bw bb bw.size
  clear bb
  have n4 := m4
  clear m4
  go_wp2_with fail
  refine (cmp_any _ A4 Aa c4 ca _ _ (lim (nv xs)) xs 0 n4 na rfl rfl (by rw [nv_lim]; exact cmp3_eq rfl)).mono ?_
  rintro e wn ⟨rfl, qq⟩
  have bb := qq.keep
  clear qq
  try replace na := na.below bb
  try replace nb := nb.below bb
  try replace nc := nc.below bb
  try replace n1 := n1.below bb
  try replace n2 := n2.below bb
  try replace n3 := n3.below bb
  try replace n4 := n4.below bb
  try replace n5 := n5.below bb
  try replace n6 := n6.below bb
  try replace n7 := n7.below bb
  try replace n8 := n8.below bb
  try replace n9 := n9.below bb
  try replace n10 := n10.below bb
  try replace n11 := n11.below bb
  try replace n12 := n12.below bb
  try replace n13 := n13.below bb
  try replace n14 := n14.below bb
  replace bw := below_on bw bb bw.size
  clear bb
  go_wp2_with fail
  refine (cmp_any _ A2 Ab c2 cb _ _ (lim (nv xs % nv ys)) ys (-1) n2 nb rfl rfl (by rw [nv_lim]; exact cmp3_lt HLT.out)).mono ?_
  rintro e wn ⟨rfl, qq⟩
  have bb := qq.keep
  clear qq
  try replace na := na.below bb
  try replace nb := nb.below bb
  try replace nc := nc.below bb
  try replace n1 := n1.below bb
  try replace n2 := n2.below bb
  try replace n3 := n3.below bb
  try replace n4 := n4.below bb
  try replace n5 := n5.below bb
  try replace n6 := n6.below bb
  try replace n7 := n7.below bb
  try replace n8 := n8.below bb
  try replace n9 := n9.below bb
  try replace n10 := n10.below bb
  try replace n11 := n11.below bb
  try replace n12 := n12.below bb
  try replace n13 := n13.below bb
  try replace n14 := n14.below bb
  replace bw := below_on bw bb bw.size
  clear bb
  go_wp2_with fail
  refine (awake_any _).mono ?_
  rintro e wn ⟨rfl, bb⟩
  replace bw := below_on bw bb bw.size
  go_wp2_with fail
  go_ret
  exact ⟨rfl, bw⟩

theorem divides_walk (w : World) (A : Option Addr) (a : Nat) (xs : List Nat) (B : Option Addr) (b : Nat) (ys : List Nat) (hA : Nt w A a xs) (hB : Nt w B b ys) :
    Calls Try.prog 7 #[.slice A xs.length a, .slice B ys.length b] w fun e w' => e = .returned (.bool true) ∧ Below w.heap.size w w' := by
  by_cases h : 60 < xs.length ∨ 60 < ys.length
  · exact divides_long w A B a b xs ys hA hB h
  · by_cases h0 : nv ys = 0
    · exact divides_zero w A B a b xs ys hA hB (by omega) (by omega) h0
    · exact divides_short w A B a b xs ys hA hB (by omega) (by omega) h0
end Go.Proofs.Ytcenpboflecbcaa
