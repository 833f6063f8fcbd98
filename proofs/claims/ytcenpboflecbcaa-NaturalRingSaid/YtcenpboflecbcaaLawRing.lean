/- NaturalRing, the walk: addition and multiplication are commutative and associative, multiplication distributes over addition, Sub undoes Add. -/
import Derived.Test.YtcenpboflecbcaaLawA
import Derived.Test.YtcenpboflecbcaaNatC
import Derived.Test.YtcenpboflecbcaaNatD
namespace Go.Proofs.Ytcenpboflecbcaa
open Go.RowKit

theorem len_add {m n k : Nat} (hm : (lim m).length ≤ k) (hn : (lim n).length ≤ k) : (lim (m + n)).length ≤ k + 1 := by
  rw [lim_length_le] at *
  rw [pw_succ]; omega
theorem len_mul {m n j k : Nat} (hm : (lim m).length ≤ j) (hn : (lim n).length ≤ k) : (lim (m * n)).length ≤ j + k := by
  rw [lim_length_le] at *
  rw [pw_add]
  exact Nat.mul_lt_mul'' hm hn
theorem addS_val {m n : Nat} (h1 : (lim m).length ≤ 512) (h2 : (lim n).length ≤ 512) (h3 : (lim (m + n)).length ≤ 512) : addS m n = (lim (m + n), 0) := by
  rw [addS_ok (by omega) (by omega), sizS, if_neg (by omega)]
theorem mulS_val {m n : Nat} (h1 : (lim m).length ≤ 512) (h2 : (lim n).length ≤ 512) (h3 : (lim (m * n)).length ≤ 512) : mulS m n = (lim (m * n), 0) := by
  rw [mulS_ok (by omega) (by omega), sizS, if_neg (by omega)]
theorem subS_val {m n : Nat} (h1 : (lim m).length ≤ 512) (h2 : (lim n).length ≤ 512) (h3 : n ≤ m) : subS m n = (lim (m - n), 0) := by
  have := lim_length_mono (show m - n ≤ m by omega)
  rw [subS_ok (by omega) (by omega) h3, sizS, if_neg (by omega)]

theorem ring_long (w : World) (A B C : Option Addr) (a b c : Nat) (xs ys zs : List Nat) (hA : Nt w A a xs) (hB : Nt w B b ys) (hC : Nt w C c zs) (h : 60 < xs.length ∨ 60 < ys.length ∨ 60 < zs.length) :
    Calls Try.prog 6 #[.slice A xs.length a, .slice B ys.length b, .slice C zs.length c] w fun e w' => e = .returned (.bool true) ∧ Below w.heap.size w w' := by
  go_enter Try.func6, Try.ntmps6
  go_wp2_with fail
  have hAl := hA.len
  have hBl := hB.len
  have hCl := hC.len
  have hrd : Rd slv (w.alloc (.cells #[.slice A xs.length a, .slice B ys.length b, .slice C zs.length c] 25)) (some ⟨w.heap.size, 0, none⟩) [(A, xs.length, a), (B, ys.length, b), (C, zs.length, c)] := (Gr.lit (mk := slv) (e := 25) (B := w.heap.size) w [(A, xs.length, a), (B, ys.length, b), (C, zs.length, c)] _ rfl (by simp [maxLen]) (Nat.le_refl _)).rd
  have b1 : Below w.heap.size w (w.alloc (.cells #[.slice A xs.length a, .slice B ys.length b, .slice C zs.length c] 25)) := (Below.refl w.heap.size w).alloc (Nat.le_refl _) _
  revert hrd b1
  generalize (w.alloc (.cells #[.slice A xs.length a, .slice B ys.length b, .slice C zs.length c] 25)) = w1
  intro hrd b1
  refine (long_any w1 _ _ _ _ true hrd rfl (by simp) (by intro v hv; simp only [List.mem_cons, List.not_mem_nil, or_false] at hv; rcases hv with rfl | rfl | rfl <;> simp <;> omega) (by simp <;> omega)).mono ?_
  rintro e w' ⟨rfl, rfl⟩
  clear hrd
  go_wp2_with fail
  have bw := b1
  refine (awake_any _).mono ?_
  rintro e wn ⟨rfl, bb⟩
  replace bw := below_on bw bb bw.size
  go_wp2_with fail
  go_ret
  exact ⟨rfl, bw⟩

set_option maxHeartbeats 3000000 in
theorem ring_short (w : World) (A B C : Option Addr) (a b c : Nat) (xs ys zs : List Nat) (hA : Nt w A a xs) (hB : Nt w B b ys) (hC : Nt w C c zs) (h1 : xs.length ≤ 60) (h2 : ys.length ≤ 60) (h3 : zs.length ≤ 60) :
    Calls Try.prog 6 #[.slice A xs.length a, .slice B ys.length b, .slice C zs.length c] w fun e w' => e = .returned (.bool true) ∧ Below w.heap.size w w' := by
  have la : (lim (nv xs)).length ≤ 60 := Nat.le_trans (lim_length_le_length hA.u) h1
  have lb : (lim (nv ys)).length ≤ 60 := Nat.le_trans (lim_length_le_length hB.u) h2
  have lc : (lim (nv zs)).length ≤ 60 := Nat.le_trans (lim_length_le_length hC.u) h3
  have lab := len_add la lb
  have lba := len_add lb la
  have lbc := len_add lb lc
  have labc : (lim (nv xs + nv ys + nv zs)).length ≤ 62 := len_add (k := 61) lab (show (lim (nv zs)).length ≤ 61 by omega)
  have labc' := len_add (k := 61) (show (lim (nv xs)).length ≤ 61 by omega) lbc
  have mab := len_mul la lb
  have mba := len_mul lb la
  have mbc := len_mul lb lc
  have mac := len_mul la lc
  have mabc := len_mul mab lc
  have mabc' := len_mul la mbc
  have mleft := len_mul la lbc
  have mright := len_add mab mac
  go_enter Try.func6, Try.ntmps6
  go_wp2_with fail
  have hAl := hA.len
  have hBl := hB.len
  have hCl := hC.len
  have hrd : Rd slv (w.alloc (.cells #[.slice A xs.length a, .slice B ys.length b, .slice C zs.length c] 25)) (some ⟨w.heap.size, 0, none⟩) [(A, xs.length, a), (B, ys.length, b), (C, zs.length, c)] := (Gr.lit (mk := slv) (e := 25) (B := w.heap.size) w [(A, xs.length, a), (B, ys.length, b), (C, zs.length, c)] _ rfl (by simp [maxLen]) (Nat.le_refl _)).rd
  have b1 : Below w.heap.size w (w.alloc (.cells #[.slice A xs.length a, .slice B ys.length b, .slice C zs.length c] 25)) := (Below.refl w.heap.size w).alloc (Nat.le_refl _) _
  revert hrd b1
  generalize (w.alloc (.cells #[.slice A xs.length a, .slice B ys.length b, .slice C zs.length c] 25)) = w1
  intro hrd b1
  refine (long_any w1 _ _ _ _ false hrd rfl (by simp) (by intro v hv; simp only [List.mem_cons, List.not_mem_nil, or_false] at hv; rcases hv with rfl | rfl | rfl <;> simp <;> omega) (by simp <;> omega)).mono ?_
  rintro e w' ⟨rfl, rfl⟩
  clear hrd
  have na := hA.below b1
  have nb := hB.below b1
  have nc := hC.below b1
  have bw := b1
  obtain ⟨Aa, rfl⟩ : ∃ Aa, Aa = A := ⟨_, rfl⟩
  obtain ⟨Ab, rfl⟩ : ∃ Ab, Ab = B := ⟨_, rfl⟩
  obtain ⟨Ac, rfl⟩ : ∃ Ac, Ac = C := ⟨_, rfl⟩
  obtain ⟨ca, rfl⟩ : ∃ ca, ca = a := ⟨_, rfl⟩
  obtain ⟨cb, rfl⟩ : ∃ cb, cb = b := ⟨_, rfl⟩
  obtain ⟨cc, rfl⟩ : ∃ cc, cc = c := ⟨_, rfl⟩
  clear hA hB hC b1
  go_wp2_with fail
  refine (add_any _ Aa Ab ca cb _ _ xs ys (lim (nv xs + nv ys)) 0 na nb rfl rfl (addS_val (by omega) (by omega) (by omega))).mono ?_
  rintro e wn ⟨A1, c1, rfl, m1, bb⟩
  try replace na := na.below bb
  try replace nb := nb.below bb
  try replace nc := nc.below bb
  try replace n1 := n1.below bb
  try replace n2 := n2.below bb
  try replace n3 := n3.below bb
  try replace n4 := n4.below bb
  try replace n5 := n5.below bb
  try replace n6 := n6.below bb
  try replace n7 := n7.below bb
  try replace n8 := n8.below bb
  try replace n9 := n9.below bb
  try replace n10 := n10.below bb
  try replace n11 := n11.below bb
  try replace n12 := n12.below bb
  try replace n13 := n13.below bb
  try replace n14 := n14.below bb
  replace bw := below_on bw bb bw.size
  clear bb
  have n1 := m1
  clear m1
  go_wp2_with fail
  refine (add_any _ Ab Aa cb ca _ _ ys xs (lim (nv ys + nv xs)) 0 nb na rfl rfl (addS_val (by omega) (by omega) (by omega))).mono ?_
  rintro e wn ⟨A2, c2, rfl, m2, bb⟩
  try replace na := na.below bb
  try replace nb := nb.below bb
  try replace nc := nc.below bb
  try replace n1 := n1.below bb
  try replace n2 := n2.below bb
  try replace n3 := n3.below bb
  try replace n4 := n4.below bb
  try replace n5 := n5.below bb
  try replace n6 := n6.below bb
  try replace n7 := n7.below bb
  try replace n8 := n8.below bb
  try replace n9 := n9.below bb
  try replace n10 := n10.below bb
  try replace n11 := n11.below bb
  try replace n12 := n12.below bb
  try replace n13 := n13.below bb
  try replace n14 := n14.below bb
  replace bw := below_on bw bb bw.size
  clear bb
  have n2 := m2
  clear m2
  go_wp2_with fail
  refine (add_any _ A1 Ac c1 cc _ _ (lim (nv xs + nv ys)) zs (lim (nv xs + nv ys + nv zs)) 0 n1 nc rfl rfl (by rw [nv_lim]; exact addS_val (by omega) (by omega) (by omega))).mono ?_
  rintro e wn ⟨A3, c3, rfl, m3, bb⟩
  try replace na := na.below bb
  try replace nb := nb.below bb
  try replace nc := nc.below bb
  try replace n1 := n1.below bb
  try replace n2 := n2.below bb
  try replace n3 := n3.below bb
  try replace n4 := n4.below bb
  try replace n5 := n5.below bb
  try replace n6 := n6.below bb
  try replace n7 := n7.below bb
  try replace n8 := n8.below bb
  try replace n9 := n9.below bb
  try replace n10 := n10.below bb
  try replace n11 := n11.below bb
  try replace n12 := n12.below bb
  try replace n13 := n13.below bb
  try replace n14 := n14.below bb
  replace bw := below_on bw bb bw.size
  clear bb
  have n3 := m3
  clear m3
  go_wp2_with fail
  refine (add_any _ Ab Ac cb cc _ _ ys zs (lim (nv ys + nv zs)) 0 nb nc rfl rfl (addS_val (by omega) (by omega) (by omega))).mono ?_
  rintro e wn ⟨A4, c4, rfl, m4, bb⟩
  try replace na := na.below bb
  try replace nb := nb.below bb
  try replace nc := nc.below bb
  try replace n1 := n1.below bb
  try replace n2 := n2.below bb
  try replace n3 := n3.below bb
  try replace n4 := n4.below bb
  try replace n5 := n5.below bb
  try replace n6 := n6.below bb
  try replace n7 := n7.below bb
  try replace n8 := n8.below bb
  try replace n9 := n9.below bb
  try replace n10 := n10.below bb
  try replace n11 := n11.below bb
  try replace n12 := n12.below bb
  try replace n13 := n13.below bb
  try replace n14 := n14.below bb
  replace bw := below_on bw bb bw.size
  clear bb
  have n4 := m4
  clear m4
  go_wp2_with fail
  refine (add_any _ Aa A4 ca c4 _ _ xs (lim (nv ys + nv zs)) (lim (nv xs + (nv ys + nv zs))) 0 na n4 rfl rfl (by rw [nv_lim]; exact addS_val (by omega) (by omega) (by omega))).mono ?_
  rintro e wn ⟨A5, c5, rfl, m5, bb⟩
  try replace na := na.below bb
  try replace nb := nb.below bb
  try replace nc := nc.below bb
  try replace n1 := n1.below bb
  try replace n2 := n2.below bb
  try replace n3 := n3.below bb
  try replace n4 := n4.below bb
  try replace n5 := n5.below bb
  try replace n6 := n6.below bb
  try replace n7 := n7.below bb
  try replace n8 := n8.below bb
  try replace n9 := n9.below bb
  try replace n10 := n10.below bb
  try replace n11 := n11.below bb
  try replace n12 := n12.below bb
  try replace n13 := n13.below bb
  try replace n14 := n14.below bb
  replace bw := below_on bw bb bw.size
  clear bb
  have n5 := m5
  clear m5
  go_wp2_with fail
  refine (sub_any _ A1 Ab c1 cb _ _ (lim (nv xs + nv ys)) ys (lim (nv xs)) 0 n1 nb rfl rfl (by rw [nv_lim]; exact (subS_val (by omega) (by omega) (by omega)).trans (by rw [Nat.add_sub_cancel]))).mono ?_
  rintro e wn ⟨A6, c6, rfl, m6, bb⟩
  try replace na := na.below bb
  try replace nb := nb.below bb
  try replace nc := nc.below bb
  try replace n1 := n1.below bb
  try replace n2 := n2.below bb
  try replace n3 := n3.below bb
  try replace n4 := n4.below bb
  try replace n5 := n5.below bb
  try replace n6 := n6.below bb
  try replace n7 := n7.below bb
  try replace n8 := n8.below bb
  try replace n9 := n9.below bb
  try replace n10 := n10.below bb
  try replace n11 := n11.below bb
  try replace n12 := n12.below bb
  try replace n13 := n13.below bb
  try replace n14 := n14.below bb
  replace bw := below_on bw bb bw.size
  clear bb
  have n6 := m6
  clear m6
  go_wp2_with fail
  refine (same_any _ A1 A2 c1 c2 _ _ (lim (nv xs + nv ys)) (lim (nv ys + nv xs)) true n1 n2 rfl rfl (decide_eq_true (by rw [Nat.add_comm]))).mono ?_
  rintro e wn ⟨rfl, qq⟩
  have bb := qq.keep
  clear qq
  try replace na := na.below bb
  try replace nb := nb.below bb
  try replace nc := nc.below bb
  try replace n1 := n1.below bb
  try replace n2 := n2.below bb
  try replace n3 := n3.below bb
  try replace n4 := n4.below bb
  try replace n5 := n5.below bb
  try replace n6 := n6.below bb
  try replace n7 := n7.below bb
  try replace n8 := n8.below bb
  try replace n9 := n9.below bb
  try replace n10 := n10.below bb
  try replace n11 := n11.below bb
  try replace n12 := n12.below bb
  try replace n13 := n13.below bb
  try replace n14 := n14.below bb
  replace bw := below_on bw bb bw.size
  clear bb
  go_wp2_with fail
  refine (same_any _ A3 A5 c3 c5 _ _ (lim (nv xs + nv ys + nv zs)) (lim (nv xs + (nv ys + nv zs))) true n3 n5 rfl rfl (decide_eq_true (by rw [Nat.add_assoc]))).mono ?_
  rintro e wn ⟨rfl, qq⟩
  have bb := qq.keep
  clear qq
  try replace na := na.below bb
  try replace nb := nb.below bb
  try replace nc := nc.below bb
  try replace n1 := n1.below bb
  try replace n2 := n2.below bb
  try replace n3 := n3.below bb
  try replace n4 := n4.below bb
  try replace n5 := n5.below bb
  try replace n6 := n6.below bb
  try replace n7 := n7.below bb
  try replace n8 := n8.below bb
  try replace n9 := n9.below bb
  try replace n10 := n10.below bb
  try replace n11 := n11.below bb
  try replace n12 := n12.below bb
  try replace n13 := n13.below bb
  try replace n14 := n14.below bb
  replace bw := below_on bw bb bw.size
  clear bb
  go_wp2_with fail
  refine (cmp_any _ A6 Aa c6 ca _ _ (lim (nv xs)) xs 0 n6 na rfl rfl (by rw [nv_lim]; exact cmp3_eq rfl)).mono ?_
  rintro e wn ⟨rfl, qq⟩
  have bb := qq.keep
  clear qq
  try replace na := na.below bb
  try replace nb := nb.below bb
  try replace nc := nc.below bb
  try replace n1 := n1.below bb
  try replace n2 := n2.below bb
  try replace n3 := n3.below bb
  try replace n4 := n4.below bb
  try replace n5 := n5.below bb
  try replace n6 := n6.below bb
  try replace n7 := n7.below bb
  try replace n8 := n8.below bb
  try replace n9 := n9.below bb
  try replace n10 := n10.below bb
  try replace n11 := n11.below bb
  try replace n12 := n12.below bb
  try replace n13 := n13.below bb
  try replace n14 := n14.below bb
  replace bw := below_on bw bb bw.size
  clear bb
  go_wp2_with fail
  refine (mul_any _ Aa Ab ca cb _ _ xs ys (lim (nv xs * nv ys)) 0 na nb rfl rfl (mulS_val (by omega) (by omega) (by omega))).mono ?_
  rintro e wn ⟨A7, c7, rfl, m7, bb⟩
  try replace na := na.below bb
  try replace nb := nb.below bb
  try replace nc := nc.below bb
  try replace n1 := n1.below bb
  try replace n2 := n2.below bb
  try replace n3 := n3.below bb
  try replace n4 := n4.below bb
  try replace n5 := n5.below bb
  try replace n6 := n6.below bb
  try replace n7 := n7.below bb
  try replace n8 := n8.below bb
  try replace n9 := n9.below bb
  try replace n10 := n10.below bb
  try replace n11 := n11.below bb
  try replace n12 := n12.below bb
  try replace n13 := n13.below bb
  try replace n14 := n14.below bb
  replace bw := below_on bw bb bw.size
  clear bb
  have n7 := m7
  clear m7
  go_wp2_with fail
  refine (mul_any _ Ab Aa cb ca _ _ ys xs (lim (nv ys * nv xs)) 0 nb na rfl rfl (mulS_val (by omega) (by omega) (by omega))).mono ?_
  rintro e wn ⟨A8, c8, rfl, m8, bb⟩
  try replace na := na.below bb
  try replace nb := nb.below bb
  try replace nc := nc.below bb
  try replace n1 := n1.below bb
  try replace n2 := n2.below bb
  try replace n3 := n3.below bb
  try replace n4 := n4.below bb
  try replace n5 := n5.below bb
  try replace n6 := n6.below bb
  try replace n7 := n7.below bb
  try replace n8 := n8.below bb
  try replace n9 := n9.below bb
  try replace n10 := n10.below bb
  try replace n11 := n11.below bb
  try replace n12 := n12.below bb
  try replace n13 := n13.below bb
  try replace n14 := n14.below bb
  replace bw := below_on bw bb bw.size
  clear bb
  have n8 := m8
  clear m8
  go_wp2_with fail
  refine (mul_any _ A7 Ac c7 cc _ _ (lim (nv xs * nv ys)) zs (lim (nv xs * nv ys * nv zs)) 0 n7 nc rfl rfl (by rw [nv_lim]; exact mulS_val (by omega) (by omega) (by omega))).mono ?_
  rintro e wn ⟨A9, c9, rfl, m9, bb⟩
  try replace na := na.below bb
  try replace nb := nb.below bb
  try replace nc := nc.below bb
  try replace n1 := n1.below bb
  try replace n2 := n2.below bb
  try replace n3 := n3.below bb
  try replace n4 := n4.below bb
  try replace n5 := n5.below bb
  try replace n6 := n6.below bb
  try replace n7 := n7.below bb
  try replace n8 := n8.below bb
  try replace n9 := n9.below bb
  try replace n10 := n10.below bb
  try replace n11 := n11.below bb
  try replace n12 := n12.below bb
  try replace n13 := n13.below bb
  try replace n14 := n14.below bb
  replace bw := below_on bw bb bw.size
  clear bb
  have n9 := m9
  clear m9
  go_wp2_with fail
  refine (mul_any _ Ab Ac cb cc _ _ ys zs (lim (nv ys * nv zs)) 0 nb nc rfl rfl (mulS_val (by omega) (by omega) (by omega))).mono ?_
  rintro e wn ⟨A10, c10, rfl, m10, bb⟩
  try replace na := na.below bb
  try replace nb := nb.below bb
  try replace nc := nc.below bb
  try replace n1 := n1.below bb
  try replace n2 := n2.below bb
  try replace n3 := n3.below bb
  try replace n4 := n4.below bb
  try replace n5 := n5.below bb
  try replace n6 := n6.below bb
  try replace n7 := n7.below bb
  try replace n8 := n8.below bb
  try replace n9 := n9.below bb
  try replace n10 := n10.below bb
  try replace n11 := n11.below bb
  try replace n12 := n12.below bb
  try replace n13 := n13.below bb
  try replace n14 := n14.below bb
  replace bw := below_on bw bb bw.size
  clear bb
  have n10 := m10
  clear m10
  go_wp2_with fail
  refine (mul_any _ Aa A10 ca c10 _ _ xs (lim (nv ys * nv zs)) (lim (nv xs * (nv ys * nv zs))) 0 na n10 rfl rfl (by rw [nv_lim]; exact mulS_val (by omega) (by omega) (by omega))).mono ?_
  rintro e wn ⟨A11, c11, rfl, m11, bb⟩
  try replace na := na.below bb
  try replace nb := nb.below bb
  try replace nc := nc.below bb
  try replace n1 := n1.below bb
  try replace n2 := n2.below bb
  try replace n3 := n3.below bb
  try replace n4 := n4.below bb
  try replace n5 := n5.below bb
  try replace n6 := n6.below bb
  try replace n7 := n7.below bb
  try replace n8 := n8.below bb
  try replace n9 := n9.below bb
  try replace n10 := n10.below bb
  try replace n11 := n11.below bb
  try replace n12 := n12.below bb
  try replace n13 := n13.below bb
  try replace n14 := n14.below bb
  replace bw := below_on bw bb bw.size
  clear bb
  have n11 := m11
  clear m11
  go_wp2_with fail
  refine (mul_any _ Aa A4 ca c4 _ _ xs (lim (nv ys + nv zs)) (lim (nv xs * (nv ys + nv zs))) 0 na n4 rfl rfl (by rw [nv_lim]; exact mulS_val (by omega) (by omega) (by omega))).mono ?_
  rintro e wn ⟨A12, c12, rfl, m12, bb⟩
  try replace na := na.below bb
  try replace nb := nb.below bb
  try replace nc := nc.below bb
  try replace n1 := n1.below bb
  try replace n2 := n2.below bb
  try replace n3 := n3.below bb
  try replace n4 := n4.below bb
  try replace n5 := n5.below bb
  try replace n6 := n6.below bb
  try replace n7 := n7.below bb
  try replace n8 := n8.below bb
  try replace n9 := n9.below bb
  try replace n10 := n10.below bb
  try replace n11 := n11.below bb
  try replace n12 := n12.below bb
  try replace n13 := n13.below bb
  try replace n14 := n14.below bb
  replace bw := below_on bw bb bw.size
  clear bb
  have n12 := m12
  clear m12
  go_wp2_with fail
  refine (mul_any _ Aa Ac ca cc _ _ xs zs (lim (nv xs * nv zs)) 0 na nc rfl rfl (mulS_val (by omega) (by omega) (by omega))).mono ?_
  rintro e wn ⟨A13, c13, rfl, m13, bb⟩
  try replace na := na.below bb
  try replace nb := nb.below bb
  try replace nc := nc.below bb
  try replace n1 := n1.below bb
  try replace n2 := n2.below bb
  try replace n3 := n3.below bb
  try replace n4 := n4.below bb
  try replace n5 := n5.below bb
  try replace n6 := n6.below bb
  try replace n7 := n7.below bb
  try replace n8 := n8.below bb
  try replace n9 := n9.below bb
  try replace n10 := n10.below bb
  try replace n11 := n11.below bb
  try replace n12 := n12.below bb
  try replace n13 := n13.below bb
  try replace n14 := n14.below bb
  replace bw := below_on bw bb bw.size
  clear bb
  have n13 := m13
  clear m13
  go_wp2_with fail
  refine (add_any _ A7 A13 c7 c13 _ _ (lim (nv xs * nv ys)) (lim (nv xs * nv zs)) (lim (nv xs * nv ys + nv xs * nv zs)) 0 n7 n13 rfl rfl (by rw [nv_lim, nv_lim]; exact addS_val (by omega) (by omega) (by omega))).mono ?_
  rintro e wn ⟨A14, c14, rfl, m14, bb⟩
  try replace na := na.below bb
  try replace nb := nb.below bb
  try replace nc := nc.below bb
  try replace n1 := n1.below bb
  try replace n2 := n2.below bb
  try replace n3 := n3.below bb
  try replace n4 := n4.below bb
  try replace n5 := n5.below bb
  try replace n6 := n6.below bb
  try replace n7 := n7.below bb
  try replace n8 := n8.below bb
  try replace n9 := n9.below bb
  try replace n10 := n10.below bb
  try replace n11 := n11.below bb
  try replace n12 := n12.below bb
  try replace n13 := n13.below bb
  try replace n14 := n14.below bb
  replace bw := below_on bw bb bw.size
  clear bb
  have n14 := m14
  clear m14
  go_wp2_with fail
  refine (same_any _ A7 A8 c7 c8 _ _ (lim (nv xs * nv ys)) (lim (nv ys * nv xs)) true n7 n8 rfl rfl (decide_eq_true (by rw [Nat.mul_comm]))).mono ?_
  rintro e wn ⟨rfl, qq⟩
  have bb := qq.keep
  clear qq
  try replace na := na.below bb
  try replace nb := nb.below bb
  try replace nc := nc.below bb
  try replace n1 := n1.below bb
  try replace n2 := n2.below bb
  try replace n3 := n3.below bb
  try replace n4 := n4.below bb
  try replace n5 := n5.below bb
  try replace n6 := n6.below bb
  try replace n7 := n7.below bb
  try replace n8 := n8.below bb
  try replace n9 := n9.below bb
  try replace n10 := n10.below bb
  try replace n11 := n11.below bb
  try replace n12 := n12.below bb
  try replace n13 := n13.below bb
  try replace n14 := n14.below bb
  replace bw := below_on bw bb bw.size
  clear bb
  go_wp2_with fail
  refine (same_any _ A9 A11 c9 c11 _ _ (lim (nv xs * nv ys * nv zs)) (lim (nv xs * (nv ys * nv zs))) true n9 n11 rfl rfl (decide_eq_true (by rw [Nat.mul_assoc]))).mono ?_
  rintro e wn ⟨rfl, qq⟩
  have bb := qq.keep
  clear qq
  try replace na := na.below bb
  try replace nb := nb.below bb
  try replace nc := nc.below bb
  try replace n1 := n1.below bb
  try replace n2 := n2.below bb
  try replace n3 := n3.below bb
  try replace n4 := n4.below bb
  try replace n5 := n5.below bb
  try replace n6 := n6.below bb
  try replace n7 := n7.below bb
  try replace n8 := n8.below bb
  try replace n9 := n9.below bb
  try replace n10 := n10.below bb
  try replace n11 := n11.below bb
  try replace n12 := n12.below bb
  try replace n13 := n13.below bb
  try replace n14 := n14.below bb
  replace bw := below_on bw bb bw.size
  clear bb
  go_wp2_with fail
  refine (same_any _ A12 A14 c12 c14 _ _ (lim (nv xs * (nv ys + nv zs))) (lim (nv xs * nv ys + nv xs * nv zs)) true n12 n14 rfl rfl (decide_eq_true (by rw [Nat.mul_add]))).mono ?_
  rintro e wn ⟨rfl, qq⟩
  have bb := qq.keep
  clear qq
  try replace na := na.below bb
  try replace nb := nb.below bb
  try replace nc := nc.below bb
  try replace n1 := n1.below bb
  try replace n2 := n2.below bb
  try replace n3 := n3.below bb
  try replace n4 := n4.below bb
  try replace n5 := n5.below bb
  try replace n6 := n6.below bb
  try replace n7 := n7.below bb
  try replace n8 := n8.below bb
  try replace n9 := n9.below bb
  try replace n10 := n10.below bb
  try replace n11 := n11.below bb
  try replace n12 := n12.below bb
  try replace n13 := n13.below bb
  try replace n14 := n14.below bb
  replace bw := below_on bw bb bw.size
  clear bb
  go_wp2_with fail
  refine (awake_any _).mono ?_
  rintro e wn ⟨rfl, bb⟩
  replace bw := below_on bw bb bw.size
  go_wp2_with fail
  go_ret
  exact ⟨rfl, bw⟩

theorem ring_walk (w : World) (A : Option Addr) (a : Nat) (xs : List Nat) (B : Option Addr) (b : Nat) (ys : List Nat) (C : Option Addr) (c : Nat) (zs : List Nat) (hA : Nt w A a xs) (hB : Nt w B b ys) (hC : Nt w C c zs) :
    Calls Try.prog 6 #[.slice A xs.length a, .slice B ys.length b, .slice C zs.length c] w fun e w' => e = .returned (.bool true) ∧ Below w.heap.size w w' := by
  by_cases h : 60 < xs.length ∨ 60 < ys.length ∨ 60 < zs.length
  · exact ring_long w A B C a b c xs ys zs hA hB hC h
  · exact ring_short w A B C a b c xs ys zs hA hB hC (by omega) (by omega) (by omega)
end Go.Proofs.Ytcenpboflecbcaa
