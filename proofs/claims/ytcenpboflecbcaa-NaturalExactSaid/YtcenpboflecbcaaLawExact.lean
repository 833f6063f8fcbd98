/- NaturalExact, the walk: all operations return the documented numbers and errors, as the reference's do. -/
import Derived.Test.YtcenpboflecbcaaLawA
import Derived.Test.YtcenpboflecbcaaRefJ
namespace Go.Proofs.Ytcenpboflecbcaa
open Go.RowKit

set_option maxRecDepth 100000 in
theorem exact_long (w : World) (A B : Option Addr) (a b : Nat) (xs ys : List Nat) (v n : Int) (hA : Nt w A a xs) (hB : Nt w B b ys) (h : 60 < xs.length ∨ 60 < ys.length) :
    Calls Try.prog 10 #[.slice A xs.length a, .slice B ys.length b, .int .u64 v, .int .i64 n] w fun e w' => e = .returned (.bool true) ∧ Below w.heap.size w w' := by
  go_enter Try.func10, Try.ntmps10
  go_wp2_with fail
  have hAl := hA.len
  have hBl := hB.len
  have hrd : Rd slv (w.alloc (.cells #[.slice A xs.length a, .slice B ys.length b] 25)) (some ⟨w.heap.size, 0, none⟩) [(A, xs.length, a), (B, ys.length, b)] := (Gr.lit (mk := slv) (e := 25) (B := w.heap.size) w [(A, xs.length, a), (B, ys.length, b)] _ rfl (by simp [maxLen]) (Nat.le_refl _)).rd
  have b1 : Below w.heap.size w (w.alloc (.cells #[.slice A xs.length a, .slice B ys.length b] 25)) := (Below.refl w.heap.size w).alloc (Nat.le_refl _) _
  revert hrd b1
  generalize (w.alloc (.cells #[.slice A xs.length a, .slice B ys.length b] 25)) = w1
  intro hrd b1
  refine (long_any w1 _ _ _ _ true hrd rfl (by simp) (by intro v hv; simp only [List.mem_cons, List.not_mem_nil, or_false] at hv; rcases hv with rfl | rfl <;> simp <;> omega) (by simp <;> omega)).mono ?_
  rintro e w' ⟨rfl, rfl⟩
  clear hrd
  go_wp2_with fail
  have bw := b1
  refine (awake_any _).mono ?_
  rintro e wn ⟨rfl, bb⟩
  replace bw := below_on bw bb bw.size
  go_wp2_with fail
  go_ret
  exact ⟨rfl, bw⟩
theorem rmake_call (w : World) (v : Nat) (hv : Hid (v < 18446744073709551616)) : Calls Try.prog 37 #[.int .u64 (v : Int)] w (NatNew w (lim v)) := rmake_any w v hv.out
theorem make_call (w : World) (v : Nat) (hv : Hid (v < 18446744073709551616)) : Calls Try.prog 36 #[.int .u64 (v : Int)] w fun e w' => ∃ A c, e = .returned (.slice A (lim v).length c) ∧ Nt w' A c (lim v) ∧ Below w.heap.size w w' := make_any w v hv.out

set_option maxRecDepth 100000 in
set_option maxHeartbeats 4000000 in
theorem exact_short (w : World) (A B : Option Addr) (a b : Nat) (xs ys : List Nat) (v : Nat) (n : Int) (hA : Nt w A a xs) (hB : Nt w B b ys) (h1 : xs.length ≤ 60) (h2 : ys.length ≤ 60) (hv : Hid (v < 18446744073709551616)) :
    Calls Try.prog 10 #[.slice A xs.length a, .slice B ys.length b, .int .u64 (v : Int), .int .i64 n] w fun e w' => e = .returned (.bool true) ∧ Below w.heap.size w w' := by
  have la : (lim (nv xs)).length ≤ 60 := Nat.le_trans (lim_length_le_length hA.u) h1
  have lb : (lim (nv ys)).length ≤ 60 := Nat.le_trans (lim_length_le_length hB.u) h2
  obtain ⟨⟨R1, E1⟩, hR1⟩ : ∃ p, addS (nv xs) (nv ys) = p := ⟨_, rfl⟩
  obtain ⟨⟨R2, E2⟩, hR2⟩ : ∃ p, subS (nv xs) (nv ys) = p := ⟨_, rfl⟩
  obtain ⟨⟨R3, E3⟩, hR3⟩ : ∃ p, mulS (nv xs) (nv ys) = p := ⟨_, rfl⟩
  obtain ⟨⟨Q4, R4, E4⟩, hR4⟩ : ∃ p, divS (nv xs) (nv ys) = p := ⟨_, rfl⟩
  obtain ⟨⟨R5, E5⟩, hR5⟩ : ∃ p, gcdS (nv xs) (nv ys) = p := ⟨_, rfl⟩
  obtain ⟨⟨R6, E6⟩, hR6⟩ : ∃ p, shiftS (nv xs) n = p := ⟨_, rfl⟩
  obtain ⟨z, hz⟩ : ∃ z, cmp3 (nv xs) (nv ys) = z := ⟨_, rfl⟩
  have H1 := Lib.hid hR1
  have H2 := Lib.hid hR2
  have H3 := Lib.hid hR3
  have H4 := Lib.hid hR4
  have H5 := Lib.hid hR5
  have H6 := Lib.hid hR6
  have H7 := Lib.hid hz
  clear hR1 hR2 hR3 hR4 hR5 hR6 hz
  go_enter Try.func10, Try.ntmps10
  go_wp2_with fail
  have hAl := hA.len
  have hBl := hB.len
  have hrd : Rd slv (w.alloc (.cells #[.slice A xs.length a, .slice B ys.length b] 25)) (some ⟨w.heap.size, 0, none⟩) [(A, xs.length, a), (B, ys.length, b)] := (Gr.lit (mk := slv) (e := 25) (B := w.heap.size) w [(A, xs.length, a), (B, ys.length, b)] _ rfl (by simp [maxLen]) (Nat.le_refl _)).rd
  have b1 : Below w.heap.size w (w.alloc (.cells #[.slice A xs.length a, .slice B ys.length b] 25)) := (Below.refl w.heap.size w).alloc (Nat.le_refl _) _
  revert hrd b1
  generalize (w.alloc (.cells #[.slice A xs.length a, .slice B ys.length b] 25)) = w1
  intro hrd b1
  refine (long_any w1 _ _ _ _ false hrd rfl (by simp) (by intro v hv; simp only [List.mem_cons, List.not_mem_nil, or_false] at hv; rcases hv with rfl | rfl <;> simp <;> omega) (by simp <;> omega)).mono ?_
  rintro e w' ⟨rfl, rfl⟩
  clear hrd
  have na := hA.below b1
  have nb := hB.below b1
  have bw := b1
  obtain ⟨Aa, rfl⟩ : ∃ Aa, Aa = A := ⟨_, rfl⟩
  obtain ⟨Ab, rfl⟩ : ∃ Ab, Ab = B := ⟨_, rfl⟩
  obtain ⟨ca, rfl⟩ : ∃ ca, ca = a := ⟨_, rfl⟩
  obtain ⟨cb, rfl⟩ : ∃ cb, cb = b := ⟨_, rfl⟩
  clear hA hB b1
  go_wp2_with fail
  refine (add_any _ Aa Ab ca cb _ _ xs ys R1 E1 na nb rfl rfl H1.out).mono ?_
  rintro e wn ⟨A1, c1, rfl, m1, bb⟩
  try replace na := na.below bb
  try replace nb := nb.below bb
  try replace nc := nc.below bb
  try replace n1 := n1.below bb
  try replace n2 := n2.below bb
  try replace n3 := n3.below bb
  try replace n4 := n4.below bb
  try replace n5 := n5.below bb
  try replace n6 := n6.below bb
  try replace n7 := n7.below bb
  try replace n8 := n8.below bb
  try replace n9 := n9.below bb
  try replace n10 := n10.below bb
  try replace n11 := n11.below bb
  try replace n12 := n12.below bb
  try replace n13 := n13.below bb
  try replace n14 := n14.below bb
  try replace n15 := n15.below bb
  try replace n16 := n16.below bb
  try replace n17 := n17.below bb
  try replace n18 := n18.below bb
  try replace n19 := n19.below bb
  try replace n20 := n20.below bb
  try replace n21 := n21.below bb
  try replace n22 := n22.below bb
  try replace n23 := n23.below bb
  try replace n24 := n24.below bb
  replace bw := below_on bw bb bw.size
  clear bb
  have n1 := m1
  clear m1
  go_wp2_with fail
  refine (radd_any _ Aa Ab ca cb _ _ xs ys R1 E1 na nb rfl rfl (by omega) (by omega) H1.out).mono ?_
  rintro e wn ⟨A2, c2, rfl, m2, bb⟩
  try replace na := na.below bb
  try replace nb := nb.below bb
  try replace nc := nc.below bb
  try replace n1 := n1.below bb
  try replace n2 := n2.below bb
  try replace n3 := n3.below bb
  try replace n4 := n4.below bb
  try replace n5 := n5.below bb
  try replace n6 := n6.below bb
  try replace n7 := n7.below bb
  try replace n8 := n8.below bb
  try replace n9 := n9.below bb
  try replace n10 := n10.below bb
  try replace n11 := n11.below bb
  try replace n12 := n12.below bb
  try replace n13 := n13.below bb
  try replace n14 := n14.below bb
  try replace n15 := n15.below bb
  try replace n16 := n16.below bb
  try replace n17 := n17.below bb
  try replace n18 := n18.below bb
  try replace n19 := n19.below bb
  try replace n20 := n20.below bb
  try replace n21 := n21.below bb
  try replace n22 := n22.below bb
  try replace n23 := n23.below bb
  try replace n24 := n24.below bb
  replace bw := below_on bw bb bw.size
  clear bb
  have n2 := m2
  clear m2
  go_wp2_with fail
  refine (sub_any _ Aa Ab ca cb _ _ xs ys R2 E2 na nb rfl rfl H2.out).mono ?_
  rintro e wn ⟨A3, c3, rfl, m3, bb⟩
  try replace na := na.below bb
  try replace nb := nb.below bb
  try replace nc := nc.below bb
  try replace n1 := n1.below bb
  try replace n2 := n2.below bb
  try replace n3 := n3.below bb
  try replace n4 := n4.below bb
  try replace n5 := n5.below bb
  try replace n6 := n6.below bb
  try replace n7 := n7.below bb
  try replace n8 := n8.below bb
  try replace n9 := n9.below bb
  try replace n10 := n10.below bb
  try replace n11 := n11.below bb
  try replace n12 := n12.below bb
  try replace n13 := n13.below bb
  try replace n14 := n14.below bb
  try replace n15 := n15.below bb
  try replace n16 := n16.below bb
  try replace n17 := n17.below bb
  try replace n18 := n18.below bb
  try replace n19 := n19.below bb
  try replace n20 := n20.below bb
  try replace n21 := n21.below bb
  try replace n22 := n22.below bb
  try replace n23 := n23.below bb
  try replace n24 := n24.below bb
  replace bw := below_on bw bb bw.size
  clear bb
  have n3 := m3
  clear m3
  go_wp2_with fail
  refine (rsub_any _ Aa Ab ca cb _ _ xs ys R2 E2 na nb rfl rfl (by omega) (by omega) H2.out).mono ?_
  rintro e wn ⟨A4, c4, rfl, m4, bb⟩
  try replace na := na.below bb
  try replace nb := nb.below bb
  try replace nc := nc.below bb
  try replace n1 := n1.below bb
  try replace n2 := n2.below bb
  try replace n3 := n3.below bb
  try replace n4 := n4.below bb
  try replace n5 := n5.below bb
  try replace n6 := n6.below bb
  try replace n7 := n7.below bb
  try replace n8 := n8.below bb
  try replace n9 := n9.below bb
  try replace n10 := n10.below bb
  try replace n11 := n11.below bb
  try replace n12 := n12.below bb
  try replace n13 := n13.below bb
  try replace n14 := n14.below bb
  try replace n15 := n15.below bb
  try replace n16 := n16.below bb
  try replace n17 := n17.below bb
  try replace n18 := n18.below bb
  try replace n19 := n19.below bb
  try replace n20 := n20.below bb
  try replace n21 := n21.below bb
  try replace n22 := n22.below bb
  try replace n23 := n23.below bb
  try replace n24 := n24.below bb
  replace bw := below_on bw bb bw.size
  clear bb
  have n4 := m4
  clear m4
  go_wp2_with fail
  refine (mul_any _ Aa Ab ca cb _ _ xs ys R3 E3 na nb rfl rfl H3.out).mono ?_
  rintro e wn ⟨A5, c5, rfl, m5, bb⟩
  try replace na := na.below bb
  try replace nb := nb.below bb
  try replace nc := nc.below bb
  try replace n1 := n1.below bb
  try replace n2 := n2.below bb
  try replace n3 := n3.below bb
  try replace n4 := n4.below bb
  try replace n5 := n5.below bb
  try replace n6 := n6.below bb
  try replace n7 := n7.below bb
  try replace n8 := n8.below bb
  try replace n9 := n9.below bb
  try replace n10 := n10.below bb
  try replace n11 := n11.below bb
  try replace n12 := n12.below bb
  try replace n13 := n13.below bb
  try replace n14 := n14.below bb
  try replace n15 := n15.below bb
  try replace n16 := n16.below bb
  try replace n17 := n17.below bb
  try replace n18 := n18.below bb
  try replace n19 := n19.below bb
  try replace n20 := n20.below bb
  try replace n21 := n21.below bb
  try replace n22 := n22.below bb
  try replace n23 := n23.below bb
  try replace n24 := n24.below bb
  replace bw := below_on bw bb bw.size
  clear bb
  have n5 := m5
  clear m5
  go_wp2_with fail
  refine (rmul_any _ Aa Ab ca cb _ _ xs ys R3 E3 na nb rfl rfl (by omega) (by omega) H3.out).mono ?_
  rintro e wn ⟨A6, c6, rfl, m6, bb⟩
  try replace na := na.below bb
  try replace nb := nb.below bb
  try replace nc := nc.below bb
  try replace n1 := n1.below bb
  try replace n2 := n2.below bb
  try replace n3 := n3.below bb
  try replace n4 := n4.below bb
  try replace n5 := n5.below bb
  try replace n6 := n6.below bb
  try replace n7 := n7.below bb
  try replace n8 := n8.below bb
  try replace n9 := n9.below bb
  try replace n10 := n10.below bb
  try replace n11 := n11.below bb
  try replace n12 := n12.below bb
  try replace n13 := n13.below bb
  try replace n14 := n14.below bb
  try replace n15 := n15.below bb
  try replace n16 := n16.below bb
  try replace n17 := n17.below bb
  try replace n18 := n18.below bb
  try replace n19 := n19.below bb
  try replace n20 := n20.below bb
  try replace n21 := n21.below bb
  try replace n22 := n22.below bb
  try replace n23 := n23.below bb
  try replace n24 := n24.below bb
  replace bw := below_on bw bb bw.size
  clear bb
  have n6 := m6
  clear m6
  go_wp2_with fail
  refine (same_any _ A1 A2 c1 c2 _ _ R1 R1 true n1 n2 rfl rfl (decide_eq_true rfl)).mono ?_
  rintro e wn ⟨rfl, qq⟩
  have bb := qq.keep
  clear qq
  try replace na := na.below bb
  try replace nb := nb.below bb
  try replace nc := nc.below bb
  try replace n1 := n1.below bb
  try replace n2 := n2.below bb
  try replace n3 := n3.below bb
  try replace n4 := n4.below bb
  try replace n5 := n5.below bb
  try replace n6 := n6.below bb
  try replace n7 := n7.below bb
  try replace n8 := n8.below bb
  try replace n9 := n9.below bb
  try replace n10 := n10.below bb
  try replace n11 := n11.below bb
  try replace n12 := n12.below bb
  try replace n13 := n13.below bb
  try replace n14 := n14.below bb
  try replace n15 := n15.below bb
  try replace n16 := n16.below bb
  try replace n17 := n17.below bb
  try replace n18 := n18.below bb
  try replace n19 := n19.below bb
  try replace n20 := n20.below bb
  try replace n21 := n21.below bb
  try replace n22 := n22.below bb
  try replace n23 := n23.below bb
  try replace n24 := n24.below bb
  replace bw := below_on bw bb bw.size
  clear bb
  go_wp2_with fail
  refine (same_any _ A3 A4 c3 c4 _ _ R2 R2 true n3 n4 rfl rfl (decide_eq_true rfl)).mono ?_
  rintro e wn ⟨rfl, qq⟩
  have bb := qq.keep
  clear qq
  try replace na := na.below bb
  try replace nb := nb.below bb
  try replace nc := nc.below bb
  try replace n1 := n1.below bb
  try replace n2 := n2.below bb
  try replace n3 := n3.below bb
  try replace n4 := n4.below bb
  try replace n5 := n5.below bb
  try replace n6 := n6.below bb
  try replace n7 := n7.below bb
  try replace n8 := n8.below bb
  try replace n9 := n9.below bb
  try replace n10 := n10.below bb
  try replace n11 := n11.below bb
  try replace n12 := n12.below bb
  try replace n13 := n13.below bb
  try replace n14 := n14.below bb
  try replace n15 := n15.below bb
  try replace n16 := n16.below bb
  try replace n17 := n17.below bb
  try replace n18 := n18.below bb
  try replace n19 := n19.below bb
  try replace n20 := n20.below bb
  try replace n21 := n21.below bb
  try replace n22 := n22.below bb
  try replace n23 := n23.below bb
  try replace n24 := n24.below bb
  replace bw := below_on bw bb bw.size
  clear bb
  go_wp2_with fail
  refine (same_any _ A5 A6 c5 c6 _ _ R3 R3 true n5 n6 rfl rfl (decide_eq_true rfl)).mono ?_
  rintro e wn ⟨rfl, qq⟩
  have bb := qq.keep
  clear qq
  try replace na := na.below bb
  try replace nb := nb.below bb
  try replace nc := nc.below bb
  try replace n1 := n1.below bb
  try replace n2 := n2.below bb
  try replace n3 := n3.below bb
  try replace n4 := n4.below bb
  try replace n5 := n5.below bb
  try replace n6 := n6.below bb
  try replace n7 := n7.below bb
  try replace n8 := n8.below bb
  try replace n9 := n9.below bb
  try replace n10 := n10.below bb
  try replace n11 := n11.below bb
  try replace n12 := n12.below bb
  try replace n13 := n13.below bb
  try replace n14 := n14.below bb
  try replace n15 := n15.below bb
  try replace n16 := n16.below bb
  try replace n17 := n17.below bb
  try replace n18 := n18.below bb
  try replace n19 := n19.below bb
  try replace n20 := n20.below bb
  try replace n21 := n21.below bb
  try replace n22 := n22.below bb
  try replace n23 := n23.below bb
  try replace n24 := n24.below bb
  replace bw := below_on bw bb bw.size
  clear bb
  go_wp2_with fail
  clear n1 n2 n3 n4 n5 n6
  refine (div_any _ Aa Ab ca cb _ _ xs ys Q4 R4 E4 na nb rfl rfl H4.out).mono ?_
  rintro e wn ⟨A7, c7, A8, c8, rfl, m7, m8, bb⟩
  try replace na := na.below bb
  try replace nb := nb.below bb
  try replace nc := nc.below bb
  try replace n1 := n1.below bb
  try replace n2 := n2.below bb
  try replace n3 := n3.below bb
  try replace n4 := n4.below bb
  try replace n5 := n5.below bb
  try replace n6 := n6.below bb
  try replace n7 := n7.below bb
  try replace n8 := n8.below bb
  try replace n9 := n9.below bb
  try replace n10 := n10.below bb
  try replace n11 := n11.below bb
  try replace n12 := n12.below bb
  try replace n13 := n13.below bb
  try replace n14 := n14.below bb
  try replace n15 := n15.below bb
  try replace n16 := n16.below bb
  try replace n17 := n17.below bb
  try replace n18 := n18.below bb
  try replace n19 := n19.below bb
  try replace n20 := n20.below bb
  try replace n21 := n21.below bb
  try replace n22 := n22.below bb
  try replace n23 := n23.below bb
  try replace n24 := n24.below bb
  replace bw := below_on bw bb bw.size
  clear bb
  have n7 := m7
  have n8 := m8
  clear m7 m8
  go_wp2_with fail
  refine (rdiv_any _ Aa Ab ca cb _ _ xs ys Q4 R4 E4 na nb rfl rfl (by omega) (by omega) H4.out).mono ?_
  rintro e wn ⟨A9, c9, A10, c10, rfl, m9, m10, bb⟩
  try replace na := na.below bb
  try replace nb := nb.below bb
  try replace nc := nc.below bb
  try replace n1 := n1.below bb
  try replace n2 := n2.below bb
  try replace n3 := n3.below bb
  try replace n4 := n4.below bb
  try replace n5 := n5.below bb
  try replace n6 := n6.below bb
  try replace n7 := n7.below bb
  try replace n8 := n8.below bb
  try replace n9 := n9.below bb
  try replace n10 := n10.below bb
  try replace n11 := n11.below bb
  try replace n12 := n12.below bb
  try replace n13 := n13.below bb
  try replace n14 := n14.below bb
  try replace n15 := n15.below bb
  try replace n16 := n16.below bb
  try replace n17 := n17.below bb
  try replace n18 := n18.below bb
  try replace n19 := n19.below bb
  try replace n20 := n20.below bb
  try replace n21 := n21.below bb
  try replace n22 := n22.below bb
  try replace n23 := n23.below bb
  try replace n24 := n24.below bb
  replace bw := below_on bw bb bw.size
  clear bb
  have n9 := m9
  have n10 := m10
  clear m9 m10
  go_wp2_with fail
  refine (gcd_any _ Aa Ab ca cb _ _ xs ys R5 E5 na nb rfl rfl H5.out).mono ?_
  rintro e wn ⟨A11, c11, rfl, m11, bb⟩
  try replace na := na.below bb
  try replace nb := nb.below bb
  try replace nc := nc.below bb
  try replace n1 := n1.below bb
  try replace n2 := n2.below bb
  try replace n3 := n3.below bb
  try replace n4 := n4.below bb
  try replace n5 := n5.below bb
  try replace n6 := n6.below bb
  try replace n7 := n7.below bb
  try replace n8 := n8.below bb
  try replace n9 := n9.below bb
  try replace n10 := n10.below bb
  try replace n11 := n11.below bb
  try replace n12 := n12.below bb
  try replace n13 := n13.below bb
  try replace n14 := n14.below bb
  try replace n15 := n15.below bb
  try replace n16 := n16.below bb
  try replace n17 := n17.below bb
  try replace n18 := n18.below bb
  try replace n19 := n19.below bb
  try replace n20 := n20.below bb
  try replace n21 := n21.below bb
  try replace n22 := n22.below bb
  try replace n23 := n23.below bb
  try replace n24 := n24.below bb
  replace bw := below_on bw bb bw.size
  clear bb
  have n11 := m11
  clear m11
  go_wp2_with fail
  refine (rgcd_any _ Aa Ab ca cb _ _ xs ys R5 E5 na nb rfl rfl (by omega) (by omega) H5.out).mono ?_
  rintro e wn ⟨A12, c12, rfl, m12, bb⟩
  try replace na := na.below bb
  try replace nb := nb.below bb
  try replace nc := nc.below bb
  try replace n1 := n1.below bb
  try replace n2 := n2.below bb
  try replace n3 := n3.below bb
  try replace n4 := n4.below bb
  try replace n5 := n5.below bb
  try replace n6 := n6.below bb
  try replace n7 := n7.below bb
  try replace n8 := n8.below bb
  try replace n9 := n9.below bb
  try replace n10 := n10.below bb
  try replace n11 := n11.below bb
  try replace n12 := n12.below bb
  try replace n13 := n13.below bb
  try replace n14 := n14.below bb
  try replace n15 := n15.below bb
  try replace n16 := n16.below bb
  try replace n17 := n17.below bb
  try replace n18 := n18.below bb
  try replace n19 := n19.below bb
  try replace n20 := n20.below bb
  try replace n21 := n21.below bb
  try replace n22 := n22.below bb
  try replace n23 := n23.below bb
  try replace n24 := n24.below bb
  replace bw := below_on bw bb bw.size
  clear bb
  have n12 := m12
  clear m12
  go_wp2_with fail
  refine (same_any _ A7 A9 c7 c9 _ _ Q4 Q4 true n7 n9 rfl rfl (decide_eq_true rfl)).mono ?_
  rintro e wn ⟨rfl, qq⟩
  have bb := qq.keep
  clear qq
  try replace na := na.below bb
  try replace nb := nb.below bb
  try replace nc := nc.below bb
  try replace n1 := n1.below bb
  try replace n2 := n2.below bb
  try replace n3 := n3.below bb
  try replace n4 := n4.below bb
  try replace n5 := n5.below bb
  try replace n6 := n6.below bb
  try replace n7 := n7.below bb
  try replace n8 := n8.below bb
  try replace n9 := n9.below bb
  try replace n10 := n10.below bb
  try replace n11 := n11.below bb
  try replace n12 := n12.below bb
  try replace n13 := n13.below bb
  try replace n14 := n14.below bb
  try replace n15 := n15.below bb
  try replace n16 := n16.below bb
  try replace n17 := n17.below bb
  try replace n18 := n18.below bb
  try replace n19 := n19.below bb
  try replace n20 := n20.below bb
  try replace n21 := n21.below bb
  try replace n22 := n22.below bb
  try replace n23 := n23.below bb
  try replace n24 := n24.below bb
  replace bw := below_on bw bb bw.size
  clear bb
  go_wp2_with fail
  refine (same_any _ A8 A10 c8 c10 _ _ R4 R4 true n8 n10 rfl rfl (decide_eq_true rfl)).mono ?_
  rintro e wn ⟨rfl, qq⟩
  have bb := qq.keep
  clear qq
  try replace na := na.below bb
  try replace nb := nb.below bb
  try replace nc := nc.below bb
  try replace n1 := n1.below bb
  try replace n2 := n2.below bb
  try replace n3 := n3.below bb
  try replace n4 := n4.below bb
  try replace n5 := n5.below bb
  try replace n6 := n6.below bb
  try replace n7 := n7.below bb
  try replace n8 := n8.below bb
  try replace n9 := n9.below bb
  try replace n10 := n10.below bb
  try replace n11 := n11.below bb
  try replace n12 := n12.below bb
  try replace n13 := n13.below bb
  try replace n14 := n14.below bb
  try replace n15 := n15.below bb
  try replace n16 := n16.below bb
  try replace n17 := n17.below bb
  try replace n18 := n18.below bb
  try replace n19 := n19.below bb
  try replace n20 := n20.below bb
  try replace n21 := n21.below bb
  try replace n22 := n22.below bb
  try replace n23 := n23.below bb
  try replace n24 := n24.below bb
  replace bw := below_on bw bb bw.size
  clear bb
  go_wp2_with fail
  refine (same_any _ A11 A12 c11 c12 _ _ R5 R5 true n11 n12 rfl rfl (decide_eq_true rfl)).mono ?_
  rintro e wn ⟨rfl, qq⟩
  have bb := qq.keep
  clear qq
  try replace na := na.below bb
  try replace nb := nb.below bb
  try replace nc := nc.below bb
  try replace n1 := n1.below bb
  try replace n2 := n2.below bb
  try replace n3 := n3.below bb
  try replace n4 := n4.below bb
  try replace n5 := n5.below bb
  try replace n6 := n6.below bb
  try replace n7 := n7.below bb
  try replace n8 := n8.below bb
  try replace n9 := n9.below bb
  try replace n10 := n10.below bb
  try replace n11 := n11.below bb
  try replace n12 := n12.below bb
  try replace n13 := n13.below bb
  try replace n14 := n14.below bb
  try replace n15 := n15.below bb
  try replace n16 := n16.below bb
  try replace n17 := n17.below bb
  try replace n18 := n18.below bb
  try replace n19 := n19.below bb
  try replace n20 := n20.below bb
  try replace n21 := n21.below bb
  try replace n22 := n22.below bb
  try replace n23 := n23.below bb
  try replace n24 := n24.below bb
  replace bw := below_on bw bb bw.size
  clear bb
  go_wp2_with fail
  clear n7 n8 n9 n10 n11 n12
  refine (shift_any _ Aa ca _ n xs R6 E6 na rfl H6.out).mono ?_
  rintro e wn ⟨A13, c13, rfl, m13, bb⟩
  try replace na := na.below bb
  try replace nb := nb.below bb
  try replace nc := nc.below bb
  try replace n1 := n1.below bb
  try replace n2 := n2.below bb
  try replace n3 := n3.below bb
  try replace n4 := n4.below bb
  try replace n5 := n5.below bb
  try replace n6 := n6.below bb
  try replace n7 := n7.below bb
  try replace n8 := n8.below bb
  try replace n9 := n9.below bb
  try replace n10 := n10.below bb
  try replace n11 := n11.below bb
  try replace n12 := n12.below bb
  try replace n13 := n13.below bb
  try replace n14 := n14.below bb
  try replace n15 := n15.below bb
  try replace n16 := n16.below bb
  try replace n17 := n17.below bb
  try replace n18 := n18.below bb
  try replace n19 := n19.below bb
  try replace n20 := n20.below bb
  try replace n21 := n21.below bb
  try replace n22 := n22.below bb
  try replace n23 := n23.below bb
  try replace n24 := n24.below bb
  replace bw := below_on bw bb bw.size
  clear bb
  have n13 := m13
  clear m13
  go_wp2_with fail
  refine (rshift_any _ Aa ca _ n xs R6 E6 na rfl (by omega) H6.out).mono ?_
  rintro e wn ⟨A14, c14, rfl, m14, bb⟩
  try replace na := na.below bb
  try replace nb := nb.below bb
  try replace nc := nc.below bb
  try replace n1 := n1.below bb
  try replace n2 := n2.below bb
  try replace n3 := n3.below bb
  try replace n4 := n4.below bb
  try replace n5 := n5.below bb
  try replace n6 := n6.below bb
  try replace n7 := n7.below bb
  try replace n8 := n8.below bb
  try replace n9 := n9.below bb
  try replace n10 := n10.below bb
  try replace n11 := n11.below bb
  try replace n12 := n12.below bb
  try replace n13 := n13.below bb
  try replace n14 := n14.below bb
  try replace n15 := n15.below bb
  try replace n16 := n16.below bb
  try replace n17 := n17.below bb
  try replace n18 := n18.below bb
  try replace n19 := n19.below bb
  try replace n20 := n20.below bb
  try replace n21 := n21.below bb
  try replace n22 := n22.below bb
  try replace n23 := n23.below bb
  try replace n24 := n24.below bb
  replace bw := below_on bw bb bw.size
  clear bb
  have n14 := m14
  clear m14
  go_wp2_with fail
  refine (same_any _ A13 A14 c13 c14 _ _ R6 R6 true n13 n14 rfl rfl (decide_eq_true rfl)).mono ?_
  rintro e wn ⟨rfl, qq⟩
  have bb := qq.keep
  clear qq
  try replace na := na.below bb
  try replace nb := nb.below bb
  try replace nc := nc.below bb
  try replace n1 := n1.below bb
  try replace n2 := n2.below bb
  try replace n3 := n3.below bb
  try replace n4 := n4.below bb
  try replace n5 := n5.below bb
  try replace n6 := n6.below bb
  try replace n7 := n7.below bb
  try replace n8 := n8.below bb
  try replace n9 := n9.below bb
  try replace n10 := n10.below bb
  try replace n11 := n11.below bb
  try replace n12 := n12.below bb
  try replace n13 := n13.below bb
  try replace n14 := n14.below bb
  try replace n15 := n15.below bb
  try replace n16 := n16.below bb
  try replace n17 := n17.below bb
  try replace n18 := n18.below bb
  try replace n19 := n19.below bb
  try replace n20 := n20.below bb
  try replace n21 := n21.below bb
  try replace n22 := n22.below bb
  try replace n23 := n23.below bb
  try replace n24 := n24.below bb
  replace bw := below_on bw bb bw.size
  clear bb
  go_wp2_with fail
  clear n13 n14
  refine (cmp_any _ Aa Ab ca cb _ _ xs ys z na nb rfl rfl H7.out).mono ?_
  rintro e wn ⟨rfl, qq⟩
  have bb := qq.keep
  clear qq
  try replace na := na.below bb
  try replace nb := nb.below bb
  try replace nc := nc.below bb
  try replace n1 := n1.below bb
  try replace n2 := n2.below bb
  try replace n3 := n3.below bb
  try replace n4 := n4.below bb
  try replace n5 := n5.below bb
  try replace n6 := n6.below bb
  try replace n7 := n7.below bb
  try replace n8 := n8.below bb
  try replace n9 := n9.below bb
  try replace n10 := n10.below bb
  try replace n11 := n11.below bb
  try replace n12 := n12.below bb
  try replace n13 := n13.below bb
  try replace n14 := n14.below bb
  try replace n15 := n15.below bb
  try replace n16 := n16.below bb
  try replace n17 := n17.below bb
  try replace n18 := n18.below bb
  try replace n19 := n19.below bb
  try replace n20 := n20.below bb
  try replace n21 := n21.below bb
  try replace n22 := n22.below bb
  try replace n23 := n23.below bb
  try replace n24 := n24.below bb
  replace bw := below_on bw bb bw.size
  clear bb
  go_wp2_with fail
  refine (rcmp_any _ Aa Ab ca cb _ _ xs ys z na nb rfl rfl (by omega) (by omega) H7.out).mono ?_
  rintro e wn ⟨rfl, bb⟩
  try replace na := na.below bb
  try replace nb := nb.below bb
  try replace nc := nc.below bb
  try replace n1 := n1.below bb
  try replace n2 := n2.below bb
  try replace n3 := n3.below bb
  try replace n4 := n4.below bb
  try replace n5 := n5.below bb
  try replace n6 := n6.below bb
  try replace n7 := n7.below bb
  try replace n8 := n8.below bb
  try replace n9 := n9.below bb
  try replace n10 := n10.below bb
  try replace n11 := n11.below bb
  try replace n12 := n12.below bb
  try replace n13 := n13.below bb
  try replace n14 := n14.below bb
  try replace n15 := n15.below bb
  try replace n16 := n16.below bb
  try replace n17 := n17.below bb
  try replace n18 := n18.below bb
  try replace n19 := n19.below bb
  try replace n20 := n20.below bb
  try replace n21 := n21.below bb
  try replace n22 := n22.below bb
  try replace n23 := n23.below bb
  try replace n24 := n24.below bb
  replace bw := below_on bw bb bw.size
  clear bb
  go_wp2_with fail
  refine (bits_any _ Aa ca _ xs na rfl (by omega)).mono ?_
  rintro e wn ⟨rfl, rfl⟩
  go_wp2_with fail
  refine (rbits_any _ Aa ca _ xs na rfl (by omega)).mono ?_
  rintro e wn ⟨rfl, bb⟩
  try replace na := na.below bb
  try replace nb := nb.below bb
  try replace nc := nc.below bb
  try replace n1 := n1.below bb
  try replace n2 := n2.below bb
  try replace n3 := n3.below bb
  try replace n4 := n4.below bb
  try replace n5 := n5.below bb
  try replace n6 := n6.below bb
  try replace n7 := n7.below bb
  try replace n8 := n8.below bb
  try replace n9 := n9.below bb
  try replace n10 := n10.below bb
  try replace n11 := n11.below bb
  try replace n12 := n12.below bb
  try replace n13 := n13.below bb
  try replace n14 := n14.below bb
  try replace n15 := n15.below bb
  try replace n16 := n16.below bb
  try replace n17 := n17.below bb
  try replace n18 := n18.below bb
  try replace n19 := n19.below bb
  try replace n20 := n20.below bb
  try replace n21 := n21.below bb
  try replace n22 := n22.below bb
  try replace n23 := n23.below bb
  try replace n24 := n24.below bb
  replace bw := below_on bw bb bw.size
  clear bb
  go_wp2_with fail
  refine (make_call wn v hv).mono ?_
  rintro e wn ⟨A15, c15, rfl, m15, bb⟩
  try replace na := na.below bb
  try replace nb := nb.below bb
  try replace nc := nc.below bb
  try replace n1 := n1.below bb
  try replace n2 := n2.below bb
  try replace n3 := n3.below bb
  try replace n4 := n4.below bb
  try replace n5 := n5.below bb
  try replace n6 := n6.below bb
  try replace n7 := n7.below bb
  try replace n8 := n8.below bb
  try replace n9 := n9.below bb
  try replace n10 := n10.below bb
  try replace n11 := n11.below bb
  try replace n12 := n12.below bb
  try replace n13 := n13.below bb
  try replace n14 := n14.below bb
  try replace n15 := n15.below bb
  try replace n16 := n16.below bb
  try replace n17 := n17.below bb
  try replace n18 := n18.below bb
  try replace n19 := n19.below bb
  try replace n20 := n20.below bb
  try replace n21 := n21.below bb
  try replace n22 := n22.below bb
  try replace n23 := n23.below bb
  try replace n24 := n24.below bb
  replace bw := below_on bw bb bw.size
  clear bb
  have n15 := m15
  clear m15
  go_wp2_with fail
  refine (rmake_call wn v hv).mono ?_
  rintro e wn ⟨A16, c16, rfl, g16, bb⟩
  have m16 := g16.nt (lim_u32 _)
  clear g16
  try replace na := na.below bb
  try replace nb := nb.below bb
  try replace nc := nc.below bb
  try replace n1 := n1.below bb
  try replace n2 := n2.below bb
  try replace n3 := n3.below bb
  try replace n4 := n4.below bb
  try replace n5 := n5.below bb
  try replace n6 := n6.below bb
  try replace n7 := n7.below bb
  try replace n8 := n8.below bb
  try replace n9 := n9.below bb
  try replace n10 := n10.below bb
  try replace n11 := n11.below bb
  try replace n12 := n12.below bb
  try replace n13 := n13.below bb
  try replace n14 := n14.below bb
  try replace n15 := n15.below bb
  try replace n16 := n16.below bb
  try replace n17 := n17.below bb
  try replace n18 := n18.below bb
  try replace n19 := n19.below bb
  try replace n20 := n20.below bb
  try replace n21 := n21.below bb
  try replace n22 := n22.below bb
  try replace n23 := n23.below bb
  try replace n24 := n24.below bb
  replace bw := below_on bw bb bw.size
  clear bb
  have n16 := m16
  clear m16
  go_wp2_with fail
  refine (same_any _ A15 A16 c15 c16 _ _ (lim v) (lim v) true n15 n16 rfl rfl (decide_eq_true rfl)).mono ?_
  rintro e wn ⟨rfl, qq⟩
  have bb := qq.keep
  clear qq
  try replace na := na.below bb
  try replace nb := nb.below bb
  try replace nc := nc.below bb
  try replace n1 := n1.below bb
  try replace n2 := n2.below bb
  try replace n3 := n3.below bb
  try replace n4 := n4.below bb
  try replace n5 := n5.below bb
  try replace n6 := n6.below bb
  try replace n7 := n7.below bb
  try replace n8 := n8.below bb
  try replace n9 := n9.below bb
  try replace n10 := n10.below bb
  try replace n11 := n11.below bb
  try replace n12 := n12.below bb
  try replace n13 := n13.below bb
  try replace n14 := n14.below bb
  try replace n15 := n15.below bb
  try replace n16 := n16.below bb
  try replace n17 := n17.below bb
  try replace n18 := n18.below bb
  try replace n19 := n19.below bb
  try replace n20 := n20.below bb
  try replace n21 := n21.below bb
  try replace n22 := n22.below bb
  try replace n23 := n23.below bb
  try replace n24 := n24.below bb
  replace bw := below_on bw bb bw.size
  clear bb
  go_wp2_with fail
  clear n15 n16
  refine (trim_any wn Aa ca _ xs na rfl (by omega)).mono ?_
  rintro e wn ⟨A17, c17, rfl, g17, bb⟩
  have m17 := g17.nt (lim_u32 _)
  clear g17
  try replace na := na.below bb
  try replace nb := nb.below bb
  try replace nc := nc.below bb
  try replace n1 := n1.below bb
  try replace n2 := n2.below bb
  try replace n3 := n3.below bb
  try replace n4 := n4.below bb
  try replace n5 := n5.below bb
  try replace n6 := n6.below bb
  try replace n7 := n7.below bb
  try replace n8 := n8.below bb
  try replace n9 := n9.below bb
  try replace n10 := n10.below bb
  try replace n11 := n11.below bb
  try replace n12 := n12.below bb
  try replace n13 := n13.below bb
  try replace n14 := n14.below bb
  try replace n15 := n15.below bb
  try replace n16 := n16.below bb
  try replace n17 := n17.below bb
  try replace n18 := n18.below bb
  try replace n19 := n19.below bb
  try replace n20 := n20.below bb
  try replace n21 := n21.below bb
  try replace n22 := n22.below bb
  try replace n23 := n23.below bb
  try replace n24 := n24.below bb
  replace bw := below_on bw bb bw.size
  clear bb
  have n17 := m17
  clear m17
  go_wp2_with fail
  refine (rtrim_any wn Aa ca _ xs na rfl (by omega)).mono ?_
  rintro e wn ⟨A18, c18, rfl, g18, bb⟩
  have m18 := g18.nt (lim_u32 _)
  clear g18
  try replace na := na.below bb
  try replace nb := nb.below bb
  try replace nc := nc.below bb
  try replace n1 := n1.below bb
  try replace n2 := n2.below bb
  try replace n3 := n3.below bb
  try replace n4 := n4.below bb
  try replace n5 := n5.below bb
  try replace n6 := n6.below bb
  try replace n7 := n7.below bb
  try replace n8 := n8.below bb
  try replace n9 := n9.below bb
  try replace n10 := n10.below bb
  try replace n11 := n11.below bb
  try replace n12 := n12.below bb
  try replace n13 := n13.below bb
  try replace n14 := n14.below bb
  try replace n15 := n15.below bb
  try replace n16 := n16.below bb
  try replace n17 := n17.below bb
  try replace n18 := n18.below bb
  try replace n19 := n19.below bb
  try replace n20 := n20.below bb
  try replace n21 := n21.below bb
  try replace n22 := n22.below bb
  try replace n23 := n23.below bb
  try replace n24 := n24.below bb
  replace bw := below_on bw bb bw.size
  clear bb
  have n18 := m18
  clear m18
  go_wp2_with fail
  refine (same_any _ A17 A18 c17 c18 _ _ (lim (nv xs)) (lim (nv xs)) true n17 n18 rfl rfl (decide_eq_true rfl)).mono ?_
  rintro e wn ⟨rfl, qq⟩
  have bb := qq.keep
  clear qq
  try replace na := na.below bb
  try replace nb := nb.below bb
  try replace nc := nc.below bb
  try replace n1 := n1.below bb
  try replace n2 := n2.below bb
  try replace n3 := n3.below bb
  try replace n4 := n4.below bb
  try replace n5 := n5.below bb
  try replace n6 := n6.below bb
  try replace n7 := n7.below bb
  try replace n8 := n8.below bb
  try replace n9 := n9.below bb
  try replace n10 := n10.below bb
  try replace n11 := n11.below bb
  try replace n12 := n12.below bb
  try replace n13 := n13.below bb
  try replace n14 := n14.below bb
  try replace n15 := n15.below bb
  try replace n16 := n16.below bb
  try replace n17 := n17.below bb
  try replace n18 := n18.below bb
  try replace n19 := n19.below bb
  try replace n20 := n20.below bb
  try replace n21 := n21.below bb
  try replace n22 := n22.below bb
  try replace n23 := n23.below bb
  try replace n24 := n24.below bb
  replace bw := below_on bw bb bw.size
  clear bb
  go_wp2_with fail
  refine (awake_any _).mono ?_
  rintro e wn ⟨rfl, bb⟩
  replace bw := below_on bw bb bw.size
  go_wp2_with fail
  go_ret
  exact ⟨rfl, bw⟩

theorem exact_walk (w : World) (A : Option Addr) (a : Nat) (xs : List Nat) (B : Option Addr) (b : Nat) (ys : List Nat) (v n : Int) (hA : Nt w A a xs) (hB : Nt w B b ys) (hv : (Lit.int .u64 v).wf = true) (_hn : (Lit.int .i64 n).wf = true) :
    Calls Try.prog 10 #[.slice A xs.length a, .slice B ys.length b, .int .u64 v, .int .i64 n] w fun e w' => e = .returned (.bool true) ∧ Below w.heap.size w w' := by
  have hv2 : 0 ≤ v ∧ v < 18446744073709551616 := by simp [Lit.wf, IntKind.min, IntKind.max, IntKind.signed, IntKind.bits] at hv; omega
  by_cases h : 60 < xs.length ∨ 60 < ys.length
  · exact exact_long w A B a b xs ys v n hA hB h
  · obtain ⟨v', rfl⟩ := Int.eq_ofNat_of_zero_le hv2.1
    exact exact_short w A B a b xs ys v' n hA hB (by omega) (by omega) (Lib.hid (by omega))
end Go.Proofs.Ytcenpboflecbcaa
