/- NaturalLimits, the walk: a number of MaxLimbs limbs is allowed as an argument and as a result, a greater one is not, zero limbs at the end do not count. -/
import Derived.Test.YtcenpboflecbcaaLawA
import Derived.Test.YtcenpboflecbcaaRefJ
namespace Go.Proofs.Ytcenpboflecbcaa
open Go.RowKit

theorem ones_any (w : World) (n k : Nat) (nI kI : Int) (hn : nI = n) (hk : kI = k) (hl : n ≤ 1000) (hl2 : k ≤ 1000) :
    Calls Try.prog 39 #[.int .i64 nI, .int .i64 kI] w fun e w' => ∃ A c, e = .returned (.slice A (n + k) c) ∧ Gr lmv 43 w' w.heap.size A c (List.replicate n 4294967295 ++ List.replicate k 0) ∧ Below w.heap.size w w' := by
  subst hn hk
  obtain ⟨i0, hi, hz0, hz1, hz2⟩ := info_parts u32_info
  go_enter Try.func39, Try.ntmps39
  go_wp2_with fail
  go_loopw [5, 6] (fun o i wr => ∃ (j : Nat) (AO : Option Addr) (cO : Nat), j ≤ n ∧ i = .int .i64 j ∧ o = .slice AO j cO ∧ Gr lmv 43 wr w.heap.size AO cO (List.replicate j 4294967295) ∧ Below w.heap.size w wr) (fun _ i _ => n - (intOf i).toNat)
  case atStart => exact ⟨0, none, 0, by omega, rfl, rfl, Gr.nil _ _, Below.refl _ _⟩
  case round =>
    obtain ⟨j, AO, cO, hj, rfl, rfl, hgr, hbr⟩ := hrel
    by_cases hlt : j < n
    · have HLN : Hid (j = (List.replicate j 4294967295).length) := Lib.hid (by simp)
      go_wp2_with (at_builtin; refine wpList_append_rd _ (mk := lmv) (fun _ => rfl) rfl _ _ 25 rfl 43 i0 (.int .u32 0) 4 Try.underlying25 hi hz0 hz1 hz2 rfl (B := w.heap.size) (xs := (List.replicate j 4294967295)) rfl HLN.out (hgr.below ((Below.refl _ wr).alloc (Nat.le_refl _) _)) _ 1 1 [4294967295] rfl rfl (Rd.one_ wr _ _ _ rfl) (by simp only [maxLen]; omega) (by omega) (by have := hbr.size; simp; omega) ?_; intro A' c' w3 hgA hgrA hbA hatA)
      go_roundw
      case rel => exact ⟨j + 1, A', c', by omega, by go_num, rfl, by rw [List.replicate_succ']; exact hgA, (hbr.alloc hbr.size _).trans hbA⟩
      case measure => simp [intOf]; omega
    · obtain rfl : n = j := by omega
      clear hlt
      go_wp2_with fail
      go_loopw [5, 7] (fun o i wr => ∃ (j : Nat) (AO : Option Addr) (cO : Nat), j ≤ k ∧ i = .int .i64 j ∧ o = .slice AO (n + j) cO ∧ Gr lmv 43 wr w.heap.size AO cO (List.replicate n 4294967295 ++ List.replicate j 0) ∧ Below w.heap.size w wr) (fun _ i _ => k - (intOf i).toNat)
      case atStart => exact ⟨0, AO, cO, by omega, rfl, rfl, by simpa using hgr, hbr⟩
      case round =>
        obtain ⟨j, AO, cO, hj, rfl, rfl, hgr, hbr⟩ := hrel
        by_cases hlt : j < k
        · have HLN : Hid (n + j = (List.replicate n 4294967295 ++ List.replicate j 0).length) := Lib.hid (by simp)
          go_wp2_with (at_builtin; refine wpList_append_rd _ (mk := lmv) (fun _ => rfl) rfl _ _ 25 rfl 43 i0 (.int .u32 0) 4 Try.underlying25 hi hz0 hz1 hz2 rfl (B := w.heap.size) (xs := (List.replicate n 4294967295 ++ List.replicate j 0)) rfl HLN.out (hgr.below ((Below.refl _ wr).alloc (Nat.le_refl _) _)) _ 1 1 [0] rfl rfl (Rd.one_ wr _ _ _ rfl) (by simp only [maxLen]; omega) (by omega) (by have := hbr.size; simp; omega) ?_; intro A' c' w3 hgA hgrA hbA hatA)
          go_roundw
          case rel => exact ⟨j + 1, A', c', by omega, by go_num, rfl, by rw [List.replicate_succ', ← List.append_assoc]; exact hgA, (hbr.alloc hbr.size _).trans hbA⟩
          case measure => simp [intOf]; omega
        · obtain rfl : k = j := by omega
          clear hlt
          go_wp2_with fail
          go_ret
          exact ⟨AO, cO, rfl, hgr, hbr⟩
/-- n limbs of ones and k zeros -/
def ones2 (n k : Nat) : List Nat := List.replicate n 4294967295 ++ List.replicate k 0
theorem ones2_len (n k : Nat) : (ones2 n k).length = n + k := by simp [ones2]
theorem ones2_u32 (n k : Nat) : U32 (ones2 n k) := U32.append (xs := List.replicate n 4294967295) (fun y hy => by have := List.eq_of_mem_replicate hy; omega) (U32.replicate _)
theorem ones2_lim (n k : Nat) : lim (nv (ones2 n k)) = List.replicate n 4294967295 := by
  have hv : nv (ones2 n k) = nv (List.replicate n 4294967295) := by rw [ones2, nv_append, nv_replicate]; simp
  rw [hv]
  apply lim_of (fun y hy => by have := List.eq_of_mem_replicate hy; omega)
  intro j hj
  simp
theorem bits2_max : bits2 4294967295 = 32 := by
  apply Nat.le_antisymm
  · rw [bits2_le]; omega
  · have : ¬ bits2 4294967295 ≤ 31 := by rw [bits2_le]; omega
    omega
theorem ones2_bits (n k : Nat) (h : 0 < n) : bits2 (nv (ones2 n k)) = 32 * n := by
  have hl : (lim (nv (ones2 n k))).length = n := by rw [ones2_lim]; simp
  have hb := bits2_top (lim_u32 (nv (ones2 n k))) (n - 1) (by omega) (lim_last _ _ (by omega))
  rw [nv_lim] at hb
  have ht : (lim (nv (ones2 n k)))[n - 1]'(by omega) = 4294967295 := by simp only [ones2_lim]; simp
  rw [hb, ht, bits2_max]
  omega
theorem ones_call (w : World) (n k : Nat) (nI kI : Int) (hn : nI = n) (hk : kI = k) (hl : n ≤ 1000) (hl2 : k ≤ 1000) :
    Calls Try.prog 39 #[.int .i64 nI, .int .i64 kI] w fun e w' => ∃ A c, e = .returned (.slice A (ones2 n k).length c) ∧ Nt w' A c (ones2 n k) ∧ Below w.heap.size w w' := by
  refine (ones_any w n k nI kI hn hk hl hl2).mono ?_
  rintro e w' ⟨A, c, rfl, g, b⟩
  exact ⟨A, c, by rw [ones2_len], g.nt (ones2_u32 n k), b⟩

set_option maxRecDepth 100000 in
set_option maxHeartbeats 4000000 in
theorem limits_case (w : World) (n m z : Nat) (hn : n ≤ 255) (hm : m ≤ 255) (hz : z ≤ 255) :
    Calls Try.prog 11 #[.int .u8 (n : Int), .int .u8 (m : Int), .int .u8 (z : Int)] w fun e w' => e = .returned (.bool true) ∧ Below w.heap.size w w' := by
  obtain ⟨P, hP⟩ : ∃ P, P = n % 4 := ⟨_, rfl⟩
  obtain ⟨Z, hZ⟩ : ∃ Z, Z = z % 3 := ⟨_, rfl⟩
  obtain ⟨J, hJ⟩ : ∃ J, J = m % 3 := ⟨_, rfl⟩
  obtain ⟨Sh, hS⟩ : ∃ S, S = m % 40 := ⟨_, rfl⟩
  have eP : (n : Int) % 4 = (P : Int) := by omega
  have eZ : (z : Int) % 3 = (Z : Int) := by omega
  have eJ : (m : Int) % 3 = (J : Int) := by omega
  have eS : (m : Int) % 40 = (Sh : Int) := by omega
  have lP : P ≤ 3 := by omega
  have lZ : Z ≤ 2 := by omega
  have lJ : J ≤ 2 := by omega
  have HO1 := Lib.hid (fun w => ones_call w (510 + P) Z (510 + (P : Int)) (Z : Int) (by omega) rfl (by omega) (by omega))
  have HO2 := Lib.hid (fun w => ones_call w J 1 (J : Int) 1 rfl rfl (by omega) (by omega))
  have hl1 : (lim (nv (ones2 (510 + P) Z))).length = 510 + P := by rw [ones2_lim]; simp
  have hbt := ones2_bits (510 + P) Z (by omega)
  have hxl := ones2_len (510 + P) Z
  have hyl := ones2_len J 1
  obtain ⟨xs, hxs⟩ : ∃ xs, xs = ones2 (510 + P) Z := ⟨_, rfl⟩
  obtain ⟨ys, hys⟩ : ∃ ys, ys = ones2 J 1 := ⟨_, rfl⟩
  rw [← hxs] at HO1 hl1 hbt hxl
  rw [← hys] at HO2 hyl
  have hbits : ((bits2 (nv xs) : Int) == 32 * ((lim (nv xs)).length : Int)) = true := by rw [hl1, hbt]; simp
  have hb2 : bits2 (nv xs) ≤ 32 * 513 := by omega
  have hl2 : (lim (nv xs)).length ≤ 513 := by omega
  have hl3 : (lim (nv ys)).length ≤ 3 ∨ True := .inr trivial
  have hx2 : xs.length ≤ 515 := by omega
  have hy2 : ys.length ≤ 3 := by omega
  obtain ⟨⟨R1, E1⟩, hR1⟩ : ∃ p, addS (nv xs) (nv ys) = p := ⟨_, rfl⟩
  obtain ⟨⟨R2, E2⟩, hR2⟩ : ∃ p, subS (nv ys) (nv xs) = p := ⟨_, rfl⟩
  obtain ⟨⟨R3, E3⟩, hR3⟩ : ∃ p, mulS (nv xs) (nv ys) = p := ⟨_, rfl⟩
  obtain ⟨⟨Q4, R4, E4⟩, hR4⟩ : ∃ p, divS (nv xs) (nv ys) = p := ⟨_, rfl⟩
  obtain ⟨⟨R5, E5⟩, hR5⟩ : ∃ p, gcdS (nv ys) (nv xs) = p := ⟨_, rfl⟩
  obtain ⟨⟨R6, E6⟩, hR6⟩ : ∃ p, shiftS (nv xs) (Sh : Int) = p := ⟨_, rfl⟩
  have H1 := Lib.hid hR1
  have H2 := Lib.hid hR2
  have H3 := Lib.hid hR3
  have H4 := Lib.hid hR4
  have H5 := Lib.hid hR5
  have H6 := Lib.hid hR6
  have hf := fun w A c n h hn => format_any w A c n xs h hn
  have HL := Lib.hid hl1
  clear hR1 hR2 hR3 hR4 hR5 hR6 hxs hys hl1 hbt hxl hyl hP hZ hJ hS
  by_cases hbig : 512 < (lim (nv xs)).length
  · rw [fmtS, if_pos hbig] at hf
    have HF := Lib.hid hf
    have hbig1 : decide ((512 : Int) < ((lim (nv xs)).length : Int)) = true := decide_eq_true (by omega)
    clear hf
    skip
    go_enter Try.func11, Try.ntmps11
    go_wp2_with fail
    refine (HO1.out w).mono ?_
    rintro e wn ⟨Aa, ca, rfl, na, bb⟩
    have bw := bb
    clear bb
    go_wp2_with fail
    refine (HO2.out wn).mono ?_
    rintro e wn ⟨Ab, cb, rfl, nb, bb⟩
    try replace na := na.below bb
    try replace nb := nb.below bb
    try replace nc := nc.below bb
    try replace n1 := n1.below bb
    try replace n2 := n2.below bb
    try replace n3 := n3.below bb
    try replace n4 := n4.below bb
    try replace n5 := n5.below bb
    try replace n6 := n6.below bb
    try replace n7 := n7.below bb
    try replace n8 := n8.below bb
    try replace n9 := n9.below bb
    try replace n10 := n10.below bb
    try replace n11 := n11.below bb
    try replace n12 := n12.below bb
    try replace n13 := n13.below bb
    try replace n14 := n14.below bb
    try replace n15 := n15.below bb
    try replace n16 := n16.below bb
    try replace n17 := n17.below bb
    try replace n18 := n18.below bb
    try replace n19 := n19.below bb
    try replace n20 := n20.below bb
    try replace n21 := n21.below bb
    try replace n22 := n22.below bb
    try replace n23 := n23.below bb
    try replace n24 := n24.below bb
    replace bw := below_on bw bb bw.size
    clear bb
    go_wp2_with fail
    refine (add_any _ Aa Ab ca cb _ _ xs ys R1 E1 na nb rfl rfl H1.out).mono ?_
    rintro e wn ⟨A1, c1, rfl, m1, bb⟩
    try replace na := na.below bb
    try replace nb := nb.below bb
    try replace nc := nc.below bb
    try replace n1 := n1.below bb
    try replace n2 := n2.below bb
    try replace n3 := n3.below bb
    try replace n4 := n4.below bb
    try replace n5 := n5.below bb
    try replace n6 := n6.below bb
    try replace n7 := n7.below bb
    try replace n8 := n8.below bb
    try replace n9 := n9.below bb
    try replace n10 := n10.below bb
    try replace n11 := n11.below bb
    try replace n12 := n12.below bb
    try replace n13 := n13.below bb
    try replace n14 := n14.below bb
    try replace n15 := n15.below bb
    try replace n16 := n16.below bb
    try replace n17 := n17.below bb
    try replace n18 := n18.below bb
    try replace n19 := n19.below bb
    try replace n20 := n20.below bb
    try replace n21 := n21.below bb
    try replace n22 := n22.below bb
    try replace n23 := n23.below bb
    try replace n24 := n24.below bb
    replace bw := below_on bw bb bw.size
    clear bb
    have n1 := m1
    clear m1
    go_wp2_with fail
    refine (radd_any _ Aa Ab ca cb _ _ xs ys R1 E1 na nb rfl rfl (by omega) (by omega) H1.out).mono ?_
    rintro e wn ⟨A2, c2, rfl, m2, bb⟩
    try replace na := na.below bb
    try replace nb := nb.below bb
    try replace nc := nc.below bb
    try replace n1 := n1.below bb
    try replace n2 := n2.below bb
    try replace n3 := n3.below bb
    try replace n4 := n4.below bb
    try replace n5 := n5.below bb
    try replace n6 := n6.below bb
    try replace n7 := n7.below bb
    try replace n8 := n8.below bb
    try replace n9 := n9.below bb
    try replace n10 := n10.below bb
    try replace n11 := n11.below bb
    try replace n12 := n12.below bb
    try replace n13 := n13.below bb
    try replace n14 := n14.below bb
    try replace n15 := n15.below bb
    try replace n16 := n16.below bb
    try replace n17 := n17.below bb
    try replace n18 := n18.below bb
    try replace n19 := n19.below bb
    try replace n20 := n20.below bb
    try replace n21 := n21.below bb
    try replace n22 := n22.below bb
    try replace n23 := n23.below bb
    try replace n24 := n24.below bb
    replace bw := below_on bw bb bw.size
    clear bb
    have n2 := m2
    clear m2
    go_wp2_with fail
    refine (mul_any _ Aa Ab ca cb _ _ xs ys R3 E3 na nb rfl rfl H3.out).mono ?_
    rintro e wn ⟨A3, c3, rfl, m3, bb⟩
    try replace na := na.below bb
    try replace nb := nb.below bb
    try replace nc := nc.below bb
    try replace n1 := n1.below bb
    try replace n2 := n2.below bb
    try replace n3 := n3.below bb
    try replace n4 := n4.below bb
    try replace n5 := n5.below bb
    try replace n6 := n6.below bb
    try replace n7 := n7.below bb
    try replace n8 := n8.below bb
    try replace n9 := n9.below bb
    try replace n10 := n10.below bb
    try replace n11 := n11.below bb
    try replace n12 := n12.below bb
    try replace n13 := n13.below bb
    try replace n14 := n14.below bb
    try replace n15 := n15.below bb
    try replace n16 := n16.below bb
    try replace n17 := n17.below bb
    try replace n18 := n18.below bb
    try replace n19 := n19.below bb
    try replace n20 := n20.below bb
    try replace n21 := n21.below bb
    try replace n22 := n22.below bb
    try replace n23 := n23.below bb
    try replace n24 := n24.below bb
    replace bw := below_on bw bb bw.size
    clear bb
    have n3 := m3
    clear m3
    go_wp2_with fail
    refine (rmul_any _ Aa Ab ca cb _ _ xs ys R3 E3 na nb rfl rfl (by omega) (by omega) H3.out).mono ?_
    rintro e wn ⟨A4, c4, rfl, m4, bb⟩
    try replace na := na.below bb
    try replace nb := nb.below bb
    try replace nc := nc.below bb
    try replace n1 := n1.below bb
    try replace n2 := n2.below bb
    try replace n3 := n3.below bb
    try replace n4 := n4.below bb
    try replace n5 := n5.below bb
    try replace n6 := n6.below bb
    try replace n7 := n7.below bb
    try replace n8 := n8.below bb
    try replace n9 := n9.below bb
    try replace n10 := n10.below bb
    try replace n11 := n11.below bb
    try replace n12 := n12.below bb
    try replace n13 := n13.below bb
    try replace n14 := n14.below bb
    try replace n15 := n15.below bb
    try replace n16 := n16.below bb
    try replace n17 := n17.below bb
    try replace n18 := n18.below bb
    try replace n19 := n19.below bb
    try replace n20 := n20.below bb
    try replace n21 := n21.below bb
    try replace n22 := n22.below bb
    try replace n23 := n23.below bb
    try replace n24 := n24.below bb
    replace bw := below_on bw bb bw.size
    clear bb
    have n4 := m4
    clear m4
    go_wp2_with fail
    refine (sub_any _ Ab Aa cb ca _ _ ys xs R2 E2 nb na rfl rfl H2.out).mono ?_
    rintro e wn ⟨A5, c5, rfl, m5, bb⟩
    try replace na := na.below bb
    try replace nb := nb.below bb
    try replace nc := nc.below bb
    try replace n1 := n1.below bb
    try replace n2 := n2.below bb
    try replace n3 := n3.below bb
    try replace n4 := n4.below bb
    try replace n5 := n5.below bb
    try replace n6 := n6.below bb
    try replace n7 := n7.below bb
    try replace n8 := n8.below bb
    try replace n9 := n9.below bb
    try replace n10 := n10.below bb
    try replace n11 := n11.below bb
    try replace n12 := n12.below bb
    try replace n13 := n13.below bb
    try replace n14 := n14.below bb
    try replace n15 := n15.below bb
    try replace n16 := n16.below bb
    try replace n17 := n17.below bb
    try replace n18 := n18.below bb
    try replace n19 := n19.below bb
    try replace n20 := n20.below bb
    try replace n21 := n21.below bb
    try replace n22 := n22.below bb
    try replace n23 := n23.below bb
    try replace n24 := n24.below bb
    replace bw := below_on bw bb bw.size
    clear bb
    have n5 := m5
    clear m5
    go_wp2_with fail
    refine (rsub_any _ Ab Aa cb ca _ _ ys xs R2 E2 nb na rfl rfl (by omega) (by omega) H2.out).mono ?_
    rintro e wn ⟨A6, c6, rfl, m6, bb⟩
    try replace na := na.below bb
    try replace nb := nb.below bb
    try replace nc := nc.below bb
    try replace n1 := n1.below bb
    try replace n2 := n2.below bb
    try replace n3 := n3.below bb
    try replace n4 := n4.below bb
    try replace n5 := n5.below bb
    try replace n6 := n6.below bb
    try replace n7 := n7.below bb
    try replace n8 := n8.below bb
    try replace n9 := n9.below bb
    try replace n10 := n10.below bb
    try replace n11 := n11.below bb
    try replace n12 := n12.below bb
    try replace n13 := n13.below bb
    try replace n14 := n14.below bb
    try replace n15 := n15.below bb
    try replace n16 := n16.below bb
    try replace n17 := n17.below bb
    try replace n18 := n18.below bb
    try replace n19 := n19.below bb
    try replace n20 := n20.below bb
    try replace n21 := n21.below bb
    try replace n22 := n22.below bb
    try replace n23 := n23.below bb
    try replace n24 := n24.below bb
    replace bw := below_on bw bb bw.size
    clear bb
    have n6 := m6
    clear m6
    go_wp2_with fail
    refine (div_any _ Aa Ab ca cb _ _ xs ys Q4 R4 E4 na nb rfl rfl H4.out).mono ?_
    rintro e wn ⟨A7, c7, A8, c8, rfl, m7, m8, bb⟩
    try replace na := na.below bb
    try replace nb := nb.below bb
    try replace nc := nc.below bb
    try replace n1 := n1.below bb
    try replace n2 := n2.below bb
    try replace n3 := n3.below bb
    try replace n4 := n4.below bb
    try replace n5 := n5.below bb
    try replace n6 := n6.below bb
    try replace n7 := n7.below bb
    try replace n8 := n8.below bb
    try replace n9 := n9.below bb
    try replace n10 := n10.below bb
    try replace n11 := n11.below bb
    try replace n12 := n12.below bb
    try replace n13 := n13.below bb
    try replace n14 := n14.below bb
    try replace n15 := n15.below bb
    try replace n16 := n16.below bb
    try replace n17 := n17.below bb
    try replace n18 := n18.below bb
    try replace n19 := n19.below bb
    try replace n20 := n20.below bb
    try replace n21 := n21.below bb
    try replace n22 := n22.below bb
    try replace n23 := n23.below bb
    try replace n24 := n24.below bb
    replace bw := below_on bw bb bw.size
    clear bb
    have n7 := m7
    have n8 := m8
    clear m7 m8
    go_wp2_with fail
    refine (rdiv_any _ Aa Ab ca cb _ _ xs ys Q4 R4 E4 na nb rfl rfl (by omega) (by omega) H4.out).mono ?_
    rintro e wn ⟨A9, c9, A10, c10, rfl, m9, m10, bb⟩
    try replace na := na.below bb
    try replace nb := nb.below bb
    try replace nc := nc.below bb
    try replace n1 := n1.below bb
    try replace n2 := n2.below bb
    try replace n3 := n3.below bb
    try replace n4 := n4.below bb
    try replace n5 := n5.below bb
    try replace n6 := n6.below bb
    try replace n7 := n7.below bb
    try replace n8 := n8.below bb
    try replace n9 := n9.below bb
    try replace n10 := n10.below bb
    try replace n11 := n11.below bb
    try replace n12 := n12.below bb
    try replace n13 := n13.below bb
    try replace n14 := n14.below bb
    try replace n15 := n15.below bb
    try replace n16 := n16.below bb
    try replace n17 := n17.below bb
    try replace n18 := n18.below bb
    try replace n19 := n19.below bb
    try replace n20 := n20.below bb
    try replace n21 := n21.below bb
    try replace n22 := n22.below bb
    try replace n23 := n23.below bb
    try replace n24 := n24.below bb
    replace bw := below_on bw bb bw.size
    clear bb
    have n9 := m9
    have n10 := m10
    clear m9 m10
    go_wp2_with fail
    clear n7 n8 n9 n10
    refine (gcd_any _ Ab Aa cb ca _ _ ys xs R5 E5 nb na rfl rfl H5.out).mono ?_
    rintro e wn ⟨A11, c11, rfl, m11, bb⟩
    try replace na := na.below bb
    try replace nb := nb.below bb
    try replace nc := nc.below bb
    try replace n1 := n1.below bb
    try replace n2 := n2.below bb
    try replace n3 := n3.below bb
    try replace n4 := n4.below bb
    try replace n5 := n5.below bb
    try replace n6 := n6.below bb
    try replace n7 := n7.below bb
    try replace n8 := n8.below bb
    try replace n9 := n9.below bb
    try replace n10 := n10.below bb
    try replace n11 := n11.below bb
    try replace n12 := n12.below bb
    try replace n13 := n13.below bb
    try replace n14 := n14.below bb
    try replace n15 := n15.below bb
    try replace n16 := n16.below bb
    try replace n17 := n17.below bb
    try replace n18 := n18.below bb
    try replace n19 := n19.below bb
    try replace n20 := n20.below bb
    try replace n21 := n21.below bb
    try replace n22 := n22.below bb
    try replace n23 := n23.below bb
    try replace n24 := n24.below bb
    replace bw := below_on bw bb bw.size
    clear bb
    have n11 := m11
    clear m11
    go_wp2_with fail
    refine (rgcd_any _ Ab Aa cb ca _ _ ys xs R5 E5 nb na rfl rfl (by omega) (by omega) H5.out).mono ?_
    rintro e wn ⟨A12, c12, rfl, m12, bb⟩
    try replace na := na.below bb
    try replace nb := nb.below bb
    try replace nc := nc.below bb
    try replace n1 := n1.below bb
    try replace n2 := n2.below bb
    try replace n3 := n3.below bb
    try replace n4 := n4.below bb
    try replace n5 := n5.below bb
    try replace n6 := n6.below bb
    try replace n7 := n7.below bb
    try replace n8 := n8.below bb
    try replace n9 := n9.below bb
    try replace n10 := n10.below bb
    try replace n11 := n11.below bb
    try replace n12 := n12.below bb
    try replace n13 := n13.below bb
    try replace n14 := n14.below bb
    try replace n15 := n15.below bb
    try replace n16 := n16.below bb
    try replace n17 := n17.below bb
    try replace n18 := n18.below bb
    try replace n19 := n19.below bb
    try replace n20 := n20.below bb
    try replace n21 := n21.below bb
    try replace n22 := n22.below bb
    try replace n23 := n23.below bb
    try replace n24 := n24.below bb
    replace bw := below_on bw bb bw.size
    clear bb
    have n12 := m12
    clear m12
    go_wp2_with fail
    clear n11 n12
    refine (HF.out wn Aa ca _ na rfl).mono ?_
    rintro e wn ⟨rfl, bb⟩
    try replace na := na.below bb
    try replace nb := nb.below bb
    try replace nc := nc.below bb
    try replace n1 := n1.below bb
    try replace n2 := n2.below bb
    try replace n3 := n3.below bb
    try replace n4 := n4.below bb
    try replace n5 := n5.below bb
    try replace n6 := n6.below bb
    try replace n7 := n7.below bb
    try replace n8 := n8.below bb
    try replace n9 := n9.below bb
    try replace n10 := n10.below bb
    try replace n11 := n11.below bb
    try replace n12 := n12.below bb
    try replace n13 := n13.below bb
    try replace n14 := n14.below bb
    try replace n15 := n15.below bb
    try replace n16 := n16.below bb
    try replace n17 := n17.below bb
    try replace n18 := n18.below bb
    try replace n19 := n19.below bb
    try replace n20 := n20.below bb
    try replace n21 := n21.below bb
    try replace n22 := n22.below bb
    try replace n23 := n23.below bb
    try replace n24 := n24.below bb
    replace bw := below_on bw bb bw.size
    clear bb
    go_wp2_with fail
    refine (rtrim_any wn Aa ca _ xs na rfl (by omega)).mono ?_
    rintro e wn ⟨A13, c13, rfl, g13, bb⟩
    have m13 := g13.nt (lim_u32 _)
    clear g13
    try replace na := na.below bb
    try replace nb := nb.below bb
    try replace nc := nc.below bb
    try replace n1 := n1.below bb
    try replace n2 := n2.below bb
    try replace n3 := n3.below bb
    try replace n4 := n4.below bb
    try replace n5 := n5.below bb
    try replace n6 := n6.below bb
    try replace n7 := n7.below bb
    try replace n8 := n8.below bb
    try replace n9 := n9.below bb
    try replace n10 := n10.below bb
    try replace n11 := n11.below bb
    try replace n12 := n12.below bb
    try replace n13 := n13.below bb
    try replace n14 := n14.below bb
    try replace n15 := n15.below bb
    try replace n16 := n16.below bb
    try replace n17 := n17.below bb
    try replace n18 := n18.below bb
    try replace n19 := n19.below bb
    try replace n20 := n20.below bb
    try replace n21 := n21.below bb
    try replace n22 := n22.below bb
    try replace n23 := n23.below bb
    try replace n24 := n24.below bb
    replace bw := below_on bw bb bw.size
    clear bb
    have n13 := m13
    clear m13
    go_wp2_with fail
    clear n13
    refine (shift_any _ Aa ca _ (Sh : Int) xs R6 E6 na rfl H6.out).mono ?_
    rintro e wn ⟨A14, c14, rfl, m14, bb⟩
    try replace na := na.below bb
    try replace nb := nb.below bb
    try replace nc := nc.below bb
    try replace n1 := n1.below bb
    try replace n2 := n2.below bb
    try replace n3 := n3.below bb
    try replace n4 := n4.below bb
    try replace n5 := n5.below bb
    try replace n6 := n6.below bb
    try replace n7 := n7.below bb
    try replace n8 := n8.below bb
    try replace n9 := n9.below bb
    try replace n10 := n10.below bb
    try replace n11 := n11.below bb
    try replace n12 := n12.below bb
    try replace n13 := n13.below bb
    try replace n14 := n14.below bb
    try replace n15 := n15.below bb
    try replace n16 := n16.below bb
    try replace n17 := n17.below bb
    try replace n18 := n18.below bb
    try replace n19 := n19.below bb
    try replace n20 := n20.below bb
    try replace n21 := n21.below bb
    try replace n22 := n22.below bb
    try replace n23 := n23.below bb
    try replace n24 := n24.below bb
    replace bw := below_on bw bb bw.size
    clear bb
    have n14 := m14
    clear m14
    go_wp2_with fail
    refine (rshift_any _ Aa ca _ (Sh : Int) xs R6 E6 na rfl (by omega) H6.out).mono ?_
    rintro e wn ⟨A15, c15, rfl, m15, bb⟩
    try replace na := na.below bb
    try replace nb := nb.below bb
    try replace nc := nc.below bb
    try replace n1 := n1.below bb
    try replace n2 := n2.below bb
    try replace n3 := n3.below bb
    try replace n4 := n4.below bb
    try replace n5 := n5.below bb
    try replace n6 := n6.below bb
    try replace n7 := n7.below bb
    try replace n8 := n8.below bb
    try replace n9 := n9.below bb
    try replace n10 := n10.below bb
    try replace n11 := n11.below bb
    try replace n12 := n12.below bb
    try replace n13 := n13.below bb
    try replace n14 := n14.below bb
    try replace n15 := n15.below bb
    try replace n16 := n16.below bb
    try replace n17 := n17.below bb
    try replace n18 := n18.below bb
    try replace n19 := n19.below bb
    try replace n20 := n20.below bb
    try replace n21 := n21.below bb
    try replace n22 := n22.below bb
    try replace n23 := n23.below bb
    try replace n24 := n24.below bb
    replace bw := below_on bw bb bw.size
    clear bb
    have n15 := m15
    clear m15
    go_wp2_with fail
    refine (same_any _ A1 A2 c1 c2 _ _ R1 R1 true n1 n2 rfl rfl (decide_eq_true rfl)).mono ?_
    rintro e wn ⟨rfl, qq⟩
    have bb := qq.keep
    clear qq
    try replace na := na.below bb
    try replace nb := nb.below bb
    try replace nc := nc.below bb
    try replace n1 := n1.below bb
    try replace n2 := n2.below bb
    try replace n3 := n3.below bb
    try replace n4 := n4.below bb
    try replace n5 := n5.below bb
    try replace n6 := n6.below bb
    try replace n7 := n7.below bb
    try replace n8 := n8.below bb
    try replace n9 := n9.below bb
    try replace n10 := n10.below bb
    try replace n11 := n11.below bb
    try replace n12 := n12.below bb
    try replace n13 := n13.below bb
    try replace n14 := n14.below bb
    try replace n15 := n15.below bb
    try replace n16 := n16.below bb
    try replace n17 := n17.below bb
    try replace n18 := n18.below bb
    try replace n19 := n19.below bb
    try replace n20 := n20.below bb
    try replace n21 := n21.below bb
    try replace n22 := n22.below bb
    try replace n23 := n23.below bb
    try replace n24 := n24.below bb
    replace bw := below_on bw bb bw.size
    clear bb
    go_wp2_with fail
    refine (same_any _ A3 A4 c3 c4 _ _ R3 R3 true n3 n4 rfl rfl (decide_eq_true rfl)).mono ?_
    rintro e wn ⟨rfl, qq⟩
    have bb := qq.keep
    clear qq
    try replace na := na.below bb
    try replace nb := nb.below bb
    try replace nc := nc.below bb
    try replace n1 := n1.below bb
    try replace n2 := n2.below bb
    try replace n3 := n3.below bb
    try replace n4 := n4.below bb
    try replace n5 := n5.below bb
    try replace n6 := n6.below bb
    try replace n7 := n7.below bb
    try replace n8 := n8.below bb
    try replace n9 := n9.below bb
    try replace n10 := n10.below bb
    try replace n11 := n11.below bb
    try replace n12 := n12.below bb
    try replace n13 := n13.below bb
    try replace n14 := n14.below bb
    try replace n15 := n15.below bb
    try replace n16 := n16.below bb
    try replace n17 := n17.below bb
    try replace n18 := n18.below bb
    try replace n19 := n19.below bb
    try replace n20 := n20.below bb
    try replace n21 := n21.below bb
    try replace n22 := n22.below bb
    try replace n23 := n23.below bb
    try replace n24 := n24.below bb
    replace bw := below_on bw bb bw.size
    clear bb
    go_wp2_with fail
    refine (same_any _ A5 A6 c5 c6 _ _ R2 R2 true n5 n6 rfl rfl (decide_eq_true rfl)).mono ?_
    rintro e wn ⟨rfl, qq⟩
    have bb := qq.keep
    clear qq
    try replace na := na.below bb
    try replace nb := nb.below bb
    try replace nc := nc.below bb
    try replace n1 := n1.below bb
    try replace n2 := n2.below bb
    try replace n3 := n3.below bb
    try replace n4 := n4.below bb
    try replace n5 := n5.below bb
    try replace n6 := n6.below bb
    try replace n7 := n7.below bb
    try replace n8 := n8.below bb
    try replace n9 := n9.below bb
    try replace n10 := n10.below bb
    try replace n11 := n11.below bb
    try replace n12 := n12.below bb
    try replace n13 := n13.below bb
    try replace n14 := n14.below bb
    try replace n15 := n15.below bb
    try replace n16 := n16.below bb
    try replace n17 := n17.below bb
    try replace n18 := n18.below bb
    try replace n19 := n19.below bb
    try replace n20 := n20.below bb
    try replace n21 := n21.below bb
    try replace n22 := n22.below bb
    try replace n23 := n23.below bb
    try replace n24 := n24.below bb
    replace bw := below_on bw bb bw.size
    clear bb
    go_wp2_with fail
    refine (same_any _ A14 A15 c14 c15 _ _ R6 R6 true n14 n15 rfl rfl (decide_eq_true rfl)).mono ?_
    rintro e wn ⟨rfl, qq⟩
    have bb := qq.keep
    clear qq
    try replace na := na.below bb
    try replace nb := nb.below bb
    try replace nc := nc.below bb
    try replace n1 := n1.below bb
    try replace n2 := n2.below bb
    try replace n3 := n3.below bb
    try replace n4 := n4.below bb
    try replace n5 := n5.below bb
    try replace n6 := n6.below bb
    try replace n7 := n7.below bb
    try replace n8 := n8.below bb
    try replace n9 := n9.below bb
    try replace n10 := n10.below bb
    try replace n11 := n11.below bb
    try replace n12 := n12.below bb
    try replace n13 := n13.below bb
    try replace n14 := n14.below bb
    try replace n15 := n15.below bb
    try replace n16 := n16.below bb
    try replace n17 := n17.below bb
    try replace n18 := n18.below bb
    try replace n19 := n19.below bb
    try replace n20 := n20.below bb
    try replace n21 := n21.below bb
    try replace n22 := n22.below bb
    try replace n23 := n23.below bb
    try replace n24 := n24.below bb
    replace bw := below_on bw bb bw.size
    clear bb
    go_wp2_with fail
    refine (bits_any _ Aa ca _ xs na rfl (by omega)).mono ?_
    rintro e wn ⟨rfl, rfl⟩
    go_wp2_with fail
    refine (rtrim_any wn Aa ca _ xs na rfl (by omega)).mono ?_
    rintro e wn ⟨A16, c16, rfl, g16, bb⟩
    have m16 := g16.nt (lim_u32 _)
    clear g16
    try replace na := na.below bb
    try replace nb := nb.below bb
    try replace nc := nc.below bb
    try replace n1 := n1.below bb
    try replace n2 := n2.below bb
    try replace n3 := n3.below bb
    try replace n4 := n4.below bb
    try replace n5 := n5.below bb
    try replace n6 := n6.below bb
    try replace n7 := n7.below bb
    try replace n8 := n8.below bb
    try replace n9 := n9.below bb
    try replace n10 := n10.below bb
    try replace n11 := n11.below bb
    try replace n12 := n12.below bb
    try replace n13 := n13.below bb
    try replace n14 := n14.below bb
    try replace n15 := n15.below bb
    try replace n16 := n16.below bb
    try replace n17 := n17.below bb
    try replace n18 := n18.below bb
    try replace n19 := n19.below bb
    try replace n20 := n20.below bb
    try replace n21 := n21.below bb
    try replace n22 := n22.below bb
    try replace n23 := n23.below bb
    try replace n24 := n24.below bb
    replace bw := below_on bw bb bw.size
    clear bb
    have n16 := m16
    clear m16
    go_wp2_with fail
    refine (awake_any _).mono ?_
    rintro e wn ⟨rfl, bb⟩
    replace bw := below_on bw bb bw.size
    go_wp2_with fail
    go_ret
    exact ⟨rfl, bw⟩
  · rw [fmtS, if_neg hbig] at hf
    obtain ⟨T, hT⟩ : ∃ T, T = bstr (decT (nv xs)) := ⟨_, rfl⟩
    rw [← hT] at hf
    have HF := Lib.hid hf
    have hbig1 : decide ((512 : Int) < ((lim (nv xs)).length : Int)) = false := decide_eq_false (by omega)
    have hbig2 : decide (512 < (lim (nv xs)).length) = false := decide_eq_false hbig
    clear hf hT hbig
    skip
    go_enter Try.func11, Try.ntmps11
    go_wp2_with fail
    refine (HO1.out w).mono ?_
    rintro e wn ⟨Aa, ca, rfl, na, bb⟩
    have bw := bb
    clear bb
    go_wp2_with fail
    refine (HO2.out wn).mono ?_
    rintro e wn ⟨Ab, cb, rfl, nb, bb⟩
    try replace na := na.below bb
    try replace nb := nb.below bb
    try replace nc := nc.below bb
    try replace n1 := n1.below bb
    try replace n2 := n2.below bb
    try replace n3 := n3.below bb
    try replace n4 := n4.below bb
    try replace n5 := n5.below bb
    try replace n6 := n6.below bb
    try replace n7 := n7.below bb
    try replace n8 := n8.below bb
    try replace n9 := n9.below bb
    try replace n10 := n10.below bb
    try replace n11 := n11.below bb
    try replace n12 := n12.below bb
    try replace n13 := n13.below bb
    try replace n14 := n14.below bb
    try replace n15 := n15.below bb
    try replace n16 := n16.below bb
    try replace n17 := n17.below bb
    try replace n18 := n18.below bb
    try replace n19 := n19.below bb
    try replace n20 := n20.below bb
    try replace n21 := n21.below bb
    try replace n22 := n22.below bb
    try replace n23 := n23.below bb
    try replace n24 := n24.below bb
    replace bw := below_on bw bb bw.size
    clear bb
    go_wp2_with fail
    refine (add_any _ Aa Ab ca cb _ _ xs ys R1 E1 na nb rfl rfl H1.out).mono ?_
    rintro e wn ⟨A1, c1, rfl, m1, bb⟩
    try replace na := na.below bb
    try replace nb := nb.below bb
    try replace nc := nc.below bb
    try replace n1 := n1.below bb
    try replace n2 := n2.below bb
    try replace n3 := n3.below bb
    try replace n4 := n4.below bb
    try replace n5 := n5.below bb
    try replace n6 := n6.below bb
    try replace n7 := n7.below bb
    try replace n8 := n8.below bb
    try replace n9 := n9.below bb
    try replace n10 := n10.below bb
    try replace n11 := n11.below bb
    try replace n12 := n12.below bb
    try replace n13 := n13.below bb
    try replace n14 := n14.below bb
    try replace n15 := n15.below bb
    try replace n16 := n16.below bb
    try replace n17 := n17.below bb
    try replace n18 := n18.below bb
    try replace n19 := n19.below bb
    try replace n20 := n20.below bb
    try replace n21 := n21.below bb
    try replace n22 := n22.below bb
    try replace n23 := n23.below bb
    try replace n24 := n24.below bb
    replace bw := below_on bw bb bw.size
    clear bb
    have n1 := m1
    clear m1
    go_wp2_with fail
    refine (radd_any _ Aa Ab ca cb _ _ xs ys R1 E1 na nb rfl rfl (by omega) (by omega) H1.out).mono ?_
    rintro e wn ⟨A2, c2, rfl, m2, bb⟩
    try replace na := na.below bb
    try replace nb := nb.below bb
    try replace nc := nc.below bb
    try replace n1 := n1.below bb
    try replace n2 := n2.below bb
    try replace n3 := n3.below bb
    try replace n4 := n4.below bb
    try replace n5 := n5.below bb
    try replace n6 := n6.below bb
    try replace n7 := n7.below bb
    try replace n8 := n8.below bb
    try replace n9 := n9.below bb
    try replace n10 := n10.below bb
    try replace n11 := n11.below bb
    try replace n12 := n12.below bb
    try replace n13 := n13.below bb
    try replace n14 := n14.below bb
    try replace n15 := n15.below bb
    try replace n16 := n16.below bb
    try replace n17 := n17.below bb
    try replace n18 := n18.below bb
    try replace n19 := n19.below bb
    try replace n20 := n20.below bb
    try replace n21 := n21.below bb
    try replace n22 := n22.below bb
    try replace n23 := n23.below bb
    try replace n24 := n24.below bb
    replace bw := below_on bw bb bw.size
    clear bb
    have n2 := m2
    clear m2
    go_wp2_with fail
    refine (mul_any _ Aa Ab ca cb _ _ xs ys R3 E3 na nb rfl rfl H3.out).mono ?_
    rintro e wn ⟨A3, c3, rfl, m3, bb⟩
    try replace na := na.below bb
    try replace nb := nb.below bb
    try replace nc := nc.below bb
    try replace n1 := n1.below bb
    try replace n2 := n2.below bb
    try replace n3 := n3.below bb
    try replace n4 := n4.below bb
    try replace n5 := n5.below bb
    try replace n6 := n6.below bb
    try replace n7 := n7.below bb
    try replace n8 := n8.below bb
    try replace n9 := n9.below bb
    try replace n10 := n10.below bb
    try replace n11 := n11.below bb
    try replace n12 := n12.below bb
    try replace n13 := n13.below bb
    try replace n14 := n14.below bb
    try replace n15 := n15.below bb
    try replace n16 := n16.below bb
    try replace n17 := n17.below bb
    try replace n18 := n18.below bb
    try replace n19 := n19.below bb
    try replace n20 := n20.below bb
    try replace n21 := n21.below bb
    try replace n22 := n22.below bb
    try replace n23 := n23.below bb
    try replace n24 := n24.below bb
    replace bw := below_on bw bb bw.size
    clear bb
    have n3 := m3
    clear m3
    go_wp2_with fail
    refine (rmul_any _ Aa Ab ca cb _ _ xs ys R3 E3 na nb rfl rfl (by omega) (by omega) H3.out).mono ?_
    rintro e wn ⟨A4, c4, rfl, m4, bb⟩
    try replace na := na.below bb
    try replace nb := nb.below bb
    try replace nc := nc.below bb
    try replace n1 := n1.below bb
    try replace n2 := n2.below bb
    try replace n3 := n3.below bb
    try replace n4 := n4.below bb
    try replace n5 := n5.below bb
    try replace n6 := n6.below bb
    try replace n7 := n7.below bb
    try replace n8 := n8.below bb
    try replace n9 := n9.below bb
    try replace n10 := n10.below bb
    try replace n11 := n11.below bb
    try replace n12 := n12.below bb
    try replace n13 := n13.below bb
    try replace n14 := n14.below bb
    try replace n15 := n15.below bb
    try replace n16 := n16.below bb
    try replace n17 := n17.below bb
    try replace n18 := n18.below bb
    try replace n19 := n19.below bb
    try replace n20 := n20.below bb
    try replace n21 := n21.below bb
    try replace n22 := n22.below bb
    try replace n23 := n23.below bb
    try replace n24 := n24.below bb
    replace bw := below_on bw bb bw.size
    clear bb
    have n4 := m4
    clear m4
    go_wp2_with fail
    refine (sub_any _ Ab Aa cb ca _ _ ys xs R2 E2 nb na rfl rfl H2.out).mono ?_
    rintro e wn ⟨A5, c5, rfl, m5, bb⟩
    try replace na := na.below bb
    try replace nb := nb.below bb
    try replace nc := nc.below bb
    try replace n1 := n1.below bb
    try replace n2 := n2.below bb
    try replace n3 := n3.below bb
    try replace n4 := n4.below bb
    try replace n5 := n5.below bb
    try replace n6 := n6.below bb
    try replace n7 := n7.below bb
    try replace n8 := n8.below bb
    try replace n9 := n9.below bb
    try replace n10 := n10.below bb
    try replace n11 := n11.below bb
    try replace n12 := n12.below bb
    try replace n13 := n13.below bb
    try replace n14 := n14.below bb
    try replace n15 := n15.below bb
    try replace n16 := n16.below bb
    try replace n17 := n17.below bb
    try replace n18 := n18.below bb
    try replace n19 := n19.below bb
    try replace n20 := n20.below bb
    try replace n21 := n21.below bb
    try replace n22 := n22.below bb
    try replace n23 := n23.below bb
    try replace n24 := n24.below bb
    replace bw := below_on bw bb bw.size
    clear bb
    have n5 := m5
    clear m5
    go_wp2_with fail
    refine (rsub_any _ Ab Aa cb ca _ _ ys xs R2 E2 nb na rfl rfl (by omega) (by omega) H2.out).mono ?_
    rintro e wn ⟨A6, c6, rfl, m6, bb⟩
    try replace na := na.below bb
    try replace nb := nb.below bb
    try replace nc := nc.below bb
    try replace n1 := n1.below bb
    try replace n2 := n2.below bb
    try replace n3 := n3.below bb
    try replace n4 := n4.below bb
    try replace n5 := n5.below bb
    try replace n6 := n6.below bb
    try replace n7 := n7.below bb
    try replace n8 := n8.below bb
    try replace n9 := n9.below bb
    try replace n10 := n10.below bb
    try replace n11 := n11.below bb
    try replace n12 := n12.below bb
    try replace n13 := n13.below bb
    try replace n14 := n14.below bb
    try replace n15 := n15.below bb
    try replace n16 := n16.below bb
    try replace n17 := n17.below bb
    try replace n18 := n18.below bb
    try replace n19 := n19.below bb
    try replace n20 := n20.below bb
    try replace n21 := n21.below bb
    try replace n22 := n22.below bb
    try replace n23 := n23.below bb
    try replace n24 := n24.below bb
    replace bw := below_on bw bb bw.size
    clear bb
    have n6 := m6
    clear m6
    go_wp2_with fail
    refine (div_any _ Aa Ab ca cb _ _ xs ys Q4 R4 E4 na nb rfl rfl H4.out).mono ?_
    rintro e wn ⟨A7, c7, A8, c8, rfl, m7, m8, bb⟩
    try replace na := na.below bb
    try replace nb := nb.below bb
    try replace nc := nc.below bb
    try replace n1 := n1.below bb
    try replace n2 := n2.below bb
    try replace n3 := n3.below bb
    try replace n4 := n4.below bb
    try replace n5 := n5.below bb
    try replace n6 := n6.below bb
    try replace n7 := n7.below bb
    try replace n8 := n8.below bb
    try replace n9 := n9.below bb
    try replace n10 := n10.below bb
    try replace n11 := n11.below bb
    try replace n12 := n12.below bb
    try replace n13 := n13.below bb
    try replace n14 := n14.below bb
    try replace n15 := n15.below bb
    try replace n16 := n16.below bb
    try replace n17 := n17.below bb
    try replace n18 := n18.below bb
    try replace n19 := n19.below bb
    try replace n20 := n20.below bb
    try replace n21 := n21.below bb
    try replace n22 := n22.below bb
    try replace n23 := n23.below bb
    try replace n24 := n24.below bb
    replace bw := below_on bw bb bw.size
    clear bb
    have n7 := m7
    have n8 := m8
    clear m7 m8
    go_wp2_with fail
    refine (rdiv_any _ Aa Ab ca cb _ _ xs ys Q4 R4 E4 na nb rfl rfl (by omega) (by omega) H4.out).mono ?_
    rintro e wn ⟨A9, c9, A10, c10, rfl, m9, m10, bb⟩
    try replace na := na.below bb
    try replace nb := nb.below bb
    try replace nc := nc.below bb
    try replace n1 := n1.below bb
    try replace n2 := n2.below bb
    try replace n3 := n3.below bb
    try replace n4 := n4.below bb
    try replace n5 := n5.below bb
    try replace n6 := n6.below bb
    try replace n7 := n7.below bb
    try replace n8 := n8.below bb
    try replace n9 := n9.below bb
    try replace n10 := n10.below bb
    try replace n11 := n11.below bb
    try replace n12 := n12.below bb
    try replace n13 := n13.below bb
    try replace n14 := n14.below bb
    try replace n15 := n15.below bb
    try replace n16 := n16.below bb
    try replace n17 := n17.below bb
    try replace n18 := n18.below bb
    try replace n19 := n19.below bb
    try replace n20 := n20.below bb
    try replace n21 := n21.below bb
    try replace n22 := n22.below bb
    try replace n23 := n23.below bb
    try replace n24 := n24.below bb
    replace bw := below_on bw bb bw.size
    clear bb
    have n9 := m9
    have n10 := m10
    clear m9 m10
    go_wp2_with fail
    clear n7 n8 n9 n10
    refine (gcd_any _ Ab Aa cb ca _ _ ys xs R5 E5 nb na rfl rfl H5.out).mono ?_
    rintro e wn ⟨A11, c11, rfl, m11, bb⟩
    try replace na := na.below bb
    try replace nb := nb.below bb
    try replace nc := nc.below bb
    try replace n1 := n1.below bb
    try replace n2 := n2.below bb
    try replace n3 := n3.below bb
    try replace n4 := n4.below bb
    try replace n5 := n5.below bb
    try replace n6 := n6.below bb
    try replace n7 := n7.below bb
    try replace n8 := n8.below bb
    try replace n9 := n9.below bb
    try replace n10 := n10.below bb
    try replace n11 := n11.below bb
    try replace n12 := n12.below bb
    try replace n13 := n13.below bb
    try replace n14 := n14.below bb
    try replace n15 := n15.below bb
    try replace n16 := n16.below bb
    try replace n17 := n17.below bb
    try replace n18 := n18.below bb
    try replace n19 := n19.below bb
    try replace n20 := n20.below bb
    try replace n21 := n21.below bb
    try replace n22 := n22.below bb
    try replace n23 := n23.below bb
    try replace n24 := n24.below bb
    replace bw := below_on bw bb bw.size
    clear bb
    have n11 := m11
    clear m11
    go_wp2_with fail
    refine (rgcd_any _ Ab Aa cb ca _ _ ys xs R5 E5 nb na rfl rfl (by omega) (by omega) H5.out).mono ?_
    rintro e wn ⟨A12, c12, rfl, m12, bb⟩
    try replace na := na.below bb
    try replace nb := nb.below bb
    try replace nc := nc.below bb
    try replace n1 := n1.below bb
    try replace n2 := n2.below bb
    try replace n3 := n3.below bb
    try replace n4 := n4.below bb
    try replace n5 := n5.below bb
    try replace n6 := n6.below bb
    try replace n7 := n7.below bb
    try replace n8 := n8.below bb
    try replace n9 := n9.below bb
    try replace n10 := n10.below bb
    try replace n11 := n11.below bb
    try replace n12 := n12.below bb
    try replace n13 := n13.below bb
    try replace n14 := n14.below bb
    try replace n15 := n15.below bb
    try replace n16 := n16.below bb
    try replace n17 := n17.below bb
    try replace n18 := n18.below bb
    try replace n19 := n19.below bb
    try replace n20 := n20.below bb
    try replace n21 := n21.below bb
    try replace n22 := n22.below bb
    try replace n23 := n23.below bb
    try replace n24 := n24.below bb
    replace bw := below_on bw bb bw.size
    clear bb
    have n12 := m12
    clear m12
    go_wp2_with fail
    clear n11 n12
    refine (HF.out wn Aa ca _ na rfl).mono ?_
    rintro e wn ⟨rfl, bb⟩
    try replace na := na.below bb
    try replace nb := nb.below bb
    try replace nc := nc.below bb
    try replace n1 := n1.below bb
    try replace n2 := n2.below bb
    try replace n3 := n3.below bb
    try replace n4 := n4.below bb
    try replace n5 := n5.below bb
    try replace n6 := n6.below bb
    try replace n7 := n7.below bb
    try replace n8 := n8.below bb
    try replace n9 := n9.below bb
    try replace n10 := n10.below bb
    try replace n11 := n11.below bb
    try replace n12 := n12.below bb
    try replace n13 := n13.below bb
    try replace n14 := n14.below bb
    try replace n15 := n15.below bb
    try replace n16 := n16.below bb
    try replace n17 := n17.below bb
    try replace n18 := n18.below bb
    try replace n19 := n19.below bb
    try replace n20 := n20.below bb
    try replace n21 := n21.below bb
    try replace n22 := n22.below bb
    try replace n23 := n23.below bb
    try replace n24 := n24.below bb
    replace bw := below_on bw bb bw.size
    clear bb
    go_wp2_with fail
    refine (rtrim_any wn Aa ca _ xs na rfl (by omega)).mono ?_
    rintro e wn ⟨A13, c13, rfl, g13, bb⟩
    have m13 := g13.nt (lim_u32 _)
    clear g13
    try replace na := na.below bb
    try replace nb := nb.below bb
    try replace nc := nc.below bb
    try replace n1 := n1.below bb
    try replace n2 := n2.below bb
    try replace n3 := n3.below bb
    try replace n4 := n4.below bb
    try replace n5 := n5.below bb
    try replace n6 := n6.below bb
    try replace n7 := n7.below bb
    try replace n8 := n8.below bb
    try replace n9 := n9.below bb
    try replace n10 := n10.below bb
    try replace n11 := n11.below bb
    try replace n12 := n12.below bb
    try replace n13 := n13.below bb
    try replace n14 := n14.below bb
    try replace n15 := n15.below bb
    try replace n16 := n16.below bb
    try replace n17 := n17.below bb
    try replace n18 := n18.below bb
    try replace n19 := n19.below bb
    try replace n20 := n20.below bb
    try replace n21 := n21.below bb
    try replace n22 := n22.below bb
    try replace n23 := n23.below bb
    try replace n24 := n24.below bb
    replace bw := below_on bw bb bw.size
    clear bb
    have n13 := m13
    clear m13
    go_wp2_with fail
    clear n13
    refine (shift_any _ Aa ca _ (Sh : Int) xs R6 E6 na rfl H6.out).mono ?_
    rintro e wn ⟨A14, c14, rfl, m14, bb⟩
    try replace na := na.below bb
    try replace nb := nb.below bb
    try replace nc := nc.below bb
    try replace n1 := n1.below bb
    try replace n2 := n2.below bb
    try replace n3 := n3.below bb
    try replace n4 := n4.below bb
    try replace n5 := n5.below bb
    try replace n6 := n6.below bb
    try replace n7 := n7.below bb
    try replace n8 := n8.below bb
    try replace n9 := n9.below bb
    try replace n10 := n10.below bb
    try replace n11 := n11.below bb
    try replace n12 := n12.below bb
    try replace n13 := n13.below bb
    try replace n14 := n14.below bb
    try replace n15 := n15.below bb
    try replace n16 := n16.below bb
    try replace n17 := n17.below bb
    try replace n18 := n18.below bb
    try replace n19 := n19.below bb
    try replace n20 := n20.below bb
    try replace n21 := n21.below bb
    try replace n22 := n22.below bb
    try replace n23 := n23.below bb
    try replace n24 := n24.below bb
    replace bw := below_on bw bb bw.size
    clear bb
    have n14 := m14
    clear m14
    go_wp2_with fail
    refine (rshift_any _ Aa ca _ (Sh : Int) xs R6 E6 na rfl (by omega) H6.out).mono ?_
    rintro e wn ⟨A15, c15, rfl, m15, bb⟩
    try replace na := na.below bb
    try replace nb := nb.below bb
    try replace nc := nc.below bb
    try replace n1 := n1.below bb
    try replace n2 := n2.below bb
    try replace n3 := n3.below bb
    try replace n4 := n4.below bb
    try replace n5 := n5.below bb
    try replace n6 := n6.below bb
    try replace n7 := n7.below bb
    try replace n8 := n8.below bb
    try replace n9 := n9.below bb
    try replace n10 := n10.below bb
    try replace n11 := n11.below bb
    try replace n12 := n12.below bb
    try replace n13 := n13.below bb
    try replace n14 := n14.below bb
    try replace n15 := n15.below bb
    try replace n16 := n16.below bb
    try replace n17 := n17.below bb
    try replace n18 := n18.below bb
    try replace n19 := n19.below bb
    try replace n20 := n20.below bb
    try replace n21 := n21.below bb
    try replace n22 := n22.below bb
    try replace n23 := n23.below bb
    try replace n24 := n24.below bb
    replace bw := below_on bw bb bw.size
    clear bb
    have n15 := m15
    clear m15
    go_wp2_with fail
    refine (same_any _ A1 A2 c1 c2 _ _ R1 R1 true n1 n2 rfl rfl (decide_eq_true rfl)).mono ?_
    rintro e wn ⟨rfl, qq⟩
    have bb := qq.keep
    clear qq
    try replace na := na.below bb
    try replace nb := nb.below bb
    try replace nc := nc.below bb
    try replace n1 := n1.below bb
    try replace n2 := n2.below bb
    try replace n3 := n3.below bb
    try replace n4 := n4.below bb
    try replace n5 := n5.below bb
    try replace n6 := n6.below bb
    try replace n7 := n7.below bb
    try replace n8 := n8.below bb
    try replace n9 := n9.below bb
    try replace n10 := n10.below bb
    try replace n11 := n11.below bb
    try replace n12 := n12.below bb
    try replace n13 := n13.below bb
    try replace n14 := n14.below bb
    try replace n15 := n15.below bb
    try replace n16 := n16.below bb
    try replace n17 := n17.below bb
    try replace n18 := n18.below bb
    try replace n19 := n19.below bb
    try replace n20 := n20.below bb
    try replace n21 := n21.below bb
    try replace n22 := n22.below bb
    try replace n23 := n23.below bb
    try replace n24 := n24.below bb
    replace bw := below_on bw bb bw.size
    clear bb
    go_wp2_with fail
    refine (same_any _ A3 A4 c3 c4 _ _ R3 R3 true n3 n4 rfl rfl (decide_eq_true rfl)).mono ?_
    rintro e wn ⟨rfl, qq⟩
    have bb := qq.keep
    clear qq
    try replace na := na.below bb
    try replace nb := nb.below bb
    try replace nc := nc.below bb
    try replace n1 := n1.below bb
    try replace n2 := n2.below bb
    try replace n3 := n3.below bb
    try replace n4 := n4.below bb
    try replace n5 := n5.below bb
    try replace n6 := n6.below bb
    try replace n7 := n7.below bb
    try replace n8 := n8.below bb
    try replace n9 := n9.below bb
    try replace n10 := n10.below bb
    try replace n11 := n11.below bb
    try replace n12 := n12.below bb
    try replace n13 := n13.below bb
    try replace n14 := n14.below bb
    try replace n15 := n15.below bb
    try replace n16 := n16.below bb
    try replace n17 := n17.below bb
    try replace n18 := n18.below bb
    try replace n19 := n19.below bb
    try replace n20 := n20.below bb
    try replace n21 := n21.below bb
    try replace n22 := n22.below bb
    try replace n23 := n23.below bb
    try replace n24 := n24.below bb
    replace bw := below_on bw bb bw.size
    clear bb
    go_wp2_with fail
    refine (same_any _ A5 A6 c5 c6 _ _ R2 R2 true n5 n6 rfl rfl (decide_eq_true rfl)).mono ?_
    rintro e wn ⟨rfl, qq⟩
    have bb := qq.keep
    clear qq
    try replace na := na.below bb
    try replace nb := nb.below bb
    try replace nc := nc.below bb
    try replace n1 := n1.below bb
    try replace n2 := n2.below bb
    try replace n3 := n3.below bb
    try replace n4 := n4.below bb
    try replace n5 := n5.below bb
    try replace n6 := n6.below bb
    try replace n7 := n7.below bb
    try replace n8 := n8.below bb
    try replace n9 := n9.below bb
    try replace n10 := n10.below bb
    try replace n11 := n11.below bb
    try replace n12 := n12.below bb
    try replace n13 := n13.below bb
    try replace n14 := n14.below bb
    try replace n15 := n15.below bb
    try replace n16 := n16.below bb
    try replace n17 := n17.below bb
    try replace n18 := n18.below bb
    try replace n19 := n19.below bb
    try replace n20 := n20.below bb
    try replace n21 := n21.below bb
    try replace n22 := n22.below bb
    try replace n23 := n23.below bb
    try replace n24 := n24.below bb
    replace bw := below_on bw bb bw.size
    clear bb
    go_wp2_with fail
    refine (same_any _ A14 A15 c14 c15 _ _ R6 R6 true n14 n15 rfl rfl (decide_eq_true rfl)).mono ?_
    rintro e wn ⟨rfl, qq⟩
    have bb := qq.keep
    clear qq
    try replace na := na.below bb
    try replace nb := nb.below bb
    try replace nc := nc.below bb
    try replace n1 := n1.below bb
    try replace n2 := n2.below bb
    try replace n3 := n3.below bb
    try replace n4 := n4.below bb
    try replace n5 := n5.below bb
    try replace n6 := n6.below bb
    try replace n7 := n7.below bb
    try replace n8 := n8.below bb
    try replace n9 := n9.below bb
    try replace n10 := n10.below bb
    try replace n11 := n11.below bb
    try replace n12 := n12.below bb
    try replace n13 := n13.below bb
    try replace n14 := n14.below bb
    try replace n15 := n15.below bb
    try replace n16 := n16.below bb
    try replace n17 := n17.below bb
    try replace n18 := n18.below bb
    try replace n19 := n19.below bb
    try replace n20 := n20.below bb
    try replace n21 := n21.below bb
    try replace n22 := n22.below bb
    try replace n23 := n23.below bb
    try replace n24 := n24.below bb
    replace bw := below_on bw bb bw.size
    clear bb
    go_wp2_with fail
    refine (bits_any _ Aa ca _ xs na rfl (by omega)).mono ?_
    rintro e wn ⟨rfl, rfl⟩
    go_wp2_with fail
    refine (rtrim_any wn Aa ca _ xs na rfl (by omega)).mono ?_
    rintro e wn ⟨A16, c16, rfl, g16, bb⟩
    have m16 := g16.nt (lim_u32 _)
    clear g16
    try replace na := na.below bb
    try replace nb := nb.below bb
    try replace nc := nc.below bb
    try replace n1 := n1.below bb
    try replace n2 := n2.below bb
    try replace n3 := n3.below bb
    try replace n4 := n4.below bb
    try replace n5 := n5.below bb
    try replace n6 := n6.below bb
    try replace n7 := n7.below bb
    try replace n8 := n8.below bb
    try replace n9 := n9.below bb
    try replace n10 := n10.below bb
    try replace n11 := n11.below bb
    try replace n12 := n12.below bb
    try replace n13 := n13.below bb
    try replace n14 := n14.below bb
    try replace n15 := n15.below bb
    try replace n16 := n16.below bb
    try replace n17 := n17.below bb
    try replace n18 := n18.below bb
    try replace n19 := n19.below bb
    try replace n20 := n20.below bb
    try replace n21 := n21.below bb
    try replace n22 := n22.below bb
    try replace n23 := n23.below bb
    try replace n24 := n24.below bb
    replace bw := below_on bw bb bw.size
    clear bb
    have n16 := m16
    clear m16
    go_wp2_with fail
    refine (awake_any _).mono ?_
    rintro e wn ⟨rfl, bb⟩
    replace bw := below_on bw bb bw.size
    go_wp2_with fail
    go_ret
    exact ⟨rfl, bw⟩

theorem limits_walk (w : World) (n m z : Int) (hn : (Lit.int .u8 n).wf = true) (hm : (Lit.int .u8 m).wf = true) (hz : (Lit.int .u8 z).wf = true) :
    Calls Try.prog 11 #[.int .u8 n, .int .u8 m, .int .u8 z] w fun e w' => e = .returned (.bool true) ∧ Below w.heap.size w w' := by
  have hn2 : 0 ≤ n ∧ n ≤ 255 := by simp [Lit.wf, IntKind.min, IntKind.max, IntKind.signed, IntKind.bits] at hn; omega
  have hm2 : 0 ≤ m ∧ m ≤ 255 := by simp [Lit.wf, IntKind.min, IntKind.max, IntKind.signed, IntKind.bits] at hm; omega
  have hz2 : 0 ≤ z ∧ z ≤ 255 := by simp [Lit.wf, IntKind.min, IntKind.max, IntKind.signed, IntKind.bits] at hz; omega
  obtain ⟨n', rfl⟩ := Int.eq_ofNat_of_zero_le hn2.1
  obtain ⟨m', rfl⟩ := Int.eq_ofNat_of_zero_le hm2.1
  obtain ⟨z', rfl⟩ := Int.eq_ofNat_of_zero_le hz2.1
  exact limits_case w n' m' z' (by omega) (by omega) (by omega)
end Go.Proofs.Ytcenpboflecbcaa
