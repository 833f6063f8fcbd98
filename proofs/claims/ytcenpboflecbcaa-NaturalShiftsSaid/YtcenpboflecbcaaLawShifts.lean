/- NaturalShifts, the walk: Shift multiplies and divides by powers of two, shifting back undoes shifting up, Bits grows with it. -/
import Derived.Test.YtcenpboflecbcaaLawGcd
import Derived.Test.YtcenpboflecbcaaNatL
namespace Go.Proofs.Ytcenpboflecbcaa
open Go.RowKit

theorem shifts_long (w : World) (A : Option Addr) (a : Nat) (xs : List Nat) (n m : Int) (hA : Nt w A a xs) (h : 60 < xs.length) :
    Calls Try.prog 9 #[.slice A xs.length a, .int .u8 n, .int .u8 m] w fun e w' => e = .returned (.bool true) ∧ Below w.heap.size w w' := by
  go_enter Try.func9, Try.ntmps9
  go_wp2_with fail
  have hAl := hA.len
  have hrd : Rd slv (w.alloc (.cells #[.slice A xs.length a] 25)) (some ⟨w.heap.size, 0, none⟩) [(A, xs.length, a)] := (Gr.lit (mk := slv) (e := 25) (B := w.heap.size) w [(A, xs.length, a)] _ rfl (by simp [maxLen]) (Nat.le_refl _)).rd
  have b1 : Below w.heap.size w (w.alloc (.cells #[.slice A xs.length a] 25)) := (Below.refl w.heap.size w).alloc (Nat.le_refl _) _
  revert hrd b1
  generalize (w.alloc (.cells #[.slice A xs.length a] 25)) = w1
  intro hrd b1
  refine (long_any w1 _ _ _ _ true hrd rfl (by simp) (by intro v hv; simp only [List.mem_cons, List.not_mem_nil, or_false] at hv; rcases hv with rfl; simp; omega) (by simp <;> omega)).mono ?_
  rintro e w' ⟨rfl, rfl⟩
  clear hrd
  go_wp2_with fail
  have bw := b1
  refine (awake_any _).mono ?_
  rintro e wn ⟨rfl, bb⟩
  replace bw := below_on bw bb bw.size
  go_wp2_with fail
  go_ret
  exact ⟨rfl, bw⟩

theorem shiftS_pos {m k : Nat} (hm : (lim m).length ≤ 512) (hk : k ≤ 16384) (h : (lim (m * 2 ^ k)).length ≤ 512) : shiftS m (k : Int) = (lim (m * 2 ^ k), 0) := by
  by_cases h0 : m = 0
  · subst h0; rw [shiftS_zero rfl, Nat.zero_mul, lim_zero]
  · rw [shiftS_up (by omega) h0 (by omega), sizS_small (by omega)]
theorem shiftS_neg {m k : Nat} (hm : (lim m).length ≤ 512) (hk : k < 16384) : shiftS m (-(k : Int)) = (lim (m / 2 ^ k), 0) := by
  by_cases h0 : m = 0
  · subst h0; rw [shiftS_zero rfl, Nat.zero_div, lim_zero]
  · by_cases hk0 : k = 0
    · subst hk0
      have := shiftS_pos (m := m) (k := 0) hm (by omega) (by simpa using hm)
      simpa using this
    · rw [shiftS_down (by omega) h0 (by omega) (by omega)]
theorem len_pow (k : Nat) (hk : k ≤ 255) : (lim (2 ^ k)).length ≤ 9 := by
  rw [lim_length_le, two_pow_split k]
  have h1 : pw (k / 32) ≤ pw 7 := pw_le (by omega)
  have h2 := pow_le_31 (show k % 32 < 32 by omega)
  have h3 := Nat.mul_le_mul h1 h2
  have h4 : pw 9 = pw 7 * 18446744073709551616 := by rw [show 9 = 7 + 2 from rfl, pw_add]; rfl
  have h5 := pw_pos 7
  omega
theorem bits2_pow (k : Nat) : bits2 (2 ^ k) = k + 1 := by
  have h := bits2_mul 1 k (by omega)
  rw [Nat.one_mul] at h
  rw [h, show bits2 1 = 1 from rfl]; omega
theorem bits2_len {m k : Nat} (h : (lim m).length ≤ k) : bits2 m ≤ 32 * k := by
  rw [bits2_le]
  have h1 := (lim_length_le m k).1 h
  unfold pw at h1
  rwa [show (4294967296 : Nat) = 2 ^ 32 from rfl, ← Nat.pow_mul] at h1

set_option maxRecDepth 100000 in
set_option maxHeartbeats 2000000 in
theorem shifts_short (w : World) (A : Option Addr) (a : Nat) (xs : List Nat) (n m : Nat) (hA : Nt w A a xs) (h1 : xs.length ≤ 60) (hn : n ≤ 255) (hm : m ≤ 255) :
    Calls Try.prog 9 #[.slice A xs.length a, .int .u8 (n : Int), .int .u8 (m : Int)] w fun e w' => e = .returned (.bool true) ∧ Below w.heap.size w w' := by
  have la : (lim (nv xs)).length ≤ 60 := Nat.le_trans (lim_length_le_length hA.u) h1
  have ln := len_pow n hn
  have lm := len_pow m hm
  have lup := len_mul3 la ln
  have ldown := lim_length_mono (Nat.div_le_self (nv xs) (2 ^ m))
  have hp : 0 < 2 ^ n := Nat.pow_pos (by omega)
  have HP := Lib.hid hp
  have hpm : 0 < 2 ^ m := Nat.pow_pos (by omega)
  have HPM := Lib.hid hpm
  have HB : Hid (nv [1] = 1) := Lib.hid rfl
  have hbp : (((bits2 (nv (lim (2 ^ n))) : Nat) : Int) == (n : Int) + 1) = true := by
    rw [nv_lim, bits2_pow]; simp
  have hba := bits2_len la
  have hbu := bits2_len lup
  have hbu2 : bits2 (nv (lim (nv xs * 2 ^ n))) ≤ 32 * 69 := by rw [nv_lim]; exact hbu
  have hbp2 : bits2 (nv (lim (2 ^ n))) ≤ 32 * 9 := by rw [nv_lim]; exact bits2_len ln
  clear hp hpm hbu
  have hn2 : (n : Int) ≤ 255 := by omega
  have hm2 : (m : Int) ≤ 255 := by omega
  by_cases hx : nv xs = 0
  · have hz1 : (((bits2 (nv xs) : Nat) : Int) == 0) = true := by rw [hx]; rfl
    clear hx
    go_enter Try.func9, Try.ntmps9
    go_wp2_with fail
    have hAl := hA.len
    have hrd : Rd slv (w.alloc (.cells #[.slice A xs.length a] 25)) (some ⟨w.heap.size, 0, none⟩) [(A, xs.length, a)] := (Gr.lit (mk := slv) (e := 25) (B := w.heap.size) w [(A, xs.length, a)] _ rfl (by simp [maxLen]) (Nat.le_refl _)).rd
    have b1 : Below w.heap.size w (w.alloc (.cells #[.slice A xs.length a] 25)) := (Below.refl w.heap.size w).alloc (Nat.le_refl _) _
    revert hrd b1
    generalize (w.alloc (.cells #[.slice A xs.length a] 25)) = w1
    intro hrd b1
    refine (long_any w1 _ _ _ _ false hrd rfl (by simp) (by intro v hv; simp only [List.mem_cons, List.not_mem_nil, or_false] at hv; rcases hv with rfl; simp; omega) (by simp <;> omega)).mono ?_
    rintro e w' ⟨rfl, rfl⟩
    clear hrd
    have na := hA.below b1
    have bw := b1
    obtain ⟨Aa, rfl⟩ : ∃ Aa, Aa = A := ⟨_, rfl⟩
    obtain ⟨ca, rfl⟩ : ∃ ca, ca = a := ⟨_, rfl⟩
    obtain ⟨wn, rfl⟩ : ∃ wn, wn = w1 := ⟨_, rfl⟩
    clear hA b1
    go_wp2_with fail
    have m20 := nt_one wn
    have bb := (Below.refl wn.heap.size wn).alloc (Nat.le_refl _) (.cells #[.int .u32 1] 43)
    revert m20 bb
    generalize (wn.alloc (.cells #[.int .u32 1] 43)) = wk
    intro m20 bb
    try replace na := na.below bb
    try replace nb := nb.below bb
    try replace nc := nc.below bb
    try replace n1 := n1.below bb
    try replace n2 := n2.below bb
    try replace n3 := n3.below bb
    try replace n4 := n4.below bb
    try replace n5 := n5.below bb
    try replace n6 := n6.below bb
    try replace n7 := n7.below bb
    try replace n8 := n8.below bb
    try replace n9 := n9.below bb
    try replace n10 := n10.below bb
    try replace n11 := n11.below bb
    try replace n12 := n12.below bb
    try replace n13 := n13.below bb
    try replace n14 := n14.below bb
    replace bw := below_on bw bb bw.size
    clear bb
    refine (shift_any _ _ 1 _ (n : Int) [1] (lim (2 ^ n)) 0 m20 rfl (by rw [HB.out, shiftS_pos (by rw [lim_one]; simp) (by omega) (by rw [Nat.one_mul]; omega), Nat.one_mul])).mono ?_
    rintro e wn ⟨A1, c1, rfl, m1, bb⟩
    clear m20
    try replace na := na.below bb
    try replace nb := nb.below bb
    try replace nc := nc.below bb
    try replace n1 := n1.below bb
    try replace n2 := n2.below bb
    try replace n3 := n3.below bb
    try replace n4 := n4.below bb
    try replace n5 := n5.below bb
    try replace n6 := n6.below bb
    try replace n7 := n7.below bb
    try replace n8 := n8.below bb
    try replace n9 := n9.below bb
    try replace n10 := n10.below bb
    try replace n11 := n11.below bb
    try replace n12 := n12.below bb
    try replace n13 := n13.below bb
    try replace n14 := n14.below bb
    replace bw := below_on bw bb bw.size
    clear bb
    have n1 := m1
    clear m1
    go_wp2_with fail
    refine (shift_any _ Aa ca _ (n : Int) xs (lim (nv xs * 2 ^ n)) 0 na rfl (shiftS_pos (by omega) (by omega) (by omega))).mono ?_
    rintro e wn ⟨A2, c2, rfl, m2, bb⟩
    try replace na := na.below bb
    try replace nb := nb.below bb
    try replace nc := nc.below bb
    try replace n1 := n1.below bb
    try replace n2 := n2.below bb
    try replace n3 := n3.below bb
    try replace n4 := n4.below bb
    try replace n5 := n5.below bb
    try replace n6 := n6.below bb
    try replace n7 := n7.below bb
    try replace n8 := n8.below bb
    try replace n9 := n9.below bb
    try replace n10 := n10.below bb
    try replace n11 := n11.below bb
    try replace n12 := n12.below bb
    try replace n13 := n13.below bb
    try replace n14 := n14.below bb
    replace bw := below_on bw bb bw.size
    clear bb
    have n2 := m2
    clear m2
    go_wp2_with fail
    refine (mul_any _ Aa A1 ca c1 _ _ xs (lim (2 ^ n)) (lim (nv xs * 2 ^ n)) 0 na n1 rfl rfl (by rw [nv_lim]; exact mulS_len (by omega) (by omega))).mono ?_
    rintro e wn ⟨A3, c3, rfl, m3, bb⟩
    try replace na := na.below bb
    try replace nb := nb.below bb
    try replace nc := nc.below bb
    try replace n1 := n1.below bb
    try replace n2 := n2.below bb
    try replace n3 := n3.below bb
    try replace n4 := n4.below bb
    try replace n5 := n5.below bb
    try replace n6 := n6.below bb
    try replace n7 := n7.below bb
    try replace n8 := n8.below bb
    try replace n9 := n9.below bb
    try replace n10 := n10.below bb
    try replace n11 := n11.below bb
    try replace n12 := n12.below bb
    try replace n13 := n13.below bb
    try replace n14 := n14.below bb
    replace bw := below_on bw bb bw.size
    clear bb
    have n3 := m3
    clear m3
    go_wp2_with fail
    refine (shift_any _ A2 c2 _ (-(n : Int)) (lim (nv xs * 2 ^ n)) (lim (nv xs)) 0 n2 rfl (by rw [nv_lim, shiftS_neg (by omega) (by omega), Nat.mul_div_cancel _ HP.out])).mono ?_
    rintro e wn ⟨A4, c4, rfl, m4, bb⟩
    try replace na := na.below bb
    try replace nb := nb.below bb
    try replace nc := nc.below bb
    try replace n1 := n1.below bb
    try replace n2 := n2.below bb
    try replace n3 := n3.below bb
    try replace n4 := n4.below bb
    try replace n5 := n5.below bb
    try replace n6 := n6.below bb
    try replace n7 := n7.below bb
    try replace n8 := n8.below bb
    try replace n9 := n9.below bb
    try replace n10 := n10.below bb
    try replace n11 := n11.below bb
    try replace n12 := n12.below bb
    try replace n13 := n13.below bb
    try replace n14 := n14.below bb
    replace bw := below_on bw bb bw.size
    clear bb
    have n4 := m4
    clear m4
    go_wp2_with fail
    refine (shift_any _ Aa ca _ (-(m : Int)) xs (lim (nv xs / 2 ^ m)) 0 na rfl (shiftS_neg (by omega) (by omega))).mono ?_
    rintro e wn ⟨A5, c5, rfl, m5, bb⟩
    try replace na := na.below bb
    try replace nb := nb.below bb
    try replace nc := nc.below bb
    try replace n1 := n1.below bb
    try replace n2 := n2.below bb
    try replace n3 := n3.below bb
    try replace n4 := n4.below bb
    try replace n5 := n5.below bb
    try replace n6 := n6.below bb
    try replace n7 := n7.below bb
    try replace n8 := n8.below bb
    try replace n9 := n9.below bb
    try replace n10 := n10.below bb
    try replace n11 := n11.below bb
    try replace n12 := n12.below bb
    try replace n13 := n13.below bb
    try replace n14 := n14.below bb
    replace bw := below_on bw bb bw.size
    clear bb
    have n5 := m5
    clear m5
    go_wp2_with fail
    have m20 := nt_one wn
    have bb := (Below.refl wn.heap.size wn).alloc (Nat.le_refl _) (.cells #[.int .u32 1] 43)
    revert m20 bb
    generalize (wn.alloc (.cells #[.int .u32 1] 43)) = wk
    intro m20 bb
    try replace na := na.below bb
    try replace nb := nb.below bb
    try replace nc := nc.below bb
    try replace n1 := n1.below bb
    try replace n2 := n2.below bb
    try replace n3 := n3.below bb
    try replace n4 := n4.below bb
    try replace n5 := n5.below bb
    try replace n6 := n6.below bb
    try replace n7 := n7.below bb
    try replace n8 := n8.below bb
    try replace n9 := n9.below bb
    try replace n10 := n10.below bb
    try replace n11 := n11.below bb
    try replace n12 := n12.below bb
    try replace n13 := n13.below bb
    try replace n14 := n14.below bb
    replace bw := below_on bw bb bw.size
    clear bb
    refine (shift_any _ _ 1 _ (m : Int) [1] (lim (2 ^ m)) 0 m20 rfl (by rw [HB.out, shiftS_pos (by rw [lim_one]; simp) (by omega) (by rw [Nat.one_mul]; omega), Nat.one_mul])).mono ?_
    rintro e wn ⟨A6, c6, rfl, m6, bb⟩
    clear m20
    try replace na := na.below bb
    try replace nb := nb.below bb
    try replace nc := nc.below bb
    try replace n1 := n1.below bb
    try replace n2 := n2.below bb
    try replace n3 := n3.below bb
    try replace n4 := n4.below bb
    try replace n5 := n5.below bb
    try replace n6 := n6.below bb
    try replace n7 := n7.below bb
    try replace n8 := n8.below bb
    try replace n9 := n9.below bb
    try replace n10 := n10.below bb
    try replace n11 := n11.below bb
    try replace n12 := n12.below bb
    try replace n13 := n13.below bb
    try replace n14 := n14.below bb
    replace bw := below_on bw bb bw.size
    clear bb
    have n6 := m6
    clear m6
    go_wp2_with fail
    refine (div_any _ Aa A6 ca c6 _ _ xs (lim (2 ^ m)) (lim (nv xs / 2 ^ m)) (lim (nv xs % 2 ^ m)) 0 na n6 rfl rfl (by rw [nv_lim, divS_ok (by omega) (by omega) (by have := HPM.out; omega)])).mono ?_
    rintro e wn ⟨A7, c7, A8, c8, rfl, m7, m8, bb⟩
    try replace na := na.below bb
    try replace nb := nb.below bb
    try replace nc := nc.below bb
    try replace n1 := n1.below bb
    try replace n2 := n2.below bb
    try replace n3 := n3.below bb
    try replace n4 := n4.below bb
    try replace n5 := n5.below bb
    try replace n6 := n6.below bb
    try replace n7 := n7.below bb
    try replace n8 := n8.below bb
    try replace n9 := n9.below bb
    try replace n10 := n10.below bb
    try replace n11 := n11.below bb
    try replace n12 := n12.below bb
    try replace n13 := n13.below bb
    try replace n14 := n14.below bb
    replace bw := below_on bw bb bw.size
    clear bb
    have n7 := m7
    have n8 := m8
    clear m7 m8
    go_wp2_with fail
    refine (same_any _ A2 A3 c2 c3 _ _ (lim (nv xs * 2 ^ n)) (lim (nv xs * 2 ^ n)) true n2 n3 rfl rfl (decide_eq_true rfl)).mono ?_
    rintro e wn ⟨rfl, qq⟩
    have bb := qq.keep
    clear qq
    try replace na := na.below bb
    try replace nb := nb.below bb
    try replace nc := nc.below bb
    try replace n1 := n1.below bb
    try replace n2 := n2.below bb
    try replace n3 := n3.below bb
    try replace n4 := n4.below bb
    try replace n5 := n5.below bb
    try replace n6 := n6.below bb
    try replace n7 := n7.below bb
    try replace n8 := n8.below bb
    try replace n9 := n9.below bb
    try replace n10 := n10.below bb
    try replace n11 := n11.below bb
    try replace n12 := n12.below bb
    try replace n13 := n13.below bb
    try replace n14 := n14.below bb
    replace bw := below_on bw bb bw.size
    clear bb
    go_wp2_with fail
    refine (cmp_any _ A4 Aa c4 ca _ _ (lim (nv xs)) xs 0 n4 na rfl rfl (by rw [nv_lim]; exact cmp3_eq rfl)).mono ?_
    rintro e wn ⟨rfl, qq⟩
    have bb := qq.keep
    clear qq
    try replace na := na.below bb
    try replace nb := nb.below bb
    try replace nc := nc.below bb
    try replace n1 := n1.below bb
    try replace n2 := n2.below bb
    try replace n3 := n3.below bb
    try replace n4 := n4.below bb
    try replace n5 := n5.below bb
    try replace n6 := n6.below bb
    try replace n7 := n7.below bb
    try replace n8 := n8.below bb
    try replace n9 := n9.below bb
    try replace n10 := n10.below bb
    try replace n11 := n11.below bb
    try replace n12 := n12.below bb
    try replace n13 := n13.below bb
    try replace n14 := n14.below bb
    replace bw := below_on bw bb bw.size
    clear bb
    go_wp2_with fail
    refine (same_any _ A5 A7 c5 c7 _ _ (lim (nv xs / 2 ^ m)) (lim (nv xs / 2 ^ m)) true n5 n7 rfl rfl (decide_eq_true rfl)).mono ?_
    rintro e wn ⟨rfl, qq⟩
    have bb := qq.keep
    clear qq
    try replace na := na.below bb
    try replace nb := nb.below bb
    try replace nc := nc.below bb
    try replace n1 := n1.below bb
    try replace n2 := n2.below bb
    try replace n3 := n3.below bb
    try replace n4 := n4.below bb
    try replace n5 := n5.below bb
    try replace n6 := n6.below bb
    try replace n7 := n7.below bb
    try replace n8 := n8.below bb
    try replace n9 := n9.below bb
    try replace n10 := n10.below bb
    try replace n11 := n11.below bb
    try replace n12 := n12.below bb
    try replace n13 := n13.below bb
    try replace n14 := n14.below bb
    replace bw := below_on bw bb bw.size
    clear bb
    go_wp2_with fail
    refine (bits_any _ Aa ca _ xs na rfl (by omega)).mono ?_
    rintro e wn ⟨rfl, rfl⟩
    go_wp2_with fail
    refine (bits_any _ A1 c1 _ (lim (2 ^ n)) n1 rfl (by omega)).mono ?_
    rintro e wn ⟨rfl, rfl⟩
    go_wp2_with fail
    refine (awake_any _).mono ?_
    rintro e wn ⟨rfl, bb⟩
    replace bw := below_on bw bb bw.size
    go_wp2_with fail
    go_ret
    exact ⟨rfl, bw⟩
  · have hz1 : (((bits2 (nv xs) : Nat) : Int) == 0) = false := by
      have : bits2 (nv xs) ≠ 0 := by unfold bits2; rw [if_neg hx]; omega
      exact beq_eq_false_iff_ne.2 (by omega)
    have hbx : (((bits2 (nv (lim (nv xs * 2 ^ n))) : Nat) : Int) == (bits2 (nv xs) : Int) + (n : Int)) = true := by
      rw [nv_lim, bits2_mul _ _ hx]; simp
    clear hx
    go_enter Try.func9, Try.ntmps9
    go_wp2_with fail
    have hAl := hA.len
    have hrd : Rd slv (w.alloc (.cells #[.slice A xs.length a] 25)) (some ⟨w.heap.size, 0, none⟩) [(A, xs.length, a)] := (Gr.lit (mk := slv) (e := 25) (B := w.heap.size) w [(A, xs.length, a)] _ rfl (by simp [maxLen]) (Nat.le_refl _)).rd
    have b1 : Below w.heap.size w (w.alloc (.cells #[.slice A xs.length a] 25)) := (Below.refl w.heap.size w).alloc (Nat.le_refl _) _
    revert hrd b1
    generalize (w.alloc (.cells #[.slice A xs.length a] 25)) = w1
    intro hrd b1
    refine (long_any w1 _ _ _ _ false hrd rfl (by simp) (by intro v hv; simp only [List.mem_cons, List.not_mem_nil, or_false] at hv; rcases hv with rfl; simp; omega) (by simp <;> omega)).mono ?_
    rintro e w' ⟨rfl, rfl⟩
    clear hrd
    have na := hA.below b1
    have bw := b1
    obtain ⟨Aa, rfl⟩ : ∃ Aa, Aa = A := ⟨_, rfl⟩
    obtain ⟨ca, rfl⟩ : ∃ ca, ca = a := ⟨_, rfl⟩
    obtain ⟨wn, rfl⟩ : ∃ wn, wn = w1 := ⟨_, rfl⟩
    clear hA b1
    go_wp2_with fail
    have m20 := nt_one wn
    have bb := (Below.refl wn.heap.size wn).alloc (Nat.le_refl _) (.cells #[.int .u32 1] 43)
    revert m20 bb
    generalize (wn.alloc (.cells #[.int .u32 1] 43)) = wk
    intro m20 bb
    try replace na := na.below bb
    try replace nb := nb.below bb
    try replace nc := nc.below bb
    try replace n1 := n1.below bb
    try replace n2 := n2.below bb
    try replace n3 := n3.below bb
    try replace n4 := n4.below bb
    try replace n5 := n5.below bb
    try replace n6 := n6.below bb
    try replace n7 := n7.below bb
    try replace n8 := n8.below bb
    try replace n9 := n9.below bb
    try replace n10 := n10.below bb
    try replace n11 := n11.below bb
    try replace n12 := n12.below bb
    try replace n13 := n13.below bb
    try replace n14 := n14.below bb
    replace bw := below_on bw bb bw.size
    clear bb
    refine (shift_any _ _ 1 _ (n : Int) [1] (lim (2 ^ n)) 0 m20 rfl (by rw [HB.out, shiftS_pos (by rw [lim_one]; simp) (by omega) (by rw [Nat.one_mul]; omega), Nat.one_mul])).mono ?_
    rintro e wn ⟨A1, c1, rfl, m1, bb⟩
    clear m20
    try replace na := na.below bb
    try replace nb := nb.below bb
    try replace nc := nc.below bb
    try replace n1 := n1.below bb
    try replace n2 := n2.below bb
    try replace n3 := n3.below bb
    try replace n4 := n4.below bb
    try replace n5 := n5.below bb
    try replace n6 := n6.below bb
    try replace n7 := n7.below bb
    try replace n8 := n8.below bb
    try replace n9 := n9.below bb
    try replace n10 := n10.below bb
    try replace n11 := n11.below bb
    try replace n12 := n12.below bb
    try replace n13 := n13.below bb
    try replace n14 := n14.below bb
    replace bw := below_on bw bb bw.size
    clear bb
    have n1 := m1
    clear m1
    go_wp2_with fail
    refine (shift_any _ Aa ca _ (n : Int) xs (lim (nv xs * 2 ^ n)) 0 na rfl (shiftS_pos (by omega) (by omega) (by omega))).mono ?_
    rintro e wn ⟨A2, c2, rfl, m2, bb⟩
    try replace na := na.below bb
    try replace nb := nb.below bb
    try replace nc := nc.below bb
    try replace n1 := n1.below bb
    try replace n2 := n2.below bb
    try replace n3 := n3.below bb
    try replace n4 := n4.below bb
    try replace n5 := n5.below bb
    try replace n6 := n6.below bb
    try replace n7 := n7.below bb
    try replace n8 := n8.below bb
    try replace n9 := n9.below bb
    try replace n10 := n10.below bb
    try replace n11 := n11.below bb
    try replace n12 := n12.below bb
    try replace n13 := n13.below bb
    try replace n14 := n14.below bb
    replace bw := below_on bw bb bw.size
    clear bb
    have n2 := m2
    clear m2
    go_wp2_with fail
    refine (mul_any _ Aa A1 ca c1 _ _ xs (lim (2 ^ n)) (lim (nv xs * 2 ^ n)) 0 na n1 rfl rfl (by rw [nv_lim]; exact mulS_len (by omega) (by omega))).mono ?_
    rintro e wn ⟨A3, c3, rfl, m3, bb⟩
    try replace na := na.below bb
    try replace nb := nb.below bb
    try replace nc := nc.below bb
    try replace n1 := n1.below bb
    try replace n2 := n2.below bb
    try replace n3 := n3.below bb
    try replace n4 := n4.below bb
    try replace n5 := n5.below bb
    try replace n6 := n6.below bb
    try replace n7 := n7.below bb
    try replace n8 := n8.below bb
    try replace n9 := n9.below bb
    try replace n10 := n10.below bb
    try replace n11 := n11.below bb
    try replace n12 := n12.below bb
    try replace n13 := n13.below bb
    try replace n14 := n14.below bb
    replace bw := below_on bw bb bw.size
    clear bb
    have n3 := m3
    clear m3
    go_wp2_with fail
    refine (shift_any _ A2 c2 _ (-(n : Int)) (lim (nv xs * 2 ^ n)) (lim (nv xs)) 0 n2 rfl (by rw [nv_lim, shiftS_neg (by omega) (by omega), Nat.mul_div_cancel _ HP.out])).mono ?_
    rintro e wn ⟨A4, c4, rfl, m4, bb⟩
    try replace na := na.below bb
    try replace nb := nb.below bb
    try replace nc := nc.below bb
    try replace n1 := n1.below bb
    try replace n2 := n2.below bb
    try replace n3 := n3.below bb
    try replace n4 := n4.below bb
    try replace n5 := n5.below bb
    try replace n6 := n6.below bb
    try replace n7 := n7.below bb
    try replace n8 := n8.below bb
    try replace n9 := n9.below bb
    try replace n10 := n10.below bb
    try replace n11 := n11.below bb
    try replace n12 := n12.below bb
    try replace n13 := n13.below bb
    try replace n14 := n14.below bb
    replace bw := below_on bw bb bw.size
    clear bb
    have n4 := m4
    clear m4
    go_wp2_with fail
    refine (shift_any _ Aa ca _ (-(m : Int)) xs (lim (nv xs / 2 ^ m)) 0 na rfl (shiftS_neg (by omega) (by omega))).mono ?_
    rintro e wn ⟨A5, c5, rfl, m5, bb⟩
    try replace na := na.below bb
    try replace nb := nb.below bb
    try replace nc := nc.below bb
    try replace n1 := n1.below bb
    try replace n2 := n2.below bb
    try replace n3 := n3.below bb
    try replace n4 := n4.below bb
    try replace n5 := n5.below bb
    try replace n6 := n6.below bb
    try replace n7 := n7.below bb
    try replace n8 := n8.below bb
    try replace n9 := n9.below bb
    try replace n10 := n10.below bb
    try replace n11 := n11.below bb
    try replace n12 := n12.below bb
    try replace n13 := n13.below bb
    try replace n14 := n14.below bb
    replace bw := below_on bw bb bw.size
    clear bb
    have n5 := m5
    clear m5
    go_wp2_with fail
    have m20 := nt_one wn
    have bb := (Below.refl wn.heap.size wn).alloc (Nat.le_refl _) (.cells #[.int .u32 1] 43)
    revert m20 bb
    generalize (wn.alloc (.cells #[.int .u32 1] 43)) = wk
    intro m20 bb
    try replace na := na.below bb
    try replace nb := nb.below bb
    try replace nc := nc.below bb
    try replace n1 := n1.below bb
    try replace n2 := n2.below bb
    try replace n3 := n3.below bb
    try replace n4 := n4.below bb
    try replace n5 := n5.below bb
    try replace n6 := n6.below bb
    try replace n7 := n7.below bb
    try replace n8 := n8.below bb
    try replace n9 := n9.below bb
    try replace n10 := n10.below bb
    try replace n11 := n11.below bb
    try replace n12 := n12.below bb
    try replace n13 := n13.below bb
    try replace n14 := n14.below bb
    replace bw := below_on bw bb bw.size
    clear bb
    refine (shift_any _ _ 1 _ (m : Int) [1] (lim (2 ^ m)) 0 m20 rfl (by rw [HB.out, shiftS_pos (by rw [lim_one]; simp) (by omega) (by rw [Nat.one_mul]; omega), Nat.one_mul])).mono ?_
    rintro e wn ⟨A6, c6, rfl, m6, bb⟩
    clear m20
    try replace na := na.below bb
    try replace nb := nb.below bb
    try replace nc := nc.below bb
    try replace n1 := n1.below bb
    try replace n2 := n2.below bb
    try replace n3 := n3.below bb
    try replace n4 := n4.below bb
    try replace n5 := n5.below bb
    try replace n6 := n6.below bb
    try replace n7 := n7.below bb
    try replace n8 := n8.below bb
    try replace n9 := n9.below bb
    try replace n10 := n10.below bb
    try replace n11 := n11.below bb
    try replace n12 := n12.below bb
    try replace n13 := n13.below bb
    try replace n14 := n14.below bb
    replace bw := below_on bw bb bw.size
    clear bb
    have n6 := m6
    clear m6
    go_wp2_with fail
    refine (div_any _ Aa A6 ca c6 _ _ xs (lim (2 ^ m)) (lim (nv xs / 2 ^ m)) (lim (nv xs % 2 ^ m)) 0 na n6 rfl rfl (by rw [nv_lim, divS_ok (by omega) (by omega) (by have := HPM.out; omega)])).mono ?_
    rintro e wn ⟨A7, c7, A8, c8, rfl, m7, m8, bb⟩
    try replace na := na.below bb
    try replace nb := nb.below bb
    try replace nc := nc.below bb
    try replace n1 := n1.below bb
    try replace n2 := n2.below bb
    try replace n3 := n3.below bb
    try replace n4 := n4.below bb
    try replace n5 := n5.below bb
    try replace n6 := n6.below bb
    try replace n7 := n7.below bb
    try replace n8 := n8.below bb
    try replace n9 := n9.below bb
    try replace n10 := n10.below bb
    try replace n11 := n11.below bb
    try replace n12 := n12.below bb
    try replace n13 := n13.below bb
    try replace n14 := n14.below bb
    replace bw := below_on bw bb bw.size
    clear bb
    have n7 := m7
    have n8 := m8
    clear m7 m8
    go_wp2_with fail
    refine (same_any _ A2 A3 c2 c3 _ _ (lim (nv xs * 2 ^ n)) (lim (nv xs * 2 ^ n)) true n2 n3 rfl rfl (decide_eq_true rfl)).mono ?_
    rintro e wn ⟨rfl, qq⟩
    have bb := qq.keep
    clear qq
    try replace na := na.below bb
    try replace nb := nb.below bb
    try replace nc := nc.below bb
    try replace n1 := n1.below bb
    try replace n2 := n2.below bb
    try replace n3 := n3.below bb
    try replace n4 := n4.below bb
    try replace n5 := n5.below bb
    try replace n6 := n6.below bb
    try replace n7 := n7.below bb
    try replace n8 := n8.below bb
    try replace n9 := n9.below bb
    try replace n10 := n10.below bb
    try replace n11 := n11.below bb
    try replace n12 := n12.below bb
    try replace n13 := n13.below bb
    try replace n14 := n14.below bb
    replace bw := below_on bw bb bw.size
    clear bb
    go_wp2_with fail
    refine (cmp_any _ A4 Aa c4 ca _ _ (lim (nv xs)) xs 0 n4 na rfl rfl (by rw [nv_lim]; exact cmp3_eq rfl)).mono ?_
    rintro e wn ⟨rfl, qq⟩
    have bb := qq.keep
    clear qq
    try replace na := na.below bb
    try replace nb := nb.below bb
    try replace nc := nc.below bb
    try replace n1 := n1.below bb
    try replace n2 := n2.below bb
    try replace n3 := n3.below bb
    try replace n4 := n4.below bb
    try replace n5 := n5.below bb
    try replace n6 := n6.below bb
    try replace n7 := n7.below bb
    try replace n8 := n8.below bb
    try replace n9 := n9.below bb
    try replace n10 := n10.below bb
    try replace n11 := n11.below bb
    try replace n12 := n12.below bb
    try replace n13 := n13.below bb
    try replace n14 := n14.below bb
    replace bw := below_on bw bb bw.size
    clear bb
    go_wp2_with fail
    refine (same_any _ A5 A7 c5 c7 _ _ (lim (nv xs / 2 ^ m)) (lim (nv xs / 2 ^ m)) true n5 n7 rfl rfl (decide_eq_true rfl)).mono ?_
    rintro e wn ⟨rfl, qq⟩
    have bb := qq.keep
    clear qq
    try replace na := na.below bb
    try replace nb := nb.below bb
    try replace nc := nc.below bb
    try replace n1 := n1.below bb
    try replace n2 := n2.below bb
    try replace n3 := n3.below bb
    try replace n4 := n4.below bb
    try replace n5 := n5.below bb
    try replace n6 := n6.below bb
    try replace n7 := n7.below bb
    try replace n8 := n8.below bb
    try replace n9 := n9.below bb
    try replace n10 := n10.below bb
    try replace n11 := n11.below bb
    try replace n12 := n12.below bb
    try replace n13 := n13.below bb
    try replace n14 := n14.below bb
    replace bw := below_on bw bb bw.size
    clear bb
    go_wp2_with fail
    refine (bits_any _ Aa ca _ xs na rfl (by omega)).mono ?_
    rintro e wn ⟨rfl, rfl⟩
    go_wp2_with fail
    refine (bits_any _ A2 c2 _ (lim (nv xs * 2 ^ n)) n2 rfl (by omega)).mono ?_
    rintro e wn ⟨rfl, rfl⟩
    go_wp2_with fail
    refine (bits_any _ Aa ca _ xs na rfl (by omega)).mono ?_
    rintro e wn ⟨rfl, rfl⟩
    go_wp2_with fail
    refine (bits_any _ A1 c1 _ (lim (2 ^ n)) n1 rfl (by omega)).mono ?_
    rintro e wn ⟨rfl, rfl⟩
    go_wp2_with fail
    refine (awake_any _).mono ?_
    rintro e wn ⟨rfl, bb⟩
    replace bw := below_on bw bb bw.size
    go_wp2_with fail
    go_ret
    exact ⟨rfl, bw⟩

theorem shifts_walk (w : World) (A : Option Addr) (a : Nat) (xs : List Nat) (n m : Int) (hA : Nt w A a xs) (hn : (Lit.int .u8 n).wf = true) (hm : (Lit.int .u8 m).wf = true) :
    Calls Try.prog 9 #[.slice A xs.length a, .int .u8 n, .int .u8 m] w fun e w' => e = .returned (.bool true) ∧ Below w.heap.size w w' := by
  have hn2 : 0 ≤ n ∧ n ≤ 255 := by simp [Lit.wf, IntKind.min, IntKind.max, IntKind.signed, IntKind.bits] at hn; omega
  have hm2 : 0 ≤ m ∧ m ≤ 255 := by simp [Lit.wf, IntKind.min, IntKind.max, IntKind.signed, IntKind.bits] at hm; omega
  by_cases h : 60 < xs.length
  · exact shifts_long w A a xs n m hA h
  · obtain ⟨n', rfl⟩ := Int.eq_ofNat_of_zero_le hn2.1
    obtain ⟨m', rfl⟩ := Int.eq_ofNat_of_zero_le hm2.1
    exact shifts_short w A a xs n' m' hA (by omega) (by omega) (by omega)
end Go.Proofs.Ytcenpboflecbcaa
