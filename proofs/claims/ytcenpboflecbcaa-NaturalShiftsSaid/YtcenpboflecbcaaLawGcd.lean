/- NaturalGcd, the walk: Gcd divides both numbers, every common factor can be taken out of it, and the numbers divided by it have no common divisor. -/
import Derived.Test.YtcenpboflecbcaaLawA
import Derived.Test.YtcenpboflecbcaaNatK
namespace Go.Proofs.Ytcenpboflecbcaa
open Go.RowKit

theorem nt_one (w : World) : Nt (w.alloc (.cells #[.int .u32 1] 43)) (some ⟨w.heap.size, 0, none⟩) 1 [1] :=
  ⟨by simp, by omega, U32.one (by omega), Rd.one_ w _ 1 _ rfl⟩
theorem len_mul3 {m n j k : Nat} (hm : (lim m).length ≤ j) (hn : (lim n).length ≤ k) : (lim (m * n)).length ≤ j + k := by
  rw [lim_length_le] at *
  rw [pw_add]
  exact Nat.mul_lt_mul'' hm hn
theorem mulS_len {m n : Nat} (hm : (lim m).length ≤ 200) (hn : (lim n).length ≤ 200) : mulS m n = (lim (m * n), 0) := by
  have := len_mul3 hm hn
  rw [mulS_ok (by omega) (by omega), sizS, if_neg (by omega)]

theorem gcdl_long (w : World) (A B C : Option Addr) (a b c : Nat) (xs ys zs : List Nat) (hA : Nt w A a xs) (hB : Nt w B b ys) (hC : Nt w C c zs) (h : 60 < xs.length ∨ 60 < ys.length ∨ 60 < zs.length) :
    Calls Try.prog 8 #[.slice A xs.length a, .slice B ys.length b, .slice C zs.length c] w fun e w' => e = .returned (.bool true) ∧ Below w.heap.size w w' := by
  go_enter Try.func8, Try.ntmps8
  go_wp2_with fail
  have hAl := hA.len
  have hBl := hB.len
  have hCl := hC.len
  have hrd : Rd slv (w.alloc (.cells #[.slice A xs.length a, .slice B ys.length b, .slice C zs.length c] 25)) (some ⟨w.heap.size, 0, none⟩) [(A, xs.length, a), (B, ys.length, b), (C, zs.length, c)] := (Gr.lit (mk := slv) (e := 25) (B := w.heap.size) w [(A, xs.length, a), (B, ys.length, b), (C, zs.length, c)] _ rfl (by simp [maxLen]) (Nat.le_refl _)).rd
  have b1 : Below w.heap.size w (w.alloc (.cells #[.slice A xs.length a, .slice B ys.length b, .slice C zs.length c] 25)) := (Below.refl w.heap.size w).alloc (Nat.le_refl _) _
  revert hrd b1
  generalize (w.alloc (.cells #[.slice A xs.length a, .slice B ys.length b, .slice C zs.length c] 25)) = w1
  intro hrd b1
  refine (long_any w1 _ _ _ _ true hrd rfl (by simp) (by intro v hv; simp only [List.mem_cons, List.not_mem_nil, or_false] at hv; rcases hv with rfl | rfl | rfl <;> simp <;> omega) (by simp <;> omega)).mono ?_
  rintro e w' ⟨rfl, rfl⟩
  clear hrd
  go_wp2_with fail
  have bw := b1
  refine (awake_any _).mono ?_
  rintro e wn ⟨rfl, bb⟩
  replace bw := below_on bw bb bw.size
  go_wp2_with fail
  go_ret
  exact ⟨rfl, bw⟩

theorem gcdl_mid (w : World) (A B C : Option Addr) (a b c : Nat) (xs ys zs : List Nat) (hA : Nt w A a xs) (hB : Nt w B b ys) (hC : Nt w C c zs) (h1 : xs.length ≤ 60) (h2 : ys.length ≤ 60) (h3 : zs.length ≤ 60) (h : 12 < xs.length ∨ 12 < ys.length ∨ 6 < zs.length) :
    Calls Try.prog 8 #[.slice A xs.length a, .slice B ys.length b, .slice C zs.length c] w fun e w' => e = .returned (.bool true) ∧ Below w.heap.size w w' := by
  by_cases ha : 12 < xs.length
  · go_enter Try.func8, Try.ntmps8
    go_wp2_with fail
    have hAl := hA.len
    have hBl := hB.len
    have hCl := hC.len
    have hrd : Rd slv (w.alloc (.cells #[.slice A xs.length a, .slice B ys.length b, .slice C zs.length c] 25)) (some ⟨w.heap.size, 0, none⟩) [(A, xs.length, a), (B, ys.length, b), (C, zs.length, c)] := (Gr.lit (mk := slv) (e := 25) (B := w.heap.size) w [(A, xs.length, a), (B, ys.length, b), (C, zs.length, c)] _ rfl (by simp [maxLen]) (Nat.le_refl _)).rd
    have b1 : Below w.heap.size w (w.alloc (.cells #[.slice A xs.length a, .slice B ys.length b, .slice C zs.length c] 25)) := (Below.refl w.heap.size w).alloc (Nat.le_refl _) _
    revert hrd b1
    generalize (w.alloc (.cells #[.slice A xs.length a, .slice B ys.length b, .slice C zs.length c] 25)) = w1
    intro hrd b1
    refine (long_any w1 _ _ _ _ false hrd rfl (by simp) (by intro v hv; simp only [List.mem_cons, List.not_mem_nil, or_false] at hv; rcases hv with rfl | rfl | rfl <;> simp <;> omega) (by simp <;> omega)).mono ?_
    rintro e w' ⟨rfl, rfl⟩
    clear hrd
    go_wp2_with fail
    have bw := b1
    refine (awake_any _).mono ?_
    rintro e wn ⟨rfl, bb⟩
    replace bw := below_on bw bb bw.size
    go_wp2_with fail
    go_ret
    exact ⟨rfl, bw⟩
  · by_cases hb : 12 < ys.length
    · go_enter Try.func8, Try.ntmps8
      go_wp2_with fail
      have hAl := hA.len
      have hBl := hB.len
      have hCl := hC.len
      have hrd : Rd slv (w.alloc (.cells #[.slice A xs.length a, .slice B ys.length b, .slice C zs.length c] 25)) (some ⟨w.heap.size, 0, none⟩) [(A, xs.length, a), (B, ys.length, b), (C, zs.length, c)] := (Gr.lit (mk := slv) (e := 25) (B := w.heap.size) w [(A, xs.length, a), (B, ys.length, b), (C, zs.length, c)] _ rfl (by simp [maxLen]) (Nat.le_refl _)).rd
      have b1 : Below w.heap.size w (w.alloc (.cells #[.slice A xs.length a, .slice B ys.length b, .slice C zs.length c] 25)) := (Below.refl w.heap.size w).alloc (Nat.le_refl _) _
      revert hrd b1
      generalize (w.alloc (.cells #[.slice A xs.length a, .slice B ys.length b, .slice C zs.length c] 25)) = w1
      intro hrd b1
      refine (long_any w1 _ _ _ _ false hrd rfl (by simp) (by intro v hv; simp only [List.mem_cons, List.not_mem_nil, or_false] at hv; rcases hv with rfl | rfl | rfl <;> simp <;> omega) (by simp <;> omega)).mono ?_
      rintro e w' ⟨rfl, rfl⟩
      clear hrd
      go_wp2_with fail
      have bw := b1
      refine (awake_any _).mono ?_
      rintro e wn ⟨rfl, bb⟩
      replace bw := below_on bw bb bw.size
      go_wp2_with fail
      go_ret
      exact ⟨rfl, bw⟩
    · have hc : 6 < zs.length := by omega
      go_enter Try.func8, Try.ntmps8
      go_wp2_with fail
      have hAl := hA.len
      have hBl := hB.len
      have hCl := hC.len
      have hrd : Rd slv (w.alloc (.cells #[.slice A xs.length a, .slice B ys.length b, .slice C zs.length c] 25)) (some ⟨w.heap.size, 0, none⟩) [(A, xs.length, a), (B, ys.length, b), (C, zs.length, c)] := (Gr.lit (mk := slv) (e := 25) (B := w.heap.size) w [(A, xs.length, a), (B, ys.length, b), (C, zs.length, c)] _ rfl (by simp [maxLen]) (Nat.le_refl _)).rd
      have b1 : Below w.heap.size w (w.alloc (.cells #[.slice A xs.length a, .slice B ys.length b, .slice C zs.length c] 25)) := (Below.refl w.heap.size w).alloc (Nat.le_refl _) _
      revert hrd b1
      generalize (w.alloc (.cells #[.slice A xs.length a, .slice B ys.length b, .slice C zs.length c] 25)) = w1
      intro hrd b1
      refine (long_any w1 _ _ _ _ false hrd rfl (by simp) (by intro v hv; simp only [List.mem_cons, List.not_mem_nil, or_false] at hv; rcases hv with rfl | rfl | rfl <;> simp <;> omega) (by simp <;> omega)).mono ?_
      rintro e w' ⟨rfl, rfl⟩
      clear hrd
      go_wp2_with fail
      have bw := b1
      refine (awake_any _).mono ?_
      rintro e wn ⟨rfl, bb⟩
      replace bw := below_on bw bb bw.size
      go_wp2_with fail
      go_ret
      exact ⟨rfl, bw⟩

theorem gcdl_zero (w : World) (A B C : Option Addr) (a b c : Nat) (xs ys zs : List Nat) (hA : Nt w A a xs) (hB : Nt w B b ys) (hC : Nt w C c zs) (h1 : xs.length ≤ 12) (h2 : ys.length ≤ 12) (h3 : zs.length ≤ 6) (hx : nv xs = 0) (hy : nv ys = 0) :
    Calls Try.prog 8 #[.slice A xs.length a, .slice B ys.length b, .slice C zs.length c] w fun e w' => e = .returned (.bool true) ∧ Below w.heap.size w w' := by
  have la : (lim (nv xs)).length ≤ 12 := Nat.le_trans (lim_length_le_length hA.u) h1
  have lb : (lim (nv ys)).length ≤ 12 := Nat.le_trans (lim_length_le_length hB.u) h2
  have hz1 : (((bits2 (nv xs) : Nat) : Int) == 0) = true := by rw [hx]; rfl
  have hz2 : (((bits2 (nv ys) : Nat) : Int) == 0) = true := by rw [hy]; rfl
  have HX := Lib.hid hx
  have HY := Lib.hid hy
  clear hx hy
  go_enter Try.func8, Try.ntmps8
  go_wp2_with fail
  have hAl := hA.len
  have hBl := hB.len
  have hCl := hC.len
  have hrd : Rd slv (w.alloc (.cells #[.slice A xs.length a, .slice B ys.length b, .slice C zs.length c] 25)) (some ⟨w.heap.size, 0, none⟩) [(A, xs.length, a), (B, ys.length, b), (C, zs.length, c)] := (Gr.lit (mk := slv) (e := 25) (B := w.heap.size) w [(A, xs.length, a), (B, ys.length, b), (C, zs.length, c)] _ rfl (by simp [maxLen]) (Nat.le_refl _)).rd
  have b1 : Below w.heap.size w (w.alloc (.cells #[.slice A xs.length a, .slice B ys.length b, .slice C zs.length c] 25)) := (Below.refl w.heap.size w).alloc (Nat.le_refl _) _
  revert hrd b1
  generalize (w.alloc (.cells #[.slice A xs.length a, .slice B ys.length b, .slice C zs.length c] 25)) = w1
  intro hrd b1
  refine (long_any w1 _ _ _ _ false hrd rfl (by simp) (by intro v hv; simp only [List.mem_cons, List.not_mem_nil, or_false] at hv; rcases hv with rfl | rfl | rfl <;> simp <;> omega) (by simp <;> omega)).mono ?_
  rintro e w' ⟨rfl, rfl⟩
  clear hrd
  have na := hA.below b1
  have nb := hB.below b1
  have nc := hC.below b1
  have bw := b1
  obtain ⟨Aa, rfl⟩ : ∃ Aa, Aa = A := ⟨_, rfl⟩
  obtain ⟨Ab, rfl⟩ : ∃ Ab, Ab = B := ⟨_, rfl⟩
  obtain ⟨Ac, rfl⟩ : ∃ Ac, Ac = C := ⟨_, rfl⟩
  obtain ⟨ca, rfl⟩ : ∃ ca, ca = a := ⟨_, rfl⟩
  obtain ⟨cb, rfl⟩ : ∃ cb, cb = b := ⟨_, rfl⟩
  obtain ⟨cc, rfl⟩ : ∃ cc, cc = c := ⟨_, rfl⟩
  clear hA hB hC b1
  go_wp2_with fail
  refine (gcd_any _ Aa Ab ca cb _ _ xs ys [] 0 na nb rfl rfl (by rw [gcdS_ok (by omega) (by omega), HX.out, HY.out, Nat.gcd_self, lim_zero])).mono ?_
  rintro e wn ⟨A1, c1, rfl, m1, bb⟩
  try replace na := na.below bb
  try replace nb := nb.below bb
  try replace nc := nc.below bb
  try replace n1 := n1.below bb
  try replace n2 := n2.below bb
  try replace n3 := n3.below bb
  try replace n4 := n4.below bb
  try replace n5 := n5.below bb
  try replace n6 := n6.below bb
  try replace n7 := n7.below bb
  try replace n8 := n8.below bb
  try replace n9 := n9.below bb
  try replace n10 := n10.below bb
  try replace n11 := n11.below bb
  try replace n12 := n12.below bb
  try replace n13 := n13.below bb
  try replace n14 := n14.below bb
  replace bw := below_on bw bb bw.size
  clear bb
  have n1 := m1
  clear m1
  go_wp2_with fail
  refine (bits_any _ Aa ca _ xs na rfl (by omega)).mono ?_
  rintro e wn ⟨rfl, rfl⟩
  go_wp2_with fail
  refine (bits_any _ Ab cb _ ys nb rfl (by omega)).mono ?_
  rintro e wn ⟨rfl, rfl⟩
  go_wp2_with fail
  refine (awake_any _).mono ?_
  rintro e wn ⟨rfl, bb⟩
  replace bw := below_on bw bb bw.size
  go_wp2_with fail
  go_ret
  exact ⟨rfl, bw⟩

set_option maxHeartbeats 2000000 in
theorem gcdl_short (w : World) (A B C : Option Addr) (a b c : Nat) (xs ys zs : List Nat) (hA : Nt w A a xs) (hB : Nt w B b ys) (hC : Nt w C c zs) (h1 : xs.length ≤ 12) (h2 : ys.length ≤ 12) (h3 : zs.length ≤ 6) (hxy : ¬ (nv xs = 0 ∧ nv ys = 0)) :
    Calls Try.prog 8 #[.slice A xs.length a, .slice B ys.length b, .slice C zs.length c] w fun e w' => e = .returned (.bool true) ∧ Below w.heap.size w w' := by
  have la : (lim (nv xs)).length ≤ 12 := Nat.le_trans (lim_length_le_length hA.u) h1
  have lb : (lim (nv ys)).length ≤ 12 := Nat.le_trans (lim_length_le_length hB.u) h2
  have lc : (lim (nv zs)).length ≤ 6 := Nat.le_trans (lim_length_le_length hC.u) h3
  obtain ⟨G, hG⟩ : ∃ G, G = Nat.gcd (nv xs) (nv ys) := ⟨_, rfl⟩
  have hG0 : 0 < G := by
    rw [hG]
    rcases Nat.eq_zero_or_pos (nv xs) with h | h
    · exact Nat.gcd_pos_of_pos_right _ (Nat.pos_of_ne_zero fun hy => hxy ⟨h, hy⟩)
    · exact Nat.gcd_pos_of_pos_left _ h
  have lg : (lim G).length ≤ 12 := by
    rcases Nat.eq_zero_or_pos (nv xs) with h | h
    · rcases Nat.eq_zero_or_pos (nv ys) with h' | h'
      · exact absurd ⟨h, h'⟩ hxy
      · have := lim_length_mono (Nat.gcd_le_right (nv xs) h'); rw [← hG] at this; omega
    · have := lim_length_mono (Nat.gcd_le_left (nv ys) h); rw [← hG] at this; omega
  have HG0 := Lib.hid hG0
  have HG := Lib.hid hG
  have HG1 : Hid (nv xs % G = 0) := Lib.hid (Nat.mod_eq_zero_of_dvd (by rw [hG]; exact Nat.gcd_dvd_left _ _))
  have HG2 : Hid (nv ys % G = 0) := Lib.hid (Nat.mod_eq_zero_of_dvd (by rw [hG]; exact Nat.gcd_dvd_right _ _))
  have HG3 : Hid (Nat.gcd (nv xs / G) (nv ys / G) = 1) := Lib.hid (by rw [hG] at hG0 ⊢; exact (by rw [Nat.gcd_div (Nat.gcd_dvd_left _ _) (Nat.gcd_dvd_right _ _)]; exact Nat.div_self hG0))
  have lx := lim_length_mono (Nat.div_le_self (nv xs) G)
  have ly := lim_length_mono (Nat.div_le_self (nv ys) G)
  have lxz := len_mul3 la lc
  have lyz := len_mul3 lb lc
  clear hG0 hG
  by_cases hx : nv xs = 0
  · have hz1 : (((bits2 (nv xs) : Nat) : Int) == 0) = true := by rw [hx]; rfl
    have hz2 : (((bits2 (nv ys) : Nat) : Int) == 0) = false := by
      have : bits2 (nv ys) ≠ 0 := by unfold bits2; rw [if_neg (fun hy => hxy ⟨hx, hy⟩)]; omega
      exact beq_eq_false_iff_ne.2 (by omega)
    clear hx hxy
    go_enter Try.func8, Try.ntmps8
    go_wp2_with fail
    have hAl := hA.len
    have hBl := hB.len
    have hCl := hC.len
    have hrd : Rd slv (w.alloc (.cells #[.slice A xs.length a, .slice B ys.length b, .slice C zs.length c] 25)) (some ⟨w.heap.size, 0, none⟩) [(A, xs.length, a), (B, ys.length, b), (C, zs.length, c)] := (Gr.lit (mk := slv) (e := 25) (B := w.heap.size) w [(A, xs.length, a), (B, ys.length, b), (C, zs.length, c)] _ rfl (by simp [maxLen]) (Nat.le_refl _)).rd
    have b1 : Below w.heap.size w (w.alloc (.cells #[.slice A xs.length a, .slice B ys.length b, .slice C zs.length c] 25)) := (Below.refl w.heap.size w).alloc (Nat.le_refl _) _
    revert hrd b1
    generalize (w.alloc (.cells #[.slice A xs.length a, .slice B ys.length b, .slice C zs.length c] 25)) = w1
    intro hrd b1
    refine (long_any w1 _ _ _ _ false hrd rfl (by simp) (by intro v hv; simp only [List.mem_cons, List.not_mem_nil, or_false] at hv; rcases hv with rfl | rfl | rfl <;> simp <;> omega) (by simp <;> omega)).mono ?_
    rintro e w' ⟨rfl, rfl⟩
    clear hrd
    have na := hA.below b1
    have nb := hB.below b1
    have nc := hC.below b1
    have bw := b1
    obtain ⟨Aa, rfl⟩ : ∃ Aa, Aa = A := ⟨_, rfl⟩
    obtain ⟨Ab, rfl⟩ : ∃ Ab, Ab = B := ⟨_, rfl⟩
    obtain ⟨Ac, rfl⟩ : ∃ Ac, Ac = C := ⟨_, rfl⟩
    obtain ⟨ca, rfl⟩ : ∃ ca, ca = a := ⟨_, rfl⟩
    obtain ⟨cb, rfl⟩ : ∃ cb, cb = b := ⟨_, rfl⟩
    obtain ⟨cc, rfl⟩ : ∃ cc, cc = c := ⟨_, rfl⟩
    clear hA hB hC b1
    go_wp2_with fail
    refine (gcd_any _ Aa Ab ca cb _ _ xs ys (lim G) 0 na nb rfl rfl (by rw [gcdS_ok (by omega) (by omega), HG.out])).mono ?_
    rintro e wn ⟨A1, c1, rfl, m1, bb⟩
    try replace na := na.below bb
    try replace nb := nb.below bb
    try replace nc := nc.below bb
    try replace n1 := n1.below bb
    try replace n2 := n2.below bb
    try replace n3 := n3.below bb
    try replace n4 := n4.below bb
    try replace n5 := n5.below bb
    try replace n6 := n6.below bb
    try replace n7 := n7.below bb
    try replace n8 := n8.below bb
    try replace n9 := n9.below bb
    try replace n10 := n10.below bb
    try replace n11 := n11.below bb
    try replace n12 := n12.below bb
    try replace n13 := n13.below bb
    try replace n14 := n14.below bb
    replace bw := below_on bw bb bw.size
    clear bb
    have n1 := m1
    clear m1
    go_wp2_with fail
    refine (bits_any _ Aa ca _ xs na rfl (by omega)).mono ?_
    rintro e wn ⟨rfl, rfl⟩
    go_wp2_with fail
    refine (bits_any _ Ab cb _ ys nb rfl (by omega)).mono ?_
    rintro e wn ⟨rfl, rfl⟩
    go_wp2_with fail
    refine (div_any _ Aa A1 ca c1 _ _ xs (lim G) (lim (nv xs / G)) [] 0 na n1 rfl rfl (by rw [nv_lim, divS_ok (by omega) (by omega) (by have := HG0.out; omega), HG1.out, lim_zero])).mono ?_
    rintro e wn ⟨A2, c2, A3, c3, rfl, m2, m3, bb⟩
    try replace na := na.below bb
    try replace nb := nb.below bb
    try replace nc := nc.below bb
    try replace n1 := n1.below bb
    try replace n2 := n2.below bb
    try replace n3 := n3.below bb
    try replace n4 := n4.below bb
    try replace n5 := n5.below bb
    try replace n6 := n6.below bb
    try replace n7 := n7.below bb
    try replace n8 := n8.below bb
    try replace n9 := n9.below bb
    try replace n10 := n10.below bb
    try replace n11 := n11.below bb
    try replace n12 := n12.below bb
    try replace n13 := n13.below bb
    try replace n14 := n14.below bb
    replace bw := below_on bw bb bw.size
    clear bb
    have n2 := m2
    have n3 := m3
    clear m2 m3
    go_wp2_with fail
    refine (div_any _ Ab A1 cb c1 _ _ ys (lim G) (lim (nv ys / G)) [] 0 nb n1 rfl rfl (by rw [nv_lim, divS_ok (by omega) (by omega) (by have := HG0.out; omega), HG2.out, lim_zero])).mono ?_
    rintro e wn ⟨A4, c4, A5, c5, rfl, m4, m5, bb⟩
    try replace na := na.below bb
    try replace nb := nb.below bb
    try replace nc := nc.below bb
    try replace n1 := n1.below bb
    try replace n2 := n2.below bb
    try replace n3 := n3.below bb
    try replace n4 := n4.below bb
    try replace n5 := n5.below bb
    try replace n6 := n6.below bb
    try replace n7 := n7.below bb
    try replace n8 := n8.below bb
    try replace n9 := n9.below bb
    try replace n10 := n10.below bb
    try replace n11 := n11.below bb
    try replace n12 := n12.below bb
    try replace n13 := n13.below bb
    try replace n14 := n14.below bb
    replace bw := below_on bw bb bw.size
    clear bb
    have n4 := m4
    have n5 := m5
    clear m4 m5
    go_wp2_with fail
    refine (gcd_any _ A2 A4 c2 c4 _ _ (lim (nv xs / G)) (lim (nv ys / G)) [1] 0 n2 n4 rfl rfl (by rw [nv_lim, nv_lim, gcdS_ok (by omega) (by omega), HG3.out, lim_one])).mono ?_
    rintro e wn ⟨A6, c6, rfl, m6, bb⟩
    try replace na := na.below bb
    try replace nb := nb.below bb
    try replace nc := nc.below bb
    try replace n1 := n1.below bb
    try replace n2 := n2.below bb
    try replace n3 := n3.below bb
    try replace n4 := n4.below bb
    try replace n5 := n5.below bb
    try replace n6 := n6.below bb
    try replace n7 := n7.below bb
    try replace n8 := n8.below bb
    try replace n9 := n9.below bb
    try replace n10 := n10.below bb
    try replace n11 := n11.below bb
    try replace n12 := n12.below bb
    try replace n13 := n13.below bb
    try replace n14 := n14.below bb
    replace bw := below_on bw bb bw.size
    clear bb
    have n6 := m6
    clear m6
    go_wp2_with fail
    refine (mul_any _ Aa Ac ca cc _ _ xs zs (lim (nv xs * nv zs)) 0 na nc rfl rfl (mulS_len (by omega) (by omega))).mono ?_
    rintro e wn ⟨A7, c7, rfl, m7, bb⟩
    try replace na := na.below bb
    try replace nb := nb.below bb
    try replace nc := nc.below bb
    try replace n1 := n1.below bb
    try replace n2 := n2.below bb
    try replace n3 := n3.below bb
    try replace n4 := n4.below bb
    try replace n5 := n5.below bb
    try replace n6 := n6.below bb
    try replace n7 := n7.below bb
    try replace n8 := n8.below bb
    try replace n9 := n9.below bb
    try replace n10 := n10.below bb
    try replace n11 := n11.below bb
    try replace n12 := n12.below bb
    try replace n13 := n13.below bb
    try replace n14 := n14.below bb
    replace bw := below_on bw bb bw.size
    clear bb
    have n7 := m7
    clear m7
    go_wp2_with fail
    refine (mul_any _ Ab Ac cb cc _ _ ys zs (lim (nv ys * nv zs)) 0 nb nc rfl rfl (mulS_len (by omega) (by omega))).mono ?_
    rintro e wn ⟨A8, c8, rfl, m8, bb⟩
    try replace na := na.below bb
    try replace nb := nb.below bb
    try replace nc := nc.below bb
    try replace n1 := n1.below bb
    try replace n2 := n2.below bb
    try replace n3 := n3.below bb
    try replace n4 := n4.below bb
    try replace n5 := n5.below bb
    try replace n6 := n6.below bb
    try replace n7 := n7.below bb
    try replace n8 := n8.below bb
    try replace n9 := n9.below bb
    try replace n10 := n10.below bb
    try replace n11 := n11.below bb
    try replace n12 := n12.below bb
    try replace n13 := n13.below bb
    try replace n14 := n14.below bb
    replace bw := below_on bw bb bw.size
    clear bb
    have n8 := m8
    clear m8
    go_wp2_with fail
    refine (gcd_any _ A7 A8 c7 c8 _ _ (lim (nv xs * nv zs)) (lim (nv ys * nv zs)) (lim (G * nv zs)) 0 n7 n8 rfl rfl (by rw [nv_lim, nv_lim, gcdS_ok (by omega) (by omega), Nat.gcd_mul_right, HG.out])).mono ?_
    rintro e wn ⟨A9, c9, rfl, m9, bb⟩
    try replace na := na.below bb
    try replace nb := nb.below bb
    try replace nc := nc.below bb
    try replace n1 := n1.below bb
    try replace n2 := n2.below bb
    try replace n3 := n3.below bb
    try replace n4 := n4.below bb
    try replace n5 := n5.below bb
    try replace n6 := n6.below bb
    try replace n7 := n7.below bb
    try replace n8 := n8.below bb
    try replace n9 := n9.below bb
    try replace n10 := n10.below bb
    try replace n11 := n11.below bb
    try replace n12 := n12.below bb
    try replace n13 := n13.below bb
    try replace n14 := n14.below bb
    replace bw := below_on bw bb bw.size
    clear bb
    have n9 := m9
    clear m9
    go_wp2_with fail
    refine (mul_any _ A1 Ac c1 cc _ _ (lim G) zs (lim (G * nv zs)) 0 n1 nc rfl rfl (by rw [nv_lim]; exact mulS_len (by omega) (by omega))).mono ?_
    rintro e wn ⟨A10, c10, rfl, m10, bb⟩
    try replace na := na.below bb
    try replace nb := nb.below bb
    try replace nc := nc.below bb
    try replace n1 := n1.below bb
    try replace n2 := n2.below bb
    try replace n3 := n3.below bb
    try replace n4 := n4.below bb
    try replace n5 := n5.below bb
    try replace n6 := n6.below bb
    try replace n7 := n7.below bb
    try replace n8 := n8.below bb
    try replace n9 := n9.below bb
    try replace n10 := n10.below bb
    try replace n11 := n11.below bb
    try replace n12 := n12.below bb
    try replace n13 := n13.below bb
    try replace n14 := n14.below bb
    replace bw := below_on bw bb bw.size
    clear bb
    have n10 := m10
    clear m10
    go_wp2_with fail
    have m11 := nt_one wn
    have bb := (Below.refl wn.heap.size wn).alloc (Nat.le_refl _) (.cells #[.int .u32 1] 43)
    revert m11 bb
    generalize (wn.alloc (.cells #[.int .u32 1] 43)) = wk
    intro m11 bb
    obtain ⟨A11, hA11⟩ : ∃ x, x = (some ⟨wn.heap.size, 0, none⟩ : Option Addr) := ⟨_, rfl⟩
    rw [← hA11] at m11 ⊢
    clear hA11
    try replace na := na.below bb
    try replace nb := nb.below bb
    try replace nc := nc.below bb
    try replace n1 := n1.below bb
    try replace n2 := n2.below bb
    try replace n3 := n3.below bb
    try replace n4 := n4.below bb
    try replace n5 := n5.below bb
    try replace n6 := n6.below bb
    try replace n7 := n7.below bb
    try replace n8 := n8.below bb
    try replace n9 := n9.below bb
    try replace n10 := n10.below bb
    try replace n11 := n11.below bb
    try replace n12 := n12.below bb
    try replace n13 := n13.below bb
    try replace n14 := n14.below bb
    replace bw := below_on bw bb bw.size
    clear bb
    have n11 := m11
    clear m11
    refine (cmp_any _ A6 A11 c6 1 _ _ [1] [1] 0 n6 n11 rfl rfl (cmp3_eq rfl)).mono ?_
    rintro e wn ⟨rfl, qq⟩
    have bb := qq.keep
    clear qq
    try replace na := na.below bb
    try replace nb := nb.below bb
    try replace nc := nc.below bb
    try replace n1 := n1.below bb
    try replace n2 := n2.below bb
    try replace n3 := n3.below bb
    try replace n4 := n4.below bb
    try replace n5 := n5.below bb
    try replace n6 := n6.below bb
    try replace n7 := n7.below bb
    try replace n8 := n8.below bb
    try replace n9 := n9.below bb
    try replace n10 := n10.below bb
    try replace n11 := n11.below bb
    try replace n12 := n12.below bb
    try replace n13 := n13.below bb
    try replace n14 := n14.below bb
    replace bw := below_on bw bb bw.size
    clear bb
    go_wp2_with fail
    refine (same_any _ A9 A10 c9 c10 _ _ (lim (G * nv zs)) (lim (G * nv zs)) true n9 n10 rfl rfl (decide_eq_true rfl)).mono ?_
    rintro e wn ⟨rfl, qq⟩
    have bb := qq.keep
    clear qq
    try replace na := na.below bb
    try replace nb := nb.below bb
    try replace nc := nc.below bb
    try replace n1 := n1.below bb
    try replace n2 := n2.below bb
    try replace n3 := n3.below bb
    try replace n4 := n4.below bb
    try replace n5 := n5.below bb
    try replace n6 := n6.below bb
    try replace n7 := n7.below bb
    try replace n8 := n8.below bb
    try replace n9 := n9.below bb
    try replace n10 := n10.below bb
    try replace n11 := n11.below bb
    try replace n12 := n12.below bb
    try replace n13 := n13.below bb
    try replace n14 := n14.below bb
    replace bw := below_on bw bb bw.size
    clear bb
    go_wp2_with fail
    refine (awake_any _).mono ?_
    rintro e wn ⟨rfl, bb⟩
    replace bw := below_on bw bb bw.size
    go_wp2_with fail
    go_ret
    exact ⟨rfl, bw⟩
  · have hz1 : (((bits2 (nv xs) : Nat) : Int) == 0) = false := by
      have : bits2 (nv xs) ≠ 0 := by unfold bits2; rw [if_neg hx]; omega
      exact beq_eq_false_iff_ne.2 (by omega)
    clear hx hxy
    go_enter Try.func8, Try.ntmps8
    go_wp2_with fail
    have hAl := hA.len
    have hBl := hB.len
    have hCl := hC.len
    have hrd : Rd slv (w.alloc (.cells #[.slice A xs.length a, .slice B ys.length b, .slice C zs.length c] 25)) (some ⟨w.heap.size, 0, none⟩) [(A, xs.length, a), (B, ys.length, b), (C, zs.length, c)] := (Gr.lit (mk := slv) (e := 25) (B := w.heap.size) w [(A, xs.length, a), (B, ys.length, b), (C, zs.length, c)] _ rfl (by simp [maxLen]) (Nat.le_refl _)).rd
    have b1 : Below w.heap.size w (w.alloc (.cells #[.slice A xs.length a, .slice B ys.length b, .slice C zs.length c] 25)) := (Below.refl w.heap.size w).alloc (Nat.le_refl _) _
    revert hrd b1
    generalize (w.alloc (.cells #[.slice A xs.length a, .slice B ys.length b, .slice C zs.length c] 25)) = w1
    intro hrd b1
    refine (long_any w1 _ _ _ _ false hrd rfl (by simp) (by intro v hv; simp only [List.mem_cons, List.not_mem_nil, or_false] at hv; rcases hv with rfl | rfl | rfl <;> simp <;> omega) (by simp <;> omega)).mono ?_
    rintro e w' ⟨rfl, rfl⟩
    clear hrd
    have na := hA.below b1
    have nb := hB.below b1
    have nc := hC.below b1
    have bw := b1
    obtain ⟨Aa, rfl⟩ : ∃ Aa, Aa = A := ⟨_, rfl⟩
    obtain ⟨Ab, rfl⟩ : ∃ Ab, Ab = B := ⟨_, rfl⟩
    obtain ⟨Ac, rfl⟩ : ∃ Ac, Ac = C := ⟨_, rfl⟩
    obtain ⟨ca, rfl⟩ : ∃ ca, ca = a := ⟨_, rfl⟩
    obtain ⟨cb, rfl⟩ : ∃ cb, cb = b := ⟨_, rfl⟩
    obtain ⟨cc, rfl⟩ : ∃ cc, cc = c := ⟨_, rfl⟩
    clear hA hB hC b1
    go_wp2_with fail
    refine (gcd_any _ Aa Ab ca cb _ _ xs ys (lim G) 0 na nb rfl rfl (by rw [gcdS_ok (by omega) (by omega), HG.out])).mono ?_
    rintro e wn ⟨A1, c1, rfl, m1, bb⟩
    try replace na := na.below bb
    try replace nb := nb.below bb
    try replace nc := nc.below bb
    try replace n1 := n1.below bb
    try replace n2 := n2.below bb
    try replace n3 := n3.below bb
    try replace n4 := n4.below bb
    try replace n5 := n5.below bb
    try replace n6 := n6.below bb
    try replace n7 := n7.below bb
    try replace n8 := n8.below bb
    try replace n9 := n9.below bb
    try replace n10 := n10.below bb
    try replace n11 := n11.below bb
    try replace n12 := n12.below bb
    try replace n13 := n13.below bb
    try replace n14 := n14.below bb
    replace bw := below_on bw bb bw.size
    clear bb
    have n1 := m1
    clear m1
    go_wp2_with fail
    refine (bits_any _ Aa ca _ xs na rfl (by omega)).mono ?_
    rintro e wn ⟨rfl, rfl⟩
    go_wp2_with fail
    refine (div_any _ Aa A1 ca c1 _ _ xs (lim G) (lim (nv xs / G)) [] 0 na n1 rfl rfl (by rw [nv_lim, divS_ok (by omega) (by omega) (by have := HG0.out; omega), HG1.out, lim_zero])).mono ?_
    rintro e wn ⟨A2, c2, A3, c3, rfl, m2, m3, bb⟩
    try replace na := na.below bb
    try replace nb := nb.below bb
    try replace nc := nc.below bb
    try replace n1 := n1.below bb
    try replace n2 := n2.below bb
    try replace n3 := n3.below bb
    try replace n4 := n4.below bb
    try replace n5 := n5.below bb
    try replace n6 := n6.below bb
    try replace n7 := n7.below bb
    try replace n8 := n8.below bb
    try replace n9 := n9.below bb
    try replace n10 := n10.below bb
    try replace n11 := n11.below bb
    try replace n12 := n12.below bb
    try replace n13 := n13.below bb
    try replace n14 := n14.below bb
    replace bw := below_on bw bb bw.size
    clear bb
    have n2 := m2
    have n3 := m3
    clear m2 m3
    go_wp2_with fail
    refine (div_any _ Ab A1 cb c1 _ _ ys (lim G) (lim (nv ys / G)) [] 0 nb n1 rfl rfl (by rw [nv_lim, divS_ok (by omega) (by omega) (by have := HG0.out; omega), HG2.out, lim_zero])).mono ?_
    rintro e wn ⟨A4, c4, A5, c5, rfl, m4, m5, bb⟩
    try replace na := na.below bb
    try replace nb := nb.below bb
    try replace nc := nc.below bb
    try replace n1 := n1.below bb
    try replace n2 := n2.below bb
    try replace n3 := n3.below bb
    try replace n4 := n4.below bb
    try replace n5 := n5.below bb
    try replace n6 := n6.below bb
    try replace n7 := n7.below bb
    try replace n8 := n8.below bb
    try replace n9 := n9.below bb
    try replace n10 := n10.below bb
    try replace n11 := n11.below bb
    try replace n12 := n12.below bb
    try replace n13 := n13.below bb
    try replace n14 := n14.below bb
    replace bw := below_on bw bb bw.size
    clear bb
    have n4 := m4
    have n5 := m5
    clear m4 m5
    go_wp2_with fail
    refine (gcd_any _ A2 A4 c2 c4 _ _ (lim (nv xs / G)) (lim (nv ys / G)) [1] 0 n2 n4 rfl rfl (by rw [nv_lim, nv_lim, gcdS_ok (by omega) (by omega), HG3.out, lim_one])).mono ?_
    rintro e wn ⟨A6, c6, rfl, m6, bb⟩
    try replace na := na.below bb
    try replace nb := nb.below bb
    try replace nc := nc.below bb
    try replace n1 := n1.below bb
    try replace n2 := n2.below bb
    try replace n3 := n3.below bb
    try replace n4 := n4.below bb
    try replace n5 := n5.below bb
    try replace n6 := n6.below bb
    try replace n7 := n7.below bb
    try replace n8 := n8.below bb
    try replace n9 := n9.below bb
    try replace n10 := n10.below bb
    try replace n11 := n11.below bb
    try replace n12 := n12.below bb
    try replace n13 := n13.below bb
    try replace n14 := n14.below bb
    replace bw := below_on bw bb bw.size
    clear bb
    have n6 := m6
    clear m6
    go_wp2_with fail
    refine (mul_any _ Aa Ac ca cc _ _ xs zs (lim (nv xs * nv zs)) 0 na nc rfl rfl (mulS_len (by omega) (by omega))).mono ?_
    rintro e wn ⟨A7, c7, rfl, m7, bb⟩
    try replace na := na.below bb
    try replace nb := nb.below bb
    try replace nc := nc.below bb
    try replace n1 := n1.below bb
    try replace n2 := n2.below bb
    try replace n3 := n3.below bb
    try replace n4 := n4.below bb
    try replace n5 := n5.below bb
    try replace n6 := n6.below bb
    try replace n7 := n7.below bb
    try replace n8 := n8.below bb
    try replace n9 := n9.below bb
    try replace n10 := n10.below bb
    try replace n11 := n11.below bb
    try replace n12 := n12.below bb
    try replace n13 := n13.below bb
    try replace n14 := n14.below bb
    replace bw := below_on bw bb bw.size
    clear bb
    have n7 := m7
    clear m7
    go_wp2_with fail
    refine (mul_any _ Ab Ac cb cc _ _ ys zs (lim (nv ys * nv zs)) 0 nb nc rfl rfl (mulS_len (by omega) (by omega))).mono ?_
    rintro e wn ⟨A8, c8, rfl, m8, bb⟩
    try replace na := na.below bb
    try replace nb := nb.below bb
    try replace nc := nc.below bb
    try replace n1 := n1.below bb
    try replace n2 := n2.below bb
    try replace n3 := n3.below bb
    try replace n4 := n4.below bb
    try replace n5 := n5.below bb
    try replace n6 := n6.below bb
    try replace n7 := n7.below bb
    try replace n8 := n8.below bb
    try replace n9 := n9.below bb
    try replace n10 := n10.below bb
    try replace n11 := n11.below bb
    try replace n12 := n12.below bb
    try replace n13 := n13.below bb
    try replace n14 := n14.below bb
    replace bw := below_on bw bb bw.size
    clear bb
    have n8 := m8
    clear m8
    go_wp2_with fail
    refine (gcd_any _ A7 A8 c7 c8 _ _ (lim (nv xs * nv zs)) (lim (nv ys * nv zs)) (lim (G * nv zs)) 0 n7 n8 rfl rfl (by rw [nv_lim, nv_lim, gcdS_ok (by omega) (by omega), Nat.gcd_mul_right, HG.out])).mono ?_
    rintro e wn ⟨A9, c9, rfl, m9, bb⟩
    try replace na := na.below bb
    try replace nb := nb.below bb
    try replace nc := nc.below bb
    try replace n1 := n1.below bb
    try replace n2 := n2.below bb
    try replace n3 := n3.below bb
    try replace n4 := n4.below bb
    try replace n5 := n5.below bb
    try replace n6 := n6.below bb
    try replace n7 := n7.below bb
    try replace n8 := n8.below bb
    try replace n9 := n9.below bb
    try replace n10 := n10.below bb
    try replace n11 := n11.below bb
    try replace n12 := n12.below bb
    try replace n13 := n13.below bb
    try replace n14 := n14.below bb
    replace bw := below_on bw bb bw.size
    clear bb
    have n9 := m9
    clear m9
    go_wp2_with fail
    refine (mul_any _ A1 Ac c1 cc _ _ (lim G) zs (lim (G * nv zs)) 0 n1 nc rfl rfl (by rw [nv_lim]; exact mulS_len (by omega) (by omega))).mono ?_
    rintro e wn ⟨A10, c10, rfl, m10, bb⟩
    try replace na := na.below bb
    try replace nb := nb.below bb
    try replace nc := nc.below bb
    try replace n1 := n1.below bb
    try replace n2 := n2.below bb
    try replace n3 := n3.below bb
    try replace n4 := n4.below bb
    try replace n5 := n5.below bb
    try replace n6 := n6.below bb
    try replace n7 := n7.below bb
    try replace n8 := n8.below bb
    try replace n9 := n9.below bb
    try replace n10 := n10.below bb
    try replace n11 := n11.below bb
    try replace n12 := n12.below bb
    try replace n13 := n13.below bb
    try replace n14 := n14.below bb
    replace bw := below_on bw bb bw.size
    clear bb
    have n10 := m10
    clear m10
    go_wp2_with fail
    have m11 := nt_one wn
    have bb := (Below.refl wn.heap.size wn).alloc (Nat.le_refl _) (.cells #[.int .u32 1] 43)
    revert m11 bb
    generalize (wn.alloc (.cells #[.int .u32 1] 43)) = wk
    intro m11 bb
    obtain ⟨A11, hA11⟩ : ∃ x, x = (some ⟨wn.heap.size, 0, none⟩ : Option Addr) := ⟨_, rfl⟩
    rw [← hA11] at m11 ⊢
    clear hA11
    try replace na := na.below bb
    try replace nb := nb.below bb
    try replace nc := nc.below bb
    try replace n1 := n1.below bb
    try replace n2 := n2.below bb
    try replace n3 := n3.below bb
    try replace n4 := n4.below bb
    try replace n5 := n5.below bb
    try replace n6 := n6.below bb
    try replace n7 := n7.below bb
    try replace n8 := n8.below bb
    try replace n9 := n9.below bb
    try replace n10 := n10.below bb
    try replace n11 := n11.below bb
    try replace n12 := n12.below bb
    try replace n13 := n13.below bb
    try replace n14 := n14.below bb
    replace bw := below_on bw bb bw.size
    clear bb
    have n11 := m11
    clear m11
    refine (cmp_any _ A6 A11 c6 1 _ _ [1] [1] 0 n6 n11 rfl rfl (cmp3_eq rfl)).mono ?_
    rintro e wn ⟨rfl, qq⟩
    have bb := qq.keep
    clear qq
    try replace na := na.below bb
    try replace nb := nb.below bb
    try replace nc := nc.below bb
    try replace n1 := n1.below bb
    try replace n2 := n2.below bb
    try replace n3 := n3.below bb
    try replace n4 := n4.below bb
    try replace n5 := n5.below bb
    try replace n6 := n6.below bb
    try replace n7 := n7.below bb
    try replace n8 := n8.below bb
    try replace n9 := n9.below bb
    try replace n10 := n10.below bb
    try replace n11 := n11.below bb
    try replace n12 := n12.below bb
    try replace n13 := n13.below bb
    try replace n14 := n14.below bb
    replace bw := below_on bw bb bw.size
    clear bb
    go_wp2_with fail
    refine (same_any _ A9 A10 c9 c10 _ _ (lim (G * nv zs)) (lim (G * nv zs)) true n9 n10 rfl rfl (decide_eq_true rfl)).mono ?_
    rintro e wn ⟨rfl, qq⟩
    have bb := qq.keep
    clear qq
    try replace na := na.below bb
    try replace nb := nb.below bb
    try replace nc := nc.below bb
    try replace n1 := n1.below bb
    try replace n2 := n2.below bb
    try replace n3 := n3.below bb
    try replace n4 := n4.below bb
    try replace n5 := n5.below bb
    try replace n6 := n6.below bb
    try replace n7 := n7.below bb
    try replace n8 := n8.below bb
    try replace n9 := n9.below bb
    try replace n10 := n10.below bb
    try replace n11 := n11.below bb
    try replace n12 := n12.below bb
    try replace n13 := n13.below bb
    try replace n14 := n14.below bb
    replace bw := below_on bw bb bw.size
    clear bb
    go_wp2_with fail
    refine (awake_any _).mono ?_
    rintro e wn ⟨rfl, bb⟩
    replace bw := below_on bw bb bw.size
    go_wp2_with fail
    go_ret
    exact ⟨rfl, bw⟩

theorem gcdl_walk (w : World) (A : Option Addr) (a : Nat) (xs : List Nat) (B : Option Addr) (b : Nat) (ys : List Nat) (C : Option Addr) (c : Nat) (zs : List Nat) (hA : Nt w A a xs) (hB : Nt w B b ys) (hC : Nt w C c zs) :
    Calls Try.prog 8 #[.slice A xs.length a, .slice B ys.length b, .slice C zs.length c] w fun e w' => e = .returned (.bool true) ∧ Below w.heap.size w w' := by
  by_cases h : 60 < xs.length ∨ 60 < ys.length ∨ 60 < zs.length
  · exact gcdl_long w A B C a b c xs ys zs hA hB hC h
  · by_cases h2 : 12 < xs.length ∨ 12 < ys.length ∨ 6 < zs.length
    · exact gcdl_mid w A B C a b c xs ys zs hA hB hC (by omega) (by omega) (by omega) h2
    · by_cases h0 : nv xs = 0 ∧ nv ys = 0
      · exact gcdl_zero w A B C a b c xs ys zs hA hB hC (by omega) (by omega) (by omega) h0.1 h0.2
      · exact gcdl_short w A B C a b c xs ys zs hA hB hC (by omega) (by omega) (by omega) h0
end Go.Proofs.Ytcenpboflecbcaa
