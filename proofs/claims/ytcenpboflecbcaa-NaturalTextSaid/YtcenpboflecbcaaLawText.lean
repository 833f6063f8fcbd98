/- NaturalText, the walk: Parse undoes Format, zeros at the beginning do not matter, Parse accepts exactly rows of digits, as the reference does. -/
import Derived.Test.YtcenpboflecbcaaRefC
import Derived.Test.YtcenpboflecbcaaRefE
import Derived.Test.YtcenpboflecbcaaLawA
namespace Go.Proofs.Ytcenpboflecbcaa
open Go.RowKit

theorem text_long (w : World) (A : Option Addr) (a : Nat) (xs : List Nat) (s : ByteArray) (z : Int) (hA : Nt w A a xs) (h : 60 < xs.length) :
    Calls Try.prog 5 #[.slice A xs.length a, .string s, .int .u8 z] w fun e w' => e = .returned (.bool true) ∧ Below w.heap.size w w' := by
  go_enter Try.func5, Try.ntmps5
  go_wp2_with fail
  have hAl := hA.len
  have hrd : Rd slv (w.alloc (.cells #[.slice A xs.length a] 25)) (some ⟨w.heap.size, 0, none⟩) [(A, xs.length, a)] := (Gr.lit (mk := slv) (e := 25) (B := w.heap.size) w [(A, xs.length, a)] _ rfl (by simp [maxLen]) (Nat.le_refl _)).rd
  have b1 : Below w.heap.size w (w.alloc (.cells #[.slice A xs.length a] 25)) := (Below.refl w.heap.size w).alloc (Nat.le_refl _) _
  revert hrd b1
  generalize (w.alloc (.cells #[.slice A xs.length a] 25)) = w1
  intro hrd b1
  refine (long_any w1 _ _ _ _ true hrd rfl (by simp) (by intro v hv; simp only [List.mem_cons, List.not_mem_nil, or_false] at hv; rcases hv with rfl; simp; omega) (by simp <;> omega)).mono ?_
  rintro e w' ⟨rfl, rfl⟩
  clear hrd
  go_wp2_with fail
  have bw := b1
  refine (awake_any _).mono ?_
  rintro e wn ⟨rfl, bb⟩
  replace bw := below_on bw bb bw.size
  go_wp2_with fail
  go_ret
  exact ⟨rfl, bw⟩
theorem text_mid (w : World) (A : Option Addr) (a : Nat) (xs : List Nat) (s : ByteArray) (z : Int) (hA : Nt w A a xs) (h : xs.length ≤ 60) (hs : 300 < s.size) :
    Calls Try.prog 5 #[.slice A xs.length a, .string s, .int .u8 z] w fun e w' => e = .returned (.bool true) ∧ Below w.heap.size w w' := by
  go_enter Try.func5, Try.ntmps5
  go_wp2_with fail
  have hAl := hA.len
  have hrd : Rd slv (w.alloc (.cells #[.slice A xs.length a] 25)) (some ⟨w.heap.size, 0, none⟩) [(A, xs.length, a)] := (Gr.lit (mk := slv) (e := 25) (B := w.heap.size) w [(A, xs.length, a)] _ rfl (by simp [maxLen]) (Nat.le_refl _)).rd
  have b1 : Below w.heap.size w (w.alloc (.cells #[.slice A xs.length a] 25)) := (Below.refl w.heap.size w).alloc (Nat.le_refl _) _
  revert hrd b1
  generalize (w.alloc (.cells #[.slice A xs.length a] 25)) = w1
  intro hrd b1
  refine (long_any w1 _ _ _ _ false hrd rfl (by simp) (by intro v hv; simp only [List.mem_cons, List.not_mem_nil, or_false] at hv; rcases hv with rfl; simp; omega) (by simp <;> omega)).mono ?_
  rintro e w' ⟨rfl, rfl⟩
  clear hrd
  go_wp2_with fail
  have bw := b1
  refine (awake_any _).mono ?_
  rintro e wn ⟨rfl, bb⟩
  replace bw := below_on bw bb bw.size
  go_wp2_with fail
  go_ret
  exact ⟨rfl, bw⟩

theorem dval_decR (n : Nat) : dval ((decR n).map digB).reverse = n := by
  induction n using Nat.strongRecOn with
  | ind n ih =>
    by_cases h : n = 0
    · subst h; simp [decR_zero, dval]
    · rw [decR_pos h, List.map_cons, List.reverse_cons, dval_snoc, ih _ (by omega)]
      unfold digB; omega
theorem dval_decT (n : Nat) : dval (decT n) = n := by
  unfold decT
  by_cases h : n = 0
  · subst h; simp [dval]
  · rw [if_neg h]; exact dval_decR n
theorem allDig_decT (n : Nat) : AllDig (decT n) := by
  unfold decT
  by_cases h : n = 0
  · rw [if_pos h]; intro b hb; simp at hb; omega
  · rw [if_neg h]
    intro b hb
    rw [List.mem_reverse, List.mem_map] at hb
    obtain ⟨d, hd, rfl⟩ := hb
    have := decR_small n d hd
    unfold digB; omega
theorem decT_pos (n : Nat) : 0 < (decT n).length := by
  unfold decT
  by_cases h : n = 0
  · rw [if_pos h]; simp
  · rw [if_neg h, List.length_reverse, List.length_map]
    rcases Nat.eq_zero_or_pos (decR n).length with h1 | h1
    · exact absurd (decR_nil.1 (List.eq_nil_of_length_eq_zero h1)) h
    · exact h1
theorem decT_len (n : Nat) : (decT n).length ≤ 10 * (lim n).length + 1 := by
  unfold decT
  by_cases h : n = 0
  · rw [if_pos h]; simp
  · rw [if_neg h, List.length_reverse, List.length_map]
    have := decR_len n; omega
theorem AllDig.is {l : List Nat} (h : AllDig l) : ∀ k (hk : k < l.length), isDig l[k] = true := fun k hk => isDig_iff.2 (h _ (List.getElem_mem hk))
theorem AllDig.small {l : List Nat} (h : AllDig l) : ∀ b ∈ l, b < 256 := fun b hb => by have := h b hb; omega
theorem dval_zeros (k : Nat) (l : List Nat) : dval (List.replicate k 48 ++ l) = dval l := by
  induction k with
  | zero => simp
  | succ k ih => rw [List.replicate_succ, List.cons_append, dval_cons, ih]; simp
theorem bstr_append (l m : List Nat) : bstr (l ++ m) = bstr l ++ bstr m := by
  apply ByteArray.ext
  simp [bstr, ByteArray.data_append]
theorem parse_dec {n k : Nat} (hk : k ≤ 8) (hl : (lim n).length ≤ 60) : parseS (bl (bstr (List.replicate k 48) ++ bstr (decT n))) = (lim n, 0) := by
  have hz : AllDig (List.replicate k 48) := fun b hb => by have := List.eq_of_mem_replicate hb; omega
  have hd := hz.append (allDig_decT n)
  rw [bl_append, bl_bstr' hz.small, bl_bstr' (allDig_decT n).small]
  have h1 := decT_len n
  have h2 := decT_pos n
  rw [parse_good (by simp; omega) (List.append_ne_nil_of_right_ne_nil _ (List.ne_nil_of_length_pos h2)) hd.is, dval_zeros, dval_decT, sizS, if_neg (by omega)]

set_option maxRecDepth 100000 in
set_option maxHeartbeats 2000000 in
theorem text_short (w : World) (A : Option Addr) (a : Nat) (xs : List Nat) (s : ByteArray) (z : Nat) (hA : Nt w A a xs) (h : xs.length ≤ 60) (hs : s.size ≤ 300) (hz : z ≤ 255) :
    Calls Try.prog 5 #[.slice A xs.length a, .string s, .int .u8 (z : Int)] w fun e w' => e = .returned (.bool true) ∧ Below w.heap.size w w' := by
  have la : (lim (nv xs)).length ≤ 60 := Nat.le_trans (lim_length_le_length hA.u) h
  have hf : fmtS (nv xs) = (bstr (decT (nv xs)), 0) := by rw [fmtS, if_neg (by omega)]
  obtain ⟨T, hT⟩ : ∃ T, T = bstr (decT (nv xs)) := ⟨_, rfl⟩
  have hTs : T.size ≤ 601 := by
    have h1 := decT_len (nv xs)
    rw [hT]
    show ((decT (nv xs)).map UInt8.ofNat).toArray.size ≤ 601
    simp; omega
  have hpar : ∀ k, k ≤ 8 → parseS (bl (bstr (List.replicate k 48) ++ T)) = (lim (nv xs), 0) := fun k hk => by rw [hT]; exact parse_dec hk la
  have hpar0 : parseS (bl T) = (lim (nv xs), 0) := by
    have := hpar 0 (by omega)
    rw [bl_append] at this
    simpa [bl, bstr] using this
  rw [← hT] at hf
  have HF := Lib.hid hf
  have HP := Lib.hid hpar
  have HP0 := Lib.hid hpar0
  clear hT hf hpar hpar0
  obtain ⟨K, hK⟩ : ∃ K, K = z % 9 := ⟨_, rfl⟩
  have hK8 : K ≤ 8 := by omega
  have eK : (z : Int) % 9 = (K : Int) := by omega
  clear hK
  obtain ⟨⟨R, E⟩, hR⟩ : ∃ p, parseS (bl s) = p := ⟨_, rfl⟩
  have HR := Lib.hid hR
  clear hR
  have F1 := fun w A c n h hn => format_any w A c n xs h hn
  rw [HF.out] at F1
  have F2 := fun w A c n h hn => rformat_any w A c n xs h hn (by omega)
  rw [HF.out] at F2
  have HF1 := Lib.hid F1
  have HF2 := Lib.hid F2
  clear F1 F2
  go_enter Try.func5, Try.ntmps5
  go_wp2_with fail
  have hAl := hA.len
  have hrd : Rd slv (w.alloc (.cells #[.slice A xs.length a] 25)) (some ⟨w.heap.size, 0, none⟩) [(A, xs.length, a)] := (Gr.lit (mk := slv) (e := 25) (B := w.heap.size) w [(A, xs.length, a)] _ rfl (by simp [maxLen]) (Nat.le_refl _)).rd
  have b1 : Below w.heap.size w (w.alloc (.cells #[.slice A xs.length a] 25)) := (Below.refl w.heap.size w).alloc (Nat.le_refl _) _
  revert hrd b1
  generalize (w.alloc (.cells #[.slice A xs.length a] 25)) = w1
  intro hrd b1
  refine (long_any w1 _ _ _ _ false hrd rfl (by simp) (by intro v hv; simp only [List.mem_cons, List.not_mem_nil, or_false] at hv; rcases hv with rfl; simp; omega) (by simp <;> omega)).mono ?_
  rintro e w' ⟨rfl, rfl⟩
  clear hrd
  have na := hA.below b1
  have bw := b1
  obtain ⟨Aa, rfl⟩ : ∃ Aa, Aa = A := ⟨_, rfl⟩
  obtain ⟨ca, rfl⟩ : ∃ ca, ca = a := ⟨_, rfl⟩
  obtain ⟨wn, rfl⟩ : ∃ wn, wn = w1 := ⟨_, rfl⟩
  clear hA b1
  go_wp2_with fail
  refine (HF1.out wn Aa ca _ na rfl).mono ?_
  rintro e wn ⟨rfl, bb⟩
  try replace na := na.below bb
  try replace nb := nb.below bb
  try replace nc := nc.below bb
  try replace n1 := n1.below bb
  try replace n2 := n2.below bb
  try replace n3 := n3.below bb
  try replace n4 := n4.below bb
  try replace n5 := n5.below bb
  try replace n6 := n6.below bb
  try replace n7 := n7.below bb
  try replace n8 := n8.below bb
  try replace n9 := n9.below bb
  try replace n10 := n10.below bb
  try replace n11 := n11.below bb
  try replace n12 := n12.below bb
  try replace n13 := n13.below bb
  try replace n14 := n14.below bb
  replace bw := below_on bw bb bw.size
  clear bb
  go_wp2_with fail
  refine (HF2.out wn Aa ca _ na rfl).mono ?_
  rintro e wn ⟨rfl, bb⟩
  try replace na := na.below bb
  try replace nb := nb.below bb
  try replace nc := nc.below bb
  try replace n1 := n1.below bb
  try replace n2 := n2.below bb
  try replace n3 := n3.below bb
  try replace n4 := n4.below bb
  try replace n5 := n5.below bb
  try replace n6 := n6.below bb
  try replace n7 := n7.below bb
  try replace n8 := n8.below bb
  try replace n9 := n9.below bb
  try replace n10 := n10.below bb
  try replace n11 := n11.below bb
  try replace n12 := n12.below bb
  try replace n13 := n13.below bb
  try replace n14 := n14.below bb
  replace bw := below_on bw bb bw.size
  clear bb
  go_wp2_with fail
  refine (parse_any wn T (lim (nv xs)) 0 (by omega) HP0.out).mono ?_
  rintro e wn ⟨A1, c1, rfl, m1, bb⟩
  try replace na := na.below bb
  try replace nb := nb.below bb
  try replace nc := nc.below bb
  try replace n1 := n1.below bb
  try replace n2 := n2.below bb
  try replace n3 := n3.below bb
  try replace n4 := n4.below bb
  try replace n5 := n5.below bb
  try replace n6 := n6.below bb
  try replace n7 := n7.below bb
  try replace n8 := n8.below bb
  try replace n9 := n9.below bb
  try replace n10 := n10.below bb
  try replace n11 := n11.below bb
  try replace n12 := n12.below bb
  try replace n13 := n13.below bb
  try replace n14 := n14.below bb
  replace bw := below_on bw bb bw.size
  clear bb
  have n1 := m1
  clear m1
  go_wp2_with fail
  go_loopg [13, 14] K (fun kn ld iv wx => ∃ (i : Nat) (S : ByteArray), kn + i = K ∧ iv = .int .i64 (i : Int) ∧ ld = .string S ∧ S = bstr (List.replicate i 48) ∧ S.size ≤ i ∧ wn = wx)
  case atStart => exact ⟨0, ByteArray.empty, rfl, rfl, rfl, rfl, by simp, rfl⟩
  case round =>
    obtain ⟨i, S, hk, rfl, rfl, hS, hSs, rfl⟩ := hrel
    have HK := Lib.hid hk
    have HS := Lib.hid hS
    have hiK : i ≤ K := by omega
    clear hk hS
    by_cases hlt : i < K
    · have hz2 : ¬ 9223372036854775807 < S.size + 1 := by omega
      go_wp2_with fail
      go_roundg (K - (i + 1))
      case measure => have := HK.out; omega
      case rel => exact ⟨i + 1, _, by omega, by go_num, rfl, by rw [HS.out, List.replicate_succ', bstr_append]; rfl, by rw [ByteArray.size_append]; exact Nat.add_le_add_right hSs 1, rfl⟩
    · obtain rfl : i = K := by omega
      have hz3 : ¬ 9223372036854775807 < S.size + T.size := by omega
      have hST : (S ++ T).size ≤ 9223372036854775807 := by rw [ByteArray.size_append]; omega
      have HST := Lib.hid hST
      clear hST
      go_wp2_with fail
      refine (parse_any wn (S ++ T) (lim (nv xs)) 0 HST.out (by rw [HS.out]; exact HP.out i hK8)).mono ?_
      rintro e wn ⟨A2, c2, rfl, m2, bb⟩
      try replace na := na.below bb
      try replace nb := nb.below bb
      try replace nc := nc.below bb
      try replace n1 := n1.below bb
      try replace n2 := n2.below bb
      try replace n3 := n3.below bb
      try replace n4 := n4.below bb
      try replace n5 := n5.below bb
      try replace n6 := n6.below bb
      try replace n7 := n7.below bb
      try replace n8 := n8.below bb
      try replace n9 := n9.below bb
      try replace n10 := n10.below bb
      try replace n11 := n11.below bb
      try replace n12 := n12.below bb
      try replace n13 := n13.below bb
      try replace n14 := n14.below bb
      replace bw := below_on bw bb bw.size
      clear bb
      have n2 := m2
      clear m2
      go_wp2_with fail
      refine (cmp_any _ A1 Aa c1 ca _ _ (lim (nv xs)) xs 0 n1 na rfl rfl (by rw [nv_lim]; exact cmp3_eq rfl)).mono ?_
      rintro e wn ⟨rfl, qq⟩
      have bb := qq.keep
      clear qq
      try replace na := na.below bb
      try replace nb := nb.below bb
      try replace nc := nc.below bb
      try replace n1 := n1.below bb
      try replace n2 := n2.below bb
      try replace n3 := n3.below bb
      try replace n4 := n4.below bb
      try replace n5 := n5.below bb
      try replace n6 := n6.below bb
      try replace n7 := n7.below bb
      try replace n8 := n8.below bb
      try replace n9 := n9.below bb
      try replace n10 := n10.below bb
      try replace n11 := n11.below bb
      try replace n12 := n12.below bb
      try replace n13 := n13.below bb
      try replace n14 := n14.below bb
      replace bw := below_on bw bb bw.size
      clear bb
      go_wp2_with fail
      refine (same_any _ A1 A2 c1 c2 _ _ (lim (nv xs)) (lim (nv xs)) true n1 n2 rfl rfl (decide_eq_true rfl)).mono ?_
      rintro e wn ⟨rfl, qq⟩
      have bb := qq.keep
      clear qq
      try replace na := na.below bb
      try replace nb := nb.below bb
      try replace nc := nc.below bb
      try replace n1 := n1.below bb
      try replace n2 := n2.below bb
      try replace n3 := n3.below bb
      try replace n4 := n4.below bb
      try replace n5 := n5.below bb
      try replace n6 := n6.below bb
      try replace n7 := n7.below bb
      try replace n8 := n8.below bb
      try replace n9 := n9.below bb
      try replace n10 := n10.below bb
      try replace n11 := n11.below bb
      try replace n12 := n12.below bb
      try replace n13 := n13.below bb
      try replace n14 := n14.below bb
      replace bw := below_on bw bb bw.size
      clear bb
      go_wp2_with fail
      refine (parse_any wn s R E (by omega) HR.out).mono ?_
      rintro e wn ⟨A3, c3, rfl, m3, bb⟩
      try replace na := na.below bb
      try replace nb := nb.below bb
      try replace nc := nc.below bb
      try replace n1 := n1.below bb
      try replace n2 := n2.below bb
      try replace n3 := n3.below bb
      try replace n4 := n4.below bb
      try replace n5 := n5.below bb
      try replace n6 := n6.below bb
      try replace n7 := n7.below bb
      try replace n8 := n8.below bb
      try replace n9 := n9.below bb
      try replace n10 := n10.below bb
      try replace n11 := n11.below bb
      try replace n12 := n12.below bb
      try replace n13 := n13.below bb
      try replace n14 := n14.below bb
      replace bw := below_on bw bb bw.size
      clear bb
      have n3 := m3
      clear m3
      go_wp2_with fail
      refine (rparse_any wn s R E (by omega) HR.out).mono ?_
      rintro e wn ⟨A4, c4, rfl, m4, bb⟩
      try replace na := na.below bb
      try replace nb := nb.below bb
      try replace nc := nc.below bb
      try replace n1 := n1.below bb
      try replace n2 := n2.below bb
      try replace n3 := n3.below bb
      try replace n4 := n4.below bb
      try replace n5 := n5.below bb
      try replace n6 := n6.below bb
      try replace n7 := n7.below bb
      try replace n8 := n8.below bb
      try replace n9 := n9.below bb
      try replace n10 := n10.below bb
      try replace n11 := n11.below bb
      try replace n12 := n12.below bb
      try replace n13 := n13.below bb
      try replace n14 := n14.below bb
      replace bw := below_on bw bb bw.size
      clear bb
      have n4 := m4
      clear m4
      go_wp2_with fail
      refine (same_any _ A3 A4 c3 c4 _ _ R R true n3 n4 rfl rfl (decide_eq_true rfl)).mono ?_
      rintro e wn ⟨rfl, qq⟩
      have bb := qq.keep
      clear qq
      try replace na := na.below bb
      try replace nb := nb.below bb
      try replace nc := nc.below bb
      try replace n1 := n1.below bb
      try replace n2 := n2.below bb
      try replace n3 := n3.below bb
      try replace n4 := n4.below bb
      try replace n5 := n5.below bb
      try replace n6 := n6.below bb
      try replace n7 := n7.below bb
      try replace n8 := n8.below bb
      try replace n9 := n9.below bb
      try replace n10 := n10.below bb
      try replace n11 := n11.below bb
      try replace n12 := n12.below bb
      try replace n13 := n13.below bb
      try replace n14 := n14.below bb
      replace bw := below_on bw bb bw.size
      clear bb
      go_wp2_with fail
      refine (awake_any _).mono ?_
      rintro e wn ⟨rfl, bb⟩
      replace bw := below_on bw bb bw.size
      go_wp2_with fail
      go_ret
      exact ⟨rfl, bw⟩

theorem text_walk (w : World) (A : Option Addr) (a : Nat) (xs : List Nat) (s : ByteArray) (z : Int) (hA : Nt w A a xs) (_hs : s.size ≤ maxLen) (hz : (Lit.int .u8 z).wf = true) :
    Calls Try.prog 5 #[.slice A xs.length a, .string s, .int .u8 z] w fun e w' => e = .returned (.bool true) ∧ Below w.heap.size w w' := by
  have hz2 : 0 ≤ z ∧ z ≤ 255 := by simp [Lit.wf, IntKind.min, IntKind.max, IntKind.signed, IntKind.bits] at hz; omega
  by_cases h : 60 < xs.length
  · exact text_long w A a xs s z hA h
  · by_cases h2 : 300 < s.size
    · exact text_mid w A a xs s z hA (by omega) h2
    · obtain ⟨z', rfl⟩ := Int.eq_ofNat_of_zero_le hz2.1
      exact text_short w A a xs s z' hA (by omega) (by omega) (by omega)
end Go.Proofs.Ytcenpboflecbcaa
