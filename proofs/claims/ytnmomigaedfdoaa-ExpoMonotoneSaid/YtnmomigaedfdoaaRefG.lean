/- The walks of drydockref01: minus, Add, Sub, Mul, Bits. The walks of drydockref01: Bits, up, down, Shift. -/
import Derived.Test.YtnmomigaedfdoaaRefD
import Derived.Test.YtnmomigaedfdoaaNatD
import Derived.Test.YtnmomigaedfdoaaNatL
namespace Go.Proofs.Ytnmomigaedfdoaa
set_option maxRecDepth 100000
open Go.RowKit

theorem getD_in {Y : List Nat} {j : Nat} (h : j < Y.length) : Y.getD j 0 = Y[j] := by simp [h]
theorem getD_out {Y : List Nat} {j : Nat} (h : ¬ j < Y.length) : Y.getD j 0 = 0 := by simp [List.getElem?_eq_none (Nat.le_of_not_lt h)]
set_option maxHeartbeats 800000 in
theorem minus_any (w : World) (A D : Option Addr) (c d n m : Nat) (xs ys : List Nat) (h : Nt w A c xs) (k : Nt w D d ys) (hn : n = xs.length) (hm : m = ys.length) (hl : xs.length ≤ 10000) (hl2 : ys.length ≤ xs.length) (hle : nv ys ≤ nv xs) :
    Calls Try.prog 73 #[.slice A n c, .slice D m d] w (NatNew w (lim (nv xs - nv ys))) := by
  subst hn hm
  have HLE := Lib.hid hle
  clear hle
  obtain ⟨i0, hi, hz0, hz1, hz2⟩ := info_parts u32_info
  go_enter Try.func73, Try.ntmps73
  go_wp2_with fail
  go_loopw [5, 6, 7] (fun o cy i wr => ∃ (j C : Nat) (O : List Nat) (AO : Option Addr) (cO : Nat), j ≤ xs.length ∧ i = .int .i64 j ∧ cy = .int .u64 C ∧ o = .slice AO O.length cO ∧ SubInv xs ys j C O ∧ Gr lmv 82 wr w.heap.size AO cO O ∧ Below w.heap.size w wr) (fun _ _ i _ => xs.length - (intOf i).toNat)
  case atStart => exact ⟨0, 0, [], none, 0, by omega, rfl, rfl, rfl, SubInv.start _ _, Gr.nil _ _, Below.refl _ _⟩
  case round =>
    obtain ⟨j, C, O, AO, cO, hj, rfl, rfl, rfl, hinv, hgr, hbr⟩ := hrel
    have HI := Lib.hid hinv
    have hC : C ≤ 1 := hinv.1
    have HO := Lib.hid hinv.2.1
    have hOl : O.length ≤ 10000 := by rw [hinv.2.1]; omega
    clear hinv
    by_cases hx : j < xs.length
    · obtain ⟨adX, rfl, hbX, hcX, hvX⟩ := (h.below hbr).at j hx
      by_cases hy : j < ys.length
      · obtain ⟨adY, rfl, hbY, hcY, hvY⟩ := (k.below hbr).at j hy
        have hg := getD_in hy
        have HGD := Lib.hid hg
        clear hg
        by_cases hb : xs[j] < C + ys[j]
        · have hb1 : (xs[j] : Int) < (C : Int) + ys[j] := by omega
          skip
          go_wp2_with (at_builtin; refine wpList_append_rd _ (mk := lmv) (fun _ => rfl) rfl _ _ 24 rfl 82 i0 (.int .u32 0) 4 Try.underlying24 hi hz0 hz1 hz2 rfl (B := w.heap.size) rfl rfl (hgr.below ((Below.refl _ wr).alloc (Nat.le_refl _) _)) _ 1 1 [xs[j] + 4294967296 - (C + ys[j])] rfl rfl (Rd.one_ wr _ _ _ (int_num (by omega))) (by simp only [maxLen]; omega) (by omega) (by have := hbr.size; simp; omega) ?_; intro A' c' w3 hgA hgrA hbA hatA)
          go_roundw
          case rel => exact ⟨j + 1, 1, O ++ [xs[j] + 4294967296 - (C + ys[j])], A', c', by omega, by go_num, rfl, by simp, SubInv.step HI.out hx (xs[j] + 4294967296 - (C + ys[j])) 1 (by omega) (by omega) (by rw [HGD.out]; omega), hgA, (hbr.alloc hbr.size _).trans hbA⟩
          case measure => simp [intOf]; omega
        · have hb1 : ¬ (xs[j] : Int) < (C : Int) + ys[j] := by omega
          have hb2 : decide ((xs[j] : Int) < (C : Int) + ys[j]) = false := decide_eq_false hb1
          skip
          go_wp2_with (at_builtin; refine wpList_append_rd _ (mk := lmv) (fun _ => rfl) rfl _ _ 24 rfl 82 i0 (.int .u32 0) 4 Try.underlying24 hi hz0 hz1 hz2 rfl (B := w.heap.size) rfl rfl (hgr.below ((Below.refl _ wr).alloc (Nat.le_refl _) _)) _ 1 1 [xs[j] - (C + ys[j])] rfl rfl (Rd.one_ wr _ _ _ (int_num (by omega))) (by simp only [maxLen]; omega) (by omega) (by have := hbr.size; simp; omega) ?_; intro A' c' w3 hgA hgrA hbA hatA)
          go_roundw
          case rel => exact ⟨j + 1, 0, O ++ [xs[j] - (C + ys[j])], A', c', by omega, by go_num, rfl, by simp, SubInv.step HI.out hx (xs[j] - (C + ys[j])) 0 (by omega) (by omega) (by rw [HGD.out]; omega), hgA, (hbr.alloc hbr.size _).trans hbA⟩
          case measure => simp [intOf]; omega
      · have HGD := Lib.hid (getD_out hy)
        by_cases hb : xs[j] < C
        · have hb1 : (xs[j] : Int) < (C : Int) := by omega
          skip
          go_wp2_with (at_builtin; refine wpList_append_rd _ (mk := lmv) (fun _ => rfl) rfl _ _ 24 rfl 82 i0 (.int .u32 0) 4 Try.underlying24 hi hz0 hz1 hz2 rfl (B := w.heap.size) rfl rfl (hgr.below ((Below.refl _ wr).alloc (Nat.le_refl _) _)) _ 1 1 [xs[j] + 4294967296 - C] rfl rfl (Rd.one_ wr _ _ _ (int_num (by omega))) (by simp only [maxLen]; omega) (by omega) (by have := hbr.size; simp; omega) ?_; intro A' c' w3 hgA hgrA hbA hatA)
          go_roundw
          case rel => exact ⟨j + 1, 1, O ++ [xs[j] + 4294967296 - C], A', c', by omega, by go_num, rfl, by simp, SubInv.step HI.out hx (xs[j] + 4294967296 - C) 1 (by omega) (by omega) (by rw [HGD.out]; omega), hgA, (hbr.alloc hbr.size _).trans hbA⟩
          case measure => simp [intOf]; omega
        · have hb1 : ¬ (xs[j] : Int) < (C : Int) := by omega
          have hb2 : decide ((xs[j] : Int) < (C : Int)) = false := decide_eq_false hb1
          skip
          go_wp2_with (at_builtin; refine wpList_append_rd _ (mk := lmv) (fun _ => rfl) rfl _ _ 24 rfl 82 i0 (.int .u32 0) 4 Try.underlying24 hi hz0 hz1 hz2 rfl (B := w.heap.size) rfl rfl (hgr.below ((Below.refl _ wr).alloc (Nat.le_refl _) _)) _ 1 1 [xs[j] - C] rfl rfl (Rd.one_ wr _ _ _ (int_num (by omega))) (by simp only [maxLen]; omega) (by omega) (by have := hbr.size; simp; omega) ?_; intro A' c' w3 hgA hgrA hbA hatA)
          go_roundw
          case rel => exact ⟨j + 1, 0, O ++ [xs[j] - C], A', c', by omega, by go_num, rfl, by simp, SubInv.step HI.out hx (xs[j] - C) 0 (by omega) (by omega) (by rw [HGD.out]; omega), hgA, (hbr.alloc hbr.size _).trans hbA⟩
          case measure => simp [intOf]; omega
    · obtain rfl : j = xs.length := by omega
      have hfin := HI.out.done hl2 HLE.out
      have hnt := hgr.nt hfin.1
      have hlen := lim_length_le_length hfin.1
      have hcall := rtrim_any wr AO cO _ O hnt rfl (by omega)
      rw [hfin.2.1] at hcall
      have HF := Lib.hid hcall
      clear hcall hlen hfin hnt
      go_wp2_with fail
      refine HF.out.mono ?_
      rintro e w2 ⟨A', c', rfl, hg2, hb2⟩
      go_wp2_with fail
      go_ret
      exact ⟨A', c', rfl, hg2.more fun ad e => Nat.le_trans hbr.size (hg2.form.2.2 ad e).1, below_on hbr hb2 hbr.size⟩

theorem len_mulr {m n j k : Nat} (hm : (lim m).length ≤ j) (hn : (lim n).length ≤ k) : (lim (m * n)).length ≤ j + k := by
  rw [lim_length_le] at *
  rw [pw_add]
  exact Nat.mul_lt_mul'' hm hn
theorem len_addr {m n k : Nat} (hm : (lim m).length ≤ k) (hn : (lim n).length ≤ k) : (lim (m + n)).length ≤ k + 1 := by
  rw [lim_length_le] at *
  rw [pw_succ]; omega
theorem rtimes_lim (w : World) (A D : Option Addr) (c d M N : Nat) (h : Nt w A c (lim M)) (k : Nt w D d (lim N)) (hl : (lim M).length ≤ 10000) (hl2 : (lim N).length ≤ 10000) :
    Calls Try.prog 94 #[.slice A (lim M).length c, .slice D (lim N).length d] w (NatNew w (lim (M * N))) := by
  have hc := times_any w A D c d _ _ (lim M) (lim N) h k rfl rfl hl hl2
  rw [nv_lim, nv_lim] at hc
  exact hc
theorem rlarge_lim (w : World) (A : Option Addr) (c N : Nat) (b : Bool) (h : Nt w A c (lim N)) (hl : (lim N).length ≤ 1000000) (hb : decide (512 < (lim N).length) = b) :
    Calls Try.prog 68 #[.slice A (lim N).length c] w fun e w' => e = .returned (.bool b) ∧ Below w.heap.size w w' :=
  rlarge_any w A c _ (lim N) b h rfl (by rw [nv_lim]; exact hl) (by rw [nv_lim]; exact hb)

set_option maxHeartbeats 400000 in
theorem rmul_any (w : World) (A D : Option Addr) (c d n m : Nat) (xs ys R : List Nat) (E : Int) (h : Nt w A c xs) (k : Nt w D d ys) (hn : n = xs.length) (hm : m = ys.length) (hl : xs.length ≤ 10000) (hl2 : ys.length ≤ 10000) (hr : mulS (nv xs) (nv ys) = (R, E)) :
    Calls Try.prog 67 #[.slice A n c, .slice D m d] w (NatRes w R E) := by
  subst hn hm
  have HR := Lib.hid hr; clear hr
  have hl1 := lim_length_le_length h.u
  have hl2 := lim_length_le_length k.u
  have hl3 : (lim (nv xs)).length ≤ 1000000 := by omega
  have hl4 : (lim (nv ys)).length ≤ 1000000 := by omega
  have h3 := h.cap
  have h4 := h.max
  have k3 := k.cap
  have k4 := k.max
  by_cases hb : 512 < (lim (nv xs)).length
  · go_enter Try.func67, Try.ntmps67
    go_wp2_with fail
    refine (rlarge_any _ A c _ xs true h rfl hl3 (by simp <;> omega)).mono ?_
    rintro e wn ⟨rfl, bb⟩
    replace h := h.below bb
    replace k := k.below bb
    have bw := bb
    clear bb
    go_wp2_with fail
    go_ret2
    have e := HR.out
    rw [mulS_big1 hb] at e
    obtain ⟨rfl, rfl⟩ := Prod.mk.inj e
    exact ⟨_, _, rfl, Nt.nil _ _ _ (by omega), bw⟩
  · by_cases hb2 : 512 < (lim (nv ys)).length
    · go_enter Try.func67, Try.ntmps67
      go_wp2_with fail
      refine (rlarge_any _ A c _ xs false h rfl hl3 (by simp <;> omega)).mono ?_
      rintro e wn ⟨rfl, bb⟩
      replace h := h.below bb
      replace k := k.below bb
      have bw := bb
      clear bb
      go_wp2_with fail
      refine (rlarge_any _ D d _ ys true k rfl hl4 (by simp <;> omega)).mono ?_
      rintro e wn ⟨rfl, bb⟩
      replace h := h.below bb
      replace k := k.below bb
      replace bw := below_on bw bb bw.size
      clear bb
      go_wp2_with fail
      go_ret2
      have e := HR.out
      rw [mulS_big2 hb2] at e
      obtain ⟨rfl, rfl⟩ := Prod.mk.inj e
      exact ⟨_, _, rfl, Nt.nil _ _ _ (by omega), bw⟩
    · have hlen : (lim (nv xs * nv ys)).length ≤ 1000000 := by
        have h5 := len_mulr (m := nv xs) (n := nv ys) (j := 512) (k := 512) (by omega) (by omega)
        have h6 := len_addr (m := nv xs) (n := nv ys) (k := 512) (by omega) (by omega)
        omega
      by_cases hs : 512 < (lim (nv xs * nv ys)).length
      · go_enter Try.func67, Try.ntmps67
        go_wp2_with fail
        refine (rlarge_any _ A c _ xs false h rfl hl3 (by simp <;> omega)).mono ?_
        rintro e wn ⟨rfl, bb⟩
        replace h := h.below bb
        replace k := k.below bb
        have bw := bb
        clear bb
        go_wp2_with fail
        refine (rlarge_any _ D d _ ys false k rfl hl4 (by simp <;> omega)).mono ?_
        rintro e wn ⟨rfl, bb⟩
        replace h := h.below bb
        replace k := k.below bb
        replace bw := below_on bw bb bw.size
        clear bb
        go_wp2_with fail
        refine (rtrim_any _ A c _ xs h rfl hl3).mono ?_
        rintro e wn ⟨A1, c1, rfl, g1, bb⟩
        have n1 := g1.nt (lim_u32 _)
        replace k := k.below bb
        replace bw := below_on bw bb bw.size
        clear g1 bb
        go_wp2_with fail
        refine (rtrim_any _ D d _ ys k rfl hl4).mono ?_
        rintro e wn ⟨A2, c2, rfl, g2, bb⟩
        have n2 := g2.nt (lim_u32 _)
        replace n1 := n1.below bb
        replace bw := below_on bw bb bw.size
        clear g2 bb
        go_wp2_with fail
        refine (rtimes_lim _ A1 A2 c1 c2 _ _ n1 n2 (by omega) (by omega)).mono ?_
        rintro e wn ⟨A3, c3, rfl, g3, bb⟩
        have n3 := g3.nt (lim_u32 _)
        replace bw := below_on bw bb bw.size
        clear g3 bb
        go_wp2_with fail
        refine (rlarge_lim _ A3 c3 _ true n3 hlen (by simpa using hs)).mono ?_
        rintro e wn ⟨rfl, bb⟩
        replace bw := below_on bw bb bw.size
        go_wp2_with fail
        go_ret2
        have e := HR.out
        rw [mulS_ok hb hb2, sizS, if_pos hs] at e
        obtain ⟨rfl, rfl⟩ := Prod.mk.inj e
        exact ⟨_, _, rfl, Nt.nil _ _ _ (by omega), bw⟩
      · go_enter Try.func67, Try.ntmps67
        go_wp2_with fail
        refine (rlarge_any _ A c _ xs false h rfl hl3 (by simp <;> omega)).mono ?_
        rintro e wn ⟨rfl, bb⟩
        replace h := h.below bb
        replace k := k.below bb
        have bw := bb
        clear bb
        go_wp2_with fail
        refine (rlarge_any _ D d _ ys false k rfl hl4 (by simp <;> omega)).mono ?_
        rintro e wn ⟨rfl, bb⟩
        replace h := h.below bb
        replace k := k.below bb
        replace bw := below_on bw bb bw.size
        clear bb
        go_wp2_with fail
        refine (rtrim_any _ A c _ xs h rfl hl3).mono ?_
        rintro e wn ⟨A1, c1, rfl, g1, bb⟩
        have n1 := g1.nt (lim_u32 _)
        replace k := k.below bb
        replace bw := below_on bw bb bw.size
        clear g1 bb
        go_wp2_with fail
        refine (rtrim_any _ D d _ ys k rfl hl4).mono ?_
        rintro e wn ⟨A2, c2, rfl, g2, bb⟩
        have n2 := g2.nt (lim_u32 _)
        replace n1 := n1.below bb
        replace bw := below_on bw bb bw.size
        clear g2 bb
        go_wp2_with fail
        refine (rtimes_lim _ A1 A2 c1 c2 _ _ n1 n2 (by omega) (by omega)).mono ?_
        rintro e wn ⟨A3, c3, rfl, g3, bb⟩
        have n3 := g3.nt (lim_u32 _)
        replace bw := below_on bw bb bw.size
        clear g3 bb
        go_wp2_with fail
        refine (rlarge_lim _ A3 c3 _ false n3 hlen (by simpa using hs)).mono ?_
        rintro e wn ⟨rfl, bb⟩
        replace n3 := n3.below bb
        replace bw := below_on bw bb bw.size
        clear bb
        go_wp2_with fail
        go_ret2
        have e := HR.out
        rw [mulS_ok hb hb2, sizS, if_neg hs] at e
        obtain ⟨rfl, rfl⟩ := Prod.mk.inj e
        exact ⟨_, _, rfl, n3, bw⟩
end Go.Proofs.Ytnmomigaedfdoaa
namespace Go.Proofs.Ytnmomigaedfdoaa
set_option maxRecDepth 100000
open Go.RowKit

set_option maxHeartbeats 400000 in
theorem rbits_any (w : World) (A : Option Addr) (c n : Nat) (xs : List Nat) (h : Nt w A c xs) (hn : n = xs.length) (hl : xs.length ≤ 1000000) :
    Calls Try.prog 79 #[.slice A n c] w fun e w' => e = .returned (.int .i64 (bits2 (nv xs))) ∧ Below w.heap.size w w' := by
  subst hn
  have h3 := lim_length_le_length h.u
  go_enter Try.func79, Try.ntmps79
  go_wp2_with fail
  refine (rtrim_any w A c _ xs h rfl (by omega)).mono ?_
  rintro e w1 ⟨A1, c1, rfl, g1, b1⟩
  have n1 := g1.nt (lim_u32 _)
  clear g1
  by_cases h0 : nv xs = 0
  · have hz1 : (((lim (nv xs)).length : Int) == 0) = true := by rw [h0, lim_zero]; rfl
    have H0 := Lib.hid h0
    clear h0
    go_wp2_with fail
    go_ret
    exact ⟨ret_int (by rw [H0.out]; rfl), b1⟩
  · have hp := lim_length_pos.2 h0
    obtain ⟨k, hk1⟩ : ∃ k, (lim (nv xs)).length = k + 1 := ⟨(lim (nv xs)).length - 1, by omega⟩
    have htop := bits2_top (lim_u32 (nv xs)) k hk1.symm (lim_last _ k hk1.symm)
    rw [nv_lim] at htop
    have hz1 : (((k + 1 : Nat) : Int) == 0) = false := beq_eq_false_iff_ne.2 (by omega)
    have hz2 : ((k : Int) + 1 == 0) = false := beq_eq_false_iff_ne.2 (by omega)
    obtain ⟨ad, rfl, hb, hc, hlt⟩ := n1.at k (by omega)
    obtain ⟨x, hx⟩ : ∃ x, x = (lim (nv xs))[k]'(by omega) := ⟨_, rfl⟩
    rw [← hx] at hc hlt htop
    have HT := Lib.hid htop
    have hk2 : k ≤ 1000000 := by omega
    rw [hk1]
    clear hx h h0 hp h3 n1 htop hk1
    go_wp2_with fail
    go_loop [3, 4] (fun kk v => ∃ (m V : Nat), kk = .int .i64 m ∧ v = .int .u32 V ∧ V < 4294967296 ∧ m + bits2 V = 32 * k + bits2 x ∧ m ≤ 32 * k + 32) (fun _ v => (intOf v).toNat)
    case atStart => exact ⟨32 * k, x, int_num (by omega), rfl, hlt, by omega, by omega⟩
    case round =>
      obtain ⟨m, V, rfl, rfl, hV, hm, hm2⟩ := hrel
      have HM := Lib.hid hm
      clear hm
      by_cases hV0 : V = 0
      · subst hV0
        go_wp2_with fail
        go_ret
        exact ⟨ret_int (by rw [HT.out]; have := HM.out; rw [bits2_zero] at this; omega), b1⟩
      · have hV1 : (0 : Int) < V := by omega
        have hbv := bits2_half hV0
        have hbx : bits2 x ≤ 32 := by rw [bits2_le]; simpa using hlt
        have hmm : m + 1 ≤ 32 * k + 32 := by have := HM.out; omega
        have HB := Lib.hid hbv
        clear hbv hV0 hbx hm2
        go_wp2_with fail
        go_round
        case rel => exact ⟨m + 1, V / 2, by go_num, int_num (by omega), by omega, by have := HM.out; have := HB.out; omega, by omega⟩
        case measure => simp [intOf]; omega

/-- up with zeros below -/
theorem or_up2 {C x s : Nat} (hC : C < 2 ^ s) (hx : x < 4294967296) (hs : s < 32) : bits .or .u64 ((x : Int) * 2 ^ s) (C : Int) = ((C + x * 2 ^ s : Nat) : Int) := by
  have hp := pow_le_31 hs
  have hb := up_lt hC hx hp
  have h := u64_or_nat (x * 2 ^ s) C (by omega) (by omega)
  rw [nat_join s (x * 2 ^ s) C (by simp) hC] at h
  have e1 : (((x * 2 ^ s : Nat)) : Int) = (x : Int) * 2 ^ s := (cast_mul_pow x s).symm
  rw [e1] at h
  rw [h, Int.natCast_add, e1]
  omega
set_option maxHeartbeats 800000 in
theorem rup_any (w : World) (A : Option Addr) (c n k : Nat) (kI : Int) (xs : List Nat) (h : Nt w A c xs) (hn : n = xs.length) (hk : kI = k) (hl : xs.length ≤ 10000) (hkl : k ≤ 100000) :
    Calls Try.prog 86 #[.slice A n c, .int .i64 kI] w (NatNew w (lim (nv xs * 2 ^ k))) := by
  subst hn hk
  have h3 := h.cap
  have h4 := h.max
  by_cases h0 : xs = []
  · subst h0
    go_enter Try.func86, Try.ntmps86
    go_wp2_with fail
    go_ret
    rw [nv_nil, Nat.zero_mul, lim_zero]
    exact ⟨none, 0, rfl, Gr.nil _ _, Below.refl _ _⟩
  · have hpos : 0 < xs.length := List.length_pos_iff.2 h0
    have hz : ((xs.length : Int) == 0) = false := beq_eq_false_iff_ne.2 (by omega)
    clear h0
    obtain ⟨wh, hwh⟩ : ∃ wh, wh = k / 32 := ⟨_, rfl⟩
    obtain ⟨s, hs⟩ : ∃ s, s = k % 32 := ⟨_, rfl⟩
    have hwl : wh ≤ 10000 := by omega
    have hs32 : s < 32 := by omega
    have e1 : (k : Int) / 32 = (wh : Int) := by omega
    have e2 : (k : Int) % 32 = (s : Int) := by omega
    have e3 : (k : Int).tmod 32 = (s : Int) := by rw [Int.tmod_eq_emod_of_nonneg (by omega)]; omega
    have e4 : (k : Int).tdiv 32 = (wh : Int) := by rw [Int.tdiv_eq_ediv_of_nonneg (by omega)]; omega
    have HWH := Lib.hid hwh
    have HS := Lib.hid hs
    clear hwh hs
    obtain ⟨i0, hi, hz0, hz1, hz2⟩ := info_parts u32_info
    go_enter Try.func86, Try.ntmps86
    go_wp2_with (at_make; refine wpList_make_rd w (mk := lmv) 0 rfl _ _ 24 rfl 82 i0 4 Try.underlying24 hi hz0 hz1 hz2 rfl .i64 .i64 _ _ wh rfl rfl (by omega) (by omega) (by omega) (by simp only [maxLen]; omega) ?_; intro w1 hg1 hb1 hs1)
    go_loopw [5, 6, 7] (fun o cy i wr => ∃ (j C : Nat) (O : List Nat) (AO : Option Addr) (cO : Nat), j ≤ xs.length ∧ i = .int .i64 j ∧ cy = .int .u64 C ∧ o = .slice AO (wh + j) cO ∧ UpInv xs s j C O ∧ Gr lmv 82 wr w.heap.size AO cO (List.replicate wh 0 ++ O) ∧ Below w.heap.size w wr) (fun _ _ i _ => xs.length - (intOf i).toNat)
    case atStart => exact ⟨0, 0, [], _, _, by omega, rfl, rfl, rfl, UpInv.start _ _, by simpa using hg1, hb1⟩
    case round =>
      obtain ⟨j, C, O, AO, cO, hj, rfl, rfl, rfl, hinv, hgr, hbr⟩ := hrel
      have HI := Lib.hid hinv
      have hO := hinv.2.1
      have hlenO : wh + j = (List.replicate wh 0 ++ O).length := by simp [hO]
      have HLO := Lib.hid hlenO
      have HC := Lib.hid hinv.1
      have hC : C < 4294967296 := by have := pow_le_31 hs32; have := hinv.1; omega
      clear hinv hg1 hb1 hs1 hO hlenO
      by_cases hlt : j < xs.length
      · obtain ⟨adX, rfl, hbX, hcX, hvX⟩ := (h.below hbr).at j hlt
        have hwr := wrap_up hvX hs32
        obtain ⟨T, hT⟩ : ∃ T, T = C + xs[j] * 2 ^ s := ⟨_, rfl⟩
        have hor : bits .or .u64 ((xs[j] : Int) * 2 ^ s) (C : Int) = (T : Int) := by rw [or_up2 HC.out hvX hs32, hT]
        have hT64 : T < 9223372036854775808 := by rw [hT]; exact up_lt HC.out hvX (pow_le_31 hs32)
        have HT := Lib.hid hT
        clear hT
        go_wp2_with (at_builtin; refine wpList_append_rd _ (mk := lmv) (fun _ => rfl) rfl _ _ 24 rfl 82 i0 (.int .u32 0) 4 Try.underlying24 hi hz0 hz1 hz2 rfl (B := w.heap.size) (xs := (List.replicate wh 0 ++ O)) rfl HLO.out (hgr.below ((Below.refl _ wr).alloc (Nat.le_refl _) _)) _ 1 1 [T % 4294967296] rfl rfl (Rd.one_ wr _ _ _ (int_num (by omega))) (by simp only [maxLen]; omega) (by omega) (by have := hbr.size; simp; omega) ?_; intro A' c' w3 hgA hgrA hbA hatA)
        go_roundw
        case rel => exact ⟨j + 1, T / 4294967296, O ++ [T % 4294967296], A', c', by omega, by go_num, int_num (by omega), rfl, by rw [HT.out]; exact HI.out.step h.u hlt, by rw [← List.append_assoc]; exact hgA, (hbr.alloc hbr.size _).trans hbA⟩
        case measure => simp [intOf]; omega
      · obtain rfl : j = xs.length := by omega
        have hfin := HI.out.done hs32
        have HF := Lib.hid hfin
        clear hfin
        go_wp2_with (at_builtin; refine wpList_append_rd _ (mk := lmv) (fun _ => rfl) rfl _ _ 24 rfl 82 i0 (.int .u32 0) 4 Try.underlying24 hi hz0 hz1 hz2 rfl (B := w.heap.size) (xs := (List.replicate wh 0 ++ O)) rfl HLO.out (hgr.below ((Below.refl _ wr).alloc (Nat.le_refl _) _)) _ 1 1 [C] rfl rfl (Rd.one_ wr _ _ _ (int_num (by omega))) (by simp only [maxLen]; omega) (by omega) (by have := hbr.size; simp; omega) ?_; intro A' c' w3 hgA hgrA hbA hatA)
        have hu : U32 (List.replicate wh 0 ++ O ++ [C]) := by rw [List.append_assoc]; exact (U32.replicate _).append HF.out.2.2
        have hv : nv (List.replicate wh 0 ++ O ++ [C]) = nv xs * 2 ^ k := by
          rw [List.append_assoc, HWH.out]
          exact nv_shift_up (by rw [HF.out.2.1, HS.out])
        have hnt := hgA.nt hu
        have hll := lim_length_le_length hu
        have hl5 : (List.replicate wh 0 ++ O ++ [C]).length = wh + xs.length + 1 := by have := HF.out.1; simp at this ⊢; omega
        have hcall := rtrim_any w3 A' c' (wh + xs.length + 1) _ hnt hl5.symm (by omega)
        rw [hv] at hcall
        have HCL := Lib.hid hcall
        have bw := (hbr.alloc hbr.size _).trans hbA
        clear hcall hnt hll hv hl5 hgA hgr hbA hatA hgrA
        go_wp2_with fail
        refine HCL.out.mono ?_
        rintro e w2 ⟨A2, c2, rfl, hg2, hb2⟩
        go_wp2_with fail
        go_ret
        exact ⟨A2, c2, rfl, hg2.more fun ad e => Nat.le_trans bw.size (hg2.form.2.2 ad e).1, below_on bw hb2 bw.size⟩
end Go.Proofs.Ytnmomigaedfdoaa
