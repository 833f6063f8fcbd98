/- The walks of drydockref01: minus, Add, Sub, Mul, Bits. -/
import Derived.Test.YtnmomigaedfdoaaRefD
import Derived.Test.YtnmomigaedfdoaaNatH
namespace Go.Proofs.Ytnmomigaedfdoaa
set_option maxRecDepth 100000
open Go.RowKit

theorem getD_in {Y : List Nat} {j : Nat} (h : j < Y.length) : Y.getD j 0 = Y[j] := by simp [h]
theorem getD_out {Y : List Nat} {j : Nat} (h : ¬ j < Y.length) : Y.getD j 0 = 0 := by simp [List.getElem?_eq_none (Nat.le_of_not_lt h)]
set_option maxHeartbeats 800000 in
theorem minus_any (w : World) (A D : Option Addr) (c d n m : Nat) (xs ys : List Nat) (h : Nt w A c xs) (k : Nt w D d ys) (hn : n = xs.length) (hm : m = ys.length) (hl : xs.length ≤ 10000) (hl2 : ys.length ≤ xs.length) (hle : nv ys ≤ nv xs) :
    Calls Try.prog 73 #[.slice A n c, .slice D m d] w (NatNew w (lim (nv xs - nv ys))) := by
  subst hn hm
  have HLE := Lib.hid hle
  clear hle
  obtain ⟨i0, hi, hz0, hz1, hz2⟩ := info_parts u32_info
  go_enter Try.func73, Try.ntmps73
  go_wp2_with fail
  go_loopw [5, 6, 7] (fun o cy i wr => ∃ (j C : Nat) (O : List Nat) (AO : Option Addr) (cO : Nat), j ≤ xs.length ∧ i = .int .i64 j ∧ cy = .int .u64 C ∧ o = .slice AO O.length cO ∧ SubInv xs ys j C O ∧ Gr lmv 82 wr w.heap.size AO cO O ∧ Below w.heap.size w wr) (fun _ _ i _ => xs.length - (intOf i).toNat)
  case atStart => exact ⟨0, 0, [], none, 0, by omega, rfl, rfl, rfl, SubInv.start _ _, Gr.nil _ _, Below.refl _ _⟩
  case round =>
    obtain ⟨j, C, O, AO, cO, hj, rfl, rfl, rfl, hinv, hgr, hbr⟩ := hrel
    have HI := Lib.hid hinv
    have hC : C ≤ 1 := hinv.1
    have HO := Lib.hid hinv.2.1
    have hOl : O.length ≤ 10000 := by rw [hinv.2.1]; omega
    clear hinv
    by_cases hx : j < xs.length
    · obtain ⟨adX, rfl, hbX, hcX, hvX⟩ := (h.below hbr).at j hx
      by_cases hy : j < ys.length
      · obtain ⟨adY, rfl, hbY, hcY, hvY⟩ := (k.below hbr).at j hy
        have hg := getD_in hy
        have HGD := Lib.hid hg
        clear hg
        by_cases hb : xs[j] < C + ys[j]
        · have hb1 : (xs[j] : Int) < (C : Int) + ys[j] := by omega
          skip
          go_wp2_with (at_builtin; refine wpList_append_rd _ (mk := lmv) (fun _ => rfl) rfl _ _ 24 rfl 82 i0 (.int .u32 0) 4 Try.underlying24 hi hz0 hz1 hz2 rfl (B := w.heap.size) rfl rfl (hgr.below ((Below.refl _ wr).alloc (Nat.le_refl _) _)) _ 1 1 [xs[j] + 4294967296 - (C + ys[j])] rfl rfl (Rd.one_ wr _ _ _ (int_num (by omega))) (by simp only [maxLen]; omega) (by omega) (by have := hbr.size; simp; omega) ?_; intro A' c' w3 hgA hgrA hbA hatA)
          go_roundw
          case rel => exact ⟨j + 1, 1, O ++ [xs[j] + 4294967296 - (C + ys[j])], A', c', by omega, by go_num, rfl, by simp, SubInv.step HI.out hx (xs[j] + 4294967296 - (C + ys[j])) 1 (by omega) (by omega) (by rw [HGD.out]; omega), hgA, (hbr.alloc hbr.size _).trans hbA⟩
          case measure => simp [intOf]; omega
        · have hb1 : ¬ (xs[j] : Int) < (C : Int) + ys[j] := by omega
          have hb2 : decide ((xs[j] : Int) < (C : Int) + ys[j]) = false := decide_eq_false hb1
          skip
          go_wp2_with (at_builtin; refine wpList_append_rd _ (mk := lmv) (fun _ => rfl) rfl _ _ 24 rfl 82 i0 (.int .u32 0) 4 Try.underlying24 hi hz0 hz1 hz2 rfl (B := w.heap.size) rfl rfl (hgr.below ((Below.refl _ wr).alloc (Nat.le_refl _) _)) _ 1 1 [xs[j] - (C + ys[j])] rfl rfl (Rd.one_ wr _ _ _ (int_num (by omega))) (by simp only [maxLen]; omega) (by omega) (by have := hbr.size; simp; omega) ?_; intro A' c' w3 hgA hgrA hbA hatA)
          go_roundw
          case rel => exact ⟨j + 1, 0, O ++ [xs[j] - (C + ys[j])], A', c', by omega, by go_num, rfl, by simp, SubInv.step HI.out hx (xs[j] - (C + ys[j])) 0 (by omega) (by omega) (by rw [HGD.out]; omega), hgA, (hbr.alloc hbr.size _).trans hbA⟩
          case measure => simp [intOf]; omega
      · have HGD := Lib.hid (getD_out hy)
        by_cases hb : xs[j] < C
        · have hb1 : (xs[j] : Int) < (C : Int) := by omega
          skip
          go_wp2_with (at_builtin; refine wpList_append_rd _ (mk := lmv) (fun _ => rfl) rfl _ _ 24 rfl 82 i0 (.int .u32 0) 4 Try.underlying24 hi hz0 hz1 hz2 rfl (B := w.heap.size) rfl rfl (hgr.below ((Below.refl _ wr).alloc (Nat.le_refl _) _)) _ 1 1 [xs[j] + 4294967296 - C] rfl rfl (Rd.one_ wr _ _ _ (int_num (by omega))) (by simp only [maxLen]; omega) (by omega) (by have := hbr.size; simp; omega) ?_; intro A' c' w3 hgA hgrA hbA hatA)
          go_roundw
          case rel => exact ⟨j + 1, 1, O ++ [xs[j] + 4294967296 - C], A', c', by omega, by go_num, rfl, by simp, SubInv.step HI.out hx (xs[j] + 4294967296 - C) 1 (by omega) (by omega) (by rw [HGD.out]; omega), hgA, (hbr.alloc hbr.size _).trans hbA⟩
          case measure => simp [intOf]; omega
        · have hb1 : ¬ (xs[j] : Int) < (C : Int) := by omega
          have hb2 : decide ((xs[j] : Int) < (C : Int)) = false := decide_eq_false hb1
          skip
          go_wp2_with (at_builtin; refine wpList_append_rd _ (mk := lmv) (fun _ => rfl) rfl _ _ 24 rfl 82 i0 (.int .u32 0) 4 Try.underlying24 hi hz0 hz1 hz2 rfl (B := w.heap.size) rfl rfl (hgr.below ((Below.refl _ wr).alloc (Nat.le_refl _) _)) _ 1 1 [xs[j] - C] rfl rfl (Rd.one_ wr _ _ _ (int_num (by omega))) (by simp only [maxLen]; omega) (by omega) (by have := hbr.size; simp; omega) ?_; intro A' c' w3 hgA hgrA hbA hatA)
          go_roundw
          case rel => exact ⟨j + 1, 0, O ++ [xs[j] - C], A', c', by omega, by go_num, rfl, by simp, SubInv.step HI.out hx (xs[j] - C) 0 (by omega) (by omega) (by rw [HGD.out]; omega), hgA, (hbr.alloc hbr.size _).trans hbA⟩
          case measure => simp [intOf]; omega
    · obtain rfl : j = xs.length := by omega
      have hfin := HI.out.done hl2 HLE.out
      have hnt := hgr.nt hfin.1
      have hlen := lim_length_le_length hfin.1
      have hcall := rtrim_any wr AO cO _ O hnt rfl (by omega)
      rw [hfin.2.1] at hcall
      have HF := Lib.hid hcall
      clear hcall hlen hfin hnt
      go_wp2_with fail
      refine HF.out.mono ?_
      rintro e w2 ⟨A', c', rfl, hg2, hb2⟩
      go_wp2_with fail
      go_ret
      exact ⟨A', c', rfl, hg2.more fun ad e => Nat.le_trans hbr.size (hg2.form.2.2 ad e).1, below_on hbr hb2 hbr.size⟩

theorem len_mulr {m n j k : Nat} (hm : (lim m).length ≤ j) (hn : (lim n).length ≤ k) : (lim (m * n)).length ≤ j + k := by
  rw [lim_length_le] at *
  rw [pw_add]
  exact Nat.mul_lt_mul'' hm hn
theorem len_addr {m n k : Nat} (hm : (lim m).length ≤ k) (hn : (lim n).length ≤ k) : (lim (m + n)).length ≤ k + 1 := by
  rw [lim_length_le] at *
  rw [pw_succ]; omega
theorem rplus_lim (w : World) (A D : Option Addr) (c d M N : Nat) (h : Nt w A c (lim M)) (k : Nt w D d (lim N)) (hl : (lim M).length ≤ 10000) (hl2 : (lim N).length ≤ 10000) :
    Calls Try.prog 69 #[.slice A (lim M).length c, .slice D (lim N).length d] w (NatNew w (lim (M + N))) := by
  have hc := plus_any w A D c d _ _ (lim M) (lim N) h k rfl rfl hl hl2
  rw [nv_lim, nv_lim] at hc
  exact hc
theorem rtimes_lim (w : World) (A D : Option Addr) (c d M N : Nat) (h : Nt w A c (lim M)) (k : Nt w D d (lim N)) (hl : (lim M).length ≤ 10000) (hl2 : (lim N).length ≤ 10000) :
    Calls Try.prog 94 #[.slice A (lim M).length c, .slice D (lim N).length d] w (NatNew w (lim (M * N))) := by
  have hc := times_any w A D c d _ _ (lim M) (lim N) h k rfl rfl hl hl2
  rw [nv_lim, nv_lim] at hc
  exact hc
theorem rminus_lim (w : World) (A D : Option Addr) (c d M N : Nat) (h : Nt w A c (lim M)) (k : Nt w D d (lim N)) (hl : (lim M).length ≤ 10000) (hle : N ≤ M) :
    Calls Try.prog 73 #[.slice A (lim M).length c, .slice D (lim N).length d] w (NatNew w (lim (M - N))) := by
  have hc := minus_any w A D c d _ _ (lim M) (lim N) h k rfl rfl hl (lim_length_mono hle) (by rw [nv_lim, nv_lim]; exact hle)
  rw [nv_lim, nv_lim] at hc
  exact hc
theorem rlarge_lim (w : World) (A : Option Addr) (c N : Nat) (b : Bool) (h : Nt w A c (lim N)) (hl : (lim N).length ≤ 1000000) (hb : decide (512 < (lim N).length) = b) :
    Calls Try.prog 68 #[.slice A (lim N).length c] w fun e w' => e = .returned (.bool b) ∧ Below w.heap.size w w' :=
  rlarge_any w A c _ (lim N) b h rfl (by rw [nv_lim]; exact hl) (by rw [nv_lim]; exact hb)

set_option maxHeartbeats 400000 in
theorem radd_any (w : World) (A D : Option Addr) (c d n m : Nat) (xs ys R : List Nat) (E : Int) (h : Nt w A c xs) (k : Nt w D d ys) (hn : n = xs.length) (hm : m = ys.length) (hl : xs.length ≤ 10000) (hl2 : ys.length ≤ 10000) (hr : addS (nv xs) (nv ys) = (R, E)) :
    Calls Try.prog 42 #[.slice A n c, .slice D m d] w (NatRes w R E) := by
  subst hn hm
  have HR := Lib.hid hr; clear hr
  have hl1 := lim_length_le_length h.u
  have hl2 := lim_length_le_length k.u
  have hl3 : (lim (nv xs)).length ≤ 1000000 := by omega
  have hl4 : (lim (nv ys)).length ≤ 1000000 := by omega
  have h3 := h.cap
  have h4 := h.max
  have k3 := k.cap
  have k4 := k.max
  by_cases hb : 512 < (lim (nv xs)).length
  · go_enter Try.func42, Try.ntmps42
    go_wp2_with fail
    refine (rlarge_any _ A c _ xs true h rfl hl3 (by simp <;> omega)).mono ?_
    rintro e wn ⟨rfl, bb⟩
    replace h := h.below bb
    replace k := k.below bb
    have bw := bb
    clear bb
    go_wp2_with fail
    go_ret2
    have e := HR.out
    rw [addS_big1 hb] at e
    obtain ⟨rfl, rfl⟩ := Prod.mk.inj e
    exact ⟨_, _, rfl, Nt.nil _ _ _ (by omega), bw⟩
  · by_cases hb2 : 512 < (lim (nv ys)).length
    · go_enter Try.func42, Try.ntmps42
      go_wp2_with fail
      refine (rlarge_any _ A c _ xs false h rfl hl3 (by simp <;> omega)).mono ?_
      rintro e wn ⟨rfl, bb⟩
      replace h := h.below bb
      replace k := k.below bb
      have bw := bb
      clear bb
      go_wp2_with fail
      refine (rlarge_any _ D d _ ys true k rfl hl4 (by simp <;> omega)).mono ?_
      rintro e wn ⟨rfl, bb⟩
      replace h := h.below bb
      replace k := k.below bb
      replace bw := below_on bw bb bw.size
      clear bb
      go_wp2_with fail
      go_ret2
      have e := HR.out
      rw [addS_big2 hb2] at e
      obtain ⟨rfl, rfl⟩ := Prod.mk.inj e
      exact ⟨_, _, rfl, Nt.nil _ _ _ (by omega), bw⟩
    · have hlen : (lim (nv xs + nv ys)).length ≤ 1000000 := by
        have h5 := len_mulr (m := nv xs) (n := nv ys) (j := 512) (k := 512) (by omega) (by omega)
        have h6 := len_addr (m := nv xs) (n := nv ys) (k := 512) (by omega) (by omega)
        omega
      by_cases hs : 512 < (lim (nv xs + nv ys)).length
      · go_enter Try.func42, Try.ntmps42
        go_wp2_with fail
        refine (rlarge_any _ A c _ xs false h rfl hl3 (by simp <;> omega)).mono ?_
        rintro e wn ⟨rfl, bb⟩
        replace h := h.below bb
        replace k := k.below bb
        have bw := bb
        clear bb
        go_wp2_with fail
        refine (rlarge_any _ D d _ ys false k rfl hl4 (by simp <;> omega)).mono ?_
        rintro e wn ⟨rfl, bb⟩
        replace h := h.below bb
        replace k := k.below bb
        replace bw := below_on bw bb bw.size
        clear bb
        go_wp2_with fail
        refine (rtrim_any _ A c _ xs h rfl hl3).mono ?_
        rintro e wn ⟨A1, c1, rfl, g1, bb⟩
        have n1 := g1.nt (lim_u32 _)
        replace k := k.below bb
        replace bw := below_on bw bb bw.size
        clear g1 bb
        go_wp2_with fail
        refine (rtrim_any _ D d _ ys k rfl hl4).mono ?_
        rintro e wn ⟨A2, c2, rfl, g2, bb⟩
        have n2 := g2.nt (lim_u32 _)
        replace n1 := n1.below bb
        replace bw := below_on bw bb bw.size
        clear g2 bb
        go_wp2_with fail
        refine (rplus_lim _ A1 A2 c1 c2 _ _ n1 n2 (by omega) (by omega)).mono ?_
        rintro e wn ⟨A3, c3, rfl, g3, bb⟩
        have n3 := g3.nt (lim_u32 _)
        replace bw := below_on bw bb bw.size
        clear g3 bb
        go_wp2_with fail
        refine (rlarge_lim _ A3 c3 _ true n3 hlen (by simpa using hs)).mono ?_
        rintro e wn ⟨rfl, bb⟩
        replace bw := below_on bw bb bw.size
        go_wp2_with fail
        go_ret2
        have e := HR.out
        rw [addS_ok hb hb2, sizS, if_pos hs] at e
        obtain ⟨rfl, rfl⟩ := Prod.mk.inj e
        exact ⟨_, _, rfl, Nt.nil _ _ _ (by omega), bw⟩
      · go_enter Try.func42, Try.ntmps42
        go_wp2_with fail
        refine (rlarge_any _ A c _ xs false h rfl hl3 (by simp <;> omega)).mono ?_
        rintro e wn ⟨rfl, bb⟩
        replace h := h.below bb
        replace k := k.below bb
        have bw := bb
        clear bb
        go_wp2_with fail
        refine (rlarge_any _ D d _ ys false k rfl hl4 (by simp <;> omega)).mono ?_
        rintro e wn ⟨rfl, bb⟩
        replace h := h.below bb
        replace k := k.below bb
        replace bw := below_on bw bb bw.size
        clear bb
        go_wp2_with fail
        refine (rtrim_any _ A c _ xs h rfl hl3).mono ?_
        rintro e wn ⟨A1, c1, rfl, g1, bb⟩
        have n1 := g1.nt (lim_u32 _)
        replace k := k.below bb
        replace bw := below_on bw bb bw.size
        clear g1 bb
        go_wp2_with fail
        refine (rtrim_any _ D d _ ys k rfl hl4).mono ?_
        rintro e wn ⟨A2, c2, rfl, g2, bb⟩
        have n2 := g2.nt (lim_u32 _)
        replace n1 := n1.below bb
        replace bw := below_on bw bb bw.size
        clear g2 bb
        go_wp2_with fail
        refine (rplus_lim _ A1 A2 c1 c2 _ _ n1 n2 (by omega) (by omega)).mono ?_
        rintro e wn ⟨A3, c3, rfl, g3, bb⟩
        have n3 := g3.nt (lim_u32 _)
        replace bw := below_on bw bb bw.size
        clear g3 bb
        go_wp2_with fail
        refine (rlarge_lim _ A3 c3 _ false n3 hlen (by simpa using hs)).mono ?_
        rintro e wn ⟨rfl, bb⟩
        replace n3 := n3.below bb
        replace bw := below_on bw bb bw.size
        clear bb
        go_wp2_with fail
        go_ret2
        have e := HR.out
        rw [addS_ok hb hb2, sizS, if_neg hs] at e
        obtain ⟨rfl, rfl⟩ := Prod.mk.inj e
        exact ⟨_, _, rfl, n3, bw⟩
set_option maxHeartbeats 400000 in
theorem rmul_any (w : World) (A D : Option Addr) (c d n m : Nat) (xs ys R : List Nat) (E : Int) (h : Nt w A c xs) (k : Nt w D d ys) (hn : n = xs.length) (hm : m = ys.length) (hl : xs.length ≤ 10000) (hl2 : ys.length ≤ 10000) (hr : mulS (nv xs) (nv ys) = (R, E)) :
    Calls Try.prog 67 #[.slice A n c, .slice D m d] w (NatRes w R E) := by
  subst hn hm
  have HR := Lib.hid hr; clear hr
  have hl1 := lim_length_le_length h.u
  have hl2 := lim_length_le_length k.u
  have hl3 : (lim (nv xs)).length ≤ 1000000 := by omega
  have hl4 : (lim (nv ys)).length ≤ 1000000 := by omega
  have h3 := h.cap
  have h4 := h.max
  have k3 := k.cap
  have k4 := k.max
  by_cases hb : 512 < (lim (nv xs)).length
  · go_enter Try.func67, Try.ntmps67
    go_wp2_with fail
    refine (rlarge_any _ A c _ xs true h rfl hl3 (by simp <;> omega)).mono ?_
    rintro e wn ⟨rfl, bb⟩
    replace h := h.below bb
    replace k := k.below bb
    have bw := bb
    clear bb
    go_wp2_with fail
    go_ret2
    have e := HR.out
    rw [mulS_big1 hb] at e
    obtain ⟨rfl, rfl⟩ := Prod.mk.inj e
    exact ⟨_, _, rfl, Nt.nil _ _ _ (by omega), bw⟩
  · by_cases hb2 : 512 < (lim (nv ys)).length
    · go_enter Try.func67, Try.ntmps67
      go_wp2_with fail
      refine (rlarge_any _ A c _ xs false h rfl hl3 (by simp <;> omega)).mono ?_
      rintro e wn ⟨rfl, bb⟩
      replace h := h.below bb
      replace k := k.below bb
      have bw := bb
      clear bb
      go_wp2_with fail
      refine (rlarge_any _ D d _ ys true k rfl hl4 (by simp <;> omega)).mono ?_
      rintro e wn ⟨rfl, bb⟩
      replace h := h.below bb
      replace k := k.below bb
      replace bw := below_on bw bb bw.size
      clear bb
      go_wp2_with fail
      go_ret2
      have e := HR.out
      rw [mulS_big2 hb2] at e
      obtain ⟨rfl, rfl⟩ := Prod.mk.inj e
      exact ⟨_, _, rfl, Nt.nil _ _ _ (by omega), bw⟩
    · have hlen : (lim (nv xs * nv ys)).length ≤ 1000000 := by
        have h5 := len_mulr (m := nv xs) (n := nv ys) (j := 512) (k := 512) (by omega) (by omega)
        have h6 := len_addr (m := nv xs) (n := nv ys) (k := 512) (by omega) (by omega)
        omega
      by_cases hs : 512 < (lim (nv xs * nv ys)).length
      · go_enter Try.func67, Try.ntmps67
        go_wp2_with fail
        refine (rlarge_any _ A c _ xs false h rfl hl3 (by simp <;> omega)).mono ?_
        rintro e wn ⟨rfl, bb⟩
        replace h := h.below bb
        replace k := k.below bb
        have bw := bb
        clear bb
        go_wp2_with fail
        refine (rlarge_any _ D d _ ys false k rfl hl4 (by simp <;> omega)).mono ?_
        rintro e wn ⟨rfl, bb⟩
        replace h := h.below bb
        replace k := k.below bb
        replace bw := below_on bw bb bw.size
        clear bb
        go_wp2_with fail
        refine (rtrim_any _ A c _ xs h rfl hl3).mono ?_
        rintro e wn ⟨A1, c1, rfl, g1, bb⟩
        have n1 := g1.nt (lim_u32 _)
        replace k := k.below bb
        replace bw := below_on bw bb bw.size
        clear g1 bb
        go_wp2_with fail
        refine (rtrim_any _ D d _ ys k rfl hl4).mono ?_
        rintro e wn ⟨A2, c2, rfl, g2, bb⟩
        have n2 := g2.nt (lim_u32 _)
        replace n1 := n1.below bb
        replace bw := below_on bw bb bw.size
        clear g2 bb
        go_wp2_with fail
        refine (rtimes_lim _ A1 A2 c1 c2 _ _ n1 n2 (by omega) (by omega)).mono ?_
        rintro e wn ⟨A3, c3, rfl, g3, bb⟩
        have n3 := g3.nt (lim_u32 _)
        replace bw := below_on bw bb bw.size
        clear g3 bb
        go_wp2_with fail
        refine (rlarge_lim _ A3 c3 _ true n3 hlen (by simpa using hs)).mono ?_
        rintro e wn ⟨rfl, bb⟩
        replace bw := below_on bw bb bw.size
        go_wp2_with fail
        go_ret2
        have e := HR.out
        rw [mulS_ok hb hb2, sizS, if_pos hs] at e
        obtain ⟨rfl, rfl⟩ := Prod.mk.inj e
        exact ⟨_, _, rfl, Nt.nil _ _ _ (by omega), bw⟩
      · go_enter Try.func67, Try.ntmps67
        go_wp2_with fail
        refine (rlarge_any _ A c _ xs false h rfl hl3 (by simp <;> omega)).mono ?_
        rintro e wn ⟨rfl, bb⟩
        replace h := h.below bb
        replace k := k.below bb
        have bw := bb
        clear bb
        go_wp2_with fail
        refine (rlarge_any _ D d _ ys false k rfl hl4 (by simp <;> omega)).mono ?_
        rintro e wn ⟨rfl, bb⟩
        replace h := h.below bb
        replace k := k.below bb
        replace bw := below_on bw bb bw.size
        clear bb
        go_wp2_with fail
        refine (rtrim_any _ A c _ xs h rfl hl3).mono ?_
        rintro e wn ⟨A1, c1, rfl, g1, bb⟩
        have n1 := g1.nt (lim_u32 _)
        replace k := k.below bb
        replace bw := below_on bw bb bw.size
        clear g1 bb
        go_wp2_with fail
        refine (rtrim_any _ D d _ ys k rfl hl4).mono ?_
        rintro e wn ⟨A2, c2, rfl, g2, bb⟩
        have n2 := g2.nt (lim_u32 _)
        replace n1 := n1.below bb
        replace bw := below_on bw bb bw.size
        clear g2 bb
        go_wp2_with fail
        refine (rtimes_lim _ A1 A2 c1 c2 _ _ n1 n2 (by omega) (by omega)).mono ?_
        rintro e wn ⟨A3, c3, rfl, g3, bb⟩
        have n3 := g3.nt (lim_u32 _)
        replace bw := below_on bw bb bw.size
        clear g3 bb
        go_wp2_with fail
        refine (rlarge_lim _ A3 c3 _ false n3 hlen (by simpa using hs)).mono ?_
        rintro e wn ⟨rfl, bb⟩
        replace n3 := n3.below bb
        replace bw := below_on bw bb bw.size
        clear bb
        go_wp2_with fail
        go_ret2
        have e := HR.out
        rw [mulS_ok hb hb2, sizS, if_neg hs] at e
        obtain ⟨rfl, rfl⟩ := Prod.mk.inj e
        exact ⟨_, _, rfl, n3, bw⟩
set_option maxHeartbeats 400000 in
theorem rsub_any (w : World) (A D : Option Addr) (c d n m : Nat) (xs ys R : List Nat) (E : Int) (h : Nt w A c xs) (k : Nt w D d ys) (hn : n = xs.length) (hm : m = ys.length) (hl : xs.length ≤ 10000) (hl2 : ys.length ≤ 10000) (hr : subS (nv xs) (nv ys) = (R, E)) :
    Calls Try.prog 46 #[.slice A n c, .slice D m d] w (NatRes w R E) := by
  subst hn hm
  have HR := Lib.hid hr; clear hr
  have hl1 := lim_length_le_length h.u
  have hl2 := lim_length_le_length k.u
  have hl3 : (lim (nv xs)).length ≤ 1000000 := by omega
  have hl4 : (lim (nv ys)).length ≤ 1000000 := by omega
  have h3 := h.cap
  have h4 := h.max
  have k3 := k.cap
  have k4 := k.max
  by_cases hb : 512 < (lim (nv xs)).length
  · go_enter Try.func46, Try.ntmps46
    go_wp2_with fail
    refine (rlarge_any _ A c _ xs true h rfl hl3 (by simp <;> omega)).mono ?_
    rintro e wn ⟨rfl, bb⟩
    replace h := h.below bb
    replace k := k.below bb
    have bw := bb
    clear bb
    go_wp2_with fail
    go_ret2
    have e := HR.out
    rw [subS_big1 hb] at e
    obtain ⟨rfl, rfl⟩ := Prod.mk.inj e
    exact ⟨_, _, rfl, Nt.nil _ _ _ (by omega), bw⟩
  · by_cases hb2 : 512 < (lim (nv ys)).length
    · go_enter Try.func46, Try.ntmps46
      go_wp2_with fail
      refine (rlarge_any _ A c _ xs false h rfl hl3 (by simp <;> omega)).mono ?_
      rintro e wn ⟨rfl, bb⟩
      replace h := h.below bb
      replace k := k.below bb
      have bw := bb
      clear bb
      go_wp2_with fail
      refine (rlarge_any _ D d _ ys true k rfl hl4 (by simp <;> omega)).mono ?_
      rintro e wn ⟨rfl, bb⟩
      replace h := h.below bb
      replace k := k.below bb
      replace bw := below_on bw bb bw.size
      clear bb
      go_wp2_with fail
      go_ret2
      have e := HR.out
      rw [subS_big2 hb2] at e
      obtain ⟨rfl, rfl⟩ := Prod.mk.inj e
      exact ⟨_, _, rfl, Nt.nil _ _ _ (by omega), bw⟩
    · by_cases hlt : nv xs < nv ys
      · have HLT := Lib.hid hlt
        clear hlt
        go_enter Try.func46, Try.ntmps46
        go_wp2_with fail
        refine (rlarge_any _ A c _ xs false h rfl hl3 (by simp <;> omega)).mono ?_
        rintro e wn ⟨rfl, bb⟩
        replace h := h.below bb
        replace k := k.below bb
        have bw := bb
        clear bb
        go_wp2_with fail
        refine (rlarge_any _ D d _ ys false k rfl hl4 (by simp <;> omega)).mono ?_
        rintro e wn ⟨rfl, bb⟩
        replace h := h.below bb
        replace k := k.below bb
        replace bw := below_on bw bb bw.size
        clear bb
        go_wp2_with fail
        refine (rcmp_any _ A D c d _ _ xs ys (-1) h k rfl rfl hl3 hl4 (cmp3_lt HLT.out)).mono ?_
        rintro e wn ⟨rfl, bb⟩
        replace bw := below_on bw bb bw.size
        go_wp2_with fail
        go_ret2
        have e := HR.out
        rw [subS_neg hb hb2 HLT.out] at e
        obtain ⟨rfl, rfl⟩ := Prod.mk.inj e
        exact ⟨_, _, rfl, Nt.nil _ _ _ (by omega), bw⟩
      · obtain ⟨z, hz0, hz⟩ : ∃ z : Int, 0 ≤ z ∧ cmp3 (nv xs) (nv ys) = z := ⟨_, by unfold cmp3; rw [if_neg hlt]; split <;> omega, rfl⟩
        have HZ := Lib.hid hz
        have HLE : Hid (nv ys ≤ nv xs) := Lib.hid (by omega)
        clear hz hlt
        go_enter Try.func46, Try.ntmps46
        go_wp2_with fail
        refine (rlarge_any _ A c _ xs false h rfl hl3 (by simp <;> omega)).mono ?_
        rintro e wn ⟨rfl, bb⟩
        replace h := h.below bb
        replace k := k.below bb
        have bw := bb
        clear bb
        go_wp2_with fail
        refine (rlarge_any _ D d _ ys false k rfl hl4 (by simp <;> omega)).mono ?_
        rintro e wn ⟨rfl, bb⟩
        replace h := h.below bb
        replace k := k.below bb
        replace bw := below_on bw bb bw.size
        clear bb
        go_wp2_with fail
        refine (rcmp_any _ A D c d _ _ xs ys z h k rfl rfl hl3 hl4 HZ.out).mono ?_
        rintro e wn ⟨rfl, bb⟩
        replace h := h.below bb
        replace k := k.below bb
        replace bw := below_on bw bb bw.size
        clear bb
        go_wp2_with fail
        refine (rtrim_any _ A c _ xs h rfl hl3).mono ?_
        rintro e wn ⟨A1, c1, rfl, g1, bb⟩
        have n1 := g1.nt (lim_u32 _)
        replace k := k.below bb
        replace bw := below_on bw bb bw.size
        clear g1 bb
        go_wp2_with fail
        refine (rtrim_any _ D d _ ys k rfl hl4).mono ?_
        rintro e wn ⟨A2, c2, rfl, g2, bb⟩
        have n2 := g2.nt (lim_u32 _)
        replace n1 := n1.below bb
        replace bw := below_on bw bb bw.size
        clear g2 bb
        go_wp2_with fail
        refine (rminus_lim _ A1 A2 c1 c2 _ _ n1 n2 (by omega) HLE.out).mono ?_
        rintro e wn ⟨A3, c3, rfl, g3, bb⟩
        have n3 := g3.nt (lim_u32 _)
        replace bw := below_on bw bb bw.size
        clear g3 bb
        go_wp2_with fail
        go_ret2
        have e := HR.out
        have h7 := lim_length_mono (Nat.sub_le (nv xs) (nv ys))
        rw [subS_ok hb hb2 HLE.out, sizS, if_neg (by omega)] at e
        obtain ⟨rfl, rfl⟩ := Prod.mk.inj e
        exact ⟨_, _, rfl, n3, bw⟩
end Go.Proofs.Ytnmomigaedfdoaa
