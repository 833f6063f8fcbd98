/- The walks of drydockref01: Cmp, and divide by one limb. -/
import Derived.Test.YtnmomigaedfdoaaRefA
import Derived.Test.YtnmomigaedfdoaaNatI
namespace Go.Proofs.Ytnmomigaedfdoaa
set_option maxRecDepth 100000
open Go.RowKit

set_option maxHeartbeats 400000 in
theorem rcmp_any (w : World) (A D : Option Addr) (c d n m : Nat) (xs ys : List Nat) (z : Int) (h : Nt w A c xs) (k : Nt w D d ys) (hn : n = xs.length) (hm : m = ys.length) (hl : (lim (nv xs)).length ≤ 1000000) (hl2 : (lim (nv ys)).length ≤ 1000000) (hz : cmp3 (nv xs) (nv ys) = z) :
    Calls Try.prog 45 #[.slice A n c, .slice D m d] w fun e w' => e = .returned (.int .i64 z) ∧ Below w.heap.size w w' := by
  have HZ := Lib.hid hz; clear hz
  subst hn hm
  go_enter Try.func45, Try.ntmps45
  go_wp2_with fail
  refine (rtrim_any w A c _ xs h rfl hl).mono ?_
  rintro e wa ⟨A1, c1, rfl, g1, b1⟩
  have x1 := g1.nt (lim_u32 _)
  have k1 := k.below b1
  clear g1
  go_wp2_with fail
  refine (rtrim_any wa D d _ ys k1 rfl hl2).mono ?_
  rintro e wb ⟨A2, c2, rfl, g2, b2⟩
  have hy := g2.nt (lim_u32 _)
  have hx := x1.below b2
  have bw := below_on b1 b2 b1.size
  clear g2 x1 k1 b1 b2 h k
  rcases Nat.lt_trichotomy (lim (nv xs)).length (lim (nv ys)).length with hl | hl | hl
  · have hne : (((lim (nv xs)).length : Int) != ((lim (nv ys)).length : Int)) = true := by rw [bne_iff_ne]; omega
    go_wp2_with fail
    go_ret
    exact ⟨ret_int (by rw [← HZ.out, cmp3_lt (lt_of_lim_lt hl)]), bw⟩
  · have HL := Lib.hid hl
    have hne : (((lim (nv xs)).length : Int) != ((lim (nv ys)).length : Int)) = false := by rw [hl]; simp
    have hxl := hx.len
    clear hl
    go_wp2_with fail
    go_loopw [5] (fun i wr => ∃ k : Nat, k ≤ (lim (nv xs)).length ∧ i = .int .i64 ((k : Int) - 1) ∧ Tops (lim (nv xs)) (lim (nv ys)) k ∧ Qt wb wr) (fun i _ => (intOf i + 1).toNat)
    case atStart => exact ⟨(lim (nv xs)).length, Nat.le_refl _, by go_num, Tops.start _ _, Qt.refl _⟩
    case round =>
      obtain ⟨k, hk, rfl, ht, q⟩ := hrel
      have HT := Lib.hid ht; clear ht
      rcases k with _ | k
      · go_wp2_with fail
        go_ret
        exact ⟨ret_int (by rw [← HZ.out, cmp3_eq (HT.out.eq HL.out)]), below_on bw q.keep bw.size⟩
      · have hk2 : k < (lim (nv ys)).length := by have := HL.out; omega
        obtain ⟨ad, rfl, hb, hcx, hlt⟩ := (hx.below (q.below _)).at k (by omega)
        obtain ⟨ad2, rfl, hb2, hcy, hlt2⟩ := (hy.below (q.below _)).at k hk2
        have hk1 : k < (lim (nv xs)).length := by omega
        clear hx hy
        rcases Nat.lt_trichotomy (lim (nv xs))[k] (lim (nv ys))[k] with he | he | he
        · have he1 : ((lim (nv xs))[k] : Int) < (lim (nv ys))[k] := by omega
          go_wp2_with fail
          go_quiet (fail)
          go_wp2_with fail
          go_ret
          exact ⟨ret_int (by rw [← HZ.out, cmp3_lt (HT.out.lt HL.out hk1 hk2 he)]), below_on bw (by first | exact (q.drewN _).keep | exact ((q.drewN _).drewN _).keep) bw.size⟩
        · have HE := Lib.hid he
          have he1 : ¬ ((lim (nv xs))[k] : Int) < (lim (nv ys))[k] := by omega
          have he2 : ¬ ((lim (nv ys))[k] : Int) < (lim (nv xs))[k] := by omega
          clear he
          go_wp2_with fail
          go_quiet (fail)
          go_wp2_with fail
          go_quiet (fail)
          go_wp2_with fail
          go_roundw
          case rel => exact ⟨k, by omega, by go_num, HT.out.step hk1 hk2 HE.out, by first | exact q.drewN _ | exact (q.drewN _).drewN _⟩
          case measure => simp [intOf]
        · have he1 : ¬ ((lim (nv xs))[k] : Int) < (lim (nv ys))[k] := by omega
          have he2 : ((lim (nv ys))[k] : Int) < (lim (nv xs))[k] := by omega
          go_wp2_with fail
          go_quiet (fail)
          go_wp2_with fail
          go_quiet (fail)
          go_wp2_with fail
          go_ret
          exact ⟨ret_int (by rw [← HZ.out, cmp3_gt (HT.out.symm.lt HL.out.symm hk2 hk1 he)]), below_on bw (by first | exact (q.drewN _).keep | exact ((q.drewN _).drewN _).keep) bw.size⟩
  · have hne : (((lim (nv xs)).length : Int) != ((lim (nv ys)).length : Int)) = true := by rw [bne_iff_ne]; omega
    go_wp2_with fail
    go_ret
    exact ⟨ret_int (by rw [← HZ.out, cmp3_gt (lt_of_lim_lt hl)]), bw⟩

theorem rcmp_lim (w : World) (A D : Option Addr) (c d M N : Nat) (z : Int) (h : Nt w A c (lim M)) (k : Nt w D d (lim N)) (hl : (lim M).length ≤ 1000000) (hl2 : (lim N).length ≤ 1000000) (hz : cmp3 M N = z) :
    Calls Try.prog 45 #[.slice A (lim M).length c, .slice D (lim N).length d] w fun e w' => e = .returned (.int .i64 z) ∧ Below w.heap.size w w' :=
  rcmp_any w A D c d _ _ (lim M) (lim N) z h k rfl rfl (by rw [nv_lim]; exact hl) (by rw [nv_lim]; exact hl2) (by rw [nv_lim, nv_lim]; exact hz)

theorem rdivide_less (w : World) (A D : Option Addr) (c d M N : Nat) (h : Nt w A c (lim M)) (k : Nt w D d (lim N)) (hl : (lim M).length ≤ 1000) (hl2 : (lim N).length ≤ 1000) (hlt : M < N) :
    Calls Try.prog 95 #[.slice A (lim M).length c, .slice D (lim N).length d] w (DivRes w (M / N) (M % N)) := by
  have HC := Lib.hid (rcmp_lim w A D c d M N (-1) h k (by omega) (by omega) (cmp3_lt hlt))
  have HQ : Hid (M / N = 0) := Lib.hid (Nat.div_eq_of_lt hlt)
  have HR : Hid (M % N = M) := Lib.hid (Nat.mod_eq_of_lt hlt)
  clear hlt
  go_enter Try.func95, Try.ntmps95
  go_wp2_with fail
  refine HC.out.mono ?_
  rintro e w1 ⟨rfl, b1⟩
  have ht := rtrim_any w1 A c _ (lim M) (h.below b1) rfl (by rw [nv_lim]; omega)
  rw [nv_lim] at ht
  have HT := Lib.hid ht
  clear ht
  go_wp2_with fail
  refine HT.out.mono ?_
  rintro e w2 ⟨A2, c2, rfl, g2, b2⟩
  have n2 := g2.nt (lim_u32 _)
  clear g2
  go_wp2_with fail
  go_ret2
  rw [HQ.out, HR.out]
  exact ⟨none, 0, A2, c2, by rw [lim_zero]; rfl, by rw [lim_zero]; exact Nt.nil _ _ _ (by omega), n2, below_on b1 b2 b1.size⟩

set_option maxHeartbeats 1000000 in
theorem rdivide_short (w : World) (A D : Option Addr) (c d M x : Nat) (h : Nt w A c (lim M)) (k : Nt w D d [x]) (hl : (lim M).length ≤ 1000) (hx0 : 0 < x) (hge : x ≤ M) :
    Calls Try.prog 95 #[.slice A (lim M).length c, .slice D 1 d] w (DivRes w (M / x) (M % x)) := by
  obtain ⟨z, hz0, hz⟩ : ∃ z : Int, 0 ≤ z ∧ cmp3 M x = z := ⟨_, by unfold cmp3; rw [if_neg (by omega)]; split <;> omega, rfl⟩
  have hx := k.u.at 0 (by simp)
  simp only [List.getElem_cons_zero] at hx
  have hxl : (lim x).length ≤ 1 := by rw [lim_length_le]; exact hx
  have HC := Lib.hid (rcmp_any w A D c d _ 1 (lim M) [x] z h k rfl rfl (by rw [nv_lim]; omega) (by simp only [nv_cons, nv_nil, Nat.mul_zero, Nat.add_zero]; omega) (by rw [nv_lim]; simpa [nv_cons, nv_nil] using hz))
  clear hz hxl
  obtain ⟨xs, hxs⟩ : ∃ xs, xs = lim M := ⟨_, rfl⟩
  have hM : nv xs = M := by rw [hxs, nv_lim]
  rw [← hxs] at h hl HC ⊢
  have HM := Lib.hid hM
  clear hxs hM
  have h3 := h.cap
  have h4 := h.max
  obtain ⟨i0, hi, hz0', hz1, hz2⟩ := info_parts u32_info
  go_enter Try.func95, Try.ntmps95
  go_wp2_with fail
  refine HC.out.mono ?_
  rintro e w1 ⟨rfl, b1⟩
  have hx1 := h.below b1
  obtain ⟨adD, rfl, hbD, hcD, _⟩ := (k.below b1).at 0 (by simp)
  simp only [List.getElem_cons_zero] at hcD
  have hcD : w1.cell? adD = some (.int .u32 (x : Int)) := hcD
  go_wp2_with (at_make; refine wpList_make_rd w1 (mk := lmv) 0 rfl _ _ 24 rfl 82 i0 4 Try.underlying24 hi hz0' hz1 hz2 rfl .i64 .i64 _ _ xs.length rfl rfl (by omega) (by omega) (by omega) (by simp only [maxLen]; omega) ?_; intro w2 hg1 hb1 hs1)
  go_loopw [7, 8] (fun rs i wr => ∃ (j r : Nat) (O : List Nat), j ≤ xs.length ∧ i = .int .i64 ((j : Int) - 1) ∧ rs = .int .u64 r ∧ ShortInv xs x j r O ∧ Gr lmv 82 wr w1.heap.size (some ⟨w1.heap.size, 0, none⟩) xs.length (List.replicate j 0 ++ O) ∧ Below w1.heap.size w1 wr ∧ w1.heap.size < wr.heap.size) (fun _ i _ => (intOf i + 1).toNat)
  case atStart => exact ⟨xs.length, 0, [], Nat.le_refl _, rfl, rfl, ShortInv.start xs hx0, by simpa using hg1, hb1, hs1⟩
  case round =>
    obtain ⟨j, r, O, hj, rfl, rfl, hinv, hgr, hbr, hsz⟩ := hrel
    have HI := Lib.hid hinv
    have hr : r < x := hinv.1
    have hcD3 := (hbr.cell (p := adD) hbD).trans hcD
    clear hinv hg1 hs1 hb1
    have HB := Lib.hid hbr
    have HG := Lib.hid hgr
    rcases j with _ | j
    · have hfin := HI.out.done
      have hnt := hgr.nt (by simpa using hfin.1)
      simp only [List.replicate_zero, List.nil_append] at hnt
      have hl2 := lim_length_le_length hnt.u
      have ht := rtrim_any wr _ _ _ O hnt hfin.2.2.2.symm (by omega)
      rw [hfin.2.1, HM.out] at ht
      have HT := Lib.hid ht
      have HF := Lib.hid hfin
      have hr64 : r < 18446744073709551616 := by omega
      have HR64 := Lib.hid hr64
      have bwr := below_on b1 hbr b1.size
      clear hgr hbr hfin hnt ht hl2 hr64
      go_wp2_with fail
      refine HT.out.mono ?_
      rintro e w3 ⟨A3, c3, rfl, g3, b3⟩
      have n3 := g3.nt (lim_u32 _)
      clear g3
      go_wp2_with fail
      refine (rmake_any w3 r HR64.out).mono ?_
      rintro e w4 ⟨A4, c4, rfl, g4, b4⟩
      have n4 := g4.nt (lim_u32 _)
      have n5 := n3.below b4
      clear g4 n3
      go_wp2_with fail
      go_ret2
      have er : M % x = r := by rw [← HM.out, ← HF.out.2.2.1]
      rw [er]
      exact ⟨A3, c3, A4, c4, rfl, n5, n4, below_on (below_on bwr b3 bwr.size) b4 (Nat.le_trans bwr.size b3.size)⟩
    · have hlt : j < xs.length := by omega
      obtain ⟨adX, hadX, hbX, hcX, hvX⟩ := (hx1.below hbr).at j hlt
      subst hadX
      have hfree := hgr.free j
      have hcell : wr.cell? ⟨w1.heap.size, j, none⟩ = some (.int .u32 0) := by
        rw [hgr.cell j (by simp; omega), List.getElem_append_left (by simp)]
        simp
      clear hcD3
      have hcD3 := (hbr.cell (p := adD) hbD).trans hcD
      have hcD4 : (wr.setCell ⟨w1.heap.size, j, none⟩ (.int .u32 (((r : Int) * 4294967296 + xs[j]) / x))).cell? adD = some (.int .u32 (x : Int)) := ((hbr.setCell (p := ⟨w1.heap.size, j, none⟩) (Nat.le_refl _) _).cell (p := adD) hbD).trans hcD
      clear hbr hgr
      have hor := or_sum32 (r := r) (x := xs[j]) (by omega) hvX
      have hq0 : 0 ≤ ((r : Int) * 4294967296 + xs[j]) / x := Int.ediv_nonneg (by omega) (by omega)
      have hq : ((r : Int) * 4294967296 + xs[j]) / x < 4294967296 := by
        have := short_q hr hvX
        rw [cast_lin_div]; omega
      go_wp2_with fail
      go_roundw
      case rel => exact ⟨j, _, _, by omega, rfl, by rw [cast_lin_mod], HI.out.step hx1.u hlt, by rw [cast_lin_div]; exact HG.out.pull _, HB.out.setCell (Nat.le_refl _) _, by simpa [World.setCell] using hsz⟩
      case measure => simp [intOf]
end Go.Proofs.Ytnmomigaedfdoaa
