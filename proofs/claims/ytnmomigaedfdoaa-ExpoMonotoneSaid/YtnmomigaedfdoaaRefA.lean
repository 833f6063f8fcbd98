/- The walks of drydockref01: Trim, Make, large, plus, times. -/
import Derived.Test.YtnmomigaedfdoaaNatD
namespace Go.Proofs.Ytnmomigaedfdoaa
set_option maxRecDepth 100000
open Go.RowKit

set_option maxHeartbeats 400000 in
theorem rtrim_any (w : World) (A : Option Addr) (c n : Nat) (xs : List Nat) (h : Nt w A c xs) (hn : n = xs.length) (hl : (lim (nv xs)).length ≤ 1000000) :
    Calls Try.prog 53 #[.slice A n c] w (NatNew w (lim (nv xs))) := by
  subst hn
  have h1 := h.cap
  have h2 := h.max
  have hk := h.lim
  have h3 := lim_length_le_length h.u
  have HT := Lib.hid (tl_length h.u)
  obtain ⟨i0, hi, hz0, hz1, hz2⟩ := info_parts u32_info
  go_enter Try.func53, Try.ntmps53
  go_wp2
  go_loop [3] (fun i => ∃ k : Nat, k ≤ xs.length ∧ i = .int .i64 k ∧ tl xs k = tl xs xs.length) (fun i => (intOf i).toNat)
  case atStart => exact ⟨xs.length, Nat.le_refl _, rfl, rfl⟩
  case round =>
    obtain ⟨k, hk2, rfl, ht⟩ := hrel
    have HT2 := Lib.hid ht; clear ht
    by_cases hstop : k = 0 ∨ ∃ j, ∃ hj : j < xs.length, k = j + 1 ∧ xs[j] ≠ 0
    · have hkl : k = (lim (nv xs)).length := by
        rw [← HT.out, ← HT2.out]
        rcases hstop with rfl | ⟨j, hj, rfl, hz⟩
        · rfl
        · rw [tl_no hj hz]
      have HK := Lib.hid hkl
      have h4 : (lim (nv xs)).length ≤ xs.length := h3
      have hkb : k ≤ 1000000 := by omega
      rcases hstop with h0 | ⟨j, hj, hj2, hz⟩
      · subst h0
        clear hkl
        go_wp2_with (at_builtin; refine wpList_append_rd w (mk := lmv) (fun _ => rfl) rfl _ _ 24 rfl 82 i0 (.int .u32 0) 4 Try.underlying24 hi hz0 hz1 hz2 rfl (xs := []) (B := w.heap.size) rfl rfl (Gr.nil _ _) A 0 c (lim (nv xs)) rfl HK.out hk.rd (by simp only [maxLen]; omega) (by omega) (Nat.le_refl _) ?_; intro A' c' w1 hg hgr hb hat)
        go_ret
        exact ⟨A', c', by rw [← HK.out]; simp, by simpa using hg, hb⟩
      · subst hj2
        obtain ⟨ad, rfl, hb, hc, hlt⟩ := h.at j hj
        have hz' : ((xs[j] : Int) == 0) = false := by simp; omega
        clear h hkl hz
        go_wp2_with (at_builtin; refine wpList_append_rd w (mk := lmv) (fun _ => rfl) rfl _ _ 24 rfl 82 i0 (.int .u32 0) 4 Try.underlying24 hi hz0 hz1 hz2 rfl (xs := []) (B := w.heap.size) rfl rfl (Gr.nil _ _) (some ad) (j + 1) c (lim (nv xs)) rfl HK.out hk.rd (by simp only [maxLen]; omega) (by omega) (Nat.le_refl _) ?_; intro A' c' w1 hg hgr hb hat)
        go_ret
        exact ⟨A', c', by rw [← HK.out]; simp, by simpa using hg, hb⟩
    · obtain ⟨j, rfl⟩ : ∃ j, k = j + 1 := ⟨k - 1, by omega⟩
      have hj : j < xs.length := by omega
      have hz : xs[j] = 0 := by
        by_cases hz : xs[j] = 0
        · exact hz
        · exact absurd (.inr ⟨j, hj, rfl, hz⟩) hstop
      obtain ⟨ad, rfl, hb, hc, hlt⟩ := h.at j hj
      clear h hstop
      have hz' : ((xs[j] : Int) == 0) = true := by simp [hz]
      have HZ := Lib.hid hz; clear hz
      go_wp2_with fail
      go_round
      case rel => exact ⟨j, by omega, by go_num, by rw [← HT2.out, tl_yes (by omega) HZ.out]⟩
      case measure => simp [intOf]

theorem rmake_any (w : World) (v : Nat) (hv : v < 18446744073709551616) :
    Calls Try.prog 65 #[.int .u64 v] w (NatNew w (lim v)) := by
  go_enter Try.func65, Try.ntmps65
  go_wp2_with fail
  simp only [cast_mod, cast_div]
  have hg := Gr.lit (mk := lmv) (e := 82) (B := w.heap.size) w [v % 4294967296, v / 4294967296] #[.int .u32 ((v % 4294967296 : Nat) : Int), .int .u32 ((v / 4294967296 : Nat) : Int)] rfl (by simp [maxLen]) (Nat.le_refl _)
  have hb := (Below.refl w.heap.size w).alloc (Nat.le_refl _) (.cells #[.int .u32 ((v % 4294967296 : Nat) : Int), .int .u32 ((v / 4294967296 : Nat) : Int)] 82)
  revert hg hb
  generalize (w.alloc (.cells #[.int .u32 ((v % 4294967296 : Nat) : Int), .int .u32 ((v / 4294967296 : Nat) : Int)] 82)) = w1
  intro hg hb
  have hn := hg.nt (u32_two v hv)
  have hl : (lim v).length ≤ 2 := by have := lim_length_le_length hn.u; rwa [lim_two v hv] at this
  have hc := rtrim_any w1 _ _ _ _ hn rfl (by rw [lim_two v hv]; omega)
  rw [lim_two v hv] at hc
  refine hc.mono ?_
  rintro e w2 ⟨A', c', rfl, hg2, hb2⟩
  clear hc hn
  go_wp2_with fail
  go_ret
  exact ⟨A', c', rfl, hg2.more fun ad e => Nat.le_trans hb.size (hg2.form.2.2 ad e).1, below_on hb hb2 hb.size⟩

theorem rlarge_any (w : World) (A : Option Addr) (c n : Nat) (xs : List Nat) (b : Bool) (h : Nt w A c xs) (hn : n = xs.length) (hl : (lim (nv xs)).length ≤ 1000000) (hb : decide (512 < (lim (nv xs)).length) = b) :
    Calls Try.prog 68 #[.slice A n c] w fun e w' => e = .returned (.bool b) ∧ Below w.heap.size w w' := by
  have HB := Lib.hid hb; clear hb
  subst hn
  go_enter Try.func68, Try.ntmps68
  go_wp2_with fail
  refine (rtrim_any w A c _ xs h rfl hl).mono ?_
  rintro e w1 ⟨A', c', rfl, hg, hb⟩
  clear hg
  go_wp2_with fail
  go_ret
  exact ⟨ret_bool (by rw [← HB.out]; apply decide_eq_decide.2; omega), hb⟩

/-- the limb at j, 0 behind the end -/
def lat (xs : List Nat) (j : Nat) : Nat := xs.getD j 0
theorem lat_lt {xs : List Nat} (h : U32 xs) (j : Nat) : lat xs j < 4294967296 := by
  unfold lat
  rcases Nat.lt_or_ge j xs.length with h1 | h1
  · have := h.at j h1; simpa [h1] using this
  · simp [List.getElem?_eq_none h1]
/-- plus after j limbs -/
def PlusInv (X Y : List Nat) (j C : Nat) (O : List Nat) : Prop := C ≤ 1 ∧ O.length = j ∧ U32 O ∧ nv O + pw j * C = nv (X.take j) + nv (Y.take j) ∧ (X.length ≤ j → Y.length ≤ j → j ≤ max X.length Y.length + 1)
theorem PlusInv.start (X Y : List Nat) : PlusInv X Y 0 0 [] := ⟨by omega, rfl, U32.nil, by simp [nv_nil], by omega⟩
theorem PlusInv.step {X Y : List Nat} {j C : Nat} {O : List Nat} (h : PlusInv X Y j C O) (hX : U32 X) (hY : U32 Y) (hj : j < X.length ∨ j < Y.length ∨ (0 < C ∧ j ≤ max X.length Y.length)) (s : Nat) (hs : s = C + lat X j + lat Y j) :
    PlusInv X Y (j + 1) (s / 4294967296) (O ++ [s % 4294967296]) := by
  obtain ⟨h1, h2, h3, h4, h5⟩ := h
  have b1 := lat_lt hX j
  have b2 := lat_lt hY j
  refine ⟨by omega, by simp [h2], h3.append (U32.one (by omega)), ?_, by omega⟩
  have e1 : nv (X.take (j + 1)) = nv (X.take j) + pw j * lat X j := nv_take_getD X j
  have e2 : nv (Y.take (j + 1)) = nv (Y.take j) + pw j * lat Y j := nv_take_getD Y j
  rw [nv_append, e1, e2, h2, nv_cons, nv_nil, pw_succ]
  have h5 : s = 4294967296 * (s / 4294967296) + s % 4294967296 := (Nat.div_add_mod _ _).symm
  have h6 : pw j * s = pw j * (4294967296 * (s / 4294967296) + s % 4294967296) := by rw [← h5]
  rw [hs] at h6 ⊢
  grind
/-- behind the last limb of both there is no carry out of the carry -/
theorem PlusInv.last {X Y : List Nat} {j C : Nat} {O : List Nat} (h : PlusInv X Y j C O) (hx : X.length ≤ j) (hy : Y.length ≤ j) (hC : 0 < C) (hX : U32 X) (hY : U32 Y) : j ≤ max X.length Y.length := by
  obtain ⟨h1, h2, h3, h4, h5⟩ := h
  have h6 := h5 hx hy
  rcases Nat.lt_or_ge (max X.length Y.length) j with h7 | h7
  · exfalso
    have hj : j = max X.length Y.length + 1 := by omega
    rw [List.take_of_length_le hx, List.take_of_length_le hy] at h4
    have l1 := Nat.lt_of_lt_of_le (nv_lt hX) (pw_le (show X.length ≤ max X.length Y.length by omega))
    have l2 := Nat.lt_of_lt_of_le (nv_lt hY) (pw_le (show Y.length ≤ max X.length Y.length by omega))
    have h8 : pw j * 1 ≤ pw j * C := Nat.mul_le_mul_left _ hC
    rw [hj, pw_succ] at h8
    rw [hj, pw_succ] at h4
    omega
  · exact h7
theorem PlusInv.done {X Y : List Nat} {j C : Nat} {O : List Nat} (h : PlusInv X Y j C O) (hx : X.length ≤ j) (hy : Y.length ≤ j) (hC : C = 0) : U32 O ∧ nv O = nv X + nv Y := by
  obtain ⟨h1, h2, h3, h4, h5⟩ := h
  rw [List.take_of_length_le hx, List.take_of_length_le hy, hC] at h4
  exact ⟨h3, by omega⟩

theorem cast_mac2 (a x y z : Nat) : ((x : Int) * y + z + a) = ((a + (x * y + z) : Nat) : Int) := by
  rw [Int.natCast_add, Int.natCast_add, Int.natCast_mul]; omega
theorem cast_mac2_mod (a x y z : Nat) : ((x : Int) * y + z + a) % 4294967296 = (((a + (x * y + z)) % 4294967296 : Nat) : Int) := by rw [cast_mac2, cast_mod]
theorem cast_mac2_div (a x y z : Nat) : ((x : Int) * y + z + a) / 4294967296 = (((a + (x * y + z)) / 4294967296 : Nat) : Int) := by rw [cast_mac2, cast_div]
theorem Gr.drewN {α : Type} {mk : α → Value} {e : TypeId} {w : World} {B c : Nat} {A : Option Addr} {xs : List α} (h : Gr mk e w B A c xs) (n : Nat) : Gr mk e (w.drewN n) B A c xs := h

set_option maxHeartbeats 800000 in
theorem times_any (w : World) (A D : Option Addr) (c d n m : Nat) (xs ys : List Nat) (h : Nt w A c xs) (k : Nt w D d ys) (hn : n = xs.length) (hm : m = ys.length) (hl : xs.length ≤ 10000) (hl2 : ys.length ≤ 10000) :
    Calls Try.prog 94 #[.slice A n c, .slice D m d] w (NatNew w (lim (nv xs * nv ys))) := by
  subst hn hm
  obtain ⟨i0, hi, hz0, hz1, hz2⟩ := info_parts u32_info
  go_enter Try.func94, Try.ntmps94
  go_wp2_with (refine wpList_make_rd w (mk := lmv) 0 rfl _ _ 24 rfl 82 i0 4 Try.underlying24 hi hz0 hz1 hz2 rfl .i64 .i64 _ _ (xs.length + ys.length) rfl rfl (by omega) (by omega) (by omega) (by simp only [maxLen]; omega) ?_; intro w1 hg1 hb1 hs1)
  go_loopw [6] (fun i wr => ∃ (j : Nat) (O : List Nat), j ≤ xs.length ∧ i = .int .i64 j ∧ MulInv xs ys j O ∧ Gr lmv 82 wr w.heap.size (some ⟨w.heap.size, 0, none⟩) (xs.length + ys.length) O ∧ Below w.heap.size w wr) (fun i _ => xs.length - (intOf i).toNat)
  case atStart => exact ⟨0, _, by omega, rfl, MulInv.start _ _, by simpa using hg1, hb1⟩
  case round =>
    obtain ⟨j, O, hj, rfl, hinv, hgr, hbr⟩ := hrel
    have HI := Lib.hid hinv
    have HO := Lib.hid hinv.1
    clear hinv hg1 hb1 hs1
    have hsz := hbr.size
    have HB := Lib.hid hbr
    have HG := Lib.hid hgr
    by_cases hlt : j < xs.length
    · clear hbr hgr
      go_wp2_with fail
      go_loopw [7, 8] (fun cy i wr => ∃ (m C : Nat) (O : List Nat), m ≤ ys.length ∧ i = .int .i64 m ∧ cy = .int .u64 C ∧ MulIn xs ys xs[j] j m C O ∧ Gr lmv 82 wr w.heap.size (some ⟨w.heap.size, 0, none⟩) (xs.length + ys.length) O ∧ Below w.heap.size w wr) (fun _ i _ => ys.length - (intOf i).toNat)
      case atStart => exact ⟨0, 0, O, by omega, rfl, rfl, HI.out.in_ _, HG.out, HB.out⟩
      case round =>
        obtain ⟨m, C, O', hm, rfl, rfl, hinv, hgr, hbr⟩ := hrel
        have HI2 := Lib.hid hinv
        have HO2 := Lib.hid hinv.1
        have hC : C < 4294967296 := hinv.2.2.1
        have hOu := hinv.2.1
        clear hinv
        have hsz2 := hbr.size
        have HB2 := Lib.hid hbr
        have HG2 := Lib.hid hgr
        by_cases hlt2 : m < ys.length
        · obtain ⟨adX, hadX, hbX, hcX, hvX⟩ := (h.below hbr).at j hlt
          subst hadX
          obtain ⟨adY, hadY, hbY, hcY, hvY⟩ := (k.below hbr).at m hlt2
          subst hadY
          have ho : j + m < O'.length := by have := HO2.out; omega
          have hcell := hgr.cell (j + m) ho
          have hfree := hgr.free (j + m)
          have hz := hOu.at (j + m) ho
          have hmul : xs[j] * ys[m] + O'[j + m] + C < 18446744073709551616 := mul_bound hvX hvY hz hC
          have hm1 : (0 : Int) ≤ (j : Int) + m := by omega
          have hm2 : (j : Int) + m < (xs.length : Int) + ys.length := by omega
          have hm3 : IntKind.i64.wrap ((j : Int) + m) = (j : Int) + m := IntWalk.i64_in _ (by omega)
          have hm4 : ((j : Int) + m).toNat = j + m := by omega
          clear hbr hgr hOu
          go_wp2_with fail
          go_quiet (fail)
          clear hm3 hm4
          go_wp2_with fail
          go_roundw
          case rel => exact ⟨m + 1, _, _, by omega, by go_num, by rw [cast_mac2_div], HI2.out.step k.u hvX hlt2 hlt ho, by rw [cast_mac2_mod]; exact (HG2.out.drewN nq).store _ _, (below_drewN HB2.out nq).setCell (Nat.le_refl _) _⟩
          case measure => simp [intOf]; omega
        · obtain rfl : m = ys.length := by omega
          have ho : j + ys.length < O'.length := by have := HO2.out; omega
          have hcell := hgr.cell (j + ys.length) ho
          have hfree := hgr.free (j + ys.length)
          clear hbr hgr hOu
          go_wp2_with fail
          go_roundw
          case rel => exact ⟨j + 1, _, by omega, by go_num, HI2.out.done hlt, HG2.out.store _ _, HB2.out.setCell (Nat.le_refl _) _⟩
          case measure => simp [intOf]; omega
    · obtain rfl : j = xs.length := by omega
      have hfin : U32 O ∧ nv O = nv xs * nv ys := ⟨HI.out.2.1, by rw [HI.out.2.2.1, List.take_length]⟩
      have hol := HO.out
      have hnt := hgr.nt hfin.1
      have hlen := lim_length_le_length hfin.1
      have hcall := rtrim_any wr _ _ _ O hnt rfl (by omega)
      rw [hfin.2, HO.out] at hcall
      have HF := Lib.hid hcall
      clear hcall hlen hfin hnt hol hgr
      go_wp2_with fail
      refine HF.out.mono ?_
      rintro e w2 ⟨A', c', rfl, hg2, hb2⟩
      go_wp2_with fail
      go_ret
      exact ⟨A', c', rfl, hg2.more fun ad e => Nat.le_trans hbr.size (hg2.form.2.2 ad e).1, below_on hbr hb2 hbr.size⟩
end Go.Proofs.Ytnmomigaedfdoaa
