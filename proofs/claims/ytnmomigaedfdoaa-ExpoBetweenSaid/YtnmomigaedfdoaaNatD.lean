/- The walk of natural.Mul. -/
import Derived.Test.YtnmomigaedfdoaaNatB
namespace Go.Proofs.Ytnmomigaedfdoaa
set_option maxRecDepth 100000
open Go.RowKit

def mulS (m n : Nat) : List Nat × Int := if 512 < (lim m).length ∨ 512 < (lim n).length then ([], 2) else sizS (m * n)
theorem mulS_big1 {m n : Nat} (h : 512 < (lim m).length) : mulS m n = ([], 2) := by simp [mulS, h]
theorem mulS_big2 {m n : Nat} (h : 512 < (lim n).length) : mulS m n = ([], 2) := by simp [mulS, h]
theorem mulS_ok {m n : Nat} (h : ¬ 512 < (lim m).length) (h2 : ¬ 512 < (lim n).length) : mulS m n = sizS (m * n) := by simp [mulS, h, h2]

/-- Mul after j limbs of the first number -/
def MulInv (X Y : List Nat) (j : Nat) (O : List Nat) : Prop := O.length = X.length + Y.length ∧ U32 O ∧ nv O = nv (X.take j) * nv Y ∧ ∀ k (hk : k < O.length), j + Y.length ≤ k → O[k] = 0
theorem MulInv.start (X Y : List Nat) : MulInv X Y 0 (List.replicate (X.length + Y.length) 0) :=
  ⟨by simp, U32.replicate _, by simp [nv_replicate, nv_nil], by intro k hk _; simp⟩
/-- .. and after i limbs of the second, with the carry -/
def MulIn (X Y : List Nat) (x j i C : Nat) (O : List Nat) : Prop := O.length = X.length + Y.length ∧ U32 O ∧ C < 4294967296 ∧ nv O + pw (j + i) * C = nv (X.take j) * nv Y + pw j * (x * nv (Y.take i)) ∧ ∀ k (hk : k < O.length), j + Y.length ≤ k → O[k] = 0
theorem MulInv.in_ {X Y : List Nat} {j : Nat} {O : List Nat} (h : MulInv X Y j O) (x : Nat) : MulIn X Y x j 0 0 O := by
  obtain ⟨h1, h2, h3, h4⟩ := h
  exact ⟨h1, h2, by omega, by simp [h3, nv_nil], h4⟩
theorem mul_bound {x y z c : Nat} (hx : x < 4294967296) (hy : y < 4294967296) (hz : z < 4294967296) (hc : c < 4294967296) : x * y + z + c < 18446744073709551616 := by
  have h1 : x * y ≤ 4294967295 * 4294967295 := Nat.mul_le_mul (by omega) (by omega)
  omega
theorem MulIn.step {X Y : List Nat} {x j i C : Nat} {O : List Nat} (h : MulIn X Y x j i C O) (hY : U32 Y) (hx : x < 4294967296) (hi : i < Y.length) (_hj : j < X.length) (ho : j + i < O.length) :
    MulIn X Y x j (i + 1) ((C + (x * Y[i] + O[j + i])) / 4294967296) (O.set (j + i) ((C + (x * Y[i] + O[j + i])) % 4294967296)) := by
  obtain ⟨h1, h2, h3, h4, h5⟩ := h
  have b := mul_bound hx (hY.at i hi) (h2.at (j + i) ho) h3
  refine ⟨by simpa using h1, h2.set _ (by omega), by omega, ?_, ?_⟩
  · have hs := nv_set O (j + i) ((C + (x * Y[i] + O[j + i])) % 4294967296) ho
    have hd := Nat.div_add_mod (C + (x * Y[i] + O[j + i])) 4294967296
    rw [nv_take_succ Y i hi, show j + (i + 1) = (j + i) + 1 from by omega, pw_succ]
    have hp := pw_add j i
    grind
  · intro k hk hle
    rw [List.getElem_set_ne (by omega)]
    exact h5 k (by simpa using hk) hle
theorem MulIn.done {X Y : List Nat} {j C : Nat} {O : List Nat} (hj : j < X.length) (h : MulIn X Y X[j] j Y.length C O) : MulInv X Y (j + 1) (O.set (j + Y.length) C) := by
  obtain ⟨h1, h2, h3, h4, h5⟩ := h
  have ho : j + Y.length < O.length := by omega
  refine ⟨by simpa using h1, h2.set _ h3, ?_, ?_⟩
  · have hs := nv_set O (j + Y.length) C ho
    rw [h5 _ ho (Nat.le_refl _)] at hs
    rw [List.take_length] at h4
    rw [nv_take_succ X j hj, Nat.add_mul]
    grind
  · intro k hk hle
    rw [List.getElem_set_ne (by omega)]
    exact h5 k (by simpa using hk) (by omega)

theorem cast_mac (a x y z : Nat) : ((a : Int) + ((x : Int) * y + z)) = ((a + (x * y + z) : Nat) : Int) := by
  rw [Int.natCast_add, Int.natCast_add, Int.natCast_mul]
theorem cast_mac_mod (a x y z : Nat) : ((a : Int) + ((x : Int) * y + z)) % 4294967296 = (((a + (x * y + z)) % 4294967296 : Nat) : Int) := by rw [cast_mac, cast_mod]
theorem cast_mac_div (a x y z : Nat) : ((a : Int) + ((x : Int) * y + z)) / 4294967296 = (((a + (x * y + z)) / 4294967296 : Nat) : Int) := by rw [cast_mac, cast_div]

set_option maxHeartbeats 400000 in
theorem mul_any (w : World) (A D : Option Addr) (c d n m : Nat) (xs ys R : List Nat) (E : Int) (h : Nt w A c xs) (k : Nt w D d ys) (hn : n = xs.length) (hm : m = ys.length) (hr : mulS (nv xs) (nv ys) = (R, E)) :
    Calls Try.prog 104 #[.slice A n c, .slice D m d] w (NatRes w R E) := by
  subst hn hm
  have HR := Lib.hid hr; clear hr
  have h1 := h.lim
  have h2 := lim_length_le_length h.u
  have h3 := h.cap
  have h4 := h.max
  have k1 := k.lim
  have k2 := lim_length_le_length k.u
  have k3 := k.cap
  have k4 := k.max
  obtain ⟨i0, hi, hz0, hz1, hz2⟩ := info_parts u32_info
  by_cases hl : 512 < (lim (nv xs)).length
  · go_enter Try.func104, Try.ntmps104
    go_wp2_with fail
    refine (large_any w A c _ xs true h rfl (by simpa using hl)).mono ?_
    rintro e w' ⟨rfl, rfl⟩
    go_wp2_with fail
    go_ret2
    have e := HR.out
    rw [mulS_big1 hl] at e
    obtain ⟨rfl, rfl⟩ := Prod.mk.inj e
    exact ⟨_, _, rfl, Nt.nil _ _ _ (by omega), Below.refl _ _⟩
  · by_cases hl2 : 512 < (lim (nv ys)).length
    · go_enter Try.func104, Try.ntmps104
      go_wp2_with fail
      refine (large_any w A c _ xs false h rfl (by simpa using hl)).mono ?_
      rintro e w' ⟨rfl, rfl⟩
      go_wp2_with fail
      refine (large_any w D d _ ys true k rfl (by simpa using hl2)).mono ?_
      rintro e w' ⟨rfl, rfl⟩
      go_wp2_with fail
      go_ret2
      have e := HR.out
      rw [mulS_big2 hl2] at e
      obtain ⟨rfl, rfl⟩ := Prod.mk.inj e
      exact ⟨_, _, rfl, Nt.nil _ _ _ (by omega), Below.refl _ _⟩
    · go_enter Try.func104, Try.ntmps104
      go_wp2_with fail
      refine (large_any w A c _ xs false h rfl (by simpa using hl)).mono ?_
      rintro e w' ⟨rfl, rfl⟩
      go_wp2_with fail
      refine (large_any w D d _ ys false k rfl (by simpa using hl2)).mono ?_
      rintro e w' ⟨rfl, rfl⟩
      go_wp2_with fail
      go_quiet ((first | with_reducible exact length_q h | with_reducible exact length_q k))
      have hX := h1.below (below_drewN (Below.refl w.heap.size w) nq)
      have hY := k1.below (below_drewN (Below.refl w.heap.size w) nq)
      have hb0 := below_drewN (Below.refl w.heap.size w) nq
      revert hX hY hb0
      generalize w.drewN nq = w0
      intro hX hY hb0
      have hs0 := hb0.size
      generalize hXe : lim (nv xs) = X at *
      generalize hYe : lim (nv ys) = Y at *
      have HX := Lib.hid hXe
      have HY := Lib.hid hYe
      clear hXe hYe h k h1 k1
      go_wp2_with (refine wpList_make_rd w0 (mk := lmv) 0 rfl _ _ 24 rfl 82 i0 4 Try.underlying24 hi hz0 hz1 hz2 rfl .i64 .i64 _ _ (X.length + Y.length) rfl rfl (by omega) (by omega) (by omega) (by simp only [maxLen]; omega) ?_; intro w1 hg1 hb1 hs1)
      go_loopw [34] (fun i wr => ∃ (j : Nat) (O : List Nat), j ≤ X.length ∧ i = .int .i64 j ∧ MulInv X Y j O ∧ Gr lmv 82 wr w0.heap.size (some ⟨w0.heap.size, 0, none⟩) (X.length + Y.length) O ∧ Below w0.heap.size w0 wr) (fun i _ => X.length - (intOf i).toNat)
      case atStart => exact ⟨0, _, by omega, rfl, MulInv.start _ _, by simpa using hg1, hb1⟩
      case round =>
        obtain ⟨j, O, hj, rfl, hinv, hgr, hbr⟩ := hrel
        have HI := Lib.hid hinv
        have HO := Lib.hid hinv.1
        clear hinv hg1 hb1 hs1
        have hsz := hbr.size
        have HB := Lib.hid hbr
        have HG := Lib.hid hgr
        by_cases hlt : j < X.length
        · obtain ⟨adX, hadX, hbX, hcX, hvX⟩ := (hX.below hbr).at j hlt
          subst hadX
          clear hbr hgr
          go_wp2_with fail
          obtain ⟨w2, hw2⟩ : ∃ w2 : World, w2 = wr := ⟨_, rfl⟩
          rw [← hw2] at HB HG hsz hcX ⊢
          clear hw2
          go_loopw [9, 41] (fun cy i wr => ∃ (m C : Nat) (O : List Nat), m ≤ Y.length ∧ i = .int .i64 m ∧ cy = .int .u64 C ∧ MulIn X Y X[j] j m C O ∧ Gr lmv 82 wr w0.heap.size (some ⟨w0.heap.size, 0, none⟩) (X.length + Y.length) O ∧ Below w0.heap.size w0 wr) (fun _ i _ => Y.length - (intOf i).toNat)
          case atStart => exact ⟨0, 0, O, by omega, rfl, rfl, HI.out.in_ _, HG.out, HB.out⟩
          case round =>
            obtain ⟨m, C, O', hm, rfl, rfl, hinv, hgr, hbr⟩ := hrel
            have HI2 := Lib.hid hinv
            have HO2 := Lib.hid hinv.1
            have hC : C < 4294967296 := hinv.2.2.1
            have hOu := hinv.2.1
            clear hinv
            have hsz2 := hbr.size
            have HB2 := Lib.hid hbr
            have HG2 := Lib.hid hgr
            by_cases hlt2 : m < Y.length
            · obtain ⟨adY, hadY, hbY, hcY, hvY⟩ := (hY.below hbr).at m hlt2
              subst hadY
              have ho : j + m < O'.length := by have := HO2.out; omega
              have hcell := hgr.cell (j + m) ho
              have hfree := hgr.free (j + m)
              have hz := hOu.at (j + m) ho
              have hmul : X[j] * Y[m] + O'[j + m] + C < 18446744073709551616 := mul_bound hvX hvY hz hC
              clear hbr hgr hOu
              go_wp2_with fail
              go_roundw
              case rel => exact ⟨m + 1, _, _, by omega, by go_num, by rw [cast_mac_div], HI2.out.step hY.u hvX hlt2 hlt ho, by rw [cast_mac_mod]; exact HG2.out.store _ _, HB2.out.setCell (Nat.le_refl _) _⟩
              case measure => simp [intOf]; omega
            · obtain rfl : m = Y.length := by omega
              have ho : j + Y.length < O'.length := by have := HO2.out; omega
              have hcell := hgr.cell (j + Y.length) ho
              have hfree := hgr.free (j + Y.length)
              have hYl : Y.length ≤ 512 := by omega
              clear hbr hgr hOu
              go_wp2_with fail
              go_roundw
              case rel => exact ⟨j + 1, _, by omega, by go_num, HI2.out.done hlt, HG2.out.store _ _, HB2.out.setCell (Nat.le_refl _) _⟩
              case measure => simp [intOf]; omega
        · obtain rfl : j = X.length := by omega
          have hXn : nv X = nv xs := by rw [← HX.out, nv_lim]
          have hYn : nv Y = nv ys := by rw [← HY.out, nv_lim]
          have hfin : U32 O ∧ nv O = nv xs * nv ys := ⟨HI.out.2.1, by rw [HI.out.2.2.1, List.take_length, hXn, hYn]⟩
          rw [show X.length + Y.length = O.length from HO.out.symm] at hgr
          have hnt := hgr.nt hfin.1
          have HF := Lib.hid hfin
          rw [show O.length = X.length + Y.length from HO.out] at hnt
          clear hfin hgr hbr hXn hYn
          go_wp2_with fail
          refine (sized_any _ _ _ _ O R E hnt HO.out.symm (by rw [HF.out.2, ← HR.out, mulS_ok (by rw [HX.out]; exact hl) (by rw [HY.out]; exact hl2)])).mono ?_
          rintro e w' ⟨⟨A', c', rfl, hnt'⟩, rfl⟩
          clear hnt
          go_wp2_with fail
          go_ret2
          exact ⟨A', c', rfl, hnt', below_on hb0 HB.out hs0⟩
end Go.Proofs.Ytnmomigaedfdoaa
