/- The walks of natural.short and natural.up. -/
import Derived.Test.YtnmomigaedfdoaaNatB
namespace Go.Proofs.Ytnmomigaedfdoaa
set_option maxRecDepth 100000
open Go.RowKit

theorem cast_lin (r x : Nat) : (r : Int) * 4294967296 + x = ((r * 4294967296 + x : Nat) : Int) := by omega
theorem or_sum32 {r x : Nat} (hr : r < 4294967296) (hx : x < 4294967296) : bits .or .u64 ((r : Int) * 4294967296) (x : Int) = (r : Int) * 4294967296 + x := by
  have h := u64_or_nat (r * 4294967296) x (by omega) (by omega)
  rw [nat_join32 (r * 4294967296) x (by omega) hx] at h
  have e1 : (((r * 4294967296 : Nat)) : Int) = (r : Int) * 4294967296 := by omega
  rw [e1] at h
  rw [h]
  exact (cast_lin r x).symm

/-- short division from the top down to limb j: the limbs of the quotient and the rest -/
def ShortInv (xs : List Nat) (dv j r : Nat) (O : List Nat) : Prop := r < dv ∧ O.length + j = xs.length ∧ U32 O ∧ nv (xs.drop j) = dv * nv O + r
theorem ShortInv.start (xs : List Nat) {dv : Nat} (h : 0 < dv) : ShortInv xs dv xs.length 0 [] := ⟨h, by simp, U32.nil, by simp [nv_nil]⟩
theorem short_q {r x dv : Nat} (hr : r < dv) (hx : x < 4294967296) : (r * 4294967296 + x) / dv < 4294967296 := by
  rw [Nat.div_lt_iff_lt_mul (by omega)]
  have : (r + 1) * 4294967296 ≤ dv * 4294967296 := Nat.mul_le_mul_right _ hr
  omega
theorem ShortInv.step {xs : List Nat} {dv j r : Nat} {O : List Nat} (h : ShortInv xs dv (j + 1) r O) (hu : U32 xs) (hj : j < xs.length) :
    ShortInv xs dv j ((r * 4294967296 + xs[j]) % dv) ((r * 4294967296 + xs[j]) / dv :: O) := by
  obtain ⟨h1, h2, h3, h4⟩ := h
  refine ⟨Nat.mod_lt _ (by omega), by simp; omega, U32.cons (short_q h1 (hu.at j hj)) h3, ?_⟩
  rw [List.drop_eq_getElem_cons hj, nv_cons, h4, nv_cons]
  have h5 := Nat.div_add_mod (r * 4294967296 + xs[j]) dv
  grind
theorem ShortInv.done {xs : List Nat} {dv r : Nat} {O : List Nat} (h : ShortInv xs dv 0 r O) : U32 O ∧ nv O = nv xs / dv ∧ r = nv xs % dv ∧ O.length = xs.length := by
  obtain ⟨h1, h2, h3, h4⟩ := h
  rw [List.drop_zero] at h4
  refine ⟨h3, ?_, ?_, by omega⟩
  · rw [h4, Nat.mul_add_div (by omega), Nat.div_eq_of_lt h1]; rfl
  · rw [h4, Nat.mul_add_mod, Nat.mod_eq_of_lt h1]
theorem cast_lin_mod (r x d : Nat) : ((r : Int) * 4294967296 + x) % d = (((r * 4294967296 + x) % d : Nat) : Int) := by rw [cast_lin]; exact (Int.natCast_emod _ _).symm
theorem cast_lin_div (r x d : Nat) : ((r : Int) * 4294967296 + x) / d = (((r * 4294967296 + x) / d : Nat) : Int) := by rw [cast_lin]; exact (Int.natCast_ediv _ _).symm

set_option maxHeartbeats 400000 in
theorem short_any (w : World) (A : Option Addr) (c n dv N : Nat) (xs : List Nat) (h : Nt w A c xs) (hn : n = xs.length) (hN : nv xs = N) (hd : 0 < dv) (hd2 : dv < 4294967296) (hl : xs.length ≤ 1000000) :
    Calls Try.prog 112 #[.slice A n c, .int .u32 (dv : Int)] w fun e w' => e = .returned (.tuple #[.slice (some ⟨w.heap.size, 0, none⟩) (lim (N / dv)).length xs.length, .int .u32 ((N % dv : Nat) : Int)]) ∧ Nt w' (some ⟨w.heap.size, 0, none⟩) xs.length (lim (N / dv)) ∧ Below w.heap.size w w' ∧ w.heap.size < w'.heap.size := by
  subst hn hN
  have h3 := h.cap
  have h4 := h.max
  obtain ⟨i0, hi, hz0, hz1, hz2⟩ := info_parts u32_info
  go_enter Try.func112, Try.ntmps112
  go_wp2_with (refine wpList_make_rd w (mk := lmv) 0 rfl _ _ 24 rfl 82 i0 4 Try.underlying24 hi hz0 hz1 hz2 rfl .i64 .i64 _ _ (xs.length) rfl rfl (by omega) (by omega) (by omega) (by simp only [maxLen]; omega) ?_; intro w1 hg1 hb1 hs1)
  go_loopw [7, 8] (fun rs i wr => ∃ (j r : Nat) (O : List Nat), j ≤ xs.length ∧ i = .int .i64 ((j : Int) - 1) ∧ rs = .int .u64 r ∧ ShortInv xs dv j r O ∧ Gr lmv 82 wr w.heap.size (some ⟨w.heap.size, 0, none⟩) xs.length (List.replicate j 0 ++ O) ∧ Below w.heap.size w wr ∧ w.heap.size < wr.heap.size) (fun _ i _ => (intOf i + 1).toNat)
  case atStart => exact ⟨xs.length, 0, [], Nat.le_refl _, rfl, rfl, ShortInv.start xs hd, by simpa using hg1, hb1, hs1⟩
  case round =>
    obtain ⟨j, r, O, hj, rfl, rfl, hinv, hgr, hbr, hsz⟩ := hrel
    have HI := Lib.hid hinv
    have hr : r < dv := hinv.1
    clear hinv hg1 hb1 hs1
    have HB := Lib.hid hbr
    have HG := Lib.hid hgr
    rcases j with _ | j
    · have hfin := HI.out.done
      have hnt := hgr.nt (by simpa using hfin.1)
      simp only [List.replicate_zero, List.nil_append] at hnt
      have hl2 := lim_length_le_length hnt.u
      have hl3 := hnt.lim
      have HF := Lib.hid hfin
      have hl4 : (lim (nv O)).length ≤ xs.length := by omega
      clear hbr hgr hfin hl2
      go_wp2_with fail
      refine (length_any wr _ _ _ O hnt HF.out.2.2.2.symm).mono ?_
      rintro e w' ⟨rfl, rfl⟩
      clear hnt
      go_wp2_with fail
      go_ret2
      refine ⟨?_, by rw [← HF.out.2.1]; exact hl3, HB.out, hsz⟩
      rw [← HF.out.2.1, ← HF.out.2.2.1]; rfl
    · have hlt : j < xs.length := by omega
      obtain ⟨adX, hadX, hbX, hcX, hvX⟩ := (h.below hbr).at j hlt
      subst hadX
      have hfree := hgr.free j
      have hcell : wr.cell? ⟨w.heap.size, j, none⟩ = some (.int .u32 0) := by
        rw [hgr.cell j (by simp; omega), List.getElem_append_left (by simp)]
        simp
      clear hbr hgr
      have hor := or_sum32 (r := r) (x := xs[j]) (by omega) hvX
      have hq0 : 0 ≤ ((r : Int) * 4294967296 + xs[j]) / dv := Int.ediv_nonneg (by omega) (by omega)
      have hq : ((r : Int) * 4294967296 + xs[j]) / dv < 4294967296 := by
        have := short_q hr hvX
        rw [cast_lin_div]; omega
      go_wp2_with fail
      go_roundw
      case rel => exact ⟨j, _, _, by omega, rfl, by rw [cast_lin_mod], HI.out.step h.u hlt, by rw [cast_lin_div]; exact HG.out.pull _, HB.out.setCell (Nat.le_refl _) _, by simpa [World.setCell] using hsz⟩
      case measure => simp [intOf]

/-- up after j limbs -/
def UpInv (xs : List Nat) (s j C : Nat) (O : List Nat) : Prop := C < 2 ^ s ∧ O.length = j ∧ U32 O ∧ nv O + pw j * C = nv (xs.take j) * 2 ^ s
theorem UpInv.start (xs : List Nat) (s : Nat) : UpInv xs s 0 0 [] := ⟨Nat.pow_pos (by omega), rfl, U32.nil, by simp [nv_nil]⟩
theorem UpInv.step {xs : List Nat} {s j C : Nat} {O : List Nat} (h : UpInv xs s j C O) (hu : U32 xs) (hj : j < xs.length) :
    UpInv xs s (j + 1) ((C + xs[j] * 2 ^ s) / 4294967296) (O ++ [(C + xs[j] * 2 ^ s) % 4294967296]) := by
  obtain ⟨h1, h2, h3, h4⟩ := h
  have hx := hu.at j hj
  refine ⟨?_, by simp [h2], h3.append (U32.one (by omega)), ?_⟩
  · rw [Nat.div_lt_iff_lt_mul (by omega)]
    have : (xs[j] + 1) * 2 ^ s ≤ 4294967296 * 2 ^ s := Nat.mul_le_mul_right _ hx
    rw [Nat.add_mul] at this
    omega
  · rw [nv_append, nv_take_succ xs j hj, h2, nv_cons, nv_nil, pw_succ]
    have h5 := Nat.div_add_mod (C + xs[j] * 2 ^ s) 4294967296
    grind
theorem pow_le_31 {s : Nat} (h : s < 32) : 2 ^ s ≤ 2147483648 := by
  have := Nat.pow_le_pow_right (show 0 < 2 by omega) (show s ≤ 31 by omega)
  simpa using this
theorem cast_mul_pow (x s : Nat) : (x : Int) * 2 ^ s = ((x * 2 ^ s : Nat) : Int) := by rw [Int.natCast_mul, Int.natCast_pow]; rfl
theorem up_lt {C x p : Nat} (hC : C < p) (hx : x < 4294967296) (hp : p ≤ 2147483648) : C + x * p < 9223372036854775808 := by
  have h1 : (x + 1) * p ≤ 4294967296 * p := Nat.mul_le_mul_right _ hx
  rw [Nat.add_mul] at h1
  omega
theorem or_up {C x s : Nat} (hC : C < 2 ^ s) (hx : x < 4294967296) (hs : s < 32) : bits .or .u64 (C : Int) ((x : Int) * 2 ^ s) = (C : Int) + (x : Int) * 2 ^ s := by
  have hp := pow_le_31 hs
  have hb := up_lt hC hx hp
  have h := u64_or_nat C (x * 2 ^ s) (by omega) (by omega)
  rw [Nat.or_comm, nat_join s (x * 2 ^ s) C (by simp) hC] at h
  have e1 : (((x * 2 ^ s : Nat)) : Int) = (x : Int) * 2 ^ s := (cast_mul_pow x s).symm
  rw [e1] at h
  rw [h, ← e1]
  clear h
  omega
theorem wrap_up {x s : Nat} (hx : x < 4294967296) (hs : s < 32) : IntKind.u64.wrap ((x : Int) * 2 ^ s) = (x : Int) * 2 ^ s := by
  have hp := pow_le_31 hs
  have hb := up_lt (C := 0) (Nat.pow_pos (by omega)) hx hp
  have e1 : (((x * 2 ^ s : Nat)) : Int) = (x : Int) * 2 ^ s := (cast_mul_pow x s).symm
  rw [← e1, IntKind.wrap_u64]
  omega
theorem cast_up_mod (C x s : Nat) : ((C : Int) + (x : Int) * 2 ^ s) % 4294967296 = (((C + x * 2 ^ s) % 4294967296 : Nat) : Int) := by rw [cast_mul_pow]; omega
theorem cast_up_div (C x s : Nat) : ((C : Int) + (x : Int) * 2 ^ s) / 4294967296 = (((C + x * 2 ^ s) / 4294967296 : Nat) : Int) := by rw [cast_mul_pow]; omega
theorem UpInv.done {xs : List Nat} {s C : Nat} {O : List Nat} (h : UpInv xs s xs.length C O) (hs : s < 32) : (O ++ [C]).length = xs.length + 1 ∧ nv (O ++ [C]) = nv xs * 2 ^ s ∧ U32 (O ++ [C]) := by
  obtain ⟨h1, h2, h3, h4⟩ := h
  have hp := pow_le_31 hs
  rw [List.take_length] at h4
  exact ⟨by simp [h2], by rw [nv_append, nv_cons, nv_nil, h2, ← h4]; simp, h3.append (U32.one (by omega))⟩

set_option maxHeartbeats 400000 in
theorem up_any (w : World) (A : Option Addr) (c n s : Nat) (xs : List Nat) (h : Nt w A c xs) (hn : n = xs.length) (hs : s < 32) (hl : xs.length ≤ 1000000) :
    Calls Try.prog 107 #[.slice A n c, .int .u64 (s : Int)] w fun e w' => ∃ O : List Nat, e = .returned (.slice (some ⟨w.heap.size, 0, none⟩) (xs.length + 1) (xs.length + 1)) ∧ O.length = xs.length + 1 ∧ nv O = nv xs * 2 ^ s ∧ U32 O ∧
      Gr lmv 82 w' w.heap.size (some ⟨w.heap.size, 0, none⟩) (xs.length + 1) O ∧ Below w.heap.size w w' := by
  subst hn
  have h3 := h.cap
  have h4 := h.max
  obtain ⟨i0, hi, hz0, hz1, hz2⟩ := info_parts u32_info
  go_enter Try.func107, Try.ntmps107
  go_wp2_with (refine wpList_make_rd w (mk := lmv) 0 rfl _ _ 24 rfl 82 i0 4 Try.underlying24 hi hz0 hz1 hz2 rfl .i64 .i64 _ _ (xs.length + 1) rfl rfl (by omega) (by omega) (by omega) (by simp only [maxLen]; omega) ?_; intro w1 hg1 hb1 hs1)
  go_loopw [6, 15] (fun cy i wr => ∃ (j C : Nat) (O : List Nat), j ≤ xs.length ∧ i = .int .i64 j ∧ cy = .int .u64 C ∧ UpInv xs s j C O ∧ Gr lmv 82 wr w.heap.size (some ⟨w.heap.size, 0, none⟩) (xs.length + 1) (O ++ List.replicate (xs.length + 1 - j) 0) ∧ Below w.heap.size w wr) (fun _ i _ => xs.length - (intOf i).toNat)
  case atStart => exact ⟨0, 0, [], by omega, rfl, rfl, UpInv.start _ _, by simpa using hg1, hb1⟩
  case round =>
    obtain ⟨j, C, O, hj, rfl, rfl, hinv, hgr, hbr⟩ := hrel
    have HI := Lib.hid hinv
    have HO := Lib.hid hinv.2.1
    have HC := Lib.hid hinv.1
    have hC : C < 4294967296 := by have := pow_le_31 hs; have := hinv.1; omega
    clear hinv hg1 hb1 hs1
    have hsz := hbr.size
    have hfree := hgr.free j
    have hcell : wr.cell? ⟨w.heap.size, j, none⟩ = some (.int .u32 0) := by
      rw [hgr.cell j (by have := HO.out; simp; omega), List.getElem_append_right (by have := HO.out; omega)]
      simp
    have HB := Lib.hid hbr
    have HG := Lib.hid hgr
    by_cases hlt : j < xs.length
    · obtain ⟨adX, hadX, hbX, hcX, hvX⟩ := (h.below hbr).at j hlt
      subst hadX
      clear hbr hgr
      have hwr := wrap_up hvX hs
      have hor := or_up HC.out hvX hs
      go_wp2_with fail
      go_roundw
      case rel => exact ⟨j + 1, _, _, by omega, by go_num, by rw [cast_up_div], HI.out.step h.u hlt, by rw [cast_up_mod]; exact HG.out.push HO.out (by omega) _, HB.out.setCell (Nat.le_refl _) _⟩
      case measure => simp [intOf]; omega
    · obtain rfl : j = xs.length := by omega
      have hfin := HI.out.done hs
      have hgr2 := HG.out.push HO.out (by omega) C
      rw [Nat.sub_self, List.replicate_zero, List.append_nil] at hgr2
      have HG2 := Lib.hid hgr2
      clear hgr2 hgr hbr
      go_wp2_with fail
      go_ret
      exact ⟨O ++ [C], rfl, hfin.1, hfin.2.1, hfin.2.2, HG2.out, HB.out.setCell (Nat.le_refl _) _⟩
end Go.Proofs.Ytnmomigaedfdoaa
