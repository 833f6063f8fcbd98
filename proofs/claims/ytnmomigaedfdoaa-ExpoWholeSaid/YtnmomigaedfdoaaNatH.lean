/- The walks of natural.short and natural.up. The walk of natural.Sub. The walks of natural.Bits and of natural.subtract and natural.restore. The walk of natural.Mul. The walks of natural.subtract and natural.restore. -/
import Derived.Test.YtnmomigaedfdoaaNatB
namespace Go.Proofs.Ytnmomigaedfdoaa
set_option maxRecDepth 100000
open Go.RowKit

theorem cast_lin (r x : Nat) : (r : Int) * 4294967296 + x = ((r * 4294967296 + x : Nat) : Int) := by omega
theorem or_sum32 {r x : Nat} (hr : r < 4294967296) (hx : x < 4294967296) : bits .or .u64 ((r : Int) * 4294967296) (x : Int) = (r : Int) * 4294967296 + x := by
  have h := u64_or_nat (r * 4294967296) x (by omega) (by omega)
  rw [nat_join32 (r * 4294967296) x (by omega) hx] at h
  have e1 : (((r * 4294967296 : Nat)) : Int) = (r : Int) * 4294967296 := by omega
  rw [e1] at h
  rw [h]
  exact (cast_lin r x).symm

/-- short division from the top down to limb j: the limbs of the quotient and the rest -/
def ShortInv (xs : List Nat) (dv j r : Nat) (O : List Nat) : Prop := r < dv ∧ O.length + j = xs.length ∧ U32 O ∧ nv (xs.drop j) = dv * nv O + r
theorem ShortInv.start (xs : List Nat) {dv : Nat} (h : 0 < dv) : ShortInv xs dv xs.length 0 [] := ⟨h, by simp, U32.nil, by simp [nv_nil]⟩
theorem short_q {r x dv : Nat} (hr : r < dv) (hx : x < 4294967296) : (r * 4294967296 + x) / dv < 4294967296 := by
  rw [Nat.div_lt_iff_lt_mul (by omega)]
  have : (r + 1) * 4294967296 ≤ dv * 4294967296 := Nat.mul_le_mul_right _ hr
  omega
theorem ShortInv.step {xs : List Nat} {dv j r : Nat} {O : List Nat} (h : ShortInv xs dv (j + 1) r O) (hu : U32 xs) (hj : j < xs.length) :
    ShortInv xs dv j ((r * 4294967296 + xs[j]) % dv) ((r * 4294967296 + xs[j]) / dv :: O) := by
  obtain ⟨h1, h2, h3, h4⟩ := h
  refine ⟨Nat.mod_lt _ (by omega), by simp; omega, U32.cons (short_q h1 (hu.at j hj)) h3, ?_⟩
  rw [List.drop_eq_getElem_cons hj, nv_cons, h4, nv_cons]
  have h5 := Nat.div_add_mod (r * 4294967296 + xs[j]) dv
  grind
theorem ShortInv.done {xs : List Nat} {dv r : Nat} {O : List Nat} (h : ShortInv xs dv 0 r O) : U32 O ∧ nv O = nv xs / dv ∧ r = nv xs % dv ∧ O.length = xs.length := by
  obtain ⟨h1, h2, h3, h4⟩ := h
  rw [List.drop_zero] at h4
  refine ⟨h3, ?_, ?_, by omega⟩
  · rw [h4, Nat.mul_add_div (by omega), Nat.div_eq_of_lt h1]; rfl
  · rw [h4, Nat.mul_add_mod, Nat.mod_eq_of_lt h1]
theorem cast_lin_mod (r x d : Nat) : ((r : Int) * 4294967296 + x) % d = (((r * 4294967296 + x) % d : Nat) : Int) := by rw [cast_lin]; exact (Int.natCast_emod _ _).symm
theorem cast_lin_div (r x d : Nat) : ((r : Int) * 4294967296 + x) / d = (((r * 4294967296 + x) / d : Nat) : Int) := by rw [cast_lin]; exact (Int.natCast_ediv _ _).symm

set_option maxHeartbeats 400000 in
theorem short_any (w : World) (A : Option Addr) (c n dv N : Nat) (xs : List Nat) (h : Nt w A c xs) (hn : n = xs.length) (hN : nv xs = N) (hd : 0 < dv) (hd2 : dv < 4294967296) (hl : xs.length ≤ 1000000) :
    Calls Try.prog 112 #[.slice A n c, .int .u32 (dv : Int)] w fun e w' => e = .returned (.tuple #[.slice (some ⟨w.heap.size, 0, none⟩) (lim (N / dv)).length xs.length, .int .u32 ((N % dv : Nat) : Int)]) ∧ Nt w' (some ⟨w.heap.size, 0, none⟩) xs.length (lim (N / dv)) ∧ Below w.heap.size w w' ∧ w.heap.size < w'.heap.size := by
  subst hn hN
  have h3 := h.cap
  have h4 := h.max
  obtain ⟨i0, hi, hz0, hz1, hz2⟩ := info_parts u32_info
  go_enter Try.func112, Try.ntmps112
  go_wp2_with (refine wpList_make_rd w (mk := lmv) 0 rfl _ _ 24 rfl 82 i0 4 Try.underlying24 hi hz0 hz1 hz2 rfl .i64 .i64 _ _ (xs.length) rfl rfl (by omega) (by omega) (by omega) (by simp only [maxLen]; omega) ?_; intro w1 hg1 hb1 hs1)
  go_loopw [7, 8] (fun rs i wr => ∃ (j r : Nat) (O : List Nat), j ≤ xs.length ∧ i = .int .i64 ((j : Int) - 1) ∧ rs = .int .u64 r ∧ ShortInv xs dv j r O ∧ Gr lmv 82 wr w.heap.size (some ⟨w.heap.size, 0, none⟩) xs.length (List.replicate j 0 ++ O) ∧ Below w.heap.size w wr ∧ w.heap.size < wr.heap.size) (fun _ i _ => (intOf i + 1).toNat)
  case atStart => exact ⟨xs.length, 0, [], Nat.le_refl _, rfl, rfl, ShortInv.start xs hd, by simpa using hg1, hb1, hs1⟩
  case round =>
    obtain ⟨j, r, O, hj, rfl, rfl, hinv, hgr, hbr, hsz⟩ := hrel
    have HI := Lib.hid hinv
    have hr : r < dv := hinv.1
    clear hinv hg1 hb1 hs1
    have HB := Lib.hid hbr
    have HG := Lib.hid hgr
    rcases j with _ | j
    · have hfin := HI.out.done
      have hnt := hgr.nt (by simpa using hfin.1)
      simp only [List.replicate_zero, List.nil_append] at hnt
      have hl2 := lim_length_le_length hnt.u
      have hl3 := hnt.lim
      have HF := Lib.hid hfin
      have hl4 : (lim (nv O)).length ≤ xs.length := by omega
      clear hbr hgr hfin hl2
      go_wp2_with fail
      refine (length_any wr _ _ _ O hnt HF.out.2.2.2.symm).mono ?_
      rintro e w' ⟨rfl, rfl⟩
      clear hnt
      go_wp2_with fail
      go_ret2
      refine ⟨?_, by rw [← HF.out.2.1]; exact hl3, HB.out, hsz⟩
      rw [← HF.out.2.1, ← HF.out.2.2.1]; rfl
    · have hlt : j < xs.length := by omega
      obtain ⟨adX, hadX, hbX, hcX, hvX⟩ := (h.below hbr).at j hlt
      subst hadX
      have hfree := hgr.free j
      have hcell : wr.cell? ⟨w.heap.size, j, none⟩ = some (.int .u32 0) := by
        rw [hgr.cell j (by simp; omega), List.getElem_append_left (by simp)]
        simp
      clear hbr hgr
      have hor := or_sum32 (r := r) (x := xs[j]) (by omega) hvX
      have hq0 : 0 ≤ ((r : Int) * 4294967296 + xs[j]) / dv := Int.ediv_nonneg (by omega) (by omega)
      have hq : ((r : Int) * 4294967296 + xs[j]) / dv < 4294967296 := by
        have := short_q hr hvX
        rw [cast_lin_div]; omega
      go_wp2_with fail
      go_roundw
      case rel => exact ⟨j, _, _, by omega, rfl, by rw [cast_lin_mod], HI.out.step h.u hlt, by rw [cast_lin_div]; exact HG.out.pull _, HB.out.setCell (Nat.le_refl _) _, by simpa [World.setCell] using hsz⟩
      case measure => simp [intOf]

/-- up after j limbs -/
def UpInv (xs : List Nat) (s j C : Nat) (O : List Nat) : Prop := C < 2 ^ s ∧ O.length = j ∧ U32 O ∧ nv O + pw j * C = nv (xs.take j) * 2 ^ s
theorem UpInv.start (xs : List Nat) (s : Nat) : UpInv xs s 0 0 [] := ⟨Nat.pow_pos (by omega), rfl, U32.nil, by simp [nv_nil]⟩
theorem UpInv.step {xs : List Nat} {s j C : Nat} {O : List Nat} (h : UpInv xs s j C O) (hu : U32 xs) (hj : j < xs.length) :
    UpInv xs s (j + 1) ((C + xs[j] * 2 ^ s) / 4294967296) (O ++ [(C + xs[j] * 2 ^ s) % 4294967296]) := by
  obtain ⟨h1, h2, h3, h4⟩ := h
  have hx := hu.at j hj
  refine ⟨?_, by simp [h2], h3.append (U32.one (by omega)), ?_⟩
  · rw [Nat.div_lt_iff_lt_mul (by omega)]
    have : (xs[j] + 1) * 2 ^ s ≤ 4294967296 * 2 ^ s := Nat.mul_le_mul_right _ hx
    rw [Nat.add_mul] at this
    omega
  · rw [nv_append, nv_take_succ xs j hj, h2, nv_cons, nv_nil, pw_succ]
    have h5 := Nat.div_add_mod (C + xs[j] * 2 ^ s) 4294967296
    grind
theorem pow_le_31 {s : Nat} (h : s < 32) : 2 ^ s ≤ 2147483648 := by
  have := Nat.pow_le_pow_right (show 0 < 2 by omega) (show s ≤ 31 by omega)
  simpa using this
theorem cast_mul_pow (x s : Nat) : (x : Int) * 2 ^ s = ((x * 2 ^ s : Nat) : Int) := by rw [Int.natCast_mul, Int.natCast_pow]; rfl
theorem up_lt {C x p : Nat} (hC : C < p) (hx : x < 4294967296) (hp : p ≤ 2147483648) : C + x * p < 9223372036854775808 := by
  have h1 : (x + 1) * p ≤ 4294967296 * p := Nat.mul_le_mul_right _ hx
  rw [Nat.add_mul] at h1
  omega
theorem or_up {C x s : Nat} (hC : C < 2 ^ s) (hx : x < 4294967296) (hs : s < 32) : bits .or .u64 (C : Int) ((x : Int) * 2 ^ s) = (C : Int) + (x : Int) * 2 ^ s := by
  have hp := pow_le_31 hs
  have hb := up_lt hC hx hp
  have h := u64_or_nat C (x * 2 ^ s) (by omega) (by omega)
  rw [Nat.or_comm, nat_join s (x * 2 ^ s) C (by simp) hC] at h
  have e1 : (((x * 2 ^ s : Nat)) : Int) = (x : Int) * 2 ^ s := (cast_mul_pow x s).symm
  rw [e1] at h
  rw [h, ← e1]
  clear h
  omega
theorem wrap_up {x s : Nat} (hx : x < 4294967296) (hs : s < 32) : IntKind.u64.wrap ((x : Int) * 2 ^ s) = (x : Int) * 2 ^ s := by
  have hp := pow_le_31 hs
  have hb := up_lt (C := 0) (Nat.pow_pos (by omega)) hx hp
  have e1 : (((x * 2 ^ s : Nat)) : Int) = (x : Int) * 2 ^ s := (cast_mul_pow x s).symm
  rw [← e1, IntKind.wrap_u64]
  omega
theorem cast_up_mod (C x s : Nat) : ((C : Int) + (x : Int) * 2 ^ s) % 4294967296 = (((C + x * 2 ^ s) % 4294967296 : Nat) : Int) := by rw [cast_mul_pow]; omega
theorem cast_up_div (C x s : Nat) : ((C : Int) + (x : Int) * 2 ^ s) / 4294967296 = (((C + x * 2 ^ s) / 4294967296 : Nat) : Int) := by rw [cast_mul_pow]; omega
theorem UpInv.done {xs : List Nat} {s C : Nat} {O : List Nat} (h : UpInv xs s xs.length C O) (hs : s < 32) : (O ++ [C]).length = xs.length + 1 ∧ nv (O ++ [C]) = nv xs * 2 ^ s ∧ U32 (O ++ [C]) := by
  obtain ⟨h1, h2, h3, h4⟩ := h
  have hp := pow_le_31 hs
  rw [List.take_length] at h4
  exact ⟨by simp [h2], by rw [nv_append, nv_cons, nv_nil, h2, ← h4]; simp, h3.append (U32.one (by omega))⟩

set_option maxHeartbeats 400000 in
theorem up_any (w : World) (A : Option Addr) (c n s : Nat) (xs : List Nat) (h : Nt w A c xs) (hn : n = xs.length) (hs : s < 32) (hl : xs.length ≤ 1000000) :
    Calls Try.prog 107 #[.slice A n c, .int .u64 (s : Int)] w fun e w' => ∃ O : List Nat, e = .returned (.slice (some ⟨w.heap.size, 0, none⟩) (xs.length + 1) (xs.length + 1)) ∧ O.length = xs.length + 1 ∧ nv O = nv xs * 2 ^ s ∧ U32 O ∧
      Gr lmv 82 w' w.heap.size (some ⟨w.heap.size, 0, none⟩) (xs.length + 1) O ∧ Below w.heap.size w w' := by
  subst hn
  have h3 := h.cap
  have h4 := h.max
  obtain ⟨i0, hi, hz0, hz1, hz2⟩ := info_parts u32_info
  go_enter Try.func107, Try.ntmps107
  go_wp2_with (refine wpList_make_rd w (mk := lmv) 0 rfl _ _ 24 rfl 82 i0 4 Try.underlying24 hi hz0 hz1 hz2 rfl .i64 .i64 _ _ (xs.length + 1) rfl rfl (by omega) (by omega) (by omega) (by simp only [maxLen]; omega) ?_; intro w1 hg1 hb1 hs1)
  go_loopw [6, 15] (fun cy i wr => ∃ (j C : Nat) (O : List Nat), j ≤ xs.length ∧ i = .int .i64 j ∧ cy = .int .u64 C ∧ UpInv xs s j C O ∧ Gr lmv 82 wr w.heap.size (some ⟨w.heap.size, 0, none⟩) (xs.length + 1) (O ++ List.replicate (xs.length + 1 - j) 0) ∧ Below w.heap.size w wr) (fun _ i _ => xs.length - (intOf i).toNat)
  case atStart => exact ⟨0, 0, [], by omega, rfl, rfl, UpInv.start _ _, by simpa using hg1, hb1⟩
  case round =>
    obtain ⟨j, C, O, hj, rfl, rfl, hinv, hgr, hbr⟩ := hrel
    have HI := Lib.hid hinv
    have HO := Lib.hid hinv.2.1
    have HC := Lib.hid hinv.1
    have hC : C < 4294967296 := by have := pow_le_31 hs; have := hinv.1; omega
    clear hinv hg1 hb1 hs1
    have hsz := hbr.size
    have hfree := hgr.free j
    have hcell : wr.cell? ⟨w.heap.size, j, none⟩ = some (.int .u32 0) := by
      rw [hgr.cell j (by have := HO.out; simp; omega), List.getElem_append_right (by have := HO.out; omega)]
      simp
    have HB := Lib.hid hbr
    have HG := Lib.hid hgr
    by_cases hlt : j < xs.length
    · obtain ⟨adX, hadX, hbX, hcX, hvX⟩ := (h.below hbr).at j hlt
      subst hadX
      clear hbr hgr
      have hwr := wrap_up hvX hs
      have hor := or_up HC.out hvX hs
      go_wp2_with fail
      go_roundw
      case rel => exact ⟨j + 1, _, _, by omega, by go_num, by rw [cast_up_div], HI.out.step h.u hlt, by rw [cast_up_mod]; exact HG.out.push HO.out (by omega) _, HB.out.setCell (Nat.le_refl _) _⟩
      case measure => simp [intOf]; omega
    · obtain rfl : j = xs.length := by omega
      have hfin := HI.out.done hs
      have hgr2 := HG.out.push HO.out (by omega) C
      rw [Nat.sub_self, List.replicate_zero, List.append_nil] at hgr2
      have HG2 := Lib.hid hgr2
      clear hgr2 hgr hbr
      go_wp2_with fail
      go_ret
      exact ⟨O ++ [C], rfl, hfin.1, hfin.2.1, hfin.2.2, HG2.out, HB.out.setCell (Nat.le_refl _) _⟩
end Go.Proofs.Ytnmomigaedfdoaa
namespace Go.Proofs.Ytnmomigaedfdoaa
set_option maxRecDepth 100000
open Go.RowKit

def subS (m n : Nat) : List Nat × Int := if 512 < (lim m).length ∨ 512 < (lim n).length then ([], 2) else if m < n then ([], 4) else (lim (m - n), 0)
theorem subS_big1 {m n : Nat} (h : 512 < (lim m).length) : subS m n = ([], 2) := by simp [subS, h]
theorem subS_big2 {m n : Nat} (h : 512 < (lim n).length) : subS m n = ([], 2) := by simp [subS, h]
theorem subS_neg {m n : Nat} (h : ¬ 512 < (lim m).length) (h2 : ¬ 512 < (lim n).length) (h3 : m < n) : subS m n = ([], 4) := by simp [subS, h, h2, h3]
theorem subS_ok {m n : Nat} (h : ¬ 512 < (lim m).length) (h2 : ¬ 512 < (lim n).length) (h3 : n ≤ m) : subS m n = sizS (m - n) := by
  have h4 : ¬ m < n := by omega
  have h5 := lim_length_mono (show m - n ≤ m by omega)
  rw [subS, if_neg (by simp [h, h2]), if_neg h4, sizS, if_neg (by omega)]
/-- Sub after j limbs: the limbs so far and the borrow -/
def SubInv (X Y : List Nat) (j C : Nat) (O : List Nat) : Prop := C ≤ 1 ∧ O.length = j ∧ U32 O ∧ nv O + nv (Y.take j) = nv (X.take j) + pw j * C
theorem SubInv.start (X Y : List Nat) : SubInv X Y 0 0 [] := ⟨by omega, rfl, U32.nil, by simp [nv_nil]⟩
theorem SubInv.step {X Y : List Nat} {j C : Nat} {O : List Nat} (h : SubInv X Y j C O) (hj : j < X.length) (x C' : Nat) (hx : x < 4294967296) (hC : C' ≤ 1)
    (hs : x + C + Y.getD j 0 = X[j] + 4294967296 * C') : SubInv X Y (j + 1) C' (O ++ [x]) := by
  obtain ⟨h1, h2, h3, h4⟩ := h
  refine ⟨hC, by simp [h2], h3.append (U32.one hx), ?_⟩
  rw [nv_append, nv_take_succ X j hj, nv_take_getD, h2, nv_cons, nv_nil, pw_succ]
  have h6 : pw j * (x + C + Y.getD j 0) = pw j * (X[j] + 4294967296 * C') := by rw [hs]
  grind
theorem SubInv.done {X Y : List Nat} {C : Nat} {O : List Nat} (h : SubInv X Y X.length C O) (hl : Y.length ≤ X.length) (hle : nv Y ≤ nv X) : U32 O ∧ nv O = nv X - nv Y ∧ O.length = X.length := by
  obtain ⟨h1, h2, h3, h4⟩ := h
  rw [List.take_of_length_le (Nat.le_refl _), List.take_of_length_le hl] at h4
  have h5 := nv_lt h3
  rw [h2] at h5
  refine ⟨h3, ?_, h2⟩
  rcases Nat.eq_zero_or_pos C with h0 | h0
  · subst h0; omega
  · obtain rfl : C = 1 := by omega
    omega

/-- the borrow and the limb of a step -/
def bor (x y c : Nat) : Nat := if x < y + c then 1 else 0
def dig (x y c : Nat) : Nat := x + 4294967296 * bor x y c - y - c
theorem bor_dig {x y c : Nat} (hx : x < 4294967296) (hy : y < 4294967296) (hc : c ≤ 1) : dig x y c < 4294967296 ∧ bor x y c ≤ 1 ∧ dig x y c + c + y = x + 4294967296 * bor x y c := by
  unfold dig bor; split <;> omega
end Go.Proofs.Ytnmomigaedfdoaa
namespace Go.Proofs.Ytnmomigaedfdoaa
set_option maxRecDepth 100000
open Go.RowKit

/-- the number of binary digits -/
def bits2 (n : Nat) : Nat := if n = 0 then 0 else Nat.log2 n + 1
theorem bits2_zero : bits2 0 = 0 := rfl
theorem bits2_half {v : Nat} (h : v ≠ 0) : bits2 v = bits2 (v / 2) + 1 := by
  unfold bits2
  rw [if_neg h]
  by_cases h2 : v / 2 = 0
  · rw [if_pos h2]
    have : v = 1 := by omega
    subst this; rfl
  · rw [if_neg h2]
    rw [Nat.log2_def v, if_pos (by omega)]
theorem bits2_le (n k : Nat) : bits2 n ≤ k ↔ n < 2 ^ k := by
  unfold bits2
  by_cases h : n = 0
  · subst h; simp [Nat.pow_pos]
  · rw [if_neg h]
    have := Nat.log2_lt (k := k) h
    omega
theorem bits2_mul (n s : Nat) (h : n ≠ 0) : bits2 (n * 2 ^ s) = bits2 n + s := by
  have hne : n * 2 ^ s ≠ 0 := Nat.mul_ne_zero h (Nat.pos_iff_ne_zero.1 (Nat.pow_pos (by omega)))
  apply Nat.le_antisymm
  · rw [bits2_le, Nat.pow_add]
    exact Nat.mul_lt_mul_of_pos_right ((bits2_le n _).1 (Nat.le_refl _)) (Nat.pow_pos (by omega))
  · rcases Nat.lt_or_ge (bits2 (n * 2 ^ s)) (bits2 n + s) with h1 | h1
    · exfalso
      have hb : 0 < bits2 n := by unfold bits2; rw [if_neg h]; omega
      have h2 : bits2 (n * 2 ^ s) ≤ (bits2 n - 1) + s := by omega
      rw [bits2_le, Nat.pow_add] at h2
      have h3 := Nat.lt_of_mul_lt_mul_right h2
      have h4 := (bits2_le n (bits2 n - 1)).2 h3
      omega
    · exact h1
/-- the digits of a number are those of its greatest limb and 32 for each other limb -/
theorem bits2_top {xs : List Nat} (hu : U32 xs) (k : Nat) (hk : k + 1 = xs.length) (h : xs[k] ≠ 0) : bits2 (nv xs) = 32 * k + bits2 xs[k] := by
  have h1 := nv_at xs k (by omega)
  rw [List.drop_eq_nil_of_le (by omega), nv_nil, Nat.mul_zero, Nat.add_zero] at h1
  have h2 := nv_lt (hu.take k)
  rw [List.length_take, Nat.min_eq_left (by omega)] at h2
  have hpw : pw k = 2 ^ (32 * k) := by unfold pw; rw [Nat.pow_mul]
  apply Nat.le_antisymm
  · rw [bits2_le, h1, Nat.pow_add, ← hpw]
    have h3 := (bits2_le xs[k] _).1 (Nat.le_refl _)
    have h4 : pw k * (xs[k] + 1) ≤ pw k * 2 ^ bits2 xs[k] := Nat.mul_le_mul_left _ h3
    rw [Nat.mul_add] at h4
    omega
  · rcases Nat.lt_or_ge (bits2 (nv xs)) (32 * k + bits2 xs[k]) with h5 | h5
    · exfalso
      have hb : 0 < bits2 xs[k] := by unfold bits2; rw [if_neg h]; omega
      have h6 : bits2 (nv xs) ≤ 32 * k + (bits2 xs[k] - 1) := by omega
      rw [bits2_le, Nat.pow_add, ← hpw] at h6
      have h7 : pw k * xs[k] < pw k * 2 ^ (bits2 xs[k] - 1) := by omega
      have h8 := Nat.lt_of_mul_lt_mul_left h7
      have h9 := (bits2_le xs[k] (bits2 xs[k] - 1)).2 h8
      omega
    · exact h5

theorem pw_two (k : Nat) : pw k = 2 ^ (32 * k) := by unfold pw; rw [Nat.pow_mul]
set_option maxHeartbeats 400000 in
theorem bits_any (w : World) (A : Option Addr) (c n : Nat) (xs : List Nat) (h : Nt w A c xs) (hn : n = xs.length) (hl : xs.length ≤ 1000000) :
    Calls Try.prog 63 #[.slice A n c] w fun e w' => e = .returned (.int .i64 (bits2 (nv xs))) ∧ w = w' := by
  subst hn
  have hk := h.lim
  have h3 := lim_length_le_length h.u
  by_cases h0 : nv xs = 0
  · have hz : (lim (nv xs)).length = 0 := by rw [h0, lim_zero]; rfl
    have H0 := Lib.hid h0
    have hz1 : (((lim (nv xs)).length : Int) == 0) = true := by simp [hz]
    clear hz h0
    go_enter Try.func63, Try.ntmps63
    go_wp2_with fail
    refine (length_any w A c _ xs h rfl).mono ?_
    rintro e w' ⟨rfl, rfl⟩
    go_wp2_with fail
    go_ret
    exact ⟨ret_int (by rw [H0.out]; rfl), rfl⟩
  · have hp := lim_length_pos.2 h0
    obtain ⟨k, hk1⟩ : ∃ k, k + 1 = (lim (nv xs)).length := ⟨(lim (nv xs)).length - 1, by omega⟩
    have htop := bits2_top (lim_u32 (nv xs)) k hk1 (lim_last _ k hk1)
    rw [nv_lim] at htop
    have hz1 : (((lim (nv xs)).length : Int) == 0) = false := beq_eq_false_iff_ne.2 (by omega)
    have hkx : k < xs.length := by omega
    have hlx := lim_at h.u k (by omega)
    rw [hlx] at htop
    have HT : Hid (bits2 (nv xs) = 32 * k + bits2 (xs[k]'hkx)) := htop
    have hcall := length_any w A c _ xs h rfl
    rw [← hk1] at hcall
    clear hz1
    have hz1 : (((k : Int) + 1) == 0) = false := beq_eq_false_iff_ne.2 (by omega)
    have HF := Lib.hid hcall
    obtain ⟨ad, rfl, hb, hc, hlt⟩ := h.at k hkx
    have hk2 : k ≤ 1000000 := by omega
    clear hlx htop hcall h hk h0 hp h3 hk1
    go_enter Try.func63, Try.ntmps63
    go_wp2_with fail
    refine HF.out.mono ?_
    rintro e w' ⟨rfl, rfl⟩
    go_wp2_with fail
    go_loop [4, 5] (fun kk v => ∃ (m V : Nat), kk = .int .i64 m ∧ v = .int .u32 V ∧ V < 4294967296 ∧ m + bits2 V = 32 * k + bits2 xs[k] ∧ m ≤ 32 * k + 32) (fun _ v => (intOf v).toNat)
    case atStart => exact ⟨k * 32, xs[k], int_num (by omega), rfl, hlt, by omega, by omega⟩
    case round =>
      obtain ⟨m, V, rfl, rfl, hV, hm, hm2⟩ := hrel
      have HM := Lib.hid hm
      clear hm
      by_cases hV0 : V = 0
      · subst hV0
        go_wp2_with fail
        go_ret
        exact ⟨ret_int (by rw [HT.out]; have := HM.out; rw [bits2_zero] at this; omega), rfl⟩
      · have hV1 : (0 : Int) < V := by omega
        have hbv := bits2_half hV0
        have hbx : bits2 xs[k] ≤ 32 := by rw [bits2_le]; simpa using hlt
        have hmm : m + 1 ≤ 32 * k + 32 := by have := HM.out; omega
        have HB := Lib.hid hbv
        clear hbv hV0 hbx hm2
        go_wp2_with fail
        go_round
        case rel => exact ⟨m + 1, V / 2, by go_num, int_num (by omega), by omega, by have := HM.out; have := HB.out; omega, by omega⟩
        case measure => simp [intOf]; omega

/-- subtract after j limbs: the carry of the product and the borrow -/
def SbInv (U V : List Nat) (f j C B : Nat) (O : List Nat) : Prop :=
  O.length = U.length ∧ U32 O ∧ C < 4294967296 ∧ B ≤ 1 ∧ (∀ k (h : k < O.length) (h2 : k < U.length), j ≤ k → O[k] = U[k]) ∧ nv (O.take j) + f * nv (V.take j) = nv (U.take j) + pw j * (C + B)
theorem SbInv.start {U : List Nat} (V : List Nat) (f : Nat) (h : U32 U) : SbInv U V f 0 0 0 U := ⟨rfl, h, by omega, by omega, fun _ _ _ _ => rfl, by simp [nv_nil]⟩
theorem sb_bound {f x C : Nat} (hf : f < 4294967296) (hx : x < 4294967296) (hC : C < 4294967296) : C + f * x < 18446744073709551616 ∧ (C + f * x) / 4294967296 < 4294967296 := by
  have h1 : f * x ≤ 4294967295 * 4294967295 := Nat.mul_le_mul (by omega) (by omega)
  omega
theorem SbInv.step {U V O : List Nat} {f j C B : Nat} (h : SbInv U V f j C B O) (hf : f < 4294967296) (hV : U32 V) (hj : j < V.length) (hO : j < O.length) (x B' : Nat) (hx : x < 4294967296) (hB : B' ≤ 1)
    (hs : x + (C + f * V[j]) % 4294967296 + B = O[j] + 4294967296 * B') : SbInv U V f (j + 1) ((C + f * V[j]) / 4294967296) B' (O.set j x) := by
  obtain ⟨h1, h2, h3, h4, h5, h6⟩ := h
  have b := sb_bound hf (hV.at j hj) h3
  refine ⟨by simpa using h1, h2.set _ hx, b.2, hB, ?_, ?_⟩
  · intro k hk hk2 hle
    rw [List.getElem_set_ne (by omega)]
    exact h5 k (by simpa using hk) hk2 (by omega)
  · have e := h5 j hO (by omega) (Nat.le_refl _)
    rw [nv_take_succ V j hj, nv_take_succ U j (by omega), nv_take_succ _ j (by simpa using hO), pw_succ, ← e]
    have e2 : (O.set j x).take j = O.take j := by rw [List.take_set_of_le (Nat.le_refl _)]
    rw [e2, List.getElem_set_self]
    have hd := Nat.div_add_mod (C + f * V[j]) 4294967296
    grind
/-- restore after j limbs -/
def RsInv (U V : List Nat) (j C : Nat) (O : List Nat) : Prop :=
  O.length = U.length ∧ U32 O ∧ C ≤ 1 ∧ (∀ k (h : k < O.length) (h2 : k < U.length), j ≤ k → O[k] = U[k]) ∧ nv (O.take j) + pw j * C = nv (U.take j) + nv (V.take j)
theorem RsInv.start {U : List Nat} (V : List Nat) (h : U32 U) : RsInv U V 0 0 U := ⟨rfl, h, by omega, fun _ _ _ _ => rfl, by simp [nv_nil]⟩
theorem RsInv.step {U V O : List Nat} {j C : Nat} (h : RsInv U V j C O) (hV : U32 V) (hj : j < V.length) (hO : j < O.length) :
    RsInv U V (j + 1) ((C + (O[j] + V[j])) / 4294967296) (O.set j ((C + (O[j] + V[j])) % 4294967296)) := by
  obtain ⟨h1, h2, h3, h5, h6⟩ := h
  have b1 := h2.at j hO
  have b2 := hV.at j hj
  refine ⟨by simpa using h1, h2.set _ (by omega), by omega, ?_, ?_⟩
  · intro k hk hk2 hle
    rw [List.getElem_set_ne (by omega)]
    exact h5 k (by simpa using hk) hk2 (by omega)
  · have e := h5 j hO (by omega) (Nat.le_refl _)
    rw [nv_take_succ V j hj, nv_take_succ U j (by omega), nv_take_succ _ j (by simpa using hO), pw_succ, ← e]
    have e2 : (O.set j ((C + (O[j] + V[j])) % 4294967296)).take j = O.take j := by rw [List.take_set_of_le (Nat.le_refl _)]
    rw [e2, List.getElem_set_self]
    have hd := Nat.div_add_mod (C + (O[j] + V[j])) 4294967296
    grind
end Go.Proofs.Ytnmomigaedfdoaa
namespace Go.Proofs.Ytnmomigaedfdoaa
set_option maxRecDepth 100000
open Go.RowKit

def mulS (m n : Nat) : List Nat × Int := if 512 < (lim m).length ∨ 512 < (lim n).length then ([], 2) else sizS (m * n)
theorem mulS_big1 {m n : Nat} (h : 512 < (lim m).length) : mulS m n = ([], 2) := by simp [mulS, h]
theorem mulS_big2 {m n : Nat} (h : 512 < (lim n).length) : mulS m n = ([], 2) := by simp [mulS, h]
theorem mulS_ok {m n : Nat} (h : ¬ 512 < (lim m).length) (h2 : ¬ 512 < (lim n).length) : mulS m n = sizS (m * n) := by simp [mulS, h, h2]

/-- Mul after j limbs of the first number -/
def MulInv (X Y : List Nat) (j : Nat) (O : List Nat) : Prop := O.length = X.length + Y.length ∧ U32 O ∧ nv O = nv (X.take j) * nv Y ∧ ∀ k (hk : k < O.length), j + Y.length ≤ k → O[k] = 0
theorem MulInv.start (X Y : List Nat) : MulInv X Y 0 (List.replicate (X.length + Y.length) 0) :=
  ⟨by simp, U32.replicate _, by simp [nv_replicate, nv_nil], by intro k hk _; simp⟩
/-- .. and after i limbs of the second, with the carry -/
def MulIn (X Y : List Nat) (x j i C : Nat) (O : List Nat) : Prop := O.length = X.length + Y.length ∧ U32 O ∧ C < 4294967296 ∧ nv O + pw (j + i) * C = nv (X.take j) * nv Y + pw j * (x * nv (Y.take i)) ∧ ∀ k (hk : k < O.length), j + Y.length ≤ k → O[k] = 0
theorem MulInv.in_ {X Y : List Nat} {j : Nat} {O : List Nat} (h : MulInv X Y j O) (x : Nat) : MulIn X Y x j 0 0 O := by
  obtain ⟨h1, h2, h3, h4⟩ := h
  exact ⟨h1, h2, by omega, by simp [h3, nv_nil], h4⟩
theorem mul_bound {x y z c : Nat} (hx : x < 4294967296) (hy : y < 4294967296) (hz : z < 4294967296) (hc : c < 4294967296) : x * y + z + c < 18446744073709551616 := by
  have h1 : x * y ≤ 4294967295 * 4294967295 := Nat.mul_le_mul (by omega) (by omega)
  omega
theorem MulIn.step {X Y : List Nat} {x j i C : Nat} {O : List Nat} (h : MulIn X Y x j i C O) (hY : U32 Y) (hx : x < 4294967296) (hi : i < Y.length) (_hj : j < X.length) (ho : j + i < O.length) :
    MulIn X Y x j (i + 1) ((C + (x * Y[i] + O[j + i])) / 4294967296) (O.set (j + i) ((C + (x * Y[i] + O[j + i])) % 4294967296)) := by
  obtain ⟨h1, h2, h3, h4, h5⟩ := h
  have b := mul_bound hx (hY.at i hi) (h2.at (j + i) ho) h3
  refine ⟨by simpa using h1, h2.set _ (by omega), by omega, ?_, ?_⟩
  · have hs := nv_set O (j + i) ((C + (x * Y[i] + O[j + i])) % 4294967296) ho
    have hd := Nat.div_add_mod (C + (x * Y[i] + O[j + i])) 4294967296
    rw [nv_take_succ Y i hi, show j + (i + 1) = (j + i) + 1 from by omega, pw_succ]
    have hp := pw_add j i
    grind
  · intro k hk hle
    rw [List.getElem_set_ne (by omega)]
    exact h5 k (by simpa using hk) hle
theorem MulIn.done {X Y : List Nat} {j C : Nat} {O : List Nat} (hj : j < X.length) (h : MulIn X Y X[j] j Y.length C O) : MulInv X Y (j + 1) (O.set (j + Y.length) C) := by
  obtain ⟨h1, h2, h3, h4, h5⟩ := h
  have ho : j + Y.length < O.length := by omega
  refine ⟨by simpa using h1, h2.set _ h3, ?_, ?_⟩
  · have hs := nv_set O (j + Y.length) C ho
    rw [h5 _ ho (Nat.le_refl _)] at hs
    rw [List.take_length] at h4
    rw [nv_take_succ X j hj, Nat.add_mul]
    grind
  · intro k hk hle
    rw [List.getElem_set_ne (by omega)]
    exact h5 k (by simpa using hk) (by omega)

theorem cast_mac (a x y z : Nat) : ((a : Int) + ((x : Int) * y + z)) = ((a + (x * y + z) : Nat) : Int) := by
  rw [Int.natCast_add, Int.natCast_add, Int.natCast_mul]
theorem cast_mac_mod (a x y z : Nat) : ((a : Int) + ((x : Int) * y + z)) % 4294967296 = (((a + (x * y + z)) % 4294967296 : Nat) : Int) := by rw [cast_mac, cast_mod]
theorem cast_mac_div (a x y z : Nat) : ((a : Int) + ((x : Int) * y + z)) / 4294967296 = (((a + (x * y + z)) / 4294967296 : Nat) : Int) := by rw [cast_mac, cast_div]

set_option maxHeartbeats 400000 in
theorem mul_any (w : World) (A D : Option Addr) (c d n m : Nat) (xs ys R : List Nat) (E : Int) (h : Nt w A c xs) (k : Nt w D d ys) (hn : n = xs.length) (hm : m = ys.length) (hr : mulS (nv xs) (nv ys) = (R, E)) :
    Calls Try.prog 104 #[.slice A n c, .slice D m d] w (NatRes w R E) := by
  subst hn hm
  have HR := Lib.hid hr; clear hr
  have h1 := h.lim
  have h2 := lim_length_le_length h.u
  have h3 := h.cap
  have h4 := h.max
  have k1 := k.lim
  have k2 := lim_length_le_length k.u
  have k3 := k.cap
  have k4 := k.max
  obtain ⟨i0, hi, hz0, hz1, hz2⟩ := info_parts u32_info
  by_cases hl : 512 < (lim (nv xs)).length
  · go_enter Try.func104, Try.ntmps104
    go_wp2_with fail
    refine (large_any w A c _ xs true h rfl (by simpa using hl)).mono ?_
    rintro e w' ⟨rfl, rfl⟩
    go_wp2_with fail
    go_ret2
    have e := HR.out
    rw [mulS_big1 hl] at e
    obtain ⟨rfl, rfl⟩ := Prod.mk.inj e
    exact ⟨_, _, rfl, Nt.nil _ _ _ (by omega), Below.refl _ _⟩
  · by_cases hl2 : 512 < (lim (nv ys)).length
    · go_enter Try.func104, Try.ntmps104
      go_wp2_with fail
      refine (large_any w A c _ xs false h rfl (by simpa using hl)).mono ?_
      rintro e w' ⟨rfl, rfl⟩
      go_wp2_with fail
      refine (large_any w D d _ ys true k rfl (by simpa using hl2)).mono ?_
      rintro e w' ⟨rfl, rfl⟩
      go_wp2_with fail
      go_ret2
      have e := HR.out
      rw [mulS_big2 hl2] at e
      obtain ⟨rfl, rfl⟩ := Prod.mk.inj e
      exact ⟨_, _, rfl, Nt.nil _ _ _ (by omega), Below.refl _ _⟩
    · go_enter Try.func104, Try.ntmps104
      go_wp2_with fail
      refine (large_any w A c _ xs false h rfl (by simpa using hl)).mono ?_
      rintro e w' ⟨rfl, rfl⟩
      go_wp2_with fail
      refine (large_any w D d _ ys false k rfl (by simpa using hl2)).mono ?_
      rintro e w' ⟨rfl, rfl⟩
      go_wp2_with fail
      go_quiet ((first | with_reducible exact length_q h | with_reducible exact length_q k))
      have hX := h1.below (below_drewN (Below.refl w.heap.size w) nq)
      have hY := k1.below (below_drewN (Below.refl w.heap.size w) nq)
      have hb0 := below_drewN (Below.refl w.heap.size w) nq
      revert hX hY hb0
      generalize w.drewN nq = w0
      intro hX hY hb0
      have hs0 := hb0.size
      generalize hXe : lim (nv xs) = X at *
      generalize hYe : lim (nv ys) = Y at *
      have HX := Lib.hid hXe
      have HY := Lib.hid hYe
      clear hXe hYe h k h1 k1
      go_wp2_with (refine wpList_make_rd w0 (mk := lmv) 0 rfl _ _ 24 rfl 82 i0 4 Try.underlying24 hi hz0 hz1 hz2 rfl .i64 .i64 _ _ (X.length + Y.length) rfl rfl (by omega) (by omega) (by omega) (by simp only [maxLen]; omega) ?_; intro w1 hg1 hb1 hs1)
      go_loopw [34] (fun i wr => ∃ (j : Nat) (O : List Nat), j ≤ X.length ∧ i = .int .i64 j ∧ MulInv X Y j O ∧ Gr lmv 82 wr w0.heap.size (some ⟨w0.heap.size, 0, none⟩) (X.length + Y.length) O ∧ Below w0.heap.size w0 wr) (fun i _ => X.length - (intOf i).toNat)
      case atStart => exact ⟨0, _, by omega, rfl, MulInv.start _ _, by simpa using hg1, hb1⟩
      case round =>
        obtain ⟨j, O, hj, rfl, hinv, hgr, hbr⟩ := hrel
        have HI := Lib.hid hinv
        have HO := Lib.hid hinv.1
        clear hinv hg1 hb1 hs1
        have hsz := hbr.size
        have HB := Lib.hid hbr
        have HG := Lib.hid hgr
        by_cases hlt : j < X.length
        · obtain ⟨adX, hadX, hbX, hcX, hvX⟩ := (hX.below hbr).at j hlt
          subst hadX
          clear hbr hgr
          go_wp2_with fail
          obtain ⟨w2, hw2⟩ : ∃ w2 : World, w2 = wr := ⟨_, rfl⟩
          rw [← hw2] at HB HG hsz hcX ⊢
          clear hw2
          go_loopw [9, 41] (fun cy i wr => ∃ (m C : Nat) (O : List Nat), m ≤ Y.length ∧ i = .int .i64 m ∧ cy = .int .u64 C ∧ MulIn X Y X[j] j m C O ∧ Gr lmv 82 wr w0.heap.size (some ⟨w0.heap.size, 0, none⟩) (X.length + Y.length) O ∧ Below w0.heap.size w0 wr) (fun _ i _ => Y.length - (intOf i).toNat)
          case atStart => exact ⟨0, 0, O, by omega, rfl, rfl, HI.out.in_ _, HG.out, HB.out⟩
          case round =>
            obtain ⟨m, C, O', hm, rfl, rfl, hinv, hgr, hbr⟩ := hrel
            have HI2 := Lib.hid hinv
            have HO2 := Lib.hid hinv.1
            have hC : C < 4294967296 := hinv.2.2.1
            have hOu := hinv.2.1
            clear hinv
            have hsz2 := hbr.size
            have HB2 := Lib.hid hbr
            have HG2 := Lib.hid hgr
            by_cases hlt2 : m < Y.length
            · obtain ⟨adY, hadY, hbY, hcY, hvY⟩ := (hY.below hbr).at m hlt2
              subst hadY
              have ho : j + m < O'.length := by have := HO2.out; omega
              have hcell := hgr.cell (j + m) ho
              have hfree := hgr.free (j + m)
              have hz := hOu.at (j + m) ho
              have hmul : X[j] * Y[m] + O'[j + m] + C < 18446744073709551616 := mul_bound hvX hvY hz hC
              clear hbr hgr hOu
              go_wp2_with fail
              go_roundw
              case rel => exact ⟨m + 1, _, _, by omega, by go_num, by rw [cast_mac_div], HI2.out.step hY.u hvX hlt2 hlt ho, by rw [cast_mac_mod]; exact HG2.out.store _ _, HB2.out.setCell (Nat.le_refl _) _⟩
              case measure => simp [intOf]; omega
            · obtain rfl : m = Y.length := by omega
              have ho : j + Y.length < O'.length := by have := HO2.out; omega
              have hcell := hgr.cell (j + Y.length) ho
              have hfree := hgr.free (j + Y.length)
              have hYl : Y.length ≤ 512 := by omega
              clear hbr hgr hOu
              go_wp2_with fail
              go_roundw
              case rel => exact ⟨j + 1, _, by omega, by go_num, HI2.out.done hlt, HG2.out.store _ _, HB2.out.setCell (Nat.le_refl _) _⟩
              case measure => simp [intOf]; omega
        · obtain rfl : j = X.length := by omega
          have hXn : nv X = nv xs := by rw [← HX.out, nv_lim]
          have hYn : nv Y = nv ys := by rw [← HY.out, nv_lim]
          have hfin : U32 O ∧ nv O = nv xs * nv ys := ⟨HI.out.2.1, by rw [HI.out.2.2.1, List.take_length, hXn, hYn]⟩
          rw [show X.length + Y.length = O.length from HO.out.symm] at hgr
          have hnt := hgr.nt hfin.1
          have HF := Lib.hid hfin
          rw [show O.length = X.length + Y.length from HO.out] at hnt
          clear hfin hgr hbr hXn hYn
          go_wp2_with fail
          refine (sized_any _ _ _ _ O R E hnt HO.out.symm (by rw [HF.out.2, ← HR.out, mulS_ok (by rw [HX.out]; exact hl) (by rw [HY.out]; exact hl2)])).mono ?_
          rintro e w' ⟨⟨A', c', rfl, hnt'⟩, rfl⟩
          clear hnt
          go_wp2_with fail
          go_ret2
          exact ⟨A', c', rfl, hnt', below_on hb0 HB.out hs0⟩
end Go.Proofs.Ytnmomigaedfdoaa
namespace Go.Proofs.Ytnmomigaedfdoaa
set_option maxRecDepth 100000
open Go.RowKit

theorem set_mid {P S T : List Nat} {i x : Nat} (h : i < S.length) : (P ++ S ++ T).set (P.length + i) x = P ++ S.set i x ++ T := by
  rw [List.append_assoc, List.set_append_right _ _ (by omega), Nat.add_sub_cancel_left, List.set_append_left _ _ h, List.append_assoc]
theorem get_mid {P S T : List Nat} {i : Nat} (h : i < S.length) (h2 : P.length + i < (P ++ S ++ T).length) : (P ++ S ++ T)[P.length + i] = S[i] := by
  rw [List.getElem_append_left (by simp; omega), List.getElem_append_right (by omega)]
  simp
theorem and_low (C : Nat) (h : C < 18446744073709551616) : bits .and .u64 (C : Int) 4294967295 = ((C % 4294967296 : Nat) : Int) := by
  have h1 := u64_and_nat C 4294967295 h (by omega)
  have h2 : C &&& 4294967295 = C % 4294967296 := Nat.and_two_pow_sub_one_eq_mod C 32
  rw [h2] at h1
  exact h1
theorem SbInv.last {S V O : List Nat} {f n C B : Nat} (h : SbInv S V f n C B O) (hn : n = V.length) (hS : S.length = n + 1) (hnO : n < O.length) (x B' : Nat) (hx : x < 4294967296) (hs : x + C + B = O[n] + 4294967296 * B') :
    (O.set n x).length = n + 1 ∧ U32 (O.set n x) ∧ nv (O.set n x) + f * nv V = nv S + pw (n + 1) * B' := by
  obtain ⟨h1, h2, h3, h4, h5, h6⟩ := h
  subst hn
  have e := h5 V.length hnO (by omega) (Nat.le_refl _)
  rw [List.take_length] at h6
  refine ⟨by simp; omega, h2.set _ hx, ?_⟩
  have e1 := nv_at (O.set V.length x) V.length (by simpa using hnO)
  have e2 := nv_at S V.length (by omega)
  rw [List.drop_eq_nil_of_le (by simp; omega), nv_nil, Nat.mul_zero, Nat.add_zero, List.take_set_of_le (Nat.le_refl _), List.getElem_set_self] at e1
  rw [List.drop_eq_nil_of_le (by omega), nv_nil, Nat.mul_zero, Nat.add_zero, ← e] at e2
  rw [e1, e2, pw_succ]
  grind
theorem RsInv.last {S V O : List Nat} {n C : Nat} (h : RsInv S V n C O) (hn : n = V.length) (hS : S.length = n + 1) (hnO : n < O.length) :
    (O.set n ((O[n] + C) % 4294967296)).length = n + 1 ∧ U32 (O.set n ((O[n] + C) % 4294967296)) ∧ ∃ k, nv (O.set n ((O[n] + C) % 4294967296)) + pw (n + 1) * k = nv S + nv V := by
  obtain ⟨h1, h2, h3, h5, h6⟩ := h
  subst hn
  have e := h5 V.length hnO (by omega) (Nat.le_refl _)
  rw [List.take_length] at h6
  refine ⟨by simp; omega, h2.set _ (by omega), (O[V.length] + C) / 4294967296, ?_⟩
  have e1 := nv_at (O.set V.length ((O[V.length] + C) % 4294967296)) V.length (by simpa using hnO)
  have e2 := nv_at S V.length (by omega)
  rw [List.drop_eq_nil_of_le (by simp; omega), nv_nil, Nat.mul_zero, Nat.add_zero, List.take_set_of_le (Nat.le_refl _), List.getElem_set_self] at e1
  rw [List.drop_eq_nil_of_le (by omega), nv_nil, Nat.mul_zero, Nat.add_zero, ← e] at e2
  have hd := Nat.div_add_mod (O[V.length] + C) 4294967296
  rw [e1, e2, pw_succ]
  grind

/-- what a call leaves that writes into block g alone -/
theorem grownBy_setCell {w w' : World} {g : Nat} (h : w.grownBy w' (some g)) (i : Nat) (v : Value) : w.grownBy (w'.setCell ⟨g, i, none⟩ v) (some g) :=
  ⟨h.os, h.tape, h.output, by simpa [World.setCell] using h.size, fun k hk hne => (Below.heap_setCell _ _ _ _ (fun e => hne (by rw [e]))).trans (h.block k hk hne)⟩

theorem sub2b_div {x c b : Nat} (hx : x < 4294967296) (hc : c < 4294967296) (hb : b ≤ 1) : IntKind.u64.wrap (IntKind.u64.wrap ((x : Int) - c) - b) / 9223372036854775808 = ((bor x c b : Nat) : Int) := by
  rw [IntKind.wrap_u64, IntKind.wrap_u64]; unfold bor; split <;> omega
theorem sub2b_mod {x c b : Nat} (hx : x < 4294967296) (hc : c < 4294967296) (hb : b ≤ 1) : IntKind.u64.wrap (IntKind.u64.wrap ((x : Int) - c) - b) % 4294967296 = ((dig x c b : Nat) : Int) := by
  rw [IntKind.wrap_u64, IntKind.wrap_u64]; unfold dig bor; split <;> omega

theorem castpar (v o p : Nat) : ((v : Int) + (o : Int) * p) = ((v + o * p : Nat) : Int) := by rw [Int.natCast_add, Int.natCast_mul]
theorem castpar_div (v o p : Nat) : ((v : Int) + (o : Int) * p) / 4294967296 = (((v + o * p) / 4294967296 : Nat) : Int) := by rw [castpar, cast_div]
theorem cast_add3_div (a b c : Nat) : ((a : Int) + ((b : Int) + c)) / 4294967296 = (((a + (b + c)) / 4294967296 : Nat) : Int) := by omega
theorem cast_add3_mod (a b c : Nat) : ((a : Int) + ((b : Int) + c)) % 4294967296 = (((a + (b + c)) % 4294967296 : Nat) : Int) := by omega

set_option maxHeartbeats 1000000 in
theorem subtract_any (w : World) (B g j cap cc n f d : Nat) (D : Option Addr) (P S T V : List Nat) (hg : Gr lmv 82 w B (some ⟨g, 0, none⟩) cap (P ++ S ++ T)) (hu : U32 (P ++ S ++ T)) (hv : Nt w D d V) (hne : ∀ ad, D = some ad → ad.block ≠ g)
    (hP : P.length = j) (hS : S.length = n + 1) (hV : V.length = n) (hf : f < 4294967296) (hn : n ≤ 1000000) :
    Calls Try.prog 113 #[.slice (some ⟨g, j, none⟩) (n + 1) cc, .slice D n d, .int .u64 (f : Int)] w fun e w' => ∃ (S' : List Nat) (neg : Nat), e = .returned (.bool (decide (neg = 1))) ∧ neg ≤ 1 ∧ S'.length = n + 1 ∧ U32 S' ∧
      nv S' + f * nv V = nv S + pw (n + 1) * neg ∧ Gr lmv 82 w' B (some ⟨g, 0, none⟩) cap (P ++ S' ++ T) ∧ w.grownBy w' (some g) := by
  have HP := Lib.hid hP
  have HS := Lib.hid hS
  have HV := Lib.hid hV
  have hSu : U32 S := fun x hx => hu x (List.mem_append.2 (.inl (List.mem_append.2 (.inr hx))))
  clear hu hP hS hV
  go_enter Try.func113, Try.ntmps113
  go_wp2_with fail
  go_loopw [7, 8, 15] (fun cy bo iv wr => ∃ (i C b : Nat) (O : List Nat), i ≤ n ∧ iv = .int .i64 i ∧ cy = .int .u64 C ∧ bo = .int .u64 b ∧ SbInv S V f i C b O ∧ Gr lmv 82 wr B (some ⟨g, 0, none⟩) cap (P ++ O ++ T) ∧ w.grownBy wr (some g)) (fun _ _ iv _ => n - (intOf iv).toNat)
  case atStart => exact ⟨0, 0, 0, S, by omega, rfl, rfl, rfl, SbInv.start V f hSu, hg, World.grownBy.refl _ _⟩
  case round =>
    obtain ⟨i, C, b, O, hi, rfl, rfl, rfl, hinv, hgr, hgb⟩ := hrel
    have HI := Lib.hid hinv
    have hC : C < 4294967296 := hinv.2.2.1
    have hb : b ≤ 1 := hinv.2.2.2.1
    have hOu := hinv.2.1
    have HOL := Lib.hid hinv.1
    clear hinv
    have HG := Lib.hid hgr
    have HB := Lib.hid hgb
    by_cases hlt : i < n
    · have hiV : i < V.length := by have := HV.out; omega
      have hiO : i < O.length := by have := HOL.out; have := HS.out; omega
      obtain ⟨adV, hadV, hbV, hcV, hvV⟩ := (hv.grown hgb (fun _ ad e e2 => hne ad e (by injection e2))).at i hiV
      subst hadV
      have hcell0 := hgr.cell (P.length + i) (by simp; omega)
      rw [get_mid hiO] at hcell0
      rw [HP.out] at hcell0
      have hfree := hgr.free (j + i)
      have hxO := hOu.at i hiO
      have hbd := sb_bound hf hvV hC
      obtain ⟨hbd1, hbd2⟩ := hbd
      clear hgr hgb hOu
      go_wp2_with fail
      have hand : bits .and .u64 ((C : Int) + (f : Int) * V[i]) 4294967295 = (((C + f * V[i]) % 4294967296 : Nat) : Int) := by
        rw [castpar]; exact and_low _ hbd1
      have hm : (C + f * V[i]) % 4294967296 < 4294967296 := Nat.mod_lt _ (by omega)
      have hbg := bor_dig hxO hm hb
      go_roundw
      case rel => exact ⟨i + 1, _, _, _, by omega, by go_num, by rw [castpar_div], by rw [hand, sub2b_div hxO hm hb], HI.out.step hf hv.u hiV hiO _ _ hbg.1 hbg.2.1 (by rw [← hbg.2.2]; omega),
        by rw [hand, sub2b_mod hxO hm hb, ← set_mid hiO, HP.out]; exact HG.out.store _ _, grownBy_setCell HB.out _ _⟩
      case measure => simp [intOf]; omega
    · obtain rfl : i = n := by omega
      have hiO : i < O.length := by have := HOL.out; have := HS.out; omega
      have hcell0 := hgr.cell (P.length + i) (by simp; omega)
      rw [get_mid hiO] at hcell0
      rw [HP.out] at hcell0
      have hfree := hgr.free (j + i)
      have hxO := hOu.at i hiO
      clear hgr hgb hOu
      go_wp2_with fail
      go_ret
      have hbg := bor_dig hxO hC hb
      have hlast := HI.out.last HV.out.symm HS.out hiO _ _ hbg.1 (by rw [← hbg.2.2]; omega)
      refine ⟨_, bor O[i] C b, ?_, hbg.2.1, hlast.1, hlast.2.1, hlast.2.2, ?_, grownBy_setCell HB.out _ _⟩
      · apply ret_bool
        show (_ == _) = _
        rw [sub2b_div hxO hC hb]
        rcases Nat.lt_or_ge (bor O[i] C b) 1 with h1 | h1
        · have : bor O[i] C b = 0 := by omega
          rw [this]; rfl
        · have : bor O[i] C b = 1 := by omega
          rw [this]; rfl
      · rw [sub2b_mod hxO hC hb, ← set_mid hiO, HP.out]; exact HG.out.store _ _

set_option maxHeartbeats 1000000 in
theorem restore_any (w : World) (B g j cap cc n d : Nat) (D : Option Addr) (P S T V : List Nat) (hg : Gr lmv 82 w B (some ⟨g, 0, none⟩) cap (P ++ S ++ T)) (hu : U32 (P ++ S ++ T)) (hv : Nt w D d V) (hne : ∀ ad, D = some ad → ad.block ≠ g)
    (hP : P.length = j) (hS : S.length = n + 1) (hV : V.length = n) (hn : n ≤ 1000000) :
    Calls Try.prog 114 #[.slice (some ⟨g, j, none⟩) (n + 1) cc, .slice D n d] w fun e w' => ∃ S' : List Nat, e = .returned (.tuple #[]) ∧ S'.length = n + 1 ∧ U32 S' ∧
      (∃ k, nv S' + pw (n + 1) * k = nv S + nv V) ∧ Gr lmv 82 w' B (some ⟨g, 0, none⟩) cap (P ++ S' ++ T) ∧ w.grownBy w' (some g) := by
  have HP := Lib.hid hP
  have HS := Lib.hid hS
  have HV := Lib.hid hV
  have hSu : U32 S := fun x hx => hu x (List.mem_append.2 (.inl (List.mem_append.2 (.inr hx))))
  clear hu hP hS hV
  go_enter Try.func114, Try.ntmps114
  go_wp2_with fail
  go_loopw [4, 9] (fun cy iv wr => ∃ (i C : Nat) (O : List Nat), i ≤ n ∧ iv = .int .i64 i ∧ cy = .int .u64 C ∧ RsInv S V i C O ∧ Gr lmv 82 wr B (some ⟨g, 0, none⟩) cap (P ++ O ++ T) ∧ w.grownBy wr (some g)) (fun _ iv _ => n - (intOf iv).toNat)
  case atStart => exact ⟨0, 0, S, by omega, rfl, rfl, RsInv.start V hSu, hg, World.grownBy.refl _ _⟩
  case round =>
    obtain ⟨i, C, O, hi, rfl, rfl, hinv, hgr, hgb⟩ := hrel
    have HI := Lib.hid hinv
    have hC : C ≤ 1 := hinv.2.2.1
    have hOu := hinv.2.1
    have HOL := Lib.hid hinv.1
    clear hinv
    have HG := Lib.hid hgr
    have HB := Lib.hid hgb
    have hiO : i < O.length := by have := HOL.out; have := HS.out; omega
    have hcell0 := hgr.cell (P.length + i) (by simp; omega)
    rw [get_mid hiO] at hcell0
    rw [HP.out] at hcell0
    have hfree := hgr.free (j + i)
    have hxO := hOu.at i hiO
    by_cases hlt : i < n
    · have hiV : i < V.length := by have := HV.out; omega
      obtain ⟨adV, hadV, hbV, hcV, hvV⟩ := (hv.grown hgb (fun _ ad e e2 => hne ad e (by injection e2))).at i hiV
      subst hadV
      clear hgr hgb hOu
      go_wp2_with fail
      go_roundw
      case rel => exact ⟨i + 1, _, _, by omega, by go_num, by rw [cast_add3_div], HI.out.step hv.u hiV hiO,
        by rw [cast_add3_mod, ← set_mid hiO, HP.out]; exact HG.out.store _ _, grownBy_setCell HB.out _ _⟩
      case measure => simp [intOf]; omega
    · obtain rfl : i = n := by omega
      clear hgr hgb hOu
      go_wp2_with fail
      go_end0
      have hlast := HI.out.last HV.out.symm HS.out hiO
      exact ⟨_, rfl, hlast.1, hlast.2.1, hlast.2.2, by rw [cast_sum2_mod, ← set_mid hiO, HP.out]; exact HG.out.store _ _, grownBy_setCell HB.out _ _⟩
end Go.Proofs.Ytnmomigaedfdoaa
