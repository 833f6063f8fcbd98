/- The walk of natural.Sub. The walks of natural.Bits and of natural.subtract and natural.restore. -/
import Derived.Test.YtnmomigaedfdoaaNatB
import Derived.Test.YtnmomigaedfdoaaNatE
namespace Go.Proofs.Ytnmomigaedfdoaa
set_option maxRecDepth 100000
open Go.RowKit

def subS (m n : Nat) : List Nat × Int := if 512 < (lim m).length ∨ 512 < (lim n).length then ([], 2) else if m < n then ([], 4) else (lim (m - n), 0)
theorem subS_big1 {m n : Nat} (h : 512 < (lim m).length) : subS m n = ([], 2) := by simp [subS, h]
theorem subS_big2 {m n : Nat} (h : 512 < (lim n).length) : subS m n = ([], 2) := by simp [subS, h]
theorem subS_neg {m n : Nat} (h : ¬ 512 < (lim m).length) (h2 : ¬ 512 < (lim n).length) (h3 : m < n) : subS m n = ([], 4) := by simp [subS, h, h2, h3]
theorem subS_ok {m n : Nat} (h : ¬ 512 < (lim m).length) (h2 : ¬ 512 < (lim n).length) (h3 : n ≤ m) : subS m n = sizS (m - n) := by
  have h4 : ¬ m < n := by omega
  have h5 := lim_length_mono (show m - n ≤ m by omega)
  rw [subS, if_neg (by simp [h, h2]), if_neg h4, sizS, if_neg (by omega)]
/-- Sub after j limbs: the limbs so far and the borrow -/
def SubInv (X Y : List Nat) (j C : Nat) (O : List Nat) : Prop := C ≤ 1 ∧ O.length = j ∧ U32 O ∧ nv O + nv (Y.take j) = nv (X.take j) + pw j * C
theorem SubInv.start (X Y : List Nat) : SubInv X Y 0 0 [] := ⟨by omega, rfl, U32.nil, by simp [nv_nil]⟩
theorem SubInv.step {X Y : List Nat} {j C : Nat} {O : List Nat} (h : SubInv X Y j C O) (hj : j < X.length) (x C' : Nat) (hx : x < 4294967296) (hC : C' ≤ 1)
    (hs : x + C + Y.getD j 0 = X[j] + 4294967296 * C') : SubInv X Y (j + 1) C' (O ++ [x]) := by
  obtain ⟨h1, h2, h3, h4⟩ := h
  refine ⟨hC, by simp [h2], h3.append (U32.one hx), ?_⟩
  rw [nv_append, nv_take_succ X j hj, nv_take_getD, h2, nv_cons, nv_nil, pw_succ]
  have h6 : pw j * (x + C + Y.getD j 0) = pw j * (X[j] + 4294967296 * C') := by rw [hs]
  grind
theorem SubInv.done {X Y : List Nat} {C : Nat} {O : List Nat} (h : SubInv X Y X.length C O) (hl : Y.length ≤ X.length) (hle : nv Y ≤ nv X) : U32 O ∧ nv O = nv X - nv Y ∧ O.length = X.length := by
  obtain ⟨h1, h2, h3, h4⟩ := h
  rw [List.take_of_length_le (Nat.le_refl _), List.take_of_length_le hl] at h4
  have h5 := nv_lt h3
  rw [h2] at h5
  refine ⟨h3, ?_, h2⟩
  rcases Nat.eq_zero_or_pos C with h0 | h0
  · subst h0; omega
  · obtain rfl : C = 1 := by omega
    omega

/-- the borrow and the limb of a step -/
def bor (x y c : Nat) : Nat := if x < y + c then 1 else 0
def dig (x y c : Nat) : Nat := x + 4294967296 * bor x y c - y - c
theorem bor_dig {x y c : Nat} (hx : x < 4294967296) (hy : y < 4294967296) (hc : c ≤ 1) : dig x y c < 4294967296 ∧ bor x y c ≤ 1 ∧ dig x y c + c + y = x + 4294967296 * bor x y c := by
  unfold dig bor; split <;> omega
end Go.Proofs.Ytnmomigaedfdoaa
namespace Go.Proofs.Ytnmomigaedfdoaa
set_option maxRecDepth 100000
open Go.RowKit

/-- the number of binary digits -/
def bits2 (n : Nat) : Nat := if n = 0 then 0 else Nat.log2 n + 1
theorem bits2_zero : bits2 0 = 0 := rfl
theorem bits2_half {v : Nat} (h : v ≠ 0) : bits2 v = bits2 (v / 2) + 1 := by
  unfold bits2
  rw [if_neg h]
  by_cases h2 : v / 2 = 0
  · rw [if_pos h2]
    have : v = 1 := by omega
    subst this; rfl
  · rw [if_neg h2]
    rw [Nat.log2_def v, if_pos (by omega)]
theorem bits2_le (n k : Nat) : bits2 n ≤ k ↔ n < 2 ^ k := by
  unfold bits2
  by_cases h : n = 0
  · subst h; simp [Nat.pow_pos]
  · rw [if_neg h]
    have := Nat.log2_lt (k := k) h
    omega
theorem bits2_mul (n s : Nat) (h : n ≠ 0) : bits2 (n * 2 ^ s) = bits2 n + s := by
  have hne : n * 2 ^ s ≠ 0 := Nat.mul_ne_zero h (Nat.pos_iff_ne_zero.1 (Nat.pow_pos (by omega)))
  apply Nat.le_antisymm
  · rw [bits2_le, Nat.pow_add]
    exact Nat.mul_lt_mul_of_pos_right ((bits2_le n _).1 (Nat.le_refl _)) (Nat.pow_pos (by omega))
  · rcases Nat.lt_or_ge (bits2 (n * 2 ^ s)) (bits2 n + s) with h1 | h1
    · exfalso
      have hb : 0 < bits2 n := by unfold bits2; rw [if_neg h]; omega
      have h2 : bits2 (n * 2 ^ s) ≤ (bits2 n - 1) + s := by omega
      rw [bits2_le, Nat.pow_add] at h2
      have h3 := Nat.lt_of_mul_lt_mul_right h2
      have h4 := (bits2_le n (bits2 n - 1)).2 h3
      omega
    · exact h1
/-- the digits of a number are those of its greatest limb and 32 for each other limb -/
theorem bits2_top {xs : List Nat} (hu : U32 xs) (k : Nat) (hk : k + 1 = xs.length) (h : xs[k] ≠ 0) : bits2 (nv xs) = 32 * k + bits2 xs[k] := by
  have h1 := nv_at xs k (by omega)
  rw [List.drop_eq_nil_of_le (by omega), nv_nil, Nat.mul_zero, Nat.add_zero] at h1
  have h2 := nv_lt (hu.take k)
  rw [List.length_take, Nat.min_eq_left (by omega)] at h2
  have hpw : pw k = 2 ^ (32 * k) := by unfold pw; rw [Nat.pow_mul]
  apply Nat.le_antisymm
  · rw [bits2_le, h1, Nat.pow_add, ← hpw]
    have h3 := (bits2_le xs[k] _).1 (Nat.le_refl _)
    have h4 : pw k * (xs[k] + 1) ≤ pw k * 2 ^ bits2 xs[k] := Nat.mul_le_mul_left _ h3
    rw [Nat.mul_add] at h4
    omega
  · rcases Nat.lt_or_ge (bits2 (nv xs)) (32 * k + bits2 xs[k]) with h5 | h5
    · exfalso
      have hb : 0 < bits2 xs[k] := by unfold bits2; rw [if_neg h]; omega
      have h6 : bits2 (nv xs) ≤ 32 * k + (bits2 xs[k] - 1) := by omega
      rw [bits2_le, Nat.pow_add, ← hpw] at h6
      have h7 : pw k * xs[k] < pw k * 2 ^ (bits2 xs[k] - 1) := by omega
      have h8 := Nat.lt_of_mul_lt_mul_left h7
      have h9 := (bits2_le xs[k] (bits2 xs[k] - 1)).2 h8
      omega
    · exact h5

theorem pw_two (k : Nat) : pw k = 2 ^ (32 * k) := by unfold pw; rw [Nat.pow_mul]
set_option maxHeartbeats 400000 in
theorem bits_any (w : World) (A : Option Addr) (c n : Nat) (xs : List Nat) (h : Nt w A c xs) (hn : n = xs.length) (hl : xs.length ≤ 1000000) :
    Calls Try.prog 63 #[.slice A n c] w fun e w' => e = .returned (.int .i64 (bits2 (nv xs))) ∧ w = w' := by
  subst hn
  have hk := h.lim
  have h3 := lim_length_le_length h.u
  by_cases h0 : nv xs = 0
  · have hz : (lim (nv xs)).length = 0 := by rw [h0, lim_zero]; rfl
    have H0 := Lib.hid h0
    have hz1 : (((lim (nv xs)).length : Int) == 0) = true := by simp [hz]
    clear hz h0
    go_enter Try.func63, Try.ntmps63
    go_wp2_with fail
    refine (length_any w A c _ xs h rfl).mono ?_
    rintro e w' ⟨rfl, rfl⟩
    go_wp2_with fail
    go_ret
    exact ⟨ret_int (by rw [H0.out]; rfl), rfl⟩
  · have hp := lim_length_pos.2 h0
    obtain ⟨k, hk1⟩ : ∃ k, k + 1 = (lim (nv xs)).length := ⟨(lim (nv xs)).length - 1, by omega⟩
    have htop := bits2_top (lim_u32 (nv xs)) k hk1 (lim_last _ k hk1)
    rw [nv_lim] at htop
    have hz1 : (((lim (nv xs)).length : Int) == 0) = false := beq_eq_false_iff_ne.2 (by omega)
    have hkx : k < xs.length := by omega
    have hlx := lim_at h.u k (by omega)
    rw [hlx] at htop
    have HT : Hid (bits2 (nv xs) = 32 * k + bits2 (xs[k]'hkx)) := htop
    have hcall := length_any w A c _ xs h rfl
    rw [← hk1] at hcall
    clear hz1
    have hz1 : (((k : Int) + 1) == 0) = false := beq_eq_false_iff_ne.2 (by omega)
    have HF := Lib.hid hcall
    obtain ⟨ad, rfl, hb, hc, hlt⟩ := h.at k hkx
    have hk2 : k ≤ 1000000 := by omega
    clear hlx htop hcall h hk h0 hp h3 hk1
    go_enter Try.func63, Try.ntmps63
    go_wp2_with fail
    refine HF.out.mono ?_
    rintro e w' ⟨rfl, rfl⟩
    go_wp2_with fail
    go_loop [4, 5] (fun kk v => ∃ (m V : Nat), kk = .int .i64 m ∧ v = .int .u32 V ∧ V < 4294967296 ∧ m + bits2 V = 32 * k + bits2 xs[k] ∧ m ≤ 32 * k + 32) (fun _ v => (intOf v).toNat)
    case atStart => exact ⟨k * 32, xs[k], int_num (by omega), rfl, hlt, by omega, by omega⟩
    case round =>
      obtain ⟨m, V, rfl, rfl, hV, hm, hm2⟩ := hrel
      have HM := Lib.hid hm
      clear hm
      by_cases hV0 : V = 0
      · subst hV0
        go_wp2_with fail
        go_ret
        exact ⟨ret_int (by rw [HT.out]; have := HM.out; rw [bits2_zero] at this; omega), rfl⟩
      · have hV1 : (0 : Int) < V := by omega
        have hbv := bits2_half hV0
        have hbx : bits2 xs[k] ≤ 32 := by rw [bits2_le]; simpa using hlt
        have hmm : m + 1 ≤ 32 * k + 32 := by have := HM.out; omega
        have HB := Lib.hid hbv
        clear hbv hV0 hbx hm2
        go_wp2_with fail
        go_round
        case rel => exact ⟨m + 1, V / 2, by go_num, int_num (by omega), by omega, by have := HM.out; have := HB.out; omega, by omega⟩
        case measure => simp [intOf]; omega

/-- subtract after j limbs: the carry of the product and the borrow -/
def SbInv (U V : List Nat) (f j C B : Nat) (O : List Nat) : Prop :=
  O.length = U.length ∧ U32 O ∧ C < 4294967296 ∧ B ≤ 1 ∧ (∀ k (h : k < O.length) (h2 : k < U.length), j ≤ k → O[k] = U[k]) ∧ nv (O.take j) + f * nv (V.take j) = nv (U.take j) + pw j * (C + B)
theorem SbInv.start {U : List Nat} (V : List Nat) (f : Nat) (h : U32 U) : SbInv U V f 0 0 0 U := ⟨rfl, h, by omega, by omega, fun _ _ _ _ => rfl, by simp [nv_nil]⟩
theorem sb_bound {f x C : Nat} (hf : f < 4294967296) (hx : x < 4294967296) (hC : C < 4294967296) : C + f * x < 18446744073709551616 ∧ (C + f * x) / 4294967296 < 4294967296 := by
  have h1 : f * x ≤ 4294967295 * 4294967295 := Nat.mul_le_mul (by omega) (by omega)
  omega
theorem SbInv.step {U V O : List Nat} {f j C B : Nat} (h : SbInv U V f j C B O) (hf : f < 4294967296) (hV : U32 V) (hj : j < V.length) (hO : j < O.length) (x B' : Nat) (hx : x < 4294967296) (hB : B' ≤ 1)
    (hs : x + (C + f * V[j]) % 4294967296 + B = O[j] + 4294967296 * B') : SbInv U V f (j + 1) ((C + f * V[j]) / 4294967296) B' (O.set j x) := by
  obtain ⟨h1, h2, h3, h4, h5, h6⟩ := h
  have b := sb_bound hf (hV.at j hj) h3
  refine ⟨by simpa using h1, h2.set _ hx, b.2, hB, ?_, ?_⟩
  · intro k hk hk2 hle
    rw [List.getElem_set_ne (by omega)]
    exact h5 k (by simpa using hk) hk2 (by omega)
  · have e := h5 j hO (by omega) (Nat.le_refl _)
    rw [nv_take_succ V j hj, nv_take_succ U j (by omega), nv_take_succ _ j (by simpa using hO), pw_succ, ← e]
    have e2 : (O.set j x).take j = O.take j := by rw [List.take_set_of_le (Nat.le_refl _)]
    rw [e2, List.getElem_set_self]
    have hd := Nat.div_add_mod (C + f * V[j]) 4294967296
    grind
/-- restore after j limbs -/
def RsInv (U V : List Nat) (j C : Nat) (O : List Nat) : Prop :=
  O.length = U.length ∧ U32 O ∧ C ≤ 1 ∧ (∀ k (h : k < O.length) (h2 : k < U.length), j ≤ k → O[k] = U[k]) ∧ nv (O.take j) + pw j * C = nv (U.take j) + nv (V.take j)
theorem RsInv.start {U : List Nat} (V : List Nat) (h : U32 U) : RsInv U V 0 0 U := ⟨rfl, h, by omega, fun _ _ _ _ => rfl, by simp [nv_nil]⟩
theorem RsInv.step {U V O : List Nat} {j C : Nat} (h : RsInv U V j C O) (hV : U32 V) (hj : j < V.length) (hO : j < O.length) :
    RsInv U V (j + 1) ((C + (O[j] + V[j])) / 4294967296) (O.set j ((C + (O[j] + V[j])) % 4294967296)) := by
  obtain ⟨h1, h2, h3, h5, h6⟩ := h
  have b1 := h2.at j hO
  have b2 := hV.at j hj
  refine ⟨by simpa using h1, h2.set _ (by omega), by omega, ?_, ?_⟩
  · intro k hk hk2 hle
    rw [List.getElem_set_ne (by omega)]
    exact h5 k (by simpa using hk) hk2 (by omega)
  · have e := h5 j hO (by omega) (Nat.le_refl _)
    rw [nv_take_succ V j hj, nv_take_succ U j (by omega), nv_take_succ _ j (by simpa using hO), pw_succ, ← e]
    have e2 : (O.set j ((C + (O[j] + V[j])) % 4294967296)).take j = O.take j := by rw [List.take_set_of_le (Nat.le_refl _)]
    rw [e2, List.getElem_set_self]
    have hd := Nat.div_add_mod (C + (O[j] + V[j])) 4294967296
    grind
end Go.Proofs.Ytnmomigaedfdoaa
