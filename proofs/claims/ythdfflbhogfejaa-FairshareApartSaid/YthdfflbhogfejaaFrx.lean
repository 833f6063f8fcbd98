/- The walks of natural.Bits and of natural.subtract and natural.restore. Fractions as rational numbers. No program in sight. Fractions as the program holds them. -/
import Derived.Test.YthdfflbhogfejaaNatC
namespace Go.Proofs.Ythdfflbhogfejaa
open Go.RowKit

/-- the number of binary digits -/
def bits2 (n : Nat) : Nat := if n = 0 then 0 else Nat.log2 n + 1
set_option maxRecDepth 100000 in
theorem bits2_zero : bits2 0 = 0 := rfl
set_option maxRecDepth 100000 in
theorem bits2_half {v : Nat} (h : v ≠ 0) : bits2 v = bits2 (v / 2) + 1 := by
  unfold bits2
  rw [if_neg h]
  by_cases h2 : v / 2 = 0
  · rw [if_pos h2]
    have : v = 1 := by omega
    subst this; rfl
  · rw [if_neg h2]
    rw [Nat.log2_def v, if_pos (by omega)]
set_option maxRecDepth 100000 in
theorem bits2_le (n k : Nat) : bits2 n ≤ k ↔ n < 2 ^ k := by
  unfold bits2
  by_cases h : n = 0
  · subst h; simp [Nat.pow_pos]
  · rw [if_neg h]
    have := Nat.log2_lt (k := k) h
    omega
set_option maxRecDepth 100000 in
theorem bits2_mul (n s : Nat) (h : n ≠ 0) : bits2 (n * 2 ^ s) = bits2 n + s := by
  have hne : n * 2 ^ s ≠ 0 := Nat.mul_ne_zero h (Nat.pos_iff_ne_zero.1 (Nat.pow_pos (by omega)))
  apply Nat.le_antisymm
  · rw [bits2_le, Nat.pow_add]
    exact Nat.mul_lt_mul_of_pos_right ((bits2_le n _).1 (Nat.le_refl _)) (Nat.pow_pos (by omega))
  · rcases Nat.lt_or_ge (bits2 (n * 2 ^ s)) (bits2 n + s) with h1 | h1
    · exfalso
      have hb : 0 < bits2 n := by unfold bits2; rw [if_neg h]; omega
      have h2 : bits2 (n * 2 ^ s) ≤ (bits2 n - 1) + s := by omega
      rw [bits2_le, Nat.pow_add] at h2
      have h3 := Nat.lt_of_mul_lt_mul_right h2
      have h4 := (bits2_le n (bits2 n - 1)).2 h3
      omega
    · exact h1
set_option maxRecDepth 100000 in
/-- the digits of a number are those of its greatest limb and 32 for each other limb -/
theorem bits2_top {xs : List Nat} (hu : U32 xs) (k : Nat) (hk : k + 1 = xs.length) (h : xs[k] ≠ 0) : bits2 (nv xs) = 32 * k + bits2 xs[k] := by
  have h1 := nv_at xs k (by omega)
  rw [List.drop_eq_nil_of_le (by omega), nv_nil, Nat.mul_zero, Nat.add_zero] at h1
  have h2 := nv_lt (hu.take k)
  rw [List.length_take, Nat.min_eq_left (by omega)] at h2
  have hpw : pw k = 2 ^ (32 * k) := by unfold pw; rw [Nat.pow_mul]
  apply Nat.le_antisymm
  · rw [bits2_le, h1, Nat.pow_add, ← hpw]
    have h3 := (bits2_le xs[k] _).1 (Nat.le_refl _)
    have h4 : pw k * (xs[k] + 1) ≤ pw k * 2 ^ bits2 xs[k] := Nat.mul_le_mul_left _ h3
    rw [Nat.mul_add] at h4
    omega
  · rcases Nat.lt_or_ge (bits2 (nv xs)) (32 * k + bits2 xs[k]) with h5 | h5
    · exfalso
      have hb : 0 < bits2 xs[k] := by unfold bits2; rw [if_neg h]; omega
      have h6 : bits2 (nv xs) ≤ 32 * k + (bits2 xs[k] - 1) := by omega
      rw [bits2_le, Nat.pow_add, ← hpw] at h6
      have h7 : pw k * xs[k] < pw k * 2 ^ (bits2 xs[k] - 1) := by omega
      have h8 := Nat.lt_of_mul_lt_mul_left h7
      have h9 := (bits2_le xs[k] (bits2 xs[k] - 1)).2 h8
      omega
    · exact h5

set_option maxRecDepth 100000 in
theorem pw_two (k : Nat) : pw k = 2 ^ (32 * k) := by unfold pw; rw [Nat.pow_mul]
set_option maxHeartbeats 400000 in
set_option maxRecDepth 100000 in
theorem bits_any (w : World) (A : Option Addr) (c n : Nat) (xs : List Nat) (h : Nt w A c xs) (hn : n = xs.length) (hl : xs.length ≤ 1000000) :
    Calls Try.prog 66 #[.slice A n c] w fun e w' => e = .returned (.int .i64 (bits2 (nv xs))) ∧ w = w' := by
  subst hn
  have hk := h.lim
  have h3 := lim_length_le_length h.u
  by_cases h0 : nv xs = 0
  · have hz : (lim (nv xs)).length = 0 := by rw [h0, lim_zero]; rfl
    have H0 := Lib.hid h0
    have hz1 : (((lim (nv xs)).length : Int) == 0) = true := by simp [hz]
    clear hz h0
    go_enter Try.func66, Try.ntmps66
    go_wp2_with fail
    refine (length_any w A c _ xs h rfl).mono ?_
    rintro e w' ⟨rfl, rfl⟩
    go_wp2_with fail
    go_ret
    exact ⟨ret_int (by rw [H0.out]; rfl), rfl⟩
  · have hp := lim_length_pos.2 h0
    obtain ⟨k, hk1⟩ : ∃ k, k + 1 = (lim (nv xs)).length := ⟨(lim (nv xs)).length - 1, by omega⟩
    have htop := bits2_top (lim_u32 (nv xs)) k hk1 (lim_last _ k hk1)
    rw [nv_lim] at htop
    have hz1 : (((lim (nv xs)).length : Int) == 0) = false := beq_eq_false_iff_ne.2 (by omega)
    have hkx : k < xs.length := by omega
    have hlx := lim_at h.u k (by omega)
    rw [hlx] at htop
    have HT : Hid (bits2 (nv xs) = 32 * k + bits2 (xs[k]'hkx)) := htop
    have hcall := length_any w A c _ xs h rfl
    rw [← hk1] at hcall
    clear hz1
    have hz1 : (((k : Int) + 1) == 0) = false := beq_eq_false_iff_ne.2 (by omega)
    have HF := Lib.hid hcall
    obtain ⟨ad, rfl, hb, hc, hlt⟩ := h.at k hkx
    have hk2 : k ≤ 1000000 := by omega
    clear hlx htop hcall h hk h0 hp h3 hk1
    go_enter Try.func66, Try.ntmps66
    go_wp2_with fail
    refine HF.out.mono ?_
    rintro e w' ⟨rfl, rfl⟩
    go_wp2_with fail
    go_loop [4, 5] (fun kk v => ∃ (m V : Nat), kk = .int .i64 m ∧ v = .int .u32 V ∧ V < 4294967296 ∧ m + bits2 V = 32 * k + bits2 xs[k] ∧ m ≤ 32 * k + 32) (fun _ v => (intOf v).toNat)
    case atStart => exact ⟨k * 32, xs[k], int_num (by omega), rfl, hlt, by omega, by omega⟩
    case round =>
      obtain ⟨m, V, rfl, rfl, hV, hm, hm2⟩ := hrel
      have HM := Lib.hid hm
      clear hm
      by_cases hV0 : V = 0
      · subst hV0
        go_wp2_with fail
        go_ret
        exact ⟨ret_int (by rw [HT.out]; have := HM.out; rw [bits2_zero] at this; omega), rfl⟩
      · have hV1 : (0 : Int) < V := by omega
        have hbv := bits2_half hV0
        have hbx : bits2 xs[k] ≤ 32 := by rw [bits2_le]; simpa using hlt
        have hmm : m + 1 ≤ 32 * k + 32 := by have := HM.out; omega
        have HB := Lib.hid hbv
        clear hbv hV0 hbx hm2
        go_wp2_with fail
        go_round
        case rel => exact ⟨m + 1, V / 2, by go_num, int_num (by omega), by omega, by have := HM.out; have := HB.out; omega, by omega⟩
        case measure => simp [intOf]; omega

/-- subtract after j limbs: the carry of the product and the borrow -/
def SbInv (U V : List Nat) (f j C B : Nat) (O : List Nat) : Prop :=
  O.length = U.length ∧ U32 O ∧ C < 4294967296 ∧ B ≤ 1 ∧ (∀ k (h : k < O.length) (h2 : k < U.length), j ≤ k → O[k] = U[k]) ∧ nv (O.take j) + f * nv (V.take j) = nv (U.take j) + pw j * (C + B)
set_option maxRecDepth 100000 in
theorem SbInv.start {U : List Nat} (V : List Nat) (f : Nat) (h : U32 U) : SbInv U V f 0 0 0 U := ⟨rfl, h, by omega, by omega, fun _ _ _ _ => rfl, by simp [nv_nil]⟩
set_option maxRecDepth 100000 in
theorem sb_bound {f x C : Nat} (hf : f < 4294967296) (hx : x < 4294967296) (hC : C < 4294967296) : C + f * x < 18446744073709551616 ∧ (C + f * x) / 4294967296 < 4294967296 := by
  have h1 : f * x ≤ 4294967295 * 4294967295 := Nat.mul_le_mul (by omega) (by omega)
  omega
set_option maxRecDepth 100000 in
theorem SbInv.step {U V O : List Nat} {f j C B : Nat} (h : SbInv U V f j C B O) (hf : f < 4294967296) (hV : U32 V) (hj : j < V.length) (hO : j < O.length) (x B' : Nat) (hx : x < 4294967296) (hB : B' ≤ 1)
    (hs : x + (C + f * V[j]) % 4294967296 + B = O[j] + 4294967296 * B') : SbInv U V f (j + 1) ((C + f * V[j]) / 4294967296) B' (O.set j x) := by
  obtain ⟨h1, h2, h3, h4, h5, h6⟩ := h
  have b := sb_bound hf (hV.at j hj) h3
  refine ⟨by simpa using h1, h2.set _ hx, b.2, hB, ?_, ?_⟩
  · intro k hk hk2 hle
    rw [List.getElem_set_ne (by omega)]
    exact h5 k (by simpa using hk) hk2 (by omega)
  · have e := h5 j hO (by omega) (Nat.le_refl _)
    rw [nv_take_succ V j hj, nv_take_succ U j (by omega), nv_take_succ _ j (by simpa using hO), pw_succ, ← e]
    have e2 : (O.set j x).take j = O.take j := by rw [List.take_set_of_le (Nat.le_refl _)]
    rw [e2, List.getElem_set_self]
    have hd := Nat.div_add_mod (C + f * V[j]) 4294967296
    grind
/-- restore after j limbs -/
def RsInv (U V : List Nat) (j C : Nat) (O : List Nat) : Prop :=
  O.length = U.length ∧ U32 O ∧ C ≤ 1 ∧ (∀ k (h : k < O.length) (h2 : k < U.length), j ≤ k → O[k] = U[k]) ∧ nv (O.take j) + pw j * C = nv (U.take j) + nv (V.take j)
set_option maxRecDepth 100000 in
theorem RsInv.start {U : List Nat} (V : List Nat) (h : U32 U) : RsInv U V 0 0 U := ⟨rfl, h, by omega, fun _ _ _ _ => rfl, by simp [nv_nil]⟩
set_option maxRecDepth 100000 in
theorem RsInv.step {U V O : List Nat} {j C : Nat} (h : RsInv U V j C O) (hV : U32 V) (hj : j < V.length) (hO : j < O.length) :
    RsInv U V (j + 1) ((C + (O[j] + V[j])) / 4294967296) (O.set j ((C + (O[j] + V[j])) % 4294967296)) := by
  obtain ⟨h1, h2, h3, h5, h6⟩ := h
  have b1 := h2.at j hO
  have b2 := hV.at j hj
  refine ⟨by simpa using h1, h2.set _ (by omega), by omega, ?_, ?_⟩
  · intro k hk hk2 hle
    rw [List.getElem_set_ne (by omega)]
    exact h5 k (by simpa using hk) hk2 (by omega)
  · have e := h5 j hO (by omega) (Nat.le_refl _)
    rw [nv_take_succ V j hj, nv_take_succ U j (by omega), nv_take_succ _ j (by simpa using hO), pw_succ, ← e]
    have e2 : (O.set j ((C + (O[j] + V[j])) % 4294967296)).take j = O.take j := by rw [List.take_set_of_le (Nat.le_refl _)]
    rw [e2, List.getElem_set_self]
    have hd := Nat.div_add_mod (C + (O[j] + V[j])) 4294967296
    grind
end Go.Proofs.Ythdfflbhogfejaa
namespace Go.Proofs.Ythdfflbhogfejaa

set_option maxRecDepth 100000 in
theorem bits2_lim (n k : Nat) : bits2 n ≤ 32 * k ↔ (lim n).length ≤ k := by rw [bits2_le, lim_length_le, pw_two]
/-- a number with its sign -/
def sg (b : Bool) (n : Nat) : Int := if b then -(n : Int) else n
/-- the value of a fraction -/
def qv (b : Bool) (n d : Nat) : Rat := mkRat (sg b n) d
set_option maxRecDepth 100000 in
theorem sg_natAbs (b : Bool) (n : Nat) : (sg b n).natAbs = n := by cases b <;> simp [sg]
set_option maxRecDepth 100000 in
theorem sg_zero (b : Bool) : sg b 0 = 0 := by cases b <;> simp [sg]
set_option maxRecDepth 100000 in
theorem sg_neg (b : Bool) (n : Nat) : sg (!b) n = - sg b n := by cases b <;> simp [sg]
set_option maxRecDepth 100000 in
theorem sg_eq_zero {b : Bool} {n : Nat} : sg b n = 0 ↔ n = 0 := by cases b <;> simp [sg]
set_option maxRecDepth 100000 in
theorem sg_lt (b : Bool) (n : Nat) : decide (sg b n < 0) = (b && decide (n ≠ 0)) := by
  cases b
  · simp [sg]
  · simp only [sg, if_true, Bool.true_and, decide_eq_decide]; omega
set_option maxRecDepth 100000 in
theorem sg_div {b : Bool} {n g : Nat} (h : g ∣ n) : sg b n / (g : Int) = sg b (n / g) := by
  obtain ⟨k, rfl⟩ := h
  rcases Nat.eq_zero_or_pos g with h0 | h0
  · subst h0; simp [sg]
  · rw [Nat.mul_div_cancel_left _ h0]
    cases b
    · simp only [sg]
      rw [Int.natCast_mul]
      exact Int.mul_ediv_cancel_left _ (by omega)
    · simp only [sg, if_true]
      rw [Int.natCast_mul, ← Int.mul_neg]
      exact Int.mul_ediv_cancel_left _ (by omega)
set_option maxRecDepth 100000 in
theorem sg_mul (a b : Bool) (m n : Nat) : sg a m * sg b n = sg (a != b) (m * n) := by
  cases a <;> cases b <;> simp [sg, Int.neg_mul, Int.mul_neg]
set_option maxRecDepth 100000 in
theorem sg_add (b : Bool) (m n : Nat) : sg b m + sg b n = sg b (m + n) := by cases b <;> simp [sg]; omega
set_option maxRecDepth 100000 in
theorem sg_sub {a b : Bool} (h : a ≠ b) {m n : Nat} (hle : n ≤ m) : sg a m + sg b n = sg a (m - n) := by
  cases a <;> cases b <;> simp [sg] at * <;> omega
set_option maxRecDepth 100000 in
theorem qv_num {b : Bool} {n d : Nat} (hd : d ≠ 0) : (qv b n d).num = sg b (n / Nat.gcd n d) := by
  rw [qv, Rat.num_mkRat, if_neg hd, sg_natAbs, Nat.gcd_comm, sg_div (Nat.gcd_dvd_left n d)]
set_option maxRecDepth 100000 in
theorem qv_abs {b : Bool} {n d : Nat} (hd : d ≠ 0) : (qv b n d).num.natAbs = n / Nat.gcd n d := by rw [qv_num hd, sg_natAbs]
set_option maxRecDepth 100000 in
theorem qv_den {b : Bool} {n d : Nat} (hd : d ≠ 0) : (qv b n d).den = d / Nat.gcd n d := by
  rw [qv, Rat.den_mkRat, if_neg hd, sg_natAbs, Nat.gcd_comm]
set_option maxRecDepth 100000 in
theorem qv_neg' {b : Bool} {n d : Nat} (hd : d ≠ 0) : decide ((qv b n d).num < 0) = (b && decide (n / Nat.gcd n d ≠ 0)) := by rw [qv_num hd, sg_lt]
/-- too many limbs -/
def bigQ (q : Rat) : Prop := 128 < (lim q.num.natAbs).length ∨ 128 < (lim q.den).length
instance (q : Rat) : Decidable (bigQ q) := inferInstanceAs (Decidable (_ ∨ _))
/-- the fraction of a rational number, and the error -/
def frS (q : Rat) : Bool × List Nat × List Nat × Int := if bigQ q then (false, [], [], 2) else (decide (q.num < 0), lim q.num.natAbs, lim q.den, 0)
/-- a fraction that may be an argument -/
def Vf (n d : Nat) : Prop := d ≠ 0 ∧ (lim d).length ≤ 128 ∧ (lim n).length ≤ 128
instance (n d : Nat) : Decidable (Vf n d) := inferInstanceAs (Decidable (_ ∧ _))
set_option maxRecDepth 100000 in
theorem qv_opp (b : Bool) (n d : Nat) : qv (!b) n d = - qv b n d := by rw [qv, qv, sg_neg, Rat.neg_mkRat]
set_option maxRecDepth 100000 in
theorem qv_add_same {b : Bool} {n d n' d' : Nat} (h : d ≠ 0) (h' : d' ≠ 0) : qv b n d + qv b n' d' = qv b (n * d' + n' * d) (d * d') := by
  rw [qv, qv, Rat.mkRat_add_mkRat _ _ h h', qv, ← sg_add]
  congr 1
  cases b <;> simp [sg, Int.natCast_mul, Int.neg_mul]
set_option maxRecDepth 100000 in
theorem sg_mulr (b : Bool) (n d : Nat) : sg b n * (d : Int) = sg b (n * d) := by cases b <;> simp [sg, Int.neg_mul]
set_option maxRecDepth 100000 in
theorem qv_add_ge {b b' : Bool} {n d n' d' : Nat} (h : d ≠ 0) (h' : d' ≠ 0) (hb : b ≠ b') (hle : n' * d ≤ n * d') : qv b n d + qv b' n' d' = qv b (n * d' - n' * d) (d * d') := by
  rw [qv, qv, Rat.mkRat_add_mkRat _ _ h h', qv, ← sg_sub hb hle, sg_mulr, sg_mulr]
set_option maxRecDepth 100000 in
theorem qv_add_lt {b b' : Bool} {n d n' d' : Nat} (h : d ≠ 0) (h' : d' ≠ 0) (hb : b ≠ b') (hle : n * d' ≤ n' * d) : qv b n d + qv b' n' d' = qv b' (n' * d - n * d') (d * d') := by
  rw [Rat.add_comm, qv_add_ge h' h hb.symm hle, Nat.mul_comm d' d]
set_option maxRecDepth 100000 in
theorem qv_mul (b b' : Bool) (n d n' d' : Nat) : qv b n d * qv b' n' d' = qv (b != b') (n * n') (d * d') := by
  rw [qv, qv, Rat.mkRat_mul_mkRat, qv, sg_mul]
set_option maxRecDepth 100000 in
theorem qv_inv {b : Bool} {n d : Nat} (_hn : n ≠ 0) : (qv b n d)⁻¹ = qv b d n := by
  rw [qv, qv, ← Rat.divInt_ofNat, Rat.inv_divInt, ← Rat.divInt_ofNat]
  cases b
  · simp [sg]
  · simp only [sg, if_true]
    rw [Rat.divInt_neg']
set_option maxRecDepth 100000 in
theorem qv_quo {b b' : Bool} {n d n' d' : Nat} (hn : n' ≠ 0) : qv b n d / qv b' n' d' = qv (b != b') (n * d') (d * n') := by
  rw [Rat.div_def, qv_inv hn, qv_mul]
set_option maxRecDepth 100000 in
theorem qv_zero {b : Bool} {n d : Nat} (hd : d ≠ 0) : qv b n d = 0 ↔ n = 0 := by
  rw [qv, Rat.mkRat_eq_zero hd, sg_eq_zero]
/-- the comparison of rational numbers -/
def cmpQ (p q : Rat) : Int := if p < q then -1 else if q < p then 1 else 0
set_option maxRecDepth 100000 in
theorem qv_lt {b b' : Bool} {n d n' d' : Nat} (h : d ≠ 0) (h' : d' ≠ 0) : qv b n d < qv b' n' d' ↔ sg b (n * d') < sg b' (n' * d) := by
  rw [Rat.lt_iff_sub_pos]
  have e : qv b' n' d' - qv b n d = mkRat (sg b' n' * d - sg b n * d') (d' * d) := by
    rw [qv, qv, ← Rat.divInt_ofNat, ← Rat.divInt_ofNat, Rat.divInt_sub_divInt _ _ (by omega) (by omega), ← Int.natCast_mul, Rat.divInt_ofNat]
  rw [e, sg_mulr, sg_mulr, Rat.lt_iff_le_and_ne, ← Rat.divInt_ofNat]
  have hp : (0 : Int) < ((d' * d : Nat) : Int) := by have := Nat.mul_pos (Nat.pos_of_ne_zero h') (Nat.pos_of_ne_zero h); omega
  rw [Rat.divInt_nonneg_iff_of_pos_right hp, Rat.divInt_ofNat]
  have hne : (0 : Rat) ≠ mkRat (sg b' (n' * d) - sg b (n * d')) (d' * d) ↔ sg b' (n' * d) - sg b (n * d') ≠ 0 := by
    rw [ne_comm]
    exact Rat.mkRat_ne_zero (by have := Nat.mul_pos (Nat.pos_of_ne_zero h') (Nat.pos_of_ne_zero h); omega)
  rw [hne]
  omega
set_option maxRecDepth 100000 in
theorem cmpQ_qv {b b' : Bool} {n d n' d' : Nat} (h : d ≠ 0) (h' : d' ≠ 0) : cmpQ (qv b n d) (qv b' n' d') = if sg b (n * d') < sg b' (n' * d) then -1 else if sg b' (n' * d) < sg b (n * d') then 1 else 0 := by
  unfold cmpQ
  simp only [qv_lt h h', qv_lt h' h]
set_option maxRecDepth 100000 in
/-- what Cmp reckons -/
theorem cmpQ_code {b b' : Bool} {n d n' d' : Nat} (h : d ≠ 0) (h' : d' ≠ 0) :
    cmpQ (qv b n d) (qv b' n' d') = if (b && decide (n ≠ 0)) && (b' && decide (n' ≠ 0)) then - cmp3 (n * d') (n' * d) else if b && decide (n ≠ 0) then -1 else if b' && decide (n' ≠ 0) then 1 else cmp3 (n * d') (n' * d) := by
  rw [cmpQ_qv h h']
  have e1 : n * d' = 0 ↔ n = 0 := by rw [Nat.mul_eq_zero]; omega
  have e2 : n' * d = 0 ↔ n' = 0 := by rw [Nat.mul_eq_zero]; omega
  have hc := Nat.lt_trichotomy (n * d') (n' * d)
  generalize n * d' = x at *
  generalize n' * d = y at *
  unfold cmp3
  cases b <;> cases b' <;> simp only [sg, Bool.false_and, Bool.true_and, Bool.and_false, if_true, if_false, Bool.false_eq_true, decide_eq_true_eq, ne_eq, Bool.and_eq_true] <;> (repeat' split) <;> omega
end Go.Proofs.Ythdfflbhogfejaa
namespace Go.Proofs.Ythdfflbhogfejaa
open Go.RowKit

/-- a fraction: its sign, and where its numbers lie -/
structure Fx where
  b : Bool
  A : Option Addr
  c : Nat
  xs : List Nat
  D : Option Addr
  d : Nat
  ys : List Nat
abbrev Fx.val (x : Fx) : Value := .agg #[.bool x.b, .slice x.A x.xs.length x.c, .slice x.D x.ys.length x.d]
abbrev Fx.cells (x : Fx) : Array Value := #[.bool x.b, .slice x.A x.xs.length x.c, .slice x.D x.ys.length x.d]
/-- the nil fraction -/
abbrev Fx.nil : Fx := ⟨false, none, 0, [], none, 0, []⟩
structure Fx.ok (x : Fx) (w : World) : Prop where
  num : Nt w x.A x.c x.xs
  den : Nt w x.D x.d x.ys
set_option maxRecDepth 100000 in
theorem Fx.ok.below {x : Fx} {w w' : World} (h : x.ok w) (hb : Below w.heap.size w w') : x.ok w' := ⟨h.num.below hb, h.den.below hb⟩
set_option maxRecDepth 100000 in
theorem Fx.nil_ok (w : World) : Fx.nil.ok w := ⟨Nt.nil _ _ _ (by show 0 ≤ _; omega), Nt.nil _ _ _ (by show 0 ≤ _; omega)⟩
def Fx.v (x : Fx) : Prop := Vf (nv x.xs) (nv x.ys)
instance (x : Fx) : Decidable x.v := inferInstanceAs (Decidable (Vf _ _))
def Fx.q (x : Fx) : Rat := qv x.b (nv x.xs) (nv x.ys)
/-- what a call hands back: a fraction and an error -/
def FracRes (w : World) (s : Bool × List Nat × List Nat × Int) (e : Ending) (w' : World) : Prop :=
  ∃ x : Fx, e = .returned (.tuple #[x.val, .int .i64 s.2.2.2]) ∧ (x.b = s.1 ∧ x.xs = s.2.1 ∧ x.ys = s.2.2.1) ∧ x.ok w' ∧ Below w.heap.size w w'
/-- what a call hands back: a fraction -/
def FracNew (w : World) (s : Bool × List Nat × List Nat) (e : Ending) (w' : World) : Prop :=
  ∃ x : Fx, e = .returned x.val ∧ (x.b = s.1 ∧ x.xs = s.2.1 ∧ x.ys = s.2.2) ∧ x.ok w' ∧ Below w.heap.size w w'
end Go.Proofs.Ythdfflbhogfejaa
