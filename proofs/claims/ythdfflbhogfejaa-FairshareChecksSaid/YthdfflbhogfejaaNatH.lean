/- The walks of natural.Bits and of natural.subtract and natural.restore. Fractions as rational numbers. No program in sight. Fractions as the program holds them. The walk of natural.Mul. The walks of natural.subtract and natural.restore. -/
import Derived.Test.YthdfflbhogfejaaNatC
namespace Go.Proofs.Ythdfflbhogfejaa
set_option maxRecDepth 100000
open Go.RowKit

/-- the number of binary digits -/
def bits2 (n : Nat) : Nat := if n = 0 then 0 else Nat.log2 n + 1
theorem bits2_zero : bits2 0 = 0 := rfl
theorem bits2_half {v : Nat} (h : v ≠ 0) : bits2 v = bits2 (v / 2) + 1 := by
  unfold bits2
  rw [if_neg h]
  by_cases h2 : v / 2 = 0
  · rw [if_pos h2]
    have : v = 1 := by omega
    subst this; rfl
  · rw [if_neg h2]
    rw [Nat.log2_def v, if_pos (by omega)]
theorem bits2_le (n k : Nat) : bits2 n ≤ k ↔ n < 2 ^ k := by
  unfold bits2
  by_cases h : n = 0
  · subst h; simp [Nat.pow_pos]
  · rw [if_neg h]
    have := Nat.log2_lt (k := k) h
    omega
theorem bits2_mul (n s : Nat) (h : n ≠ 0) : bits2 (n * 2 ^ s) = bits2 n + s := by
  have hne : n * 2 ^ s ≠ 0 := Nat.mul_ne_zero h (Nat.pos_iff_ne_zero.1 (Nat.pow_pos (by omega)))
  apply Nat.le_antisymm
  · rw [bits2_le, Nat.pow_add]
    exact Nat.mul_lt_mul_of_pos_right ((bits2_le n _).1 (Nat.le_refl _)) (Nat.pow_pos (by omega))
  · rcases Nat.lt_or_ge (bits2 (n * 2 ^ s)) (bits2 n + s) with h1 | h1
    · exfalso
      have hb : 0 < bits2 n := by unfold bits2; rw [if_neg h]; omega
      have h2 : bits2 (n * 2 ^ s) ≤ (bits2 n - 1) + s := by omega
      rw [bits2_le, Nat.pow_add] at h2
      have h3 := Nat.lt_of_mul_lt_mul_right h2
      have h4 := (bits2_le n (bits2 n - 1)).2 h3
      omega
    · exact h1
/-- the digits of a number are those of its greatest limb and 32 for each other limb -/
theorem bits2_top {xs : List Nat} (hu : U32 xs) (k : Nat) (hk : k + 1 = xs.length) (h : xs[k] ≠ 0) : bits2 (nv xs) = 32 * k + bits2 xs[k] := by
  have h1 := nv_at xs k (by omega)
  rw [List.drop_eq_nil_of_le (by omega), nv_nil, Nat.mul_zero, Nat.add_zero] at h1
  have h2 := nv_lt (hu.take k)
  rw [List.length_take, Nat.min_eq_left (by omega)] at h2
  have hpw : pw k = 2 ^ (32 * k) := by unfold pw; rw [Nat.pow_mul]
  apply Nat.le_antisymm
  · rw [bits2_le, h1, Nat.pow_add, ← hpw]
    have h3 := (bits2_le xs[k] _).1 (Nat.le_refl _)
    have h4 : pw k * (xs[k] + 1) ≤ pw k * 2 ^ bits2 xs[k] := Nat.mul_le_mul_left _ h3
    rw [Nat.mul_add] at h4
    omega
  · rcases Nat.lt_or_ge (bits2 (nv xs)) (32 * k + bits2 xs[k]) with h5 | h5
    · exfalso
      have hb : 0 < bits2 xs[k] := by unfold bits2; rw [if_neg h]; omega
      have h6 : bits2 (nv xs) ≤ 32 * k + (bits2 xs[k] - 1) := by omega
      rw [bits2_le, Nat.pow_add, ← hpw] at h6
      have h7 : pw k * xs[k] < pw k * 2 ^ (bits2 xs[k] - 1) := by omega
      have h8 := Nat.lt_of_mul_lt_mul_left h7
      have h9 := (bits2_le xs[k] (bits2 xs[k] - 1)).2 h8
      omega
    · exact h5

theorem pw_two (k : Nat) : pw k = 2 ^ (32 * k) := by unfold pw; rw [Nat.pow_mul]
set_option maxHeartbeats 400000 in
theorem bits_any (w : World) (A : Option Addr) (c n : Nat) (xs : List Nat) (h : Nt w A c xs) (hn : n = xs.length) (hl : xs.length ≤ 1000000) :
    Calls Try.prog 66 #[.slice A n c] w fun e w' => e = .returned (.int .i64 (bits2 (nv xs))) ∧ w = w' := by
  subst hn
  have hk := h.lim
  have h3 := lim_length_le_length h.u
  by_cases h0 : nv xs = 0
  · have hz : (lim (nv xs)).length = 0 := by rw [h0, lim_zero]; rfl
    have H0 := Lib.hid h0
    have hz1 : (((lim (nv xs)).length : Int) == 0) = true := by simp [hz]
    clear hz h0
    go_enter Try.func66, Try.ntmps66
    go_wp2_with fail
    refine (length_any w A c _ xs h rfl).mono ?_
    rintro e w' ⟨rfl, rfl⟩
    go_wp2_with fail
    go_ret
    exact ⟨ret_int (by rw [H0.out]; rfl), rfl⟩
  · have hp := lim_length_pos.2 h0
    obtain ⟨k, hk1⟩ : ∃ k, k + 1 = (lim (nv xs)).length := ⟨(lim (nv xs)).length - 1, by omega⟩
    have htop := bits2_top (lim_u32 (nv xs)) k hk1 (lim_last _ k hk1)
    rw [nv_lim] at htop
    have hz1 : (((lim (nv xs)).length : Int) == 0) = false := beq_eq_false_iff_ne.2 (by omega)
    have hkx : k < xs.length := by omega
    have hlx := lim_at h.u k (by omega)
    rw [hlx] at htop
    have HT : Hid (bits2 (nv xs) = 32 * k + bits2 (xs[k]'hkx)) := htop
    have hcall := length_any w A c _ xs h rfl
    rw [← hk1] at hcall
    clear hz1
    have hz1 : (((k : Int) + 1) == 0) = false := beq_eq_false_iff_ne.2 (by omega)
    have HF := Lib.hid hcall
    obtain ⟨ad, rfl, hb, hc, hlt⟩ := h.at k hkx
    have hk2 : k ≤ 1000000 := by omega
    clear hlx htop hcall h hk h0 hp h3 hk1
    go_enter Try.func66, Try.ntmps66
    go_wp2_with fail
    refine HF.out.mono ?_
    rintro e w' ⟨rfl, rfl⟩
    go_wp2_with fail
    go_loop [4, 5] (fun kk v => ∃ (m V : Nat), kk = .int .i64 m ∧ v = .int .u32 V ∧ V < 4294967296 ∧ m + bits2 V = 32 * k + bits2 xs[k] ∧ m ≤ 32 * k + 32) (fun _ v => (intOf v).toNat)
    case atStart => exact ⟨k * 32, xs[k], int_num (by omega), rfl, hlt, by omega, by omega⟩
    case round =>
      obtain ⟨m, V, rfl, rfl, hV, hm, hm2⟩ := hrel
      have HM := Lib.hid hm
      clear hm
      by_cases hV0 : V = 0
      · subst hV0
        go_wp2_with fail
        go_ret
        exact ⟨ret_int (by rw [HT.out]; have := HM.out; rw [bits2_zero] at this; omega), rfl⟩
      · have hV1 : (0 : Int) < V := by omega
        have hbv := bits2_half hV0
        have hbx : bits2 xs[k] ≤ 32 := by rw [bits2_le]; simpa using hlt
        have hmm : m + 1 ≤ 32 * k + 32 := by have := HM.out; omega
        have HB := Lib.hid hbv
        clear hbv hV0 hbx hm2
        go_wp2_with fail
        go_round
        case rel => exact ⟨m + 1, V / 2, by go_num, int_num (by omega), by omega, by have := HM.out; have := HB.out; omega, by omega⟩
        case measure => simp [intOf]; omega

/-- subtract after j limbs: the carry of the product and the borrow -/
def SbInv (U V : List Nat) (f j C B : Nat) (O : List Nat) : Prop :=
  O.length = U.length ∧ U32 O ∧ C < 4294967296 ∧ B ≤ 1 ∧ (∀ k (h : k < O.length) (h2 : k < U.length), j ≤ k → O[k] = U[k]) ∧ nv (O.take j) + f * nv (V.take j) = nv (U.take j) + pw j * (C + B)
theorem SbInv.start {U : List Nat} (V : List Nat) (f : Nat) (h : U32 U) : SbInv U V f 0 0 0 U := ⟨rfl, h, by omega, by omega, fun _ _ _ _ => rfl, by simp [nv_nil]⟩
theorem sb_bound {f x C : Nat} (hf : f < 4294967296) (hx : x < 4294967296) (hC : C < 4294967296) : C + f * x < 18446744073709551616 ∧ (C + f * x) / 4294967296 < 4294967296 := by
  have h1 : f * x ≤ 4294967295 * 4294967295 := Nat.mul_le_mul (by omega) (by omega)
  omega
theorem SbInv.step {U V O : List Nat} {f j C B : Nat} (h : SbInv U V f j C B O) (hf : f < 4294967296) (hV : U32 V) (hj : j < V.length) (hO : j < O.length) (x B' : Nat) (hx : x < 4294967296) (hB : B' ≤ 1)
    (hs : x + (C + f * V[j]) % 4294967296 + B = O[j] + 4294967296 * B') : SbInv U V f (j + 1) ((C + f * V[j]) / 4294967296) B' (O.set j x) := by
  obtain ⟨h1, h2, h3, h4, h5, h6⟩ := h
  have b := sb_bound hf (hV.at j hj) h3
  refine ⟨by simpa using h1, h2.set _ hx, b.2, hB, ?_, ?_⟩
  · intro k hk hk2 hle
    rw [List.getElem_set_ne (by omega)]
    exact h5 k (by simpa using hk) hk2 (by omega)
  · have e := h5 j hO (by omega) (Nat.le_refl _)
    rw [nv_take_succ V j hj, nv_take_succ U j (by omega), nv_take_succ _ j (by simpa using hO), pw_succ, ← e]
    have e2 : (O.set j x).take j = O.take j := by rw [List.take_set_of_le (Nat.le_refl _)]
    rw [e2, List.getElem_set_self]
    have hd := Nat.div_add_mod (C + f * V[j]) 4294967296
    grind
/-- restore after j limbs -/
def RsInv (U V : List Nat) (j C : Nat) (O : List Nat) : Prop :=
  O.length = U.length ∧ U32 O ∧ C ≤ 1 ∧ (∀ k (h : k < O.length) (h2 : k < U.length), j ≤ k → O[k] = U[k]) ∧ nv (O.take j) + pw j * C = nv (U.take j) + nv (V.take j)
theorem RsInv.start {U : List Nat} (V : List Nat) (h : U32 U) : RsInv U V 0 0 U := ⟨rfl, h, by omega, fun _ _ _ _ => rfl, by simp [nv_nil]⟩
theorem RsInv.step {U V O : List Nat} {j C : Nat} (h : RsInv U V j C O) (hV : U32 V) (hj : j < V.length) (hO : j < O.length) :
    RsInv U V (j + 1) ((C + (O[j] + V[j])) / 4294967296) (O.set j ((C + (O[j] + V[j])) % 4294967296)) := by
  obtain ⟨h1, h2, h3, h5, h6⟩ := h
  have b1 := h2.at j hO
  have b2 := hV.at j hj
  refine ⟨by simpa using h1, h2.set _ (by omega), by omega, ?_, ?_⟩
  · intro k hk hk2 hle
    rw [List.getElem_set_ne (by omega)]
    exact h5 k (by simpa using hk) hk2 (by omega)
  · have e := h5 j hO (by omega) (Nat.le_refl _)
    rw [nv_take_succ V j hj, nv_take_succ U j (by omega), nv_take_succ _ j (by simpa using hO), pw_succ, ← e]
    have e2 : (O.set j ((C + (O[j] + V[j])) % 4294967296)).take j = O.take j := by rw [List.take_set_of_le (Nat.le_refl _)]
    rw [e2, List.getElem_set_self]
    have hd := Nat.div_add_mod (C + (O[j] + V[j])) 4294967296
    grind
end Go.Proofs.Ythdfflbhogfejaa
namespace Go.Proofs.Ythdfflbhogfejaa
set_option maxRecDepth 100000

theorem bits2_lim (n k : Nat) : bits2 n ≤ 32 * k ↔ (lim n).length ≤ k := by rw [bits2_le, lim_length_le, pw_two]
/-- a number with its sign -/
def sg (b : Bool) (n : Nat) : Int := if b then -(n : Int) else n
/-- the value of a fraction -/
def qv (b : Bool) (n d : Nat) : Rat := mkRat (sg b n) d
theorem sg_natAbs (b : Bool) (n : Nat) : (sg b n).natAbs = n := by cases b <;> simp [sg]
theorem sg_neg (b : Bool) (n : Nat) : sg (!b) n = - sg b n := by cases b <;> simp [sg]
theorem sg_eq_zero {b : Bool} {n : Nat} : sg b n = 0 ↔ n = 0 := by cases b <;> simp [sg]
theorem sg_lt (b : Bool) (n : Nat) : decide (sg b n < 0) = (b && decide (n ≠ 0)) := by
  cases b
  · simp [sg]
  · simp only [sg, if_true, Bool.true_and, decide_eq_decide]; omega
theorem sg_div {b : Bool} {n g : Nat} (h : g ∣ n) : sg b n / (g : Int) = sg b (n / g) := by
  obtain ⟨k, rfl⟩ := h
  rcases Nat.eq_zero_or_pos g with h0 | h0
  · subst h0; simp [sg]
  · rw [Nat.mul_div_cancel_left _ h0]
    cases b
    · simp only [sg]
      rw [Int.natCast_mul]
      exact Int.mul_ediv_cancel_left _ (by omega)
    · simp only [sg, if_true]
      rw [Int.natCast_mul, ← Int.mul_neg]
      exact Int.mul_ediv_cancel_left _ (by omega)
theorem sg_mul (a b : Bool) (m n : Nat) : sg a m * sg b n = sg (a != b) (m * n) := by
  cases a <;> cases b <;> simp [sg, Int.neg_mul, Int.mul_neg]
theorem sg_add (b : Bool) (m n : Nat) : sg b m + sg b n = sg b (m + n) := by cases b <;> simp [sg]; omega
theorem sg_sub {a b : Bool} (h : a ≠ b) {m n : Nat} (hle : n ≤ m) : sg a m + sg b n = sg a (m - n) := by
  cases a <;> cases b <;> simp [sg] at * <;> omega
theorem qv_num {b : Bool} {n d : Nat} (hd : d ≠ 0) : (qv b n d).num = sg b (n / Nat.gcd n d) := by
  rw [qv, Rat.num_mkRat, if_neg hd, sg_natAbs, Nat.gcd_comm, sg_div (Nat.gcd_dvd_left n d)]
theorem qv_abs {b : Bool} {n d : Nat} (hd : d ≠ 0) : (qv b n d).num.natAbs = n / Nat.gcd n d := by rw [qv_num hd, sg_natAbs]
theorem qv_den {b : Bool} {n d : Nat} (hd : d ≠ 0) : (qv b n d).den = d / Nat.gcd n d := by
  rw [qv, Rat.den_mkRat, if_neg hd, sg_natAbs, Nat.gcd_comm]
theorem qv_neg' {b : Bool} {n d : Nat} (hd : d ≠ 0) : decide ((qv b n d).num < 0) = (b && decide (n / Nat.gcd n d ≠ 0)) := by rw [qv_num hd, sg_lt]
/-- too many limbs -/
def bigQ (q : Rat) : Prop := 128 < (lim q.num.natAbs).length ∨ 128 < (lim q.den).length
instance (q : Rat) : Decidable (bigQ q) := inferInstanceAs (Decidable (_ ∨ _))
/-- the fraction of a rational number, and the error -/
def frS (q : Rat) : Bool × List Nat × List Nat × Int := if bigQ q then (false, [], [], 2) else (decide (q.num < 0), lim q.num.natAbs, lim q.den, 0)
/-- a fraction that may be an argument -/
def Vf (n d : Nat) : Prop := d ≠ 0 ∧ (lim d).length ≤ 128 ∧ (lim n).length ≤ 128
instance (n d : Nat) : Decidable (Vf n d) := inferInstanceAs (Decidable (_ ∧ _))
theorem qv_opp (b : Bool) (n d : Nat) : qv (!b) n d = - qv b n d := by rw [qv, qv, sg_neg, Rat.neg_mkRat]
theorem qv_add_same {b : Bool} {n d n' d' : Nat} (h : d ≠ 0) (h' : d' ≠ 0) : qv b n d + qv b n' d' = qv b (n * d' + n' * d) (d * d') := by
  rw [qv, qv, Rat.mkRat_add_mkRat _ _ h h', qv, ← sg_add]
  congr 1
  cases b <;> simp [sg, Int.natCast_mul, Int.neg_mul]
theorem sg_mulr (b : Bool) (n d : Nat) : sg b n * (d : Int) = sg b (n * d) := by cases b <;> simp [sg, Int.neg_mul]
theorem qv_add_ge {b b' : Bool} {n d n' d' : Nat} (h : d ≠ 0) (h' : d' ≠ 0) (hb : b ≠ b') (hle : n' * d ≤ n * d') : qv b n d + qv b' n' d' = qv b (n * d' - n' * d) (d * d') := by
  rw [qv, qv, Rat.mkRat_add_mkRat _ _ h h', qv, ← sg_sub hb hle, sg_mulr, sg_mulr]
theorem qv_add_lt {b b' : Bool} {n d n' d' : Nat} (h : d ≠ 0) (h' : d' ≠ 0) (hb : b ≠ b') (hle : n * d' ≤ n' * d) : qv b n d + qv b' n' d' = qv b' (n' * d - n * d') (d * d') := by
  rw [Rat.add_comm, qv_add_ge h' h hb.symm hle, Nat.mul_comm d' d]
theorem qv_mul (b b' : Bool) (n d n' d' : Nat) : qv b n d * qv b' n' d' = qv (b != b') (n * n') (d * d') := by
  rw [qv, qv, Rat.mkRat_mul_mkRat, qv, sg_mul]
theorem qv_inv {b : Bool} {n d : Nat} (_hn : n ≠ 0) : (qv b n d)⁻¹ = qv b d n := by
  rw [qv, qv, ← Rat.divInt_ofNat, Rat.inv_divInt, ← Rat.divInt_ofNat]
  cases b
  · simp [sg]
  · simp only [sg, if_true]
    rw [Rat.divInt_neg']
theorem qv_quo {b b' : Bool} {n d n' d' : Nat} (hn : n' ≠ 0) : qv b n d / qv b' n' d' = qv (b != b') (n * d') (d * n') := by
  rw [Rat.div_def, qv_inv hn, qv_mul]
theorem qv_zero {b : Bool} {n d : Nat} (hd : d ≠ 0) : qv b n d = 0 ↔ n = 0 := by
  rw [qv, Rat.mkRat_eq_zero hd, sg_eq_zero]
/-- the comparison of rational numbers -/
def cmpQ (p q : Rat) : Int := if p < q then -1 else if q < p then 1 else 0
theorem qv_lt {b b' : Bool} {n d n' d' : Nat} (h : d ≠ 0) (h' : d' ≠ 0) : qv b n d < qv b' n' d' ↔ sg b (n * d') < sg b' (n' * d) := by
  rw [Rat.lt_iff_sub_pos]
  have e : qv b' n' d' - qv b n d = mkRat (sg b' n' * d - sg b n * d') (d' * d) := by
    rw [qv, qv, ← Rat.divInt_ofNat, ← Rat.divInt_ofNat, Rat.divInt_sub_divInt _ _ (by omega) (by omega), ← Int.natCast_mul, Rat.divInt_ofNat]
  rw [e, sg_mulr, sg_mulr, Rat.lt_iff_le_and_ne, ← Rat.divInt_ofNat]
  have hp : (0 : Int) < ((d' * d : Nat) : Int) := by have := Nat.mul_pos (Nat.pos_of_ne_zero h') (Nat.pos_of_ne_zero h); omega
  rw [Rat.divInt_nonneg_iff_of_pos_right hp, Rat.divInt_ofNat]
  have hne : (0 : Rat) ≠ mkRat (sg b' (n' * d) - sg b (n * d')) (d' * d) ↔ sg b' (n' * d) - sg b (n * d') ≠ 0 := by
    rw [ne_comm]
    exact Rat.mkRat_ne_zero (by have := Nat.mul_pos (Nat.pos_of_ne_zero h') (Nat.pos_of_ne_zero h); omega)
  rw [hne]
  omega
theorem cmpQ_qv {b b' : Bool} {n d n' d' : Nat} (h : d ≠ 0) (h' : d' ≠ 0) : cmpQ (qv b n d) (qv b' n' d') = if sg b (n * d') < sg b' (n' * d) then -1 else if sg b' (n' * d) < sg b (n * d') then 1 else 0 := by
  unfold cmpQ
  simp only [qv_lt h h', qv_lt h' h]
/-- what Cmp reckons -/
theorem cmpQ_code {b b' : Bool} {n d n' d' : Nat} (h : d ≠ 0) (h' : d' ≠ 0) :
    cmpQ (qv b n d) (qv b' n' d') = if (b && decide (n ≠ 0)) && (b' && decide (n' ≠ 0)) then - cmp3 (n * d') (n' * d) else if b && decide (n ≠ 0) then -1 else if b' && decide (n' ≠ 0) then 1 else cmp3 (n * d') (n' * d) := by
  rw [cmpQ_qv h h']
  have e1 : n * d' = 0 ↔ n = 0 := by rw [Nat.mul_eq_zero]; omega
  have e2 : n' * d = 0 ↔ n' = 0 := by rw [Nat.mul_eq_zero]; omega
  have hc := Nat.lt_trichotomy (n * d') (n' * d)
  generalize n * d' = x at *
  generalize n' * d = y at *
  unfold cmp3
  cases b <;> cases b' <;> simp only [sg, Bool.false_and, Bool.true_and, Bool.and_false, if_true, if_false, Bool.false_eq_true, decide_eq_true_eq, ne_eq, Bool.and_eq_true] <;> (repeat' split) <;> omega
end Go.Proofs.Ythdfflbhogfejaa
namespace Go.Proofs.Ythdfflbhogfejaa
set_option maxRecDepth 100000
open Go.RowKit

/-- a fraction: its sign, and where its numbers lie -/
structure Fx where
  b : Bool
  A : Option Addr
  c : Nat
  xs : List Nat
  D : Option Addr
  d : Nat
  ys : List Nat
abbrev Fx.val (x : Fx) : Value := .agg #[.bool x.b, .slice x.A x.xs.length x.c, .slice x.D x.ys.length x.d]
abbrev Fx.cells (x : Fx) : Array Value := #[.bool x.b, .slice x.A x.xs.length x.c, .slice x.D x.ys.length x.d]
/-- the nil fraction -/
abbrev Fx.nil : Fx := ⟨false, none, 0, [], none, 0, []⟩
structure Fx.ok (x : Fx) (w : World) : Prop where
  num : Nt w x.A x.c x.xs
  den : Nt w x.D x.d x.ys
theorem Fx.ok.below {x : Fx} {w w' : World} (h : x.ok w) (hb : Below w.heap.size w w') : x.ok w' := ⟨h.num.below hb, h.den.below hb⟩
theorem Fx.nil_ok (w : World) : Fx.nil.ok w := ⟨Nt.nil _ _ _ (by show 0 ≤ _; omega), Nt.nil _ _ _ (by show 0 ≤ _; omega)⟩
def Fx.v (x : Fx) : Prop := Vf (nv x.xs) (nv x.ys)
instance (x : Fx) : Decidable x.v := inferInstanceAs (Decidable (Vf _ _))
def Fx.q (x : Fx) : Rat := qv x.b (nv x.xs) (nv x.ys)
/-- what a call hands back: a fraction and an error -/
def FracRes (w : World) (s : Bool × List Nat × List Nat × Int) (e : Ending) (w' : World) : Prop :=
  ∃ x : Fx, e = .returned (.tuple #[x.val, .int .i64 s.2.2.2]) ∧ (x.b = s.1 ∧ x.xs = s.2.1 ∧ x.ys = s.2.2.1) ∧ x.ok w' ∧ Below w.heap.size w w'
/-- what a call hands back: a fraction -/
def FracNew (w : World) (s : Bool × List Nat × List Nat) (e : Ending) (w' : World) : Prop :=
  ∃ x : Fx, e = .returned x.val ∧ (x.b = s.1 ∧ x.xs = s.2.1 ∧ x.ys = s.2.2) ∧ x.ok w' ∧ Below w.heap.size w w'
end Go.Proofs.Ythdfflbhogfejaa
namespace Go.Proofs.Ythdfflbhogfejaa
set_option maxRecDepth 100000
open Go.RowKit

def mulS (m n : Nat) : List Nat × Int := if 512 < (lim m).length ∨ 512 < (lim n).length then ([], 2) else sizS (m * n)
theorem mulS_big1 {m n : Nat} (h : 512 < (lim m).length) : mulS m n = ([], 2) := by simp [mulS, h]
theorem mulS_big2 {m n : Nat} (h : 512 < (lim n).length) : mulS m n = ([], 2) := by simp [mulS, h]
theorem mulS_ok {m n : Nat} (h : ¬ 512 < (lim m).length) (h2 : ¬ 512 < (lim n).length) : mulS m n = sizS (m * n) := by simp [mulS, h, h2]

/-- Mul after j limbs of the first number -/
def MulInv (X Y : List Nat) (j : Nat) (O : List Nat) : Prop := O.length = X.length + Y.length ∧ U32 O ∧ nv O = nv (X.take j) * nv Y ∧ ∀ k (hk : k < O.length), j + Y.length ≤ k → O[k] = 0
theorem MulInv.start (X Y : List Nat) : MulInv X Y 0 (List.replicate (X.length + Y.length) 0) :=
  ⟨by simp, U32.replicate _, by simp [nv_replicate, nv_nil], by intro k hk _; simp⟩
/-- .. and after i limbs of the second, with the carry -/
def MulIn (X Y : List Nat) (x j i C : Nat) (O : List Nat) : Prop := O.length = X.length + Y.length ∧ U32 O ∧ C < 4294967296 ∧ nv O + pw (j + i) * C = nv (X.take j) * nv Y + pw j * (x * nv (Y.take i)) ∧ ∀ k (hk : k < O.length), j + Y.length ≤ k → O[k] = 0
theorem MulInv.in_ {X Y : List Nat} {j : Nat} {O : List Nat} (h : MulInv X Y j O) (x : Nat) : MulIn X Y x j 0 0 O := by
  obtain ⟨h1, h2, h3, h4⟩ := h
  exact ⟨h1, h2, by omega, by simp [h3, nv_nil], h4⟩
theorem mul_bound {x y z c : Nat} (hx : x < 4294967296) (hy : y < 4294967296) (hz : z < 4294967296) (hc : c < 4294967296) : x * y + z + c < 18446744073709551616 := by
  have h1 : x * y ≤ 4294967295 * 4294967295 := Nat.mul_le_mul (by omega) (by omega)
  omega
theorem MulIn.step {X Y : List Nat} {x j i C : Nat} {O : List Nat} (h : MulIn X Y x j i C O) (hY : U32 Y) (hx : x < 4294967296) (hi : i < Y.length) (_hj : j < X.length) (ho : j + i < O.length) :
    MulIn X Y x j (i + 1) ((C + (x * Y[i] + O[j + i])) / 4294967296) (O.set (j + i) ((C + (x * Y[i] + O[j + i])) % 4294967296)) := by
  obtain ⟨h1, h2, h3, h4, h5⟩ := h
  have b := mul_bound hx (hY.at i hi) (h2.at (j + i) ho) h3
  refine ⟨by simpa using h1, h2.set _ (by omega), by omega, ?_, ?_⟩
  · have hs := nv_set O (j + i) ((C + (x * Y[i] + O[j + i])) % 4294967296) ho
    have hd := Nat.div_add_mod (C + (x * Y[i] + O[j + i])) 4294967296
    rw [nv_take_succ Y i hi, show j + (i + 1) = (j + i) + 1 from by omega, pw_succ]
    have hp := pw_add j i
    grind
  · intro k hk hle
    rw [List.getElem_set_ne (by omega)]
    exact h5 k (by simpa using hk) hle
theorem MulIn.done {X Y : List Nat} {j C : Nat} {O : List Nat} (hj : j < X.length) (h : MulIn X Y X[j] j Y.length C O) : MulInv X Y (j + 1) (O.set (j + Y.length) C) := by
  obtain ⟨h1, h2, h3, h4, h5⟩ := h
  have ho : j + Y.length < O.length := by omega
  refine ⟨by simpa using h1, h2.set _ h3, ?_, ?_⟩
  · have hs := nv_set O (j + Y.length) C ho
    rw [h5 _ ho (Nat.le_refl _)] at hs
    rw [List.take_length] at h4
    rw [nv_take_succ X j hj, Nat.add_mul]
    grind
  · intro k hk hle
    rw [List.getElem_set_ne (by omega)]
    exact h5 k (by simpa using hk) (by omega)

theorem cast_mac (a x y z : Nat) : ((a : Int) + ((x : Int) * y + z)) = ((a + (x * y + z) : Nat) : Int) := by
  rw [Int.natCast_add, Int.natCast_add, Int.natCast_mul]
theorem cast_mac_mod (a x y z : Nat) : ((a : Int) + ((x : Int) * y + z)) % 4294967296 = (((a + (x * y + z)) % 4294967296 : Nat) : Int) := by rw [cast_mac, cast_mod]
theorem cast_mac_div (a x y z : Nat) : ((a : Int) + ((x : Int) * y + z)) / 4294967296 = (((a + (x * y + z)) / 4294967296 : Nat) : Int) := by rw [cast_mac, cast_div]

set_option maxHeartbeats 400000 in
theorem mul_any (w : World) (A D : Option Addr) (c d n m : Nat) (xs ys R : List Nat) (E : Int) (h : Nt w A c xs) (k : Nt w D d ys) (hn : n = xs.length) (hm : m = ys.length) (hr : mulS (nv xs) (nv ys) = (R, E)) :
    Calls Try.prog 100 #[.slice A n c, .slice D m d] w (NatRes w R E) := by
  subst hn hm
  have HR := Lib.hid hr; clear hr
  have h1 := h.lim
  have h2 := lim_length_le_length h.u
  have h3 := h.cap
  have h4 := h.max
  have k1 := k.lim
  have k2 := lim_length_le_length k.u
  have k3 := k.cap
  have k4 := k.max
  obtain ⟨i0, hi, hz0, hz1, hz2⟩ := info_parts u32_info
  by_cases hl : 512 < (lim (nv xs)).length
  · go_enter Try.func100, Try.ntmps100
    go_wp2_with fail
    refine (large_any w A c _ xs true h rfl (by simpa using hl)).mono ?_
    rintro e w' ⟨rfl, rfl⟩
    go_wp2_with fail
    go_ret2
    have e := HR.out
    rw [mulS_big1 hl] at e
    obtain ⟨rfl, rfl⟩ := Prod.mk.inj e
    exact ⟨_, _, rfl, Nt.nil _ _ _ (by omega), Below.refl _ _⟩
  · by_cases hl2 : 512 < (lim (nv ys)).length
    · go_enter Try.func100, Try.ntmps100
      go_wp2_with fail
      refine (large_any w A c _ xs false h rfl (by simpa using hl)).mono ?_
      rintro e w' ⟨rfl, rfl⟩
      go_wp2_with fail
      refine (large_any w D d _ ys true k rfl (by simpa using hl2)).mono ?_
      rintro e w' ⟨rfl, rfl⟩
      go_wp2_with fail
      go_ret2
      have e := HR.out
      rw [mulS_big2 hl2] at e
      obtain ⟨rfl, rfl⟩ := Prod.mk.inj e
      exact ⟨_, _, rfl, Nt.nil _ _ _ (by omega), Below.refl _ _⟩
    · go_enter Try.func100, Try.ntmps100
      go_wp2_with fail
      refine (large_any w A c _ xs false h rfl (by simpa using hl)).mono ?_
      rintro e w' ⟨rfl, rfl⟩
      go_wp2_with fail
      refine (large_any w D d _ ys false k rfl (by simpa using hl2)).mono ?_
      rintro e w' ⟨rfl, rfl⟩
      go_wp2_with fail
      go_quiet ((first | with_reducible exact length_q h | with_reducible exact length_q k))
      have hX := h1.below (below_drewN (Below.refl w.heap.size w) nq)
      have hY := k1.below (below_drewN (Below.refl w.heap.size w) nq)
      have hb0 := below_drewN (Below.refl w.heap.size w) nq
      revert hX hY hb0
      generalize w.drewN nq = w0
      intro hX hY hb0
      have hs0 := hb0.size
      generalize hXe : lim (nv xs) = X at *
      generalize hYe : lim (nv ys) = Y at *
      have HX := Lib.hid hXe
      have HY := Lib.hid hYe
      clear hXe hYe h k h1 k1
      go_wp2_with (refine wpList_make_rd w0 (mk := lmv) 0 rfl _ _ 39 rfl 77 i0 4 Try.underlying39 hi hz0 hz1 hz2 rfl .i64 .i64 _ _ (X.length + Y.length) rfl rfl (by omega) (by omega) (by omega) (by simp only [maxLen]; omega) ?_; intro w1 hg1 hb1 hs1)
      go_loopw [34] (fun i wr => ∃ (j : Nat) (O : List Nat), j ≤ X.length ∧ i = .int .i64 j ∧ MulInv X Y j O ∧ Gr lmv 77 wr w0.heap.size (some ⟨w0.heap.size, 0, none⟩) (X.length + Y.length) O ∧ Below w0.heap.size w0 wr) (fun i _ => X.length - (intOf i).toNat)
      case atStart => exact ⟨0, _, by omega, rfl, MulInv.start _ _, by simpa using hg1, hb1⟩
      case round =>
        obtain ⟨j, O, hj, rfl, hinv, hgr, hbr⟩ := hrel
        have HI := Lib.hid hinv
        have HO := Lib.hid hinv.1
        clear hinv hg1 hb1 hs1
        have hsz := hbr.size
        have HB := Lib.hid hbr
        have HG := Lib.hid hgr
        by_cases hlt : j < X.length
        · obtain ⟨adX, hadX, hbX, hcX, hvX⟩ := (hX.below hbr).at j hlt
          subst hadX
          clear hbr hgr
          go_wp2_with fail
          obtain ⟨w2, hw2⟩ : ∃ w2 : World, w2 = wr := ⟨_, rfl⟩
          rw [← hw2] at HB HG hsz hcX ⊢
          clear hw2
          go_loopw [9, 41] (fun cy i wr => ∃ (m C : Nat) (O : List Nat), m ≤ Y.length ∧ i = .int .i64 m ∧ cy = .int .u64 C ∧ MulIn X Y X[j] j m C O ∧ Gr lmv 77 wr w0.heap.size (some ⟨w0.heap.size, 0, none⟩) (X.length + Y.length) O ∧ Below w0.heap.size w0 wr) (fun _ i _ => Y.length - (intOf i).toNat)
          case atStart => exact ⟨0, 0, O, by omega, rfl, rfl, HI.out.in_ _, HG.out, HB.out⟩
          case round =>
            obtain ⟨m, C, O', hm, rfl, rfl, hinv, hgr, hbr⟩ := hrel
            have HI2 := Lib.hid hinv
            have HO2 := Lib.hid hinv.1
            have hC : C < 4294967296 := hinv.2.2.1
            have hOu := hinv.2.1
            clear hinv
            have hsz2 := hbr.size
            have HB2 := Lib.hid hbr
            have HG2 := Lib.hid hgr
            by_cases hlt2 : m < Y.length
            · obtain ⟨adY, hadY, hbY, hcY, hvY⟩ := (hY.below hbr).at m hlt2
              subst hadY
              have ho : j + m < O'.length := by have := HO2.out; omega
              have hcell := hgr.cell (j + m) ho
              have hfree := hgr.free (j + m)
              have hz := hOu.at (j + m) ho
              have hmul : X[j] * Y[m] + O'[j + m] + C < 18446744073709551616 := mul_bound hvX hvY hz hC
              clear hbr hgr hOu
              go_wp2_with fail
              go_roundw
              case rel => exact ⟨m + 1, _, _, by omega, by go_num, by rw [cast_mac_div], HI2.out.step hY.u hvX hlt2 hlt ho, by rw [cast_mac_mod]; exact HG2.out.store _ _, HB2.out.setCell (Nat.le_refl _) _⟩
              case measure => simp [intOf]; omega
            · obtain rfl : m = Y.length := by omega
              have ho : j + Y.length < O'.length := by have := HO2.out; omega
              have hcell := hgr.cell (j + Y.length) ho
              have hfree := hgr.free (j + Y.length)
              have hYl : Y.length ≤ 512 := by omega
              clear hbr hgr hOu
              go_wp2_with fail
              go_roundw
              case rel => exact ⟨j + 1, _, by omega, by go_num, HI2.out.done hlt, HG2.out.store _ _, HB2.out.setCell (Nat.le_refl _) _⟩
              case measure => simp [intOf]; omega
        · obtain rfl : j = X.length := by omega
          have hXn : nv X = nv xs := by rw [← HX.out, nv_lim]
          have hYn : nv Y = nv ys := by rw [← HY.out, nv_lim]
          have hfin : U32 O ∧ nv O = nv xs * nv ys := ⟨HI.out.2.1, by rw [HI.out.2.2.1, List.take_length, hXn, hYn]⟩
          rw [show X.length + Y.length = O.length from HO.out.symm] at hgr
          have hnt := hgr.nt hfin.1
          have HF := Lib.hid hfin
          rw [show O.length = X.length + Y.length from HO.out] at hnt
          clear hfin hgr hbr hXn hYn
          go_wp2_with fail
          refine (sized_any _ _ _ _ O R E hnt HO.out.symm (by rw [HF.out.2, ← HR.out, mulS_ok (by rw [HX.out]; exact hl) (by rw [HY.out]; exact hl2)])).mono ?_
          rintro e w' ⟨⟨A', c', rfl, hnt'⟩, rfl⟩
          clear hnt
          go_wp2_with fail
          go_ret2
          exact ⟨A', c', rfl, hnt', below_on hb0 HB.out hs0⟩
end Go.Proofs.Ythdfflbhogfejaa
namespace Go.Proofs.Ythdfflbhogfejaa
set_option maxRecDepth 100000
open Go.RowKit

theorem set_mid {P S T : List Nat} {i x : Nat} (h : i < S.length) : (P ++ S ++ T).set (P.length + i) x = P ++ S.set i x ++ T := by
  rw [List.append_assoc, List.set_append_right _ _ (by omega), Nat.add_sub_cancel_left, List.set_append_left _ _ h, List.append_assoc]
theorem get_mid {P S T : List Nat} {i : Nat} (h : i < S.length) (h2 : P.length + i < (P ++ S ++ T).length) : (P ++ S ++ T)[P.length + i] = S[i] := by
  rw [List.getElem_append_left (by simp; omega), List.getElem_append_right (by omega)]
  simp
theorem and_low (C : Nat) (h : C < 18446744073709551616) : bits .and .u64 (C : Int) 4294967295 = ((C % 4294967296 : Nat) : Int) := by
  have h1 := u64_and_nat C 4294967295 h (by omega)
  have h2 : C &&& 4294967295 = C % 4294967296 := Nat.and_two_pow_sub_one_eq_mod C 32
  rw [h2] at h1
  exact h1
theorem SbInv.last {S V O : List Nat} {f n C B : Nat} (h : SbInv S V f n C B O) (hn : n = V.length) (hS : S.length = n + 1) (hnO : n < O.length) (x B' : Nat) (hx : x < 4294967296) (hs : x + C + B = O[n] + 4294967296 * B') :
    (O.set n x).length = n + 1 ∧ U32 (O.set n x) ∧ nv (O.set n x) + f * nv V = nv S + pw (n + 1) * B' := by
  obtain ⟨h1, h2, h3, h4, h5, h6⟩ := h
  subst hn
  have e := h5 V.length hnO (by omega) (Nat.le_refl _)
  rw [List.take_length] at h6
  refine ⟨by simp; omega, h2.set _ hx, ?_⟩
  have e1 := nv_at (O.set V.length x) V.length (by simpa using hnO)
  have e2 := nv_at S V.length (by omega)
  rw [List.drop_eq_nil_of_le (by simp; omega), nv_nil, Nat.mul_zero, Nat.add_zero, List.take_set_of_le (Nat.le_refl _), List.getElem_set_self] at e1
  rw [List.drop_eq_nil_of_le (by omega), nv_nil, Nat.mul_zero, Nat.add_zero, ← e] at e2
  rw [e1, e2, pw_succ]
  grind
theorem RsInv.last {S V O : List Nat} {n C : Nat} (h : RsInv S V n C O) (hn : n = V.length) (hS : S.length = n + 1) (hnO : n < O.length) :
    (O.set n ((O[n] + C) % 4294967296)).length = n + 1 ∧ U32 (O.set n ((O[n] + C) % 4294967296)) ∧ ∃ k, nv (O.set n ((O[n] + C) % 4294967296)) + pw (n + 1) * k = nv S + nv V := by
  obtain ⟨h1, h2, h3, h5, h6⟩ := h
  subst hn
  have e := h5 V.length hnO (by omega) (Nat.le_refl _)
  rw [List.take_length] at h6
  refine ⟨by simp; omega, h2.set _ (by omega), (O[V.length] + C) / 4294967296, ?_⟩
  have e1 := nv_at (O.set V.length ((O[V.length] + C) % 4294967296)) V.length (by simpa using hnO)
  have e2 := nv_at S V.length (by omega)
  rw [List.drop_eq_nil_of_le (by simp; omega), nv_nil, Nat.mul_zero, Nat.add_zero, List.take_set_of_le (Nat.le_refl _), List.getElem_set_self] at e1
  rw [List.drop_eq_nil_of_le (by omega), nv_nil, Nat.mul_zero, Nat.add_zero, ← e] at e2
  have hd := Nat.div_add_mod (O[V.length] + C) 4294967296
  rw [e1, e2, pw_succ]
  grind

/-- what a call leaves that writes into block g alone -/
theorem grownBy_setCell {w w' : World} {g : Nat} (h : w.grownBy w' (some g)) (i : Nat) (v : Value) : w.grownBy (w'.setCell ⟨g, i, none⟩ v) (some g) :=
  ⟨h.os, h.tape, h.output, by simpa [World.setCell] using h.size, fun k hk hne => (Below.heap_setCell _ _ _ _ (fun e => hne (by rw [e]))).trans (h.block k hk hne)⟩

theorem sub2b_div {x c b : Nat} (hx : x < 4294967296) (hc : c < 4294967296) (hb : b ≤ 1) : IntKind.u64.wrap (IntKind.u64.wrap ((x : Int) - c) - b) / 9223372036854775808 = ((bor x c b : Nat) : Int) := by
  rw [IntKind.wrap_u64, IntKind.wrap_u64]; unfold bor; split <;> omega
theorem sub2b_mod {x c b : Nat} (hx : x < 4294967296) (hc : c < 4294967296) (hb : b ≤ 1) : IntKind.u64.wrap (IntKind.u64.wrap ((x : Int) - c) - b) % 4294967296 = ((dig x c b : Nat) : Int) := by
  rw [IntKind.wrap_u64, IntKind.wrap_u64]; unfold dig bor; split <;> omega

theorem castpar (v o p : Nat) : ((v : Int) + (o : Int) * p) = ((v + o * p : Nat) : Int) := by rw [Int.natCast_add, Int.natCast_mul]
theorem castpar_div (v o p : Nat) : ((v : Int) + (o : Int) * p) / 4294967296 = (((v + o * p) / 4294967296 : Nat) : Int) := by rw [castpar, cast_div]
theorem cast_add3_div (a b c : Nat) : ((a : Int) + ((b : Int) + c)) / 4294967296 = (((a + (b + c)) / 4294967296 : Nat) : Int) := by omega
theorem cast_add3_mod (a b c : Nat) : ((a : Int) + ((b : Int) + c)) % 4294967296 = (((a + (b + c)) % 4294967296 : Nat) : Int) := by omega

set_option maxHeartbeats 1000000 in
theorem subtract_any (w : World) (B g j cap cc n f d : Nat) (D : Option Addr) (P S T V : List Nat) (hg : Gr lmv 77 w B (some ⟨g, 0, none⟩) cap (P ++ S ++ T)) (hu : U32 (P ++ S ++ T)) (hv : Nt w D d V) (hne : ∀ ad, D = some ad → ad.block ≠ g)
    (hP : P.length = j) (hS : S.length = n + 1) (hV : V.length = n) (hf : f < 4294967296) (hn : n ≤ 1000000) :
    Calls Try.prog 111 #[.slice (some ⟨g, j, none⟩) (n + 1) cc, .slice D n d, .int .u64 (f : Int)] w fun e w' => ∃ (S' : List Nat) (neg : Nat), e = .returned (.bool (decide (neg = 1))) ∧ neg ≤ 1 ∧ S'.length = n + 1 ∧ U32 S' ∧
      nv S' + f * nv V = nv S + pw (n + 1) * neg ∧ Gr lmv 77 w' B (some ⟨g, 0, none⟩) cap (P ++ S' ++ T) ∧ w.grownBy w' (some g) := by
  have HP := Lib.hid hP
  have HS := Lib.hid hS
  have HV := Lib.hid hV
  have hSu : U32 S := fun x hx => hu x (List.mem_append.2 (.inl (List.mem_append.2 (.inr hx))))
  clear hu hP hS hV
  go_enter Try.func111, Try.ntmps111
  go_wp2_with fail
  go_loopw [7, 8, 15] (fun cy bo iv wr => ∃ (i C b : Nat) (O : List Nat), i ≤ n ∧ iv = .int .i64 i ∧ cy = .int .u64 C ∧ bo = .int .u64 b ∧ SbInv S V f i C b O ∧ Gr lmv 77 wr B (some ⟨g, 0, none⟩) cap (P ++ O ++ T) ∧ w.grownBy wr (some g)) (fun _ _ iv _ => n - (intOf iv).toNat)
  case atStart => exact ⟨0, 0, 0, S, by omega, rfl, rfl, rfl, SbInv.start V f hSu, hg, World.grownBy.refl _ _⟩
  case round =>
    obtain ⟨i, C, b, O, hi, rfl, rfl, rfl, hinv, hgr, hgb⟩ := hrel
    have HI := Lib.hid hinv
    have hC : C < 4294967296 := hinv.2.2.1
    have hb : b ≤ 1 := hinv.2.2.2.1
    have hOu := hinv.2.1
    have HOL := Lib.hid hinv.1
    clear hinv
    have HG := Lib.hid hgr
    have HB := Lib.hid hgb
    by_cases hlt : i < n
    · have hiV : i < V.length := by have := HV.out; omega
      have hiO : i < O.length := by have := HOL.out; have := HS.out; omega
      obtain ⟨adV, hadV, hbV, hcV, hvV⟩ := (hv.grown hgb (fun _ ad e e2 => hne ad e (by injection e2))).at i hiV
      subst hadV
      have hcell0 := hgr.cell (P.length + i) (by simp; omega)
      rw [get_mid hiO] at hcell0
      rw [HP.out] at hcell0
      have hfree := hgr.free (j + i)
      have hxO := hOu.at i hiO
      have hbd := sb_bound hf hvV hC
      obtain ⟨hbd1, hbd2⟩ := hbd
      clear hgr hgb hOu
      go_wp2_with fail
      have hand : bits .and .u64 ((C : Int) + (f : Int) * V[i]) 4294967295 = (((C + f * V[i]) % 4294967296 : Nat) : Int) := by
        rw [castpar]; exact and_low _ hbd1
      have hm : (C + f * V[i]) % 4294967296 < 4294967296 := Nat.mod_lt _ (by omega)
      have hbg := bor_dig hxO hm hb
      go_roundw
      case rel => exact ⟨i + 1, _, _, _, by omega, by go_num, by rw [castpar_div], by rw [hand, sub2b_div hxO hm hb], HI.out.step hf hv.u hiV hiO _ _ hbg.1 hbg.2.1 (by rw [← hbg.2.2]; omega),
        by rw [hand, sub2b_mod hxO hm hb, ← set_mid hiO, HP.out]; exact HG.out.store _ _, grownBy_setCell HB.out _ _⟩
      case measure => simp [intOf]; omega
    · obtain rfl : i = n := by omega
      have hiO : i < O.length := by have := HOL.out; have := HS.out; omega
      have hcell0 := hgr.cell (P.length + i) (by simp; omega)
      rw [get_mid hiO] at hcell0
      rw [HP.out] at hcell0
      have hfree := hgr.free (j + i)
      have hxO := hOu.at i hiO
      clear hgr hgb hOu
      go_wp2_with fail
      go_ret
      have hbg := bor_dig hxO hC hb
      have hlast := HI.out.last HV.out.symm HS.out hiO _ _ hbg.1 (by rw [← hbg.2.2]; omega)
      refine ⟨_, bor O[i] C b, ?_, hbg.2.1, hlast.1, hlast.2.1, hlast.2.2, ?_, grownBy_setCell HB.out _ _⟩
      · apply ret_bool
        show (_ == _) = _
        rw [sub2b_div hxO hC hb]
        rcases Nat.lt_or_ge (bor O[i] C b) 1 with h1 | h1
        · have : bor O[i] C b = 0 := by omega
          rw [this]; rfl
        · have : bor O[i] C b = 1 := by omega
          rw [this]; rfl
      · rw [sub2b_mod hxO hC hb, ← set_mid hiO, HP.out]; exact HG.out.store _ _

set_option maxHeartbeats 1000000 in
theorem restore_any (w : World) (B g j cap cc n d : Nat) (D : Option Addr) (P S T V : List Nat) (hg : Gr lmv 77 w B (some ⟨g, 0, none⟩) cap (P ++ S ++ T)) (hu : U32 (P ++ S ++ T)) (hv : Nt w D d V) (hne : ∀ ad, D = some ad → ad.block ≠ g)
    (hP : P.length = j) (hS : S.length = n + 1) (hV : V.length = n) (hn : n ≤ 1000000) :
    Calls Try.prog 112 #[.slice (some ⟨g, j, none⟩) (n + 1) cc, .slice D n d] w fun e w' => ∃ S' : List Nat, e = .returned (.tuple #[]) ∧ S'.length = n + 1 ∧ U32 S' ∧
      (∃ k, nv S' + pw (n + 1) * k = nv S + nv V) ∧ Gr lmv 77 w' B (some ⟨g, 0, none⟩) cap (P ++ S' ++ T) ∧ w.grownBy w' (some g) := by
  have HP := Lib.hid hP
  have HS := Lib.hid hS
  have HV := Lib.hid hV
  have hSu : U32 S := fun x hx => hu x (List.mem_append.2 (.inl (List.mem_append.2 (.inr hx))))
  clear hu hP hS hV
  go_enter Try.func112, Try.ntmps112
  go_wp2_with fail
  go_loopw [4, 9] (fun cy iv wr => ∃ (i C : Nat) (O : List Nat), i ≤ n ∧ iv = .int .i64 i ∧ cy = .int .u64 C ∧ RsInv S V i C O ∧ Gr lmv 77 wr B (some ⟨g, 0, none⟩) cap (P ++ O ++ T) ∧ w.grownBy wr (some g)) (fun _ iv _ => n - (intOf iv).toNat)
  case atStart => exact ⟨0, 0, S, by omega, rfl, rfl, RsInv.start V hSu, hg, World.grownBy.refl _ _⟩
  case round =>
    obtain ⟨i, C, O, hi, rfl, rfl, hinv, hgr, hgb⟩ := hrel
    have HI := Lib.hid hinv
    have hC : C ≤ 1 := hinv.2.2.1
    have hOu := hinv.2.1
    have HOL := Lib.hid hinv.1
    clear hinv
    have HG := Lib.hid hgr
    have HB := Lib.hid hgb
    have hiO : i < O.length := by have := HOL.out; have := HS.out; omega
    have hcell0 := hgr.cell (P.length + i) (by simp; omega)
    rw [get_mid hiO] at hcell0
    rw [HP.out] at hcell0
    have hfree := hgr.free (j + i)
    have hxO := hOu.at i hiO
    by_cases hlt : i < n
    · have hiV : i < V.length := by have := HV.out; omega
      obtain ⟨adV, hadV, hbV, hcV, hvV⟩ := (hv.grown hgb (fun _ ad e e2 => hne ad e (by injection e2))).at i hiV
      subst hadV
      clear hgr hgb hOu
      go_wp2_with fail
      go_roundw
      case rel => exact ⟨i + 1, _, _, by omega, by go_num, by rw [cast_add3_div], HI.out.step hv.u hiV hiO,
        by rw [cast_add3_mod, ← set_mid hiO, HP.out]; exact HG.out.store _ _, grownBy_setCell HB.out _ _⟩
      case measure => simp [intOf]; omega
    · obtain rfl : i = n := by omega
      clear hgr hgb hOu
      go_wp2_with fail
      go_end0
      have hlast := HI.out.last HV.out.symm HS.out hiO
      exact ⟨_, rfl, hlast.1, hlast.2.1, hlast.2.2, by rw [cast_sum2_mod, ← set_mid hiO, HP.out]; exact HG.out.store _ _, grownBy_setCell HB.out _ _⟩
end Go.Proofs.Ythdfflbhogfejaa
