/- Checked by the kernel: for no x = a / d up to 64, d up to 256, 65 digits of e^-x in a row that begin behind one of the first 64 are alike (but for those ahead of the first 1). No program in sight. -/
import Derived.Test.YtnmomigaedfdoaaEnC
namespace Go.Proofs.Ytnmomigaedfdoaa
set_option maxRecDepth 100000

def mD : Nat := (2 ^ 64 - 1) <<< 31
def nD (d : Nat) : Nat := Nat.log2 (64 * d) + 1
def testD (d : Nat) : Bool := Nat.ble (2 ^ 160 * facD d 40) ((c0 160 d + 2) * serN d 40) && Nat.ble (c0 160 d + 1) (2 ^ 160) && goodL 320 mD (vS 320 160 (c0 160 d) (nD d)) (nD d)
def testTo : Nat → Bool
  | 0 => true
  | d + 1 => testD (d + 1) && testTo d
theorem test_all : testTo 256 = true := by decide +kernel
theorem testTo_mem : ∀ n, testTo n = true → ∀ d, 1 ≤ d → d ≤ n → testD d = true := by
  intro n
  induction n with
  | zero => intro _ d h1 h2; omega
  | succ n ih =>
    intro h d h1 h2
    rw [testTo, Bool.and_eq_true] at h
    rcases Nat.lt_or_ge n d with h3 | h3
    · obtain rfl : d = n + 1 := by omega
      exact h.1
    · exact ih h.2 d h1 h3
/-- the 65 digits behind the digit k are not alike, or there is no 1 up to there -/
def FarK (v k : Nat) : Prop := v < 2 ^ (95 - k) ∨ (2 ^ (95 - k) ≤ v % 2 ^ (160 - k) ∧ v % 2 ^ (160 - k) + 2 ^ (95 - k) ≤ 2 ^ (160 - k))
theorem mD_bit {r : Nat} (h0 : 31 ≤ r) (h1 : r < 95) : mD.testBit r = true := by
  rw [mD, Nat.testBit_shiftLeft, Nat.testBit_two_pow_sub_one, decide_eq_true h0, decide_eq_true (by omega)]
  rfl
theorem mD_lt : mD < 2 ^ 320 := by decide +kernel
theorem expo_far {d a : Nat} (hd : 1 ≤ d) (hd2 : d ≤ 256) (ha : 1 ≤ a) (ha2 : a ≤ 64 * d) :
    ∃ v, v ≤ 2 ^ 160 ∧ ApL 160 (v - 131072) ((a : Rat) * (1 / (d : Rat))) ∧ ApU 160 (v + 131072) ((a : Rat) * (1 / (d : Rat))) ∧ ∀ k, 1 ≤ k → k ≤ 64 → FarK v k := by
  have ht := testTo_mem 256 test_all d hd hd2
  rw [testD, Bool.and_eq_true, Bool.and_eq_true] at ht
  obtain ⟨⟨t1, t2⟩, t3⟩ := ht
  have t1 := Nat.le_of_ble_eq_true t1
  have t2 := Nat.le_of_ble_eq_true t2
  have hh : (0 : Rat) ≤ 1 / (d : Rat) := by
    have hd1 : (1 : Rat) ≤ (d : Rat) := by exact_mod_cast hd
    rw [Rat.div_def, Rat.one_mul]; exact Rat.le_of_lt (Rat.inv_pos.2 (by grind))
  have hL : ApL 160 (c0 160 d - 2) (1 / (d : Rat)) := (c0_lo hd).mono hh (by omega)
  have hU := c0_hi hd t1
  have hn : nD d ≤ 15 := by
    have : Nat.log2 (64 * d) < 15 := by
      refine (Nat.log2_lt (by omega)).2 ?_
      show 64 * d < 32768
      omega
    rw [nD]; omega
  have haq : a < 2 ^ nD d := Nat.lt_of_le_of_lt ha2 Nat.lt_log2_self
  have e4 : 2 ^ nD d ≤ 2 ^ 15 := Nat.pow_le_pow_right (by omega) hn
  obtain ⟨p1, p2⟩ := vS_ap (L := 320) (by omega) (by omega) hh t2 hL hU (nD d) (by omega) a haq
  have hv := (vS_spec (L := 320) (by omega) (by omega) t2 (nD d)).2 a haq
  have hy : 0 ≤ (a : Rat) * (1 / (d : Rat)) := Rat.mul_nonneg (natR_nn _) hh
  have e5 : 2 ^ 15 = 32768 := by decide
  refine ⟨lnq 320 (vS 320 160 (c0 160 d) (nD d)) a, hv, p1.mono hy (by omega), p2.mono hy (by omega), fun k h1 h2 => ?_⟩
  have hg := lane_good (r := 95 - k) mD_lt t3 ha haq (mD_bit (by omega) (by omega)) (by omega) (Nat.lt_of_le_of_lt hv (Nat.pow_lt_pow_right (by omega) (by omega)))
  rw [show 95 - k + 65 = 160 - k by omega] at hg
  exact hg
end Go.Proofs.Ytnmomigaedfdoaa
