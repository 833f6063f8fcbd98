/- The walk of expo.Terms. -/
import Derived.Test.YtnmomigaedfdoaaExG
namespace Go.Proofs.Ytnmomigaedfdoaa
set_option maxRecDepth 100000
open Go.RowKit

theorem xok_of {q : Rat} {bits n : Int} (h : ¬ rangeP q bits n) (hl : ¬ longP q) : XOk q.num.natAbs q.den := by
  have h1 : ¬ q < 0 := fun k => h (Or.inl k)
  have h2 : ¬ 64 < q := fun k => h (Or.inr (Or.inl k))
  have l1 : (lim q.num.natAbs).length ≤ 2 := Nat.le_of_not_lt fun k => hl (Or.inl k)
  have l2 : (lim q.den).length ≤ 2 := Nat.le_of_not_lt fun k => hl (Or.inr k)
  rw [lim_length_le] at l1 l2
  refine ⟨q.den_pos, l2, l1, ?_⟩
  have h3 : q ≤ 64 := by grind
  have hn : 0 ≤ q.num := Rat.num_nonneg.2 (by grind)
  have h4 := Rat.le_iff (a := q) (b := 64) |>.1 h3
  have e1 : (64 : Rat).num = 64 := rfl
  have e2 : (64 : Rat).den = 1 := rfl
  rw [e1, e2] at h4
  omega
theorem bits_of {q : Rat} {bits n : Int} (h : ¬ rangeP q bits n) : (1 ≤ bits ∧ bits ≤ 64) ∧ 0 ≤ n ∧ n ≤ 256 := by
  unfold rangeP at h
  refine ⟨⟨?_, ?_⟩, ?_, ?_⟩
  · exact Int.not_lt.1 fun k => h (Or.inr (Or.inr (Or.inl k)))
  · exact Int.not_lt.1 fun k => h (Or.inr (Or.inr (Or.inr (Or.inl k))))
  · exact Int.not_lt.1 fun k => h (Or.inr (Or.inr (Or.inr (Or.inr (Or.inl k)))))
  · exact Int.not_lt.1 fun k => h (Or.inr (Or.inr (Or.inr (Or.inr (Or.inr k)))))
theorem chkE_ok {x : Fx} {bits n : Int} (h : chkE x bits n = 0) : x.v ∧ ¬ rangeP x.q bits n ∧ ¬ longP x.q := by
  unfold chkE at h
  by_cases h1 : x.v
  · rw [if_neg (fun k => k h1)] at h
    by_cases h2 : rangeP x.q bits n
    · rw [if_pos h2] at h; exact absurd h (by decide)
    · rw [if_neg h2] at h
      by_cases h3 : longP x.q
      · rw [if_pos h3] at h; exact absurd h (by decide)
      · exact ⟨h1, h2, h3⟩
  · rw [if_pos h1] at h; exact absurd h (by decide)
/-- the sum of the weights behind m is below 2^-b -/
def zP (q : Rat) (b m : Nat) : Prop := floorM q.num.natAbs q.den m b 2 = 0
def termsP (q : Rat) (b r : Nat) : Prop := (q = 0 ∧ r = 0) ∨ (q ≠ 0 ∧ zP q b r ∧ (r = 0 ∨ ¬ zP q b (r - 1)))
theorem bits2_eq0 (n : Nat) : bits2 n = 0 ↔ n = 0 := by
  unfold bits2
  by_cases h : n = 0
  · simp [h]
  · rw [if_neg h]; omega
theorem floor_len {num den n bits kind : Nat} (hx : XOk num den) (hn : n ≤ 256) (b0 : 1 ≤ bits) (b1 : bits ≤ 64) : (lim (floorM num den n bits kind)).length ≤ 1000000 := by
  have h1 := floorM_le (kind := kind) hx hn b0 b1
  have h2 := Nat.pow_le_pow_right (n := 2) (by omega) b1
  have h3 : (lim (floorM num den n bits kind)).length ≤ 3 := by
    rw [lim_length_le]
    have h4 : pw 3 = 79228162514264337593543950336 := by rfl
    omega
  omega
set_option maxHeartbeats 3200000 in
theorem xterms_any (w : World) (x : Fx) (bits E : Int) (hx : x.ok w) (l1 : x.xs.length ≤ 10000) (l2 : x.ys.length ≤ 10000) (he : chkE x bits 0 = E) :
    Calls Try.prog 37 #[x.val, .int .i64 bits] w fun e w' => ∃ r : Nat, e = .returned (.tuple #[.int .i64 r, .int .i64 E]) ∧ r ≤ 256 ∧ (E = 0 → termsP x.q bits.toNat r) ∧ Below w.heap.size w w' := by
  have HE := Lib.hid he
  clear he
  go_enter Try.func37, Try.ntmps37
  go_wp2_with fail
  have fx := (fa_alloc hx).1
  have bw := (fa_alloc hx).2
  clear hx
  generalize (w.alloc (.cells #[.bool x.b, .slice x.A x.xs.length x.c, .slice x.D x.ys.length x.d] 26)) = w1 at fx bw ⊢
  obtain ⟨g, hg⟩ : ∃ g, w.heap.size = g := ⟨_, rfl⟩
  rw [hg] at fx bw ⊢
  have tx := fx.bk
  obtain ⟨x0, x1, x2, xf0, xf1, xf2, xlt, xb⟩ := tx
  clear xb
  go_wp2_with fail
  clear x0 x1 x2 xf0 xf1 xf2 xlt
  refine (xcheck_any w1 x bits 0 E fx.ok l1 l2 HE.out).mono ?_
  rintro e wn ⟨y, rfl, ok1, hy, bb⟩
  replace fx := fx.below bb
  replace bw := below_on bw bb (by rw [← hg]; exact bw.size)
  clear bb
  have a1 := fx.put ok1
  have w1b := set3g (G := g) (a := .bool y.b) (b := .slice y.A y.xs.length y.c) (c := .slice y.D y.ys.length y.d) bw (Nat.le_refl _)
  have tx := fx.bk
  obtain ⟨x0, x1, x2, xf0, xf1, xf2, xlt, xb⟩ := tx
  clear xb
  by_cases h0 : E = 0
  · subst h0
    have HY := Lib.hid (hy rfl)
    have HOK := Lib.hid (xok_of (chkE_ok HE.out).2.1 (chkE_ok HE.out).2.2)
    have HBT := Lib.hid (bits_of (chkE_ok HE.out).2.1).1
    obtain ⟨b, hb⟩ : ∃ b : Nat, bits = (b : Int) := ⟨bits.toNat, by have := HBT.out; omega⟩
    subst hb
    clear hy
    go_upto_region 4 with fail
    clear x0 x1 x2 xf0 xf1 xf2 xlt
    generalize (((wn.setCell ⟨g, 0, none⟩ (.bool y.b)).setCell ⟨g, 1, none⟩ (.slice y.A y.xs.length y.c)).setCell ⟨g, 2, none⟩ (.slice y.D y.ys.length y.d)) = w2 at a1 w1b ⊢
    clear fx ok1 bw
    go_wp2_with fail
    go_loopw [7, 8] (fun lo hi wr => ∃ l h : Nat, lo = .int .i64 l ∧ hi = .int .i64 h ∧ l ≤ h ∧ h ≤ 256 ∧ (l = 0 ∨ ¬ zP x.q b (l - 1)) ∧ zP x.q b h ∧ (x.q = 0 → l = 0) ∧ Fa wr g y ∧ Below g w wr) (fun lo hi _ => (intOf hi).toNat - (intOf lo).toNat)
    case atStart => exact ⟨0, 256, rfl, rfl, by omega, by omega, Or.inl rfl, floorM_last HOK.out (by have := HBT.out; omega) (by have := HBT.out; omega), fun _ => rfl, a1, w1b⟩
    case round =>
      clear a1 w1b
      obtain ⟨l, h, rfl, rfl, hlh, hh, hlo, hhi, hq0, a1, w1b⟩ := hrel
      have HLO := Lib.hid hlo
      have HHI := Lib.hid hhi
      have HQ0 := Lib.hid hq0
      have HZ := Lib.hid HY.out.zero
      clear hlo hhi hq0
      have taa := a1.bk
      obtain ⟨aa0, aa1, aa2, aaf0, aaf1, aaf2, aalt, aab⟩ := taa
      clear aab
      by_cases hz : y.xs.length = 0
      · have e0 : decide ((0 : Int) < (y.xs.length : Int)) = false := decide_eq_false (by omega)
        have e0' : decide (0 < y.xs.length) = false := decide_eq_false (by omega)
        have HQ : Hid (x.q = 0) := Lib.hid (HZ.out.1 (by rw [List.eq_nil_of_length_eq_zero hz]; rfl))
        clear hz
        go_wp2_with fail
        go_ret2
        exact ⟨l, rfl, by omega, Or.inl ⟨HQ.out, HQ0.out HQ.out⟩, w1b⟩
      · have e0 : decide ((0 : Int) < (y.xs.length : Int)) = true := decide_eq_true (by omega)
        have e0' : decide (0 < y.xs.length) = true := decide_eq_true (by omega)
        have HQ : Hid (x.q ≠ 0) := Lib.hid (fun k => hz (by rw [HY.out.n, k, show (0 : Rat).num.natAbs = 0 from rfl, lim_zero]; rfl))
        clear hz
        by_cases hlt : l < h
        · have e1 : decide ((l : Int) < (h : Int)) = true := decide_eq_true (by omega)
          have e1' : decide (l < h) = true := decide_eq_true hlt
          obtain ⟨m, hm⟩ : ∃ m : Nat, m = (l + h) / 2 := ⟨_, rfl⟩
          have hml : l ≤ m ∧ m < h := by omega
          obtain ⟨sm, hsm⟩ : ∃ sm : Nat, sm = l + h := ⟨_, rfl⟩
          have hs512 : sm ≤ 512 := by omega
          have ES : Hid ((l : Int) + (h : Int) = (sm : Int)) := Lib.hid (by omega)
          go_wp2_with fail
          rw [ES.out]
          have em : (sm : Int).tdiv 2 = (m : Int) := by rw [Int.tdiv_eq_ediv_of_nonneg (by omega)]; omega
          have em2 : (sm : Int) / 2 = (m : Int) := by omega
          have EM2 := Lib.hid em2
          have HM : Hid (l ≤ m ∧ m < h ∧ m ≤ 256) := Lib.hid (by omega)
          have HLH : Hid (l < h ∧ h ≤ 256) := Lib.hid (by omega)
          have hm256 : m ≤ 256 := by omega
          clear em em2 hm hsm hs512 hml hlt
          go_wp2_with fail
          rw [EM2.out]
          have hfl := floor_len (kind := 2) HOK.out (show m ≤ 256 by omega) (show 1 ≤ b by have := HBT.out; omega) (by have := HBT.out; omega)
          have hF := xfloor_any wr y x.q.num.natAbs x.q.den m b 2 a1.ok HY.out.n HY.out.d HOK.out (by omega) (by have := HBT.out; omega) (by have := HBT.out; omega) (by omega)
          have HV : Hid (floorM x.q.num.natAbs x.q.den m b 2 = 0 ↔ zP x.q b m) := Lib.hid Iff.rfl
          generalize floorM x.q.num.natAbs x.q.den m b 2 = v at hfl hF HV
          have HFL := Lib.hid hfl
          clear hfl
          refine hF.mono ?_
          clear hF
          rintro _ w3 ⟨A3, c3, rfl, n3, bb⟩
          replace a1 := a1.below bb
          replace w1b := below_on w1b bb (by rw [← hg]; exact w1b.size)
          clear bb
          go_wp2_with fail
          refine (nbits_any w3 A3 c3 v n3 HFL.out).mono ?_
          rintro _ w4 ⟨rfl, rfl⟩
          obtain ⟨k, hk⟩ : ∃ k, bits2 v = k := ⟨_, rfl⟩
          rw [hk]
          have HK := Lib.hid hk
          clear hk n3
          by_cases hk0 : k = 0
          · have e2 : ((k : Int) == 0) = true := by simp [hk0]
            have HZM : Hid (zP x.q b m) := Lib.hid (HV.out.1 ((bits2_eq0 _).1 (by rw [HK.out, hk0])))
            clear hk0
            go_wp2_with fail
            go_roundw
            case rel => exact ⟨l, m, rfl, rfl, HM.out.1, HM.out.2.2, HLO.out, HZM.out, HQ0.out, a1, w1b⟩
            case measure => have := HM.out; simp only [intOf]; omega
          · have e2 : ((k : Int) == 0) = false := beq_eq_false_iff_ne.2 (by omega)
            have HZM : Hid (¬ zP x.q b m) := Lib.hid (fun h => hk0 (by rw [← HK.out]; exact (bits2_eq0 _).2 (HV.out.2 h)))
            clear hk0
            go_wp2_with fail
            go_roundw
            case rel => exact ⟨m + 1, h, by go_num, rfl, HM.out.2.1, HLH.out.2, Or.inr (by rw [Nat.add_sub_cancel]; exact HZM.out), HHI.out, fun k => absurd k HQ.out, a1, w1b⟩
            case measure => have := HM.out; simp only [intOf]; omega
        · have e1 : decide ((l : Int) < (h : Int)) = false := decide_eq_false (by omega)
          have e1' : decide (l < h) = false := decide_eq_false hlt
          obtain rfl : l = h := by omega
          go_wp2_with fail
          go_ret2
          exact ⟨l, rfl, by omega, Or.inr ⟨HQ.out, HHI.out, HLO.out⟩, w1b⟩
  · have e0 : (E != 0) = true := bne_iff_ne.2 h0
    have H0 : Hid (E ≠ 0) := h0
    clear h0
    go_wp2_with fail
    go_ret2
    exact ⟨0, rfl, by omega, fun h => absurd h H0.out, by rw [hg]; exact w1b⟩
end Go.Proofs.Ytnmomigaedfdoaa
