/- All that the kernel has checked, together. No program in sight. The program's floors of the exponential, the weights and the tails are the true ones, for x up to 64 with denominators up to 256. No program in sight. The reference's Add, Sub and Quo for fractions in lowest terms, and what Exp's interval is for a number of the laws. What the program's intervals say of the exponential, the weights and the tails, for the numbers of the laws; and how these grow. The walk of ExpoMonotone. The walks of package interval: atMost, Valid, between, Point. The walks of package interval: Point, Add, Sub. The walks of package interval: Outward, Width, Contains, Inside. The walk of fraction.Sum. Appending fractions onto a row of the call's own. The walk of interval.span. Appending fractions whose limbs the call has made itself: the row holds no limb. The walk of interval.products. -/
import Derived.Test.YtnmomigaedfdoaaEnM0
import Derived.Test.YtnmomigaedfdoaaEnM1
import Derived.Test.YtnmomigaedfdoaaEnM2
import Derived.Test.YtnmomigaedfdoaaEnM3
import Derived.Test.YtnmomigaedfdoaaEnM4
import Derived.Test.YtnmomigaedfdoaaEnM5
import Derived.Test.YtnmomigaedfdoaaEnM6
import Derived.Test.YtnmomigaedfdoaaEnM7
import Derived.Test.YtnmomigaedfdoaaEnQ
import Derived.Test.YtnmomigaedfdoaaEnP
import Derived.Test.YtnmomigaedfdoaaEnA
import Derived.Test.YtnmomigaedfdoaaLwD
import Derived.Test.YtnmomigaedfdoaaRfC
import Derived.Test.YtnmomigaedfdoaaExD
import Derived.Test.YtnmomigaedfdoaaFrG
import Derived.Maps.AppendAt
namespace Go.Proofs.Ytnmomigaedfdoaa
set_option maxRecDepth 100000

theorem tst_all : ∀ j, j ≤ 63 → ∃ N, 1 ≤ N ∧ N ≤ 256 ∧ ∀ d, 1 ≤ d → d ≤ 256 → tst 135 272 N j d = true
  | 0, _ => ⟨21, by omega, by omega, tj0⟩
  | 1, _ => ⟨26, by omega, by omega, tj1⟩
  | 2, _ => ⟨30, by omega, by omega, tj2⟩
  | 3, _ => ⟨34, by omega, by omega, tj3⟩
  | 4, _ => ⟨37, by omega, by omega, tj4⟩
  | 5, _ => ⟨40, by omega, by omega, tj5⟩
  | 6, _ => ⟨43, by omega, by omega, tj6⟩
  | 7, _ => ⟨46, by omega, by omega, tj7⟩
  | 8, _ => ⟨49, by omega, by omega, tj8⟩
  | 9, _ => ⟨51, by omega, by omega, tj9⟩
  | 10, _ => ⟨54, by omega, by omega, tj10⟩
  | 11, _ => ⟨56, by omega, by omega, tj11⟩
  | 12, _ => ⟨58, by omega, by omega, tj12⟩
  | 13, _ => ⟨61, by omega, by omega, tj13⟩
  | 14, _ => ⟨63, by omega, by omega, tj14⟩
  | 15, _ => ⟨65, by omega, by omega, tj15⟩
  | 16, _ => ⟨67, by omega, by omega, tj16⟩
  | 17, _ => ⟨69, by omega, by omega, tj17⟩
  | 18, _ => ⟨72, by omega, by omega, tj18⟩
  | 19, _ => ⟨74, by omega, by omega, tj19⟩
  | 20, _ => ⟨76, by omega, by omega, tj20⟩
  | 21, _ => ⟨78, by omega, by omega, tj21⟩
  | 22, _ => ⟨80, by omega, by omega, tj22⟩
  | 23, _ => ⟨82, by omega, by omega, tj23⟩
  | 24, _ => ⟨83, by omega, by omega, tj24⟩
  | 25, _ => ⟨85, by omega, by omega, tj25⟩
  | 26, _ => ⟨87, by omega, by omega, tj26⟩
  | 27, _ => ⟨89, by omega, by omega, tj27⟩
  | 28, _ => ⟨91, by omega, by omega, tj28⟩
  | 29, _ => ⟨93, by omega, by omega, tj29⟩
  | 30, _ => ⟨95, by omega, by omega, tj30⟩
  | 31, _ => ⟨97, by omega, by omega, tj31⟩
  | 32, _ => ⟨98, by omega, by omega, tj32⟩
  | 33, _ => ⟨100, by omega, by omega, tj33⟩
  | 34, _ => ⟨102, by omega, by omega, tj34⟩
  | 35, _ => ⟨104, by omega, by omega, tj35⟩
  | 36, _ => ⟨106, by omega, by omega, tj36⟩
  | 37, _ => ⟨107, by omega, by omega, tj37⟩
  | 38, _ => ⟨109, by omega, by omega, tj38⟩
  | 39, _ => ⟨111, by omega, by omega, tj39⟩
  | 40, _ => ⟨112, by omega, by omega, tj40⟩
  | 41, _ => ⟨114, by omega, by omega, tj41⟩
  | 42, _ => ⟨116, by omega, by omega, tj42⟩
  | 43, _ => ⟨118, by omega, by omega, tj43⟩
  | 44, _ => ⟨119, by omega, by omega, tj44⟩
  | 45, _ => ⟨121, by omega, by omega, tj45⟩
  | 46, _ => ⟨123, by omega, by omega, tj46⟩
  | 47, _ => ⟨124, by omega, by omega, tj47⟩
  | 48, _ => ⟨126, by omega, by omega, tj48⟩
  | 49, _ => ⟨128, by omega, by omega, tj49⟩
  | 50, _ => ⟨129, by omega, by omega, tj50⟩
  | 51, _ => ⟨131, by omega, by omega, tj51⟩
  | 52, _ => ⟨133, by omega, by omega, tj52⟩
  | 53, _ => ⟨134, by omega, by omega, tj53⟩
  | 54, _ => ⟨136, by omega, by omega, tj54⟩
  | 55, _ => ⟨137, by omega, by omega, tj55⟩
  | 56, _ => ⟨139, by omega, by omega, tj56⟩
  | 57, _ => ⟨141, by omega, by omega, tj57⟩
  | 58, _ => ⟨142, by omega, by omega, tj58⟩
  | 59, _ => ⟨144, by omega, by omega, tj59⟩
  | 60, _ => ⟨145, by omega, by omega, tj60⟩
  | 61, _ => ⟨147, by omega, by omega, tj61⟩
  | 62, _ => ⟨149, by omega, by omega, tj62⟩
  | 63, _ => ⟨150, by omega, by omega, tj63⟩
  | n + 64, h => absurd h (by omega)
end Go.Proofs.Ytnmomigaedfdoaa
namespace Go.Proofs.Ytnmomigaedfdoaa
set_option maxRecDepth 100000

/-- some good x -/
theorem good_ex {num den : Nat} (hx : XOk num den) (hd : den ≤ 256) (hn : 1 ≤ num) (hg : Nat.gcd num den = 1) : ∃ N F, 1 ≤ N ∧ Goodx 135 272 N F (xR num den) := by
  have h0 := hx.d0
  have hle := hx.le
  have hj : (num - 1) / den ≤ 63 := by
    refine Nat.le_of_lt_succ ((Nat.div_lt_iff_lt_mul h0).2 ?_)
    omega
  obtain ⟨N, hN, _, ht⟩ := tst_all _ hj
  have hdm := Nat.div_add_mod (num - 1) den
  have hml := Nat.mod_lt (num - 1) h0
  generalize hjj : (num - 1) / den = j at *
  obtain ⟨s, hs⟩ : ∃ s, s = (num - 1) % den + 1 := ⟨_, rfl⟩
  have e : j * den + s = num := by rw [Nat.mul_comm]; omega
  obtain ⟨F, hF⟩ := tst_good (P := 135) (L := 272) (N := N) (j := j) (d := den) (s := s) (by omega) (by omega) h0 hd hj (ht den h0 hd) (by omega) (by omega) (by rw [e]; exact hg)
  refine ⟨N, F, hN, ?_⟩
  have ex : (s : Rat) * (1 / (den : Rat)) + (j : Rat) = xR num den := by
    have hdr : (den : Rat) ≠ 0 := by exact_mod_cast (Nat.ne_of_gt h0)
    have e2 : (num : Rat) = (j : Rat) * (den : Rat) + (s : Rat) := by rw [← e, Rat.natCast_add, Rat.natCast_mul]
    have hh : (1 / (den : Rat)) * (den : Rat) = 1 := Rat.div_mul_cancel hdr
    have e3 : xR num den = (num : Rat) * (1 / (den : Rat)) := by rw [xR, Rat.div_def, Rat.div_def, Rat.one_mul]
    rw [e3, e2]
    generalize 1 / (den : Rat) = y at *
    have e4 : ((j : Rat) * (den : Rat) + (s : Rat)) * y = (j : Rat) * (y * (den : Rat)) + (s : Rat) * y := by grind
    rw [e4, hh]; grind
  rw [← ex]
  exact hF
/-- the numerator of what is asked for -/
def sV (kind n : Nat) (x : Rat) (M : Nat) : Rat := if kind = 0 then 1 else if kind = 1 then tq x n else eq_ x M - eq_ x (n + 1)
section
variable {num den n k : Nat}
theorem fAt_1 (hx : XOk num den) (hn : n ≤ 256) (hb : k ≤ 64) {p : Nat} (h0 : 40 ≤ p) (h1 : p ≤ 16130) : fAt num den n k 1 p = ((tE num den (2 ^ p) n).lo * 2 ^ k / (sAE num den (2 ^ p) (stopI num den (2 ^ p) n)).hi, (tE num den (2 ^ p) n).hi * 2 ^ k / (sAE num den (2 ^ p) (stopI num den (2 ^ p) n)).lo) := by
  rw [fAt_eq hx hn hb h0 h1, partE, if_neg (by omega), if_pos rfl]
theorem fAt_2 (hx : XOk num den) (hn : n ≤ 256) (hb : k ≤ 64) {p : Nat} (h0 : 40 ≤ p) (h1 : p ≤ 16130) : fAt num den n k 2 p = ((sRE num den (2 ^ p) n (stopI num den (2 ^ p) n)).lo * 2 ^ k / (sAE num den (2 ^ p) (stopI num den (2 ^ p) n)).hi, (sRE num den (2 ^ p) n (stopI num den (2 ^ p) n)).hi * 2 ^ k / (sAE num den (2 ^ p) (stopI num den (2 ^ p) n)).lo) := by
  rw [fAt_eq hx hn hb h0 h1, partE, if_neg (by omega), if_neg (by omega)]
theorem prec_in (k1 : 1 ≤ k) (k2 : k ≤ 63) {j : Nat} (hj : j ≤ 2) : 40 ≤ (k + 48) * 2 ^ j ∧ (k + 48) * 2 ^ j ≤ 16130 := by
  rcases (show j = 0 ∨ j = 1 ∨ j = 2 by omega) with rfl | rfl | rfl <;> omega
theorem g23 : 2 ^ (135 - 112) = 2 ^ 23 := rfl
theorem small_ok (k2 : k ≤ 63) : 2 ^ (135 - 64) + 2 ^ 23 ≤ (0 + 1) * 2 ^ (135 - k) := by
  rw [Nat.zero_add, Nat.one_mul]
  exact Nat.le_trans (show 2 ^ (135 - 64) + 2 ^ 23 ≤ 2 ^ 72 by decide) (Nat.pow_le_pow_right (by omega) (by omega))
theorem p64_le : 2 ^ (135 - 64) ≤ 2 ^ 135 := Nat.pow_le_pow_right (by omega) (by omega)
/-- the floor of a weight -/
theorem wt_floor (hx : XOk num den) (hd : den ≤ 256) (h1 : 1 ≤ num) (hg : Nat.gcd num den = 1) (hn : n ≤ 256) (k1 : 1 ≤ k) (k2 : k ≤ 63) :
    Flo (2 ^ k) (floorM num den n k 1) (xR num den) (sV 1 n (xR num den)) := by
  obtain ⟨N, F, hN, G⟩ := good_ex hx hd h1 hg
  have hxn := xR_nn (num := num) hx.d0
  have h2 : (fAt num den n k 1 ((k + 48) * 2 ^ 2)).1 = (fAt num den n k 1 ((k + 48) * 2 ^ 2)).2 := by
    obtain ⟨p0, p1⟩ := prec_in k1 k2 (show 2 ≤ 2 by omega)
    rw [fAt_1 hx hn (by omega) p0 p1]
    have hE := enc_at hx hn p0 p1
    have hP := enc_wt (n := n) hx hE
    have ht := tE_enc (num := num) hx.d0 (2 ^ ((k + 48) * 2 ^ 2)) n
    by_cases hnN : n < N
    · obtain ⟨m, f1, f2⟩ := good_wt (by omega) (by omega) G hnN k k2
      rw [g23] at f1 f2
      refine agree2 (D := wtN 272 F n) (m := m) hE hP.wid hP.le (Nat.le_trans (Nat.sub_le _ _) (G.st.le n)) (f2c hE (wt_hi G hxn hnN) ht.1) k2 rfl ?_ f2
      exact f1.imp_right fun h => ⟨h, f1c hE (wt_lo G hxn hnN) ht.2⟩
    · have hl := good_last G
      have hle := G.st.le (N - 1)
      have hlo := G.st.lo (N - 1) (by omega)
      rw [show N - 1 + 1 = N by omega] at hlo
      have hq : tq (xR num den) n ≤ eq_ (xR num den) (n + 1) - eq_ (xR num den) N := by
        have a := eq_mono hxn (show N ≤ n by omega)
        have e : eq_ (xR num den) (n + 1) = eq_ (xR num den) n + tq (xR num den) n := rfl
        grind
      have hlo2 := Rat.le_trans ht.1 (mul_le_l (natR_nn _) hq)
      have hf2 := f2t hE hle hlo hlo2
      refine agree2 (D := 2 ^ (135 - 64)) (m := 0) hE hP.wid hP.le p64_le ?_ k2 rfl (Or.inl rfl) (small_ok k2)
      refine Nat.le_trans hf2 (Nat.mul_le_mul_right _ ?_)
      omega
  obtain ⟨j, hj, ht, hf⟩ := floorM_some h2
  obtain ⟨p0, p1⟩ := prec_in k1 k2 hj
  rw [fAt_1 hx hn (by omega) p0 p1] at ht hf
  have hE := enc_at hx hn p0 p1
  have hL : 0 < (sAE num den (2 ^ ((k + 48) * 2 ^ j)) (stopI num den (2 ^ ((k + 48) * 2 ^ j)) n)).lo := Nat.lt_of_lt_of_le (Nat.pow_pos (by omega)) hE.one
  have ht2 := tE_enc (num := num) hx.d0 (2 ^ ((k + 48) * 2 ^ j)) n
  rw [hf]
  exact told_c hE hxn hL rfl ht.symm ht2.1 ht2.2
/-- the floor of a tail -/
theorem tail_floor (hx : XOk num den) (hd : den ≤ 256) (h1 : 1 ≤ num) (hg : Nat.gcd num den = 1) (hn : n ≤ 256) (k1 : 1 ≤ k) (k2 : k ≤ 63) :
    Flo (2 ^ k) (floorM num den n k 2) (xR num den) (sV 2 n (xR num den)) := by
  obtain ⟨N, F, hN, G⟩ := good_ex hx hd h1 hg
  have hxn := xR_nn (num := num) hx.d0
  have h2 : (fAt num den n k 2 ((k + 48) * 2 ^ 2)).1 = (fAt num den n k 2 ((k + 48) * 2 ^ 2)).2 := by
    obtain ⟨p0, p1⟩ := prec_in k1 k2 (show 2 ≤ 2 by omega)
    rw [fAt_2 hx hn (by omega) p0 p1]
    have hE := enc_at hx hn p0 p1
    obtain ⟨hP, t1, t2⟩ := enc_tail hx hn p0 p1
    by_cases hnN : n < N
    · obtain ⟨m, f1, f2⟩ := good_tail (by omega) (by omega) G hnN k k2
      rw [g23] at f1 f2
      have hle := G.st.le n
      refine agree2 (D := 2 ^ 135 - lnq 272 F n) (m := m) hE hP.wid hP.le (Nat.sub_le _ _) ?_ k2 rfl ?_ f2
      · exact Nat.le_trans (f2t hE hle (G.st.lo n hnN) t1) (Nat.mul_le_mul_right _ (Nat.le_add_right _ _))
      · refine f1.imp_right fun h => ⟨h, ?_⟩
        have := f1t hE hxn (G.st.hi n hnN) t2
        rw [← Nat.sub_sub] at this
        exact this
    · have hl := good_last G
      have hle := G.st.le (N - 1)
      have hlo := G.st.lo (N - 1) (by omega)
      rw [show N - 1 + 1 = N by omega] at hlo
      have hq : eq_ (xR num den) (stopI num den (2 ^ ((k + 48) * 2 ^ 2)) n + 1) - eq_ (xR num den) (n + 1) ≤ eq_ (xR num den) (stopI num den (2 ^ ((k + 48) * 2 ^ 2)) n + 1) - eq_ (xR num den) N := by
        have a := eq_mono hxn (show N ≤ n + 1 by omega)
        grind
      have hlo2 := Rat.le_trans t1 (mul_le_l (natR_nn _) hq)
      have hf2 := f2t hE hle hlo hlo2
      refine agree2 (D := 2 ^ (135 - 64)) (m := 0) hE hP.wid hP.le p64_le ?_ k2 rfl (Or.inl rfl) (small_ok k2)
      refine Nat.le_trans hf2 (Nat.mul_le_mul_right _ ?_)
      omega
  obtain ⟨j, hj, ht, hf⟩ := floorM_some h2
  obtain ⟨p0, p1⟩ := prec_in k1 k2 hj
  rw [fAt_2 hx hn (by omega) p0 p1] at ht hf
  have hE := enc_at hx hn p0 p1
  have hL : 0 < (sAE num den (2 ^ ((k + 48) * 2 ^ j)) (stopI num den (2 ^ ((k + 48) * 2 ^ j)) n)).lo := Nat.lt_of_lt_of_le (Nat.pow_pos (by omega)) hE.one
  obtain ⟨_, t1, t2⟩ := enc_tail hx hn p0 p1
  rw [hf]
  exact told_t hE hxn hL rfl ht.symm (eq_nn hxn _) t1 t2
/-- the floor of the exponential -/
theorem e_floor (hx : XOk num den) (hd : den ≤ 256) (h1 : 1 ≤ num) (k1 : 1 ≤ k) (k2 : k ≤ 64) :
    Flo (2 ^ k) (floorM num den 0 k 0) (xR num den) (sV 0 n (xR num den)) := by
  obtain ⟨v, hv, hlo, hhi, hf⟩ := expo_far hx.d0 hd h1 hx.le
  have hxn := xR_nn (num := num) hx.d0
  have hxe : (num : Rat) * (1 / (den : Rat)) = xR num den := by rw [xR, Rat.div_def, Rat.div_def, Rat.one_mul]
  rw [hxe] at hlo hhi
  have at_ : ∀ p, 40 ≤ p → p ≤ 16130 → fAt num den 0 k 0 p = (2 ^ p * 2 ^ k / (sAE num den (2 ^ p) (stopI num den (2 ^ p) 0)).hi, 2 ^ p * 2 ^ k / (sAE num den (2 ^ p) (stopI num den (2 ^ p) 0)).lo) := fun p h0 h1 => by
    rw [fAt_eq hx (by omega) k2 h0 h1, partE, if_pos rfl]
  have h2 : (fAt num den 0 k 0 ((k + 48) * 2 ^ 1)).1 = (fAt num den 0 k 0 ((k + 48) * 2 ^ 1)).2 := by
    rw [at_ _ (by omega) (by omega)]
    exact floor_agree (enc_at hx (by omega) (by omega) (by omega)) hv hlo hhi k1 k2 (hf k k1 k2) (by omega)
  obtain ⟨j, hj, ht, hf⟩ : ∃ j, j ≤ 1 ∧ (fAt num den 0 k 0 ((k + 48) * 2 ^ j)).1 = (fAt num den 0 k 0 ((k + 48) * 2 ^ j)).2 ∧ floorM num den 0 k 0 = (fAt num den 0 k 0 ((k + 48) * 2 ^ j)).1 := by
    by_cases h3 : (fAt num den 0 k 0 ((k + 48) * 2 ^ 0)).1 = (fAt num den 0 k 0 ((k + 48) * 2 ^ 0)).2
    · exact ⟨0, by omega, h3, floorM_at (by omega) (fun i hi => by omega) h3⟩
    · exact ⟨1, by omega, h2, floorM_at (by omega) (fun i hi => (show i = 0 by omega) ▸ h3) h2⟩
  obtain ⟨p0, p1⟩ : 40 ≤ (k + 48) * 2 ^ j ∧ (k + 48) * 2 ^ j ≤ 16130 := by
    rcases (show j = 0 ∨ j = 1 by omega) with rfl | rfl <;> omega
  rw [at_ _ p0 p1] at ht hf
  have hE := enc_at hx (show 0 ≤ 256 by omega) p0 p1
  have hL : 0 < (sAE num den (2 ^ ((k + 48) * 2 ^ j)) (stopI num den (2 ^ ((k + 48) * 2 ^ j)) 0)).lo := Nat.lt_of_lt_of_le (Nat.pow_pos (by omega)) hE.one
  have e1 : ((2 ^ ((k + 48) * 2 ^ j) : Nat) : Rat) * 1 = ((2 ^ ((k + 48) * 2 ^ j) : Nat) : Rat) := Rat.mul_one _
  rw [hf]
  show Flo (2 ^ k) _ (xR num den) (fun _ => (1 : Rat))
  exact told_c (s := 1) hE hxn hL rfl ht.symm (by rw [e1]; exact Rat.le_refl) (by rw [e1]; exact Rat.le_refl)
end
end Go.Proofs.Ytnmomigaedfdoaa
namespace Go.Proofs.Ytnmomigaedfdoaa
set_option maxRecDepth 100000
open Go.RowKit

theorem rquo_rp (w : World) (x y : Fx) (p q : Rat) (ox : x.ok w) (oy : y.ok w) (rx : Rp x p) (ry : Rp y q) (sp : Sz p 128 128) (sq : Sz q 128 128) (hq : q ≠ 0) (sz : Sz (p / q) 128 128) :
    Calls Try.prog 22 #[x.val, y.val] w fun e w' => ∃ z : Fx, e = .returned (.tuple #[z.val, .int .i64 0]) ∧ Rp z (p / q) ∧ z.ok w' ∧ Below w.heap.size w w' :=
  (rfquo_any w x y _ ox oy (rx.l1 sp) (rx.l2 sp) (ry.l1 sq) (ry.l2 sq) (quoF_ok (rx.v sp) ry rx.q (ry.v sq) hq sz)).mono (fun _ _ ⟨z, he, hs, ok, bb⟩ => ⟨z, he, Rp.of hs, ok, bb⟩)
theorem numQ_sz {num den : Nat} (hn : num < 65536) (hd : den < 256) : Sz (numQ num den) 2 2 := by
  have h := (numQ_ok hn hd).2.2.2
  exact ⟨Nat.le_of_not_lt fun k => h (Or.inl k), Nat.le_of_not_lt fun k => h (Or.inr k)⟩
theorem numQ_den (num : Nat) {den : Nat} (hd : den < 256) : (numQ num den).den ≤ 256 := by
  rw [numQ]
  split
  · show (1 : Nat) ≤ 256; omega
  · rw [numP, show ((den : Int) + 1) = ((den + 1 : Nat) : Int) by omega, Rat.divInt_ofNat, Rat.den_mkRat, if_neg (by omega)]
    exact Nat.le_trans (Nat.div_le_self _ _) (by omega)
theorem one_sz : Sz (1 : Rat) 1 1 := ⟨by rw [show (1 : Rat).num.natAbs = 1 from rfl, lim_one]; decide, by rw [show (1 : Rat).den = 1 from rfl, lim_one]; decide⟩
/-- m units of 2^-b -/
theorem prt_mul (m b : Nat) : prt m b * ((2 ^ b : Nat) : Rat) = (m : Rat) := by
  show qv false m (2 ^ b) * ((2 ^ b : Nat) : Rat) = (m : Rat)
  rw [qv, show sg false m = (m : Int) from rfl, Rat.mkRat_eq_div]
  have h : (((2 ^ b : Nat) : Int) : Rat) ≠ 0 := by
    have := two_pos b
    show ((2 ^ b : Nat) : Rat) ≠ 0
    grind
  exact Rat.div_mul_cancel h
theorem prt_sz {m b : Nat} (hm : m ≤ 36893488147419103232) (hb : b ≤ 64) : Sz (prt m b) 128 128 := by
  have hp := pow64 hb
  exact Sz.of_qv (by omega) (len128 (by omega)) (len128 (by omega))
/-- a fraction that is not negative, as a quotient -/
theorem xR_q {q : Rat} (h : 0 ≤ q) : xR q.num.natAbs q.den = q := by
  have hn : 0 ≤ q.num := Rat.num_nonneg.2 h
  have e : ((q.num.natAbs : Nat) : Rat) = (q.num : Rat) := by
    show (((q.num.natAbs : Nat) : Int) : Rat) = _
    rw [Int.natAbs_of_nonneg hn]
  rw [xR, e]
  have h2 := Rat.mkRat_eq_div q.num q.den
  rw [Rat.mkRat_self] at h2
  exact h2.symm
end Go.Proofs.Ytnmomigaedfdoaa
namespace Go.Proofs.Ytnmomigaedfdoaa
set_option maxRecDepth 100000
open Go.RowKit

/-- the numbers of the laws -/
structure Lq (q : Rat) : Prop where
  nn : 0 ≤ q
  ok : XOk q.num.natAbs q.den
  den : q.den ≤ 256
/-- what an interval says: m units of 2^-b are at most s e^-q, and m + 1 are more -/
structure Iv1 (b m : Nat) (q : Rat) (s : Nat → Rat) (i : Ix) : Prop where
  le : m ≤ 2 ^ b
  lo : Rp i.lo (prt m b)
  hi : Rp i.hi (prt (m + 1) b)
  fl : Flo (2 ^ b) m q s
theorem enc_iv {q : Rat} {n b kind zv : Nat} {i : Ix} (h : encP q n b kind zv i) (hq : Lq q) (hn : n ≤ 256) (b0 : 1 ≤ b) (b1 : b ≤ 63) (hk : kind ≤ 2) (hk0 : kind = 0 → n = 0) :
    (q = 0 ∧ Rp i.lo (zv : Rat) ∧ Rp i.hi (zv : Rat)) ∨ (q ≠ 0 ∧ ∃ m, Iv1 b m q (sV kind n q) i) := by
  by_cases h0 : q = 0
  · exact Or.inl ⟨h0, h.1 h0⟩
  · right
    have hp : 1 ≤ q.num.natAbs := by
      have : q.num ≠ 0 := fun k => h0 (Rat.num_eq_zero.1 k)
      omega
    have hg : Nat.gcd q.num.natAbs q.den = 1 := q.reduced
    have hle := floorM_le (kind := kind) hq.ok hn b0 (show b ≤ 64 by omega)
    have hf : Flo (2 ^ b) (floorM q.num.natAbs q.den n b kind) q (sV kind n q) := by
      rcases (show kind = 0 ∨ kind = 1 ∨ kind = 2 by omega) with rfl | rfl | rfl
      · have := e_floor (n := n) hq.ok hq.den hp b0 (show b ≤ 64 by omega)
        rw [xR_q hq.nn] at this
        rw [hk0 rfl] at this ⊢
        exact this
      · have := wt_floor hq.ok hq.den hp hg hn b0 b1
        rwa [xR_q hq.nn] at this
      · have := tail_floor hq.ok hq.den hp hg hn b0 b1
        rwa [xR_q hq.nn] at this
    exact ⟨h0, _, hle, (h.2 h0).1, (h.2 h0).2, hf⟩
theorem prt_mono {a b k : Nat} (h : a ≤ b) : prt a k ≤ prt b k := by
  have h1 := prt_mul a k
  have h2 := prt_mul b k
  have h3 : (a : Rat) ≤ (b : Rat) := by exact_mod_cast h
  refine Rat.le_of_mul_le_mul_right (c := ((2 ^ k : Nat) : Rat)) ?_ (two_pos k)
  rw [h1, h2]; exact h3
theorem prt_full (k : Nat) : prt (2 ^ k) k = 1 := by
  have h1 := prt_mul (2 ^ k) k
  have h2 := two_pos k
  generalize ((2 ^ k : Nat) : Rat) = T at *
  have h3 : (prt (2 ^ k) k - 1) * T = 0 := by grind
  rcases Rat.mul_eq_zero.1 h3 with h | h
  · grind
  · grind
end Go.Proofs.Ytnmomigaedfdoaa
namespace Go.Proofs.Ytnmomigaedfdoaa
set_option maxRecDepth 100000
open Go.RowKit

theorem numQ_lq {num den : Nat} (hn : num < 65536) (hd : den < 256) : Lq (numQ num den) := by
  obtain ⟨_, h2, h3, h4⟩ := numQ_ok hn hd
  refine ⟨h2, xok_of (bits := 1) (n := 0) ?_ h4, numQ_den num hd⟩
  rintro (k | k | k | k | k | k)
  · exact absurd k (by grind)
  · exact h3 k
  · omega
  · omega
  · omega
  · omega
/-- what the law compares -/
def MonP (iu iv is it iw : Ix) (b : Nat) : Prop := ∃ mu mv ms mt mw, (mu ≤ 2 ^ b ∧ mv ≤ 2 ^ b ∧ ms ≤ 2 ^ b ∧ mt ≤ 2 ^ b ∧ mw ≤ 2 ^ b) ∧ (Rp iu.lo (prt mu b) ∧ Rp iv.lo (prt mv b) ∧ Rp is.lo (prt ms b) ∧ Rp it.lo (prt mt b) ∧ Rp iw.lo (prt mw b)) ∧ mv ≤ mu ∧ ms ≤ mt ∧ mw ≤ ms
/-- the arithmetic of the bits asked for -/
theorem bits_mod (bs c : Nat) (_hc : 0 < c) : (bs : Int).tmod (c : Int) = ((bs % c : Nat) : Int) := by
  rw [Int.tmod_eq_emod_of_nonneg (by omega)]; exact (Int.natCast_emod bs c).symm
end Go.Proofs.Ytnmomigaedfdoaa
namespace Go.Proofs.Ytnmomigaedfdoaa
set_option maxRecDepth 100000
open Go.RowKit

/-- both are valid, the first is not greater -/
def leF (x y : Fx) : Prop := x.v ∧ y.v ∧ x.q ≤ y.q
instance (x y : Fx) : Decidable (leF x y) := inferInstanceAs (Decidable (_ ∧ _ ∧ _))
theorem cmpQ_le (p q : Rat) : decide (cmpQ p q ≤ 0) = decide (p ≤ q) := by
  rcases cmpQ_cases p q with ⟨h, e⟩ | ⟨h, e⟩ | ⟨h, e⟩ <;> rw [e]
  · rw [decide_eq_true (Rat.le_of_lt h)]; rfl
  · rw [h, decide_eq_true Rat.le_refl]; rfl
  · rw [decide_eq_false (Rat.not_le.2 h)]; rfl
def Ix.v (a : Ix) : Prop := leF a.lo a.hi
instance (a : Ix) : Decidable a.v := inferInstanceAs (Decidable (leF _ _))
/-- few enough limbs -/
structure Ix.few (a : Ix) : Prop where
  l1 : a.lo.xs.length ≤ 10000
  m1 : a.lo.ys.length ≤ 10000
  l2 : a.hi.xs.length ≤ 10000
  m2 : a.hi.ys.length ≤ 10000
end Go.Proofs.Ytnmomigaedfdoaa
namespace Go.Proofs.Ytnmomigaedfdoaa
set_option maxRecDepth 100000
open Go.RowKit

def pointS (x : Fx) : IvS := if x.v then (redS x, redS x, 0) else errI 1
def opS (op : Fx → Fx → FqS) (a b : Ix) (x y : Fx) : IvS := if a.v ∧ b.v then bothS (op a.lo x) (op a.hi y) else errI 1
structure Fx.few (x : Fx) : Prop where
  l : x.xs.length ≤ 10000
  m : x.ys.length ≤ 10000
theorem Ix.few.lo {a : Ix} (h : a.few) : a.lo.few := ⟨h.l1, h.m1⟩
theorem Ix.few.hi {a : Ix} (h : a.few) : a.hi.few := ⟨h.l2, h.m2⟩
end Go.Proofs.Ytnmomigaedfdoaa
namespace Go.Proofs.Ytnmomigaedfdoaa
set_option maxRecDepth 100000
open Go.RowKit

def outS (a : Ix) (k : Int) : IvS := if a.v then bothS (roundF a.lo k false) (roundF a.hi k true) else errI 1
def conS (a : Ix) (x : Fx) : Prop := a.v ∧ leF a.lo x ∧ leF x a.hi
instance (a : Ix) (x : Fx) : Decidable (conS a x) := inferInstanceAs (Decidable (_ ∧ _ ∧ _))
def insS (a b : Ix) : Prop := a.v ∧ b.v ∧ leF b.lo a.lo ∧ leF a.hi b.hi
instance (a b : Ix) : Decidable (insS a b) := inferInstanceAs (Decidable (_ ∧ _ ∧ _ ∧ _))
end Go.Proofs.Ytnmomigaedfdoaa
namespace Go.Proofs.Ytnmomigaedfdoaa
set_option maxRecDepth 100000
open Go.RowKit

/-- what Sum reckons from the sum q on -/
def sumS : List Fx → Rat → Bool × List Nat × List Nat × Int
  | [], q => okS q
  | x :: vs, q => if x.v then (if bigQ (q + x.q) then errF 2 else sumS vs (q + x.q)) else errF 1
theorem RdF.below {w w' : World} {A : Option Addr} {vs : List Fx} (h : RdF w A vs) (hb : Below w.heap.size w w') : RdF w' A vs := fun hn => by
  obtain ⟨ad, e, hl, hc⟩ := h hn
  refine ⟨ad, e, Nat.lt_of_lt_of_le hl hb.size, fun k hk => ?_⟩
  obtain ⟨h0, h1, h2⟩ := hc k hk
  have e2 : (ad.add (k * 3)).block = ad.block := block_of_add _ _
  exact ⟨(hb.cell (p := ad.add (k * 3)) (by rw [e2]; exact hl)).trans h0, (hb.cell (p := ⟨(ad.add (k * 3)).block, (ad.add (k * 3)).off + 1, none⟩) (by show (ad.add (k * 3)).block < _; rw [e2]; exact hl)).trans h1, (hb.cell (p := ⟨(ad.add (k * 3)).block, (ad.add (k * 3)).off + 2, none⟩) (by show (ad.add (k * 3)).block < _; rw [e2]; exact hl)).trans h2⟩
/-- the elements hold numbers -/
def OkF (w : World) (vs : List Fx) : Prop := ∀ v ∈ vs, v.ok w ∧ v.xs.length ≤ 10000 ∧ v.ys.length ≤ 10000
theorem OkF.below {w w' : World} {vs : List Fx} (h : OkF w vs) (hb : Below w.heap.size w w') : OkF w' vs := fun v hv => ⟨(h v hv).1.below hb, (h v hv).2⟩
theorem Sz.of_big {q : Rat} (h : ¬ bigQ q) : Sz q 128 128 := by
  rw [bigQ] at h
  constructor <;> omega
end Go.Proofs.Ytnmomigaedfdoaa
namespace Go.Proofs.Ytnmomigaedfdoaa
set_option maxRecDepth 100000
open Go.RowKit

def fcells : List Fx → List Value
  | [] => []
  | v :: vs => .bool v.b :: .slice v.A v.xs.length v.c :: .slice v.D v.ys.length v.d :: fcells vs
theorem fcells_get (vs : List Fx) : ∀ k (hk : k < vs.length), (fcells vs)[k * 3]? = some (.bool vs[k].b) ∧ (fcells vs)[k * 3 + 1]? = some (.slice vs[k].A vs[k].xs.length vs[k].c) ∧ (fcells vs)[k * 3 + 2]? = some (.slice vs[k].D vs[k].ys.length vs[k].d) := by
  induction vs with
  | nil => intro k hk; simp at hk
  | cons v vs ih =>
    intro k hk
    cases k with
    | zero => exact ⟨rfl, rfl, rfl⟩
    | succ k =>
      have h := ih k (by simpa using hk)
      have e : (k + 1) * 3 = k * 3 + 1 + 1 + 1 := by omega
      rw [fcells, e]
      simp only [List.getElem?_cons_succ, List.getElem_cons_succ]
      exact h
/-- a row of fractions of the call's own -/
def Fr (w : World) (B : Nat) (A : Option Addr) (c : Nat) (vs : List Fx) : Prop := World.ownsRow w B 26 3 (.slice A vs.length c) vs.length (fcells vs)
theorem add_mk (g j : Nat) : (⟨g, 0, none⟩ : Addr).add j = ⟨g, j, none⟩ := by
  unfold Addr.add
  split
  · rename_i h; rw [h]
  · simp
theorem Fr.rd {w : World} {B : Nat} {A : Option Addr} {c : Nat} {vs : List Fx} (h : Fr w B A c vs) : RdF w A vs := fun hn => by
  have h' := h
  rcases h.2 with ⟨_, h0⟩ | ⟨g, cap, cur, hv, _, hg, _⟩
  · omega
  · simp only [Value.slice.injEq] at hv
    obtain ⟨rfl, _, rfl⟩ := hv
    refine ⟨_, rfl, ?_, fun k hk => ?_⟩
    · exact (Array.getElem?_eq_some_iff.1 hg).1
    · obtain ⟨h0, h1, h2⟩ := fcells_get vs k hk
      have hc := fun j hj => World.ownsRow.cellAt h' j hj
      rw [add_mk]
      exact ⟨(hc (k * 3) (by omega)).trans h0, (hc (k * 3 + 1) (by omega)).trans h1, (hc (k * 3 + 2) (by omega)).trans h2⟩
theorem Fr.below {w w' : World} {B : Nat} {A : Option Addr} {c : Nat} {vs : List Fx} (h : Fr w B A c vs) (hb : Below w.heap.size w w') : Fr w' B A c vs :=
  World.ownsRow.kept h (w' := w') (row := none) ⟨hb.os, hb.tape, hb.output, hb.size, fun k hk _ => hb.block k hk⟩ (by
    cases A with
    | none => exact .inl rfl
    | some ad => exact .inr (by simp [Value.ownBlock]))
theorem Bk3.grown {w w' : World} {G : Nat} {v0 v1 v2 : Value} {row : Option Nat} (h : Bk3 w G v0 v1 v2) (hg : w.grownBy w' row) (hne : some G ≠ row) : Bk3 w' G v0 v1 v2 := by
  have hb : w'.heap[G]? = w.heap[G]? := hg.block G h.lt hne
  refine ⟨hg.cell h.c0 hne, hg.cell h.c1 hne, hg.cell h.c2 hne, ?_, ?_, ?_, Nat.lt_of_lt_of_le h.lt hg.size, by rw [hb]; exact h.blk⟩
  · rw [← h.f0]; unfold World.frozen?; rw [hb]
  · rw [← h.f1]; unfold World.frozen?; rw [hb]
  · rw [← h.f2]; unfold World.frozen?; rw [hb]
theorem Fr.lt {w : World} {B : Nat} {A : Option Addr} {c : Nat} {vs : List Fx} (h : Fr w B A c vs) : ∀ k, A.map (·.block) = some k → B ≤ k ∧ k < w.heap.size := by
  intro k hk
  rcases h.2 with ⟨hv, _⟩ | ⟨g, cap, cur, hv, hb, hg, _⟩
  · simp only [Value.slice.injEq] at hv
    obtain ⟨rfl, _, _⟩ := hv
    cases hk
  · simp only [Value.slice.injEq] at hv
    obtain ⟨rfl, _, rfl⟩ := hv
    simp at hk
    subst hk
    exact ⟨hb, (Array.getElem?_eq_some_iff.1 hg).1⟩
theorem add_add3 (ad : Addr) (k i : Nat) : (ad.add (k * 3)).add (i * 3) = ad.add ((k + i) * 3) ∨ i = 0 := by
  rcases Nat.eq_zero_or_pos i with h | h
  · exact .inr h
  · left
    have ho : (ad.add (k * 3)).off = ad.off + k * 3 := by
      unfold Addr.add
      split
      · rename_i h0; rw [h0]; rfl
      · rfl
    rw [show ad.add ((k + i) * 3) = ⟨ad.block, ad.off + (k + i) * 3, none⟩ from if_neg (by omega),
      show (ad.add (k * 3)).add (i * 3) = ⟨(ad.add (k * 3)).block, (ad.add (k * 3)).off + i * 3, none⟩ from if_neg (by omega), block_of_add, ho, Nat.add_assoc, Nat.add_mul]
theorem RdF.take {w : World} {A : Option Addr} {vs : List Fx} (h : RdF w A vs) (k : Nat) : RdF w A (vs.take k) := fun hn => by
  obtain ⟨ad, e, hl, hc⟩ := h (by simp at hn; omega)
  refine ⟨ad, e, hl, fun i hi => ?_⟩
  rw [List.getElem_take]
  exact hc i (by simp at hi; omega)
theorem RdF.drop {w : World} {ad : Addr} {vs : List Fx} (h : RdF w (some ad) vs) (k : Nat) : RdF w (some (ad.add (k * 3))) (vs.drop k) := fun hn => by
  have hk : k < vs.length := by simp at hn; omega
  obtain ⟨ad', e, hl, hc⟩ := h (by omega)
  injection e with e
  subst e
  refine ⟨_, rfl, by rw [block_of_add]; exact hl, fun i hi => ?_⟩
  have hki : k + i < vs.length := by simp at hi; omega
  have h1 := hc (k + i) hki
  rw [List.getElem_drop]
  rcases add_add3 ad k i with e | rfl
  · rw [e]; exact h1
  · rw [show (ad.add (k * 3)).add (0 * 3) = ad.add (k * 3) from by rw [Nat.zero_mul]; exact if_pos rfl]; exact h1
end Go.Proofs.Ytnmomigaedfdoaa
namespace Go.Proofs.Ytnmomigaedfdoaa
set_option maxRecDepth 100000
open Go.RowKit

def loQ : List Fx → Rat → Rat
  | [], q => q
  | x :: vs, q => loQ vs (if x.q ≤ q then x.q else q)
def hiQ : List Fx → Rat → Rat
  | [], q => q
  | x :: vs, q => hiQ vs (if q ≤ x.q then x.q else q)
end Go.Proofs.Ytnmomigaedfdoaa
namespace Go.Proofs.Ytnmomigaedfdoaa
set_option maxRecDepth 100000
open Go.RowKit

/-- the row's block holds no limb -/
def NoI (w : World) (A : Option Addr) : Prop := ∀ g, A.map (·.block) = some g → ∃ cur t, w.heap[g]? = some (.cells cur t (0, 0)) ∧ noInt cur
theorem NoI.nil (w : World) : NoI w none := fun g h => by cases h
theorem NoI.below {w w' : World} {A : Option Addr} (h : NoI w A) (hb : Below w.heap.size w w') : NoI w' A := fun g hg => by
  obtain ⟨cur, t, e, hn⟩ := h g hg
  have hl : g < w.heap.size := (Array.getElem?_eq_some_iff.1 e).1
  exact ⟨cur, t, (hb.block g hl).trans e, hn⟩
theorem NoI.sep {w : World} {A D : Option Addr} {c : Nat} {xs : List Nat} (h : NoI w A) (k : Nt w D c xs) (hx : 0 < xs.length) : ∀ ad, D = some ad → some ad.block ≠ A.map (·.block) := fun ad e he => by
  obtain ⟨cur, t, hc, hn⟩ := h ad.block he.symm
  exact k.sepB ⟨t, hc⟩ hn hx ad e rfl
theorem Fx.ok.grown {w w' : World} {A : Option Addr} {x : Fx} (h : x.ok w) (hn : NoI w A) (gr : w.grownBy w' (A.map (·.block))) : x.ok w' :=
  ⟨h.num.grown gr (fun hx => hn.sep h.num hx), h.den.grown gr (fun hx => hn.sep h.den hx)⟩
theorem OkF.grown {w w' : World} {A : Option Addr} {vs : List Fx} (h : OkF w vs) (hn : NoI w A) (gr : w.grownBy w' (A.map (·.block))) : OkF w' vs := fun v hv => ⟨(h v hv).1.grown hn gr, (h v hv).2⟩
theorem Fa.grown {w w' : World} {A : Option Addr} {x : Fx} {G : Nat} (h : Fa w G x) (hn : NoI w A) (gr : w.grownBy w' (A.map (·.block))) (hne : some G ≠ A.map (·.block)) : Fa w' G x := ⟨h.bk.grown gr hne, h.ok.grown hn gr⟩
end Go.Proofs.Ytnmomigaedfdoaa
namespace Go.Proofs.Ytnmomigaedfdoaa
set_option maxRecDepth 100000
open Go.RowKit

/-- the least and the greatest of a list of numbers -/
def loL : List Rat → Rat → Rat
  | [], q => q
  | x :: vs, q => loL vs (if x ≤ q then x else q)
def hiL : List Rat → Rat → Rat
  | [], q => q
  | x :: vs, q => hiL vs (if q ≤ x then x else q)
def loP : List Rat → Rat
  | [] => 0
  | x :: vs => loL vs x
def hiP : List Rat → Rat
  | [] => 0
  | x :: vs => hiL vs x
/-- the products with both ends -/
def prodL (vs : List Fx) (lo hi : Rat) : List Rat := vs.flatMap (fun x => [x.q * lo, x.q * hi])
def anyBig (ps : List Rat) : Prop := ∃ p ∈ ps, bigQ p
instance (ps : List Rat) : Decidable (anyBig ps) := inferInstanceAs (Decidable (∃ p ∈ ps, bigQ p))
/-- what products reckons -/
def mulsS (ps : List Rat) : IvS := if anyBig ps then errI 2 else (okS (loP ps), okS (hiP ps), 0)
def NoBig (ps : List Rat) (n : Nat) : Prop := ∀ j, j < n → ∀ p, ps[j]? = some p → ¬ bigQ p
theorem NoBig.next {ps : List Rat} {n : Nat} {p : Rat} (h : NoBig ps n) (hp : ps[n]? = some p) (hb : ¬ bigQ p) : NoBig ps (n + 1) := by
  intro j hj p' hp'
  rcases Nat.lt_or_ge j n with h1 | h1
  · exact h j h1 p' hp'
  · obtain rfl : j = n := by omega
    rw [hp] at hp'
    injection hp' with hp'
    subst hp'
    exact hb
theorem NoBig.all {ps : List Rat} (h : NoBig ps ps.length) : ¬ anyBig ps := fun ⟨p, hp, hb⟩ => by
  obtain ⟨j, hj, rfl⟩ := List.getElem_of_mem hp
  exact h j hj _ (List.getElem?_eq_getElem hj) hb
theorem big_at {ps : List Rat} {n : Nat} {p : Rat} (hp : ps[n]? = some p) (hb : bigQ p) : mulsS ps = errI 2 := if_pos ⟨p, List.mem_of_getElem? hp, hb⟩
theorem take_next {ps : List Rat} {n : Nat} {p : Rat} {l : List Rat} (h : l = ps.take n) (hp : ps[n]? = some p) : l ++ [p] = ps.take (n + 1) := by
  rw [List.take_add_one, hp, h]; rfl
theorem mulF_q {x y : Fx} {p : Rat} (hx : x.v) (hy : y.v) (hp : x.q * y.q = p) (hb : ¬ bigQ p) : mulF x y = okS p := by
  rw [mulF, if_pos ⟨hx, hy⟩, hp, frS, if_neg hb]; rfl
theorem mulF_b {x y : Fx} {p : Rat} (hx : x.v) (hy : y.v) (hp : x.q * y.q = p) (hb : bigQ p) : mulF x y = errF 2 := by
  rw [mulF, if_pos ⟨hx, hy⟩, hp, frS, if_pos hb]; rfl
end Go.Proofs.Ytnmomigaedfdoaa
