/- All that the kernel has checked, together. No program in sight. The program's floors of the exponential, the weights and the tails are the true ones, for x up to 64 with denominators up to 256. No program in sight. -/
import Derived.Test.YtnmomigaedfdoaaEnM0
import Derived.Test.YtnmomigaedfdoaaEnM1
import Derived.Test.YtnmomigaedfdoaaEnM2
import Derived.Test.YtnmomigaedfdoaaEnM3
import Derived.Test.YtnmomigaedfdoaaEnM4
import Derived.Test.YtnmomigaedfdoaaEnM5
import Derived.Test.YtnmomigaedfdoaaEnM6
import Derived.Test.YtnmomigaedfdoaaEnM7
import Derived.Test.YtnmomigaedfdoaaEnQ
namespace Go.Proofs.Ytnmomigaedfdoaa
set_option maxRecDepth 100000

theorem tst_all : ∀ j, j ≤ 63 → ∃ N, 1 ≤ N ∧ N ≤ 256 ∧ ∀ d, 1 ≤ d → d ≤ 256 → tst 135 272 N j d = true
  | 0, _ => ⟨21, by omega, by omega, tj0⟩
  | 1, _ => ⟨26, by omega, by omega, tj1⟩
  | 2, _ => ⟨30, by omega, by omega, tj2⟩
  | 3, _ => ⟨34, by omega, by omega, tj3⟩
  | 4, _ => ⟨37, by omega, by omega, tj4⟩
  | 5, _ => ⟨40, by omega, by omega, tj5⟩
  | 6, _ => ⟨43, by omega, by omega, tj6⟩
  | 7, _ => ⟨46, by omega, by omega, tj7⟩
  | 8, _ => ⟨49, by omega, by omega, tj8⟩
  | 9, _ => ⟨51, by omega, by omega, tj9⟩
  | 10, _ => ⟨54, by omega, by omega, tj10⟩
  | 11, _ => ⟨56, by omega, by omega, tj11⟩
  | 12, _ => ⟨58, by omega, by omega, tj12⟩
  | 13, _ => ⟨61, by omega, by omega, tj13⟩
  | 14, _ => ⟨63, by omega, by omega, tj14⟩
  | 15, _ => ⟨65, by omega, by omega, tj15⟩
  | 16, _ => ⟨67, by omega, by omega, tj16⟩
  | 17, _ => ⟨69, by omega, by omega, tj17⟩
  | 18, _ => ⟨72, by omega, by omega, tj18⟩
  | 19, _ => ⟨74, by omega, by omega, tj19⟩
  | 20, _ => ⟨76, by omega, by omega, tj20⟩
  | 21, _ => ⟨78, by omega, by omega, tj21⟩
  | 22, _ => ⟨80, by omega, by omega, tj22⟩
  | 23, _ => ⟨82, by omega, by omega, tj23⟩
  | 24, _ => ⟨83, by omega, by omega, tj24⟩
  | 25, _ => ⟨85, by omega, by omega, tj25⟩
  | 26, _ => ⟨87, by omega, by omega, tj26⟩
  | 27, _ => ⟨89, by omega, by omega, tj27⟩
  | 28, _ => ⟨91, by omega, by omega, tj28⟩
  | 29, _ => ⟨93, by omega, by omega, tj29⟩
  | 30, _ => ⟨95, by omega, by omega, tj30⟩
  | 31, _ => ⟨97, by omega, by omega, tj31⟩
  | 32, _ => ⟨98, by omega, by omega, tj32⟩
  | 33, _ => ⟨100, by omega, by omega, tj33⟩
  | 34, _ => ⟨102, by omega, by omega, tj34⟩
  | 35, _ => ⟨104, by omega, by omega, tj35⟩
  | 36, _ => ⟨106, by omega, by omega, tj36⟩
  | 37, _ => ⟨107, by omega, by omega, tj37⟩
  | 38, _ => ⟨109, by omega, by omega, tj38⟩
  | 39, _ => ⟨111, by omega, by omega, tj39⟩
  | 40, _ => ⟨112, by omega, by omega, tj40⟩
  | 41, _ => ⟨114, by omega, by omega, tj41⟩
  | 42, _ => ⟨116, by omega, by omega, tj42⟩
  | 43, _ => ⟨118, by omega, by omega, tj43⟩
  | 44, _ => ⟨119, by omega, by omega, tj44⟩
  | 45, _ => ⟨121, by omega, by omega, tj45⟩
  | 46, _ => ⟨123, by omega, by omega, tj46⟩
  | 47, _ => ⟨124, by omega, by omega, tj47⟩
  | 48, _ => ⟨126, by omega, by omega, tj48⟩
  | 49, _ => ⟨128, by omega, by omega, tj49⟩
  | 50, _ => ⟨129, by omega, by omega, tj50⟩
  | 51, _ => ⟨131, by omega, by omega, tj51⟩
  | 52, _ => ⟨133, by omega, by omega, tj52⟩
  | 53, _ => ⟨134, by omega, by omega, tj53⟩
  | 54, _ => ⟨136, by omega, by omega, tj54⟩
  | 55, _ => ⟨137, by omega, by omega, tj55⟩
  | 56, _ => ⟨139, by omega, by omega, tj56⟩
  | 57, _ => ⟨141, by omega, by omega, tj57⟩
  | 58, _ => ⟨142, by omega, by omega, tj58⟩
  | 59, _ => ⟨144, by omega, by omega, tj59⟩
  | 60, _ => ⟨145, by omega, by omega, tj60⟩
  | 61, _ => ⟨147, by omega, by omega, tj61⟩
  | 62, _ => ⟨149, by omega, by omega, tj62⟩
  | 63, _ => ⟨150, by omega, by omega, tj63⟩
  | n + 64, h => absurd h (by omega)
end Go.Proofs.Ytnmomigaedfdoaa
namespace Go.Proofs.Ytnmomigaedfdoaa
set_option maxRecDepth 100000

/-- some good x -/
theorem good_ex {num den : Nat} (hx : XOk num den) (hd : den ≤ 256) (hn : 1 ≤ num) (hg : Nat.gcd num den = 1) : ∃ N F, 1 ≤ N ∧ Goodx 135 272 N F (xR num den) := by
  have h0 := hx.d0
  have hle := hx.le
  have hj : (num - 1) / den ≤ 63 := by
    refine Nat.le_of_lt_succ ((Nat.div_lt_iff_lt_mul h0).2 ?_)
    omega
  obtain ⟨N, hN, _, ht⟩ := tst_all _ hj
  have hdm := Nat.div_add_mod (num - 1) den
  have hml := Nat.mod_lt (num - 1) h0
  generalize hjj : (num - 1) / den = j at *
  obtain ⟨s, hs⟩ : ∃ s, s = (num - 1) % den + 1 := ⟨_, rfl⟩
  have e : j * den + s = num := by rw [Nat.mul_comm]; omega
  obtain ⟨F, hF⟩ := tst_good (P := 135) (L := 272) (N := N) (j := j) (d := den) (s := s) (by omega) (by omega) h0 hd hj (ht den h0 hd) (by omega) (by omega) (by rw [e]; exact hg)
  refine ⟨N, F, hN, ?_⟩
  have ex : (s : Rat) * (1 / (den : Rat)) + (j : Rat) = xR num den := by
    have hdr : (den : Rat) ≠ 0 := by exact_mod_cast (Nat.ne_of_gt h0)
    have e2 : (num : Rat) = (j : Rat) * (den : Rat) + (s : Rat) := by rw [← e, Rat.natCast_add, Rat.natCast_mul]
    have hh : (1 / (den : Rat)) * (den : Rat) = 1 := Rat.div_mul_cancel hdr
    have e3 : xR num den = (num : Rat) * (1 / (den : Rat)) := by rw [xR, Rat.div_def, Rat.div_def, Rat.one_mul]
    rw [e3, e2]
    generalize 1 / (den : Rat) = y at *
    have e4 : ((j : Rat) * (den : Rat) + (s : Rat)) * y = (j : Rat) * (y * (den : Rat)) + (s : Rat) * y := by grind
    rw [e4, hh]; grind
  rw [← ex]
  exact hF
/-- the numerator of what is asked for -/
def sV (kind n : Nat) (x : Rat) (M : Nat) : Rat := if kind = 0 then 1 else if kind = 1 then tq x n else eq_ x M - eq_ x (n + 1)
section
variable {num den n k : Nat}
theorem fAt_1 (hx : XOk num den) (hn : n ≤ 256) (hb : k ≤ 64) {p : Nat} (h0 : 40 ≤ p) (h1 : p ≤ 16130) : fAt num den n k 1 p = ((tE num den (2 ^ p) n).lo * 2 ^ k / (sAE num den (2 ^ p) (stopI num den (2 ^ p) n)).hi, (tE num den (2 ^ p) n).hi * 2 ^ k / (sAE num den (2 ^ p) (stopI num den (2 ^ p) n)).lo) := by
  rw [fAt_eq hx hn hb h0 h1, partE, if_neg (by omega), if_pos rfl]
theorem fAt_2 (hx : XOk num den) (hn : n ≤ 256) (hb : k ≤ 64) {p : Nat} (h0 : 40 ≤ p) (h1 : p ≤ 16130) : fAt num den n k 2 p = ((sRE num den (2 ^ p) n (stopI num den (2 ^ p) n)).lo * 2 ^ k / (sAE num den (2 ^ p) (stopI num den (2 ^ p) n)).hi, (sRE num den (2 ^ p) n (stopI num den (2 ^ p) n)).hi * 2 ^ k / (sAE num den (2 ^ p) (stopI num den (2 ^ p) n)).lo) := by
  rw [fAt_eq hx hn hb h0 h1, partE, if_neg (by omega), if_neg (by omega)]
theorem prec_in (k1 : 1 ≤ k) (k2 : k ≤ 63) {j : Nat} (hj : j ≤ 2) : 40 ≤ (k + 48) * 2 ^ j ∧ (k + 48) * 2 ^ j ≤ 16130 := by
  rcases (show j = 0 ∨ j = 1 ∨ j = 2 by omega) with rfl | rfl | rfl <;> omega
theorem g23 : 2 ^ (135 - 112) = 2 ^ 23 := rfl
theorem small_ok (k2 : k ≤ 63) : 2 ^ (135 - 64) + 2 ^ 23 ≤ (0 + 1) * 2 ^ (135 - k) := by
  rw [Nat.zero_add, Nat.one_mul]
  exact Nat.le_trans (show 2 ^ (135 - 64) + 2 ^ 23 ≤ 2 ^ 72 by decide) (Nat.pow_le_pow_right (by omega) (by omega))
theorem p64_le : 2 ^ (135 - 64) ≤ 2 ^ 135 := Nat.pow_le_pow_right (by omega) (by omega)
/-- the floor of a weight -/
theorem wt_floor (hx : XOk num den) (hd : den ≤ 256) (h1 : 1 ≤ num) (hg : Nat.gcd num den = 1) (hn : n ≤ 256) (k1 : 1 ≤ k) (k2 : k ≤ 63) :
    Flo (2 ^ k) (floorM num den n k 1) (xR num den) (sV 1 n (xR num den)) := by
  obtain ⟨N, F, hN, G⟩ := good_ex hx hd h1 hg
  have hxn := xR_nn (num := num) hx.d0
  have h2 : (fAt num den n k 1 ((k + 48) * 2 ^ 2)).1 = (fAt num den n k 1 ((k + 48) * 2 ^ 2)).2 := by
    obtain ⟨p0, p1⟩ := prec_in k1 k2 (show 2 ≤ 2 by omega)
    rw [fAt_1 hx hn (by omega) p0 p1]
    have hE := enc_at hx hn p0 p1
    have hP := enc_wt (n := n) hx hE
    have ht := tE_enc (num := num) hx.d0 (2 ^ ((k + 48) * 2 ^ 2)) n
    by_cases hnN : n < N
    · obtain ⟨m, f1, f2⟩ := good_wt (by omega) (by omega) G hnN k k2
      rw [g23] at f1 f2
      refine agree2 (D := wtN 272 F n) (m := m) hE hP.wid hP.le (Nat.le_trans (Nat.sub_le _ _) (G.st.le n)) (f2c hE (wt_hi G hxn hnN) ht.1) k2 rfl ?_ f2
      exact f1.imp_right fun h => ⟨h, f1c hE (wt_lo G hxn hnN) ht.2⟩
    · have hl := good_last G
      have hle := G.st.le (N - 1)
      have hlo := G.st.lo (N - 1) (by omega)
      rw [show N - 1 + 1 = N by omega] at hlo
      have hq : tq (xR num den) n ≤ eq_ (xR num den) (n + 1) - eq_ (xR num den) N := by
        have a := eq_mono hxn (show N ≤ n by omega)
        have e : eq_ (xR num den) (n + 1) = eq_ (xR num den) n + tq (xR num den) n := rfl
        grind
      have hlo2 := Rat.le_trans ht.1 (mul_le_l (natR_nn _) hq)
      have hf2 := f2t hE hle hlo hlo2
      refine agree2 (D := 2 ^ (135 - 64)) (m := 0) hE hP.wid hP.le p64_le ?_ k2 rfl (Or.inl rfl) (small_ok k2)
      refine Nat.le_trans hf2 (Nat.mul_le_mul_right _ ?_)
      omega
  obtain ⟨j, hj, ht, hf⟩ := floorM_some h2
  obtain ⟨p0, p1⟩ := prec_in k1 k2 hj
  rw [fAt_1 hx hn (by omega) p0 p1] at ht hf
  have hE := enc_at hx hn p0 p1
  have hL : 0 < (sAE num den (2 ^ ((k + 48) * 2 ^ j)) (stopI num den (2 ^ ((k + 48) * 2 ^ j)) n)).lo := Nat.lt_of_lt_of_le (Nat.pow_pos (by omega)) hE.one
  have ht2 := tE_enc (num := num) hx.d0 (2 ^ ((k + 48) * 2 ^ j)) n
  rw [hf]
  exact told_c hE hxn hL rfl ht.symm ht2.1 ht2.2
/-- the floor of a tail -/
theorem tail_floor (hx : XOk num den) (hd : den ≤ 256) (h1 : 1 ≤ num) (hg : Nat.gcd num den = 1) (hn : n ≤ 256) (k1 : 1 ≤ k) (k2 : k ≤ 63) :
    Flo (2 ^ k) (floorM num den n k 2) (xR num den) (sV 2 n (xR num den)) := by
  obtain ⟨N, F, hN, G⟩ := good_ex hx hd h1 hg
  have hxn := xR_nn (num := num) hx.d0
  have h2 : (fAt num den n k 2 ((k + 48) * 2 ^ 2)).1 = (fAt num den n k 2 ((k + 48) * 2 ^ 2)).2 := by
    obtain ⟨p0, p1⟩ := prec_in k1 k2 (show 2 ≤ 2 by omega)
    rw [fAt_2 hx hn (by omega) p0 p1]
    have hE := enc_at hx hn p0 p1
    obtain ⟨hP, t1, t2⟩ := enc_tail hx hn p0 p1
    by_cases hnN : n < N
    · obtain ⟨m, f1, f2⟩ := good_tail (by omega) (by omega) G hnN k k2
      rw [g23] at f1 f2
      have hle := G.st.le n
      refine agree2 (D := 2 ^ 135 - lnq 272 F n) (m := m) hE hP.wid hP.le (Nat.sub_le _ _) ?_ k2 rfl ?_ f2
      · exact Nat.le_trans (f2t hE hle (G.st.lo n hnN) t1) (Nat.mul_le_mul_right _ (Nat.le_add_right _ _))
      · refine f1.imp_right fun h => ⟨h, ?_⟩
        have := f1t hE hxn (G.st.hi n hnN) t2
        rw [← Nat.sub_sub] at this
        exact this
    · have hl := good_last G
      have hle := G.st.le (N - 1)
      have hlo := G.st.lo (N - 1) (by omega)
      rw [show N - 1 + 1 = N by omega] at hlo
      have hq : eq_ (xR num den) (stopI num den (2 ^ ((k + 48) * 2 ^ 2)) n + 1) - eq_ (xR num den) (n + 1) ≤ eq_ (xR num den) (stopI num den (2 ^ ((k + 48) * 2 ^ 2)) n + 1) - eq_ (xR num den) N := by
        have a := eq_mono hxn (show N ≤ n + 1 by omega)
        grind
      have hlo2 := Rat.le_trans t1 (mul_le_l (natR_nn _) hq)
      have hf2 := f2t hE hle hlo hlo2
      refine agree2 (D := 2 ^ (135 - 64)) (m := 0) hE hP.wid hP.le p64_le ?_ k2 rfl (Or.inl rfl) (small_ok k2)
      refine Nat.le_trans hf2 (Nat.mul_le_mul_right _ ?_)
      omega
  obtain ⟨j, hj, ht, hf⟩ := floorM_some h2
  obtain ⟨p0, p1⟩ := prec_in k1 k2 hj
  rw [fAt_2 hx hn (by omega) p0 p1] at ht hf
  have hE := enc_at hx hn p0 p1
  have hL : 0 < (sAE num den (2 ^ ((k + 48) * 2 ^ j)) (stopI num den (2 ^ ((k + 48) * 2 ^ j)) n)).lo := Nat.lt_of_lt_of_le (Nat.pow_pos (by omega)) hE.one
  obtain ⟨_, t1, t2⟩ := enc_tail hx hn p0 p1
  rw [hf]
  exact told_t hE hxn hL rfl ht.symm (eq_nn hxn _) t1 t2
/-- the floor of the exponential -/
theorem e_floor (hx : XOk num den) (hd : den ≤ 256) (h1 : 1 ≤ num) (k1 : 1 ≤ k) (k2 : k ≤ 64) :
    Flo (2 ^ k) (floorM num den 0 k 0) (xR num den) (sV 0 n (xR num den)) := by
  obtain ⟨v, hv, hlo, hhi, hf⟩ := expo_far hx.d0 hd h1 hx.le
  have hxn := xR_nn (num := num) hx.d0
  have hxe : (num : Rat) * (1 / (den : Rat)) = xR num den := by rw [xR, Rat.div_def, Rat.div_def, Rat.one_mul]
  rw [hxe] at hlo hhi
  have at_ : ∀ p, 40 ≤ p → p ≤ 16130 → fAt num den 0 k 0 p = (2 ^ p * 2 ^ k / (sAE num den (2 ^ p) (stopI num den (2 ^ p) 0)).hi, 2 ^ p * 2 ^ k / (sAE num den (2 ^ p) (stopI num den (2 ^ p) 0)).lo) := fun p h0 h1 => by
    rw [fAt_eq hx (by omega) k2 h0 h1, partE, if_pos rfl]
  have h2 : (fAt num den 0 k 0 ((k + 48) * 2 ^ 1)).1 = (fAt num den 0 k 0 ((k + 48) * 2 ^ 1)).2 := by
    rw [at_ _ (by omega) (by omega)]
    exact floor_agree (enc_at hx (by omega) (by omega) (by omega)) hv hlo hhi k1 k2 (hf k k1 k2) (by omega)
  obtain ⟨j, hj, ht, hf⟩ : ∃ j, j ≤ 1 ∧ (fAt num den 0 k 0 ((k + 48) * 2 ^ j)).1 = (fAt num den 0 k 0 ((k + 48) * 2 ^ j)).2 ∧ floorM num den 0 k 0 = (fAt num den 0 k 0 ((k + 48) * 2 ^ j)).1 := by
    by_cases h3 : (fAt num den 0 k 0 ((k + 48) * 2 ^ 0)).1 = (fAt num den 0 k 0 ((k + 48) * 2 ^ 0)).2
    · exact ⟨0, by omega, h3, floorM_at (by omega) (fun i hi => by omega) h3⟩
    · exact ⟨1, by omega, h2, floorM_at (by omega) (fun i hi => (show i = 0 by omega) ▸ h3) h2⟩
  obtain ⟨p0, p1⟩ : 40 ≤ (k + 48) * 2 ^ j ∧ (k + 48) * 2 ^ j ≤ 16130 := by
    rcases (show j = 0 ∨ j = 1 by omega) with rfl | rfl <;> omega
  rw [at_ _ p0 p1] at ht hf
  have hE := enc_at hx (show 0 ≤ 256 by omega) p0 p1
  have hL : 0 < (sAE num den (2 ^ ((k + 48) * 2 ^ j)) (stopI num den (2 ^ ((k + 48) * 2 ^ j)) 0)).lo := Nat.lt_of_lt_of_le (Nat.pow_pos (by omega)) hE.one
  have e1 : ((2 ^ ((k + 48) * 2 ^ j) : Nat) : Rat) * 1 = ((2 ^ ((k + 48) * 2 ^ j) : Nat) : Rat) := Rat.mul_one _
  rw [hf]
  show Flo (2 ^ k) _ (xR num den) (fun _ => (1 : Rat))
  exact told_c (s := 1) hE hxn hL rfl ht.symm (by rw [e1]; exact Rat.le_refl) (by rw [e1]; exact Rat.le_refl)
end
end Go.Proofs.Ytnmomigaedfdoaa
