/- The walks of Within and Caps. -/
import Derived.Test.YtgjhjdjbhmblmaaTrW
import Derived.Deep.RegionHeld3
namespace Go.Proofs.Ytgjhjdjbhmblmaa
open Go.RowKit

/-- a number made to lie from 0 to below n -/
def withinM (x n : Int) : Int := if n < 1 then 0 else x % n
theorem tmod_fix (x n : Int) (hn : 0 < n) : (if x.tmod n < 0 then x.tmod n + n else x.tmod n) = x % n := by
  have h0 := Int.emod_nonneg x (show n ≠ 0 by omega)
  have h1 := Int.emod_lt_of_pos x hn
  rw [Int.tmod_eq_emod]
  by_cases h : 0 ≤ x ∨ n ∣ x
  · rw [if_pos h]
    simp only [Int.natCast_zero, Int.sub_zero]
    rw [if_neg (by omega)]
  · rw [if_neg h]
    have : (n.natAbs : Int) = n := by omega
    rw [this]
    have hne : x % n ≠ 0 := fun e => h (.inr (Int.dvd_of_emod_eq_zero e))
    rw [if_pos (by omega)]; omega
theorem withinM_bd (x : Int) {n : Int} (hn : 1 ≤ n) : 0 ≤ withinM x n ∧ withinM x n < n := by
  rw [withinM, if_neg (by omega)]
  exact ⟨Int.emod_nonneg x (by omega), Int.emod_lt_of_pos x (by omega)⟩
theorem within_any (w : World) (x n : Int) (hx : -9223372036854775808 ≤ x ∧ x ≤ 9223372036854775807) (hn : n ≤ 1000000) :
    Calls Try.prog 18 #[.int .i64 x, .int .i64 n] w fun e w' => e = .returned (.int .i64 (withinM x n)) ∧ w = w' := by
  by_cases h1 : n < 1
  · have HM : Hid (withinM x n = 0) := Lib.hid (by rw [withinM, if_pos h1])
    have h1' : decide (n < 1) = true := decide_eq_true h1
    clear h1 hx
    go_enter Try.func18, Try.ntmps18
    go_wp2_with fail
    go_ret
    exact ⟨ret_int HM.out.symm, rfl⟩
  · have h1' : decide (n < 1) = false := decide_eq_false h1
    have hf := tmod_fix x n (by omega)
    have hb := withinM_bd x (show 1 ≤ n by omega)
    have HM : Hid (withinM x n = x % n) := Lib.hid (by rw [withinM, if_neg h1])
    rw [HM.out] at hb
    have hn0 : ¬ n = 0 := by omega
    have hn1 : 1 ≤ n := by omega
    obtain ⟨m, hm⟩ : ∃ m, x.tmod n = m := ⟨_, rfl⟩
    have hmb : -1000000 ≤ m ∧ m ≤ 1000000 := by rw [hm] at hf; split at hf <;> omega
    have hmb1 := hmb.1
    have hmb2 := hmb.2
    have hw : IntKind.i64.wrap m = m := IntWalk.i64_in _ (by omega)
    have hw2 : wrap64 m = m := by unfold wrap64; omega
    rw [hm] at hf
    have HF := Lib.hid hf
    by_cases h2 : m < 0
    · have h2' : decide (m < 0) = true := decide_eq_true h2
      have HR : Hid (m + n = withinM x n) := Lib.hid (by have := HF.out; rw [if_pos h2] at this; rw [HM.out]; exact this)
      clear h1 hb hf hmb
      go_enter Try.func18, Try.ntmps18
      go_wp2_with fail
      go_ret
      exact ⟨ret_int HR.out, rfl⟩
    · have h2' : decide (m < 0) = false := decide_eq_false h2
      have HR : Hid (m = withinM x n) := Lib.hid (by have := HF.out; rw [if_neg h2] at this; rw [HM.out]; exact this)
      clear h1 hb hf hmb
      go_enter Try.func18, Try.ntmps18
      go_wp2_with fail
      go_ret
      exact ⟨ret_int HR.out, rfl⟩
/-- the capacities that a law makes -/
def capsM (l : List Int) : List Int := 7 :: (l.take 4).map fun x => withinM x 21
theorem capsM_bd (l : List Int) : ∀ c ∈ capsM l, 0 ≤ c ∧ c ≤ 20 := by
  intro c hc
  rcases List.mem_cons.1 hc with rfl | hc
  · omega
  · obtain ⟨x, _, rfl⟩ := List.mem_map.1 hc
    have := withinM_bd x (show (1 : Int) ≤ 21 by omega)
    omega
theorem capsM_len (l : List Int) : 1 ≤ (capsM l).length ∧ (capsM l).length ≤ 5 := by simp [capsM]; omega
set_option maxRecDepth 100000 in
set_option maxHeartbeats 1600000 in
theorem caps_any (w : World) (A : Option Addr) (n c : Nat) (xs : List Int) (hA : Is w A c xs) (hn : n = xs.length) :
    Calls Try.prog 16 #[.slice A n c] w fun e w' => ∃ A' c', e = .returned (.slice A' (capsM xs).length c') ∧ Is w' A' c' (capsM xs) ∧ Below w.heap.size w w' := by
  have HA := Lib.hid hA; clear hA
  subst hn
  obtain ⟨i1, hi, hi0, hi1, hi2⟩ := info_parts int_info
  have hla := HA.out.len
  go_enter Try.func16, Try.ntmps16
  go_upto_region 2 with fail
  have hg := Gr.lit (mk := iv) (e := 3) (B := w.heap.size) w [7] #[.int .i64 7] rfl (by simp [maxLen]) (Nat.le_refl _)
  have b0 := (Below.refl w.heap.size w).alloc (Nat.le_refl _) (.cells #[.int .i64 7] 3)
  generalize (w.alloc (.cells #[.int .i64 7] 3)) = w0 at hg b0 ⊢
  go_wp2_with fail
  go_loopw [3, 4] (fun s i wr => ∃ (k : Nat) (A' : Option Addr) (c' : Nat), k ≤ xs.length ∧ k ≤ 4 ∧ i = .int .i64 k ∧ s = .slice A' (capsM (xs.take k)).length c' ∧ Gr iv 3 wr w.heap.size A' c' (capsM (xs.take k)) ∧ Below w.heap.size w wr) (fun _ i _ => xs.length - (intOf i).toNat)
  case atStart => exact ⟨0, _, _, by omega, by omega, rfl, rfl, hg, b0⟩
  case round =>
    clear hg b0
    obtain ⟨k, A', c', hk, hk4, rfl, rfl, hG, bw⟩ := hrel
    have HG := Lib.hid hG
    clear hG
    have hcl : (capsM (xs.take k)).length ≤ 5 := (capsM_len _).2
    by_cases hlt : k < xs.length
    · by_cases h4 : k < 4
      · obtain ⟨ad, rfl, _, hc⟩ := (HA.out.below bw).at k hlt
        have hwf := HA.out.wf _ (List.getElem_mem hlt)
        have HNX : Hid (capsM (xs.take k) ++ [withinM xs[k] 21] = capsM (xs.take (k + 1))) := Lib.hid (by
          simp only [capsM, List.take_take, Nat.min_eq_right (show k ≤ 4 by omega), Nat.min_eq_right (show k + 1 ≤ 4 by omega)]
          rw [List.take_succ_eq_append_getElem hlt, List.map_append]; rfl)
        have HWF := Lib.hid hwf
        clear hwf
        obtain ⟨L, hL⟩ : ∃ L, capsM (xs.take k) = L := ⟨_, rfl⟩
        rw [hL] at hcl HNX HG ⊢
        clear hL
        go_wp2_with (first
          | (go_at_call 18
             refine (within_any wr _ _ HWF.out (by omega)).mono ?_
             rintro e wn ⟨rfl, rfl⟩)
          | (at_builtin; refine wpList_append_rd _ (mk := iv) (fun _ => rfl) rfl _ _ 22 rfl 3 i1 (iv 0) 8 Try.underlying22 hi hi0 hi1 hi2 rfl (B := w.heap.size) rfl rfl (HG.out.below ((Below.refl _ _).alloc (Nat.le_refl _) _)) (some ⟨wr.heap.size, 0, none⟩) 1 1 [withinM xs[k] 21] rfl rfl (Rd.one wr _ _) (by simp only [maxLen]; omega) (by omega) (by have := bw.size; simp; omega) ?_; intro A2 c2 w2 hg2 _ hb2 _))
        go_roundw
        case rel =>
          have bl := (Below.refl wr.heap.size wr).alloc (Nat.le_refl _) (.cells #[.int .i64 (withinM xs[k] 21)] 3)
          refine ⟨k + 1, A2, c2, by omega, by omega, by go_num, ?_, by rw [← HNX.out]; exact hg2, (below_on bw bl bw.size).trans hb2⟩
          rw [← HNX.out, List.length_append]; rfl
        case measure => simp [intOf]; omega
      · have h4' : decide ((k : Int) < 4) = false := decide_eq_false (by omega)
        have HF : Hid (capsM (xs.take k) = capsM xs) := Lib.hid (by simp only [capsM, List.take_take]; rw [show min 4 k = 4 by omega])
        go_wp2_with fail
        go_ret
        rw [HF.out]
        have := HG.out
        rw [HF.out] at this
        exact ⟨A', c', rfl, this.is (fun x hx => by have := capsM_bd xs x hx; omega), bw⟩
    · have HF : Hid (capsM (xs.take k) = capsM xs) := Lib.hid (by rw [List.take_of_length_le (by omega)])
      go_wp2_with fail
      go_ret
      rw [HF.out]
      have := HG.out
      rw [HF.out] at this
      exact ⟨A', c', rfl, this.is (fun x hx => by have := capsM_bd xs x hx; omega), bw⟩
end Go.Proofs.Ytgjhjdjbhmblmaa
