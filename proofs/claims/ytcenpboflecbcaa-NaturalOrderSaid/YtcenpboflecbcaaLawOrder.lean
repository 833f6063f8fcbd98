/- NaturalOrder: for all numbers Cmp is a total order that addition respects and that agrees with Sub; every input, no condition. -/
import Derived.Test.YtcenpboflecbcaaLawA
import Derived.Test.YtcenpboflecbcaaNatC
namespace Go.Proofs.Ytcenpboflecbcaa
open Go.RowKit

theorem order_long (w : World) (A B C : Option Addr) (a b c : Nat) (xs ys zs : List Nat) (hA : Nt w A a xs) (hB : Nt w B b ys) (hC : Nt w C c zs) (h : 60 < xs.length ∨ 60 < ys.length ∨ 60 < zs.length) :
    Calls Try.prog 4 #[.slice A xs.length a, .slice B ys.length b, .slice C zs.length c] w fun e w' => e = .returned (.bool true) ∧ Below w.heap.size w w' := by
  go_enter Try.func4, Try.ntmps4
  go_wp2_with fail
  have hAl := hA.len
  have hBl := hB.len
  have hCl := hC.len
  have hrd : Rd slv (w.alloc (.cells #[.slice A xs.length a, .slice B ys.length b, .slice C zs.length c] 25)) (some ⟨w.heap.size, 0, none⟩) [(A, xs.length, a), (B, ys.length, b), (C, zs.length, c)] := (Gr.lit (mk := slv) (e := 25) (B := w.heap.size) w [(A, xs.length, a), (B, ys.length, b), (C, zs.length, c)] _ rfl (by simp [maxLen]) (Nat.le_refl _)).rd
  have b1 : Below w.heap.size w (w.alloc (.cells #[.slice A xs.length a, .slice B ys.length b, .slice C zs.length c] 25)) := (Below.refl w.heap.size w).alloc (Nat.le_refl _) _
  revert hrd b1
  generalize (w.alloc (.cells #[.slice A xs.length a, .slice B ys.length b, .slice C zs.length c] 25)) = w1
  intro hrd b1
  refine (long_any w1 _ _ _ _ true hrd rfl (by simp) (by intro v hv; simp only [List.mem_cons, List.not_mem_nil, or_false] at hv; rcases hv with rfl | rfl | rfl <;> simp <;> omega) (by simp <;> omega)).mono ?_
  rintro e w' ⟨rfl, rfl⟩
  clear hrd
  go_wp2_with fail
  refine (awake_any w1).mono ?_
  rintro e w2 ⟨rfl, b2⟩
  go_wp2_with fail
  go_ret
  exact ⟨rfl, below_on b1 b2 b1.size⟩

theorem cmp3_cases (m n : Nat) : (m < n ∧ cmp3 m n = -1 ∧ cmp3 n m = 1) ∨ (m = n ∧ cmp3 m n = 0 ∧ cmp3 n m = 0) ∨ (n < m ∧ cmp3 m n = 1 ∧ cmp3 n m = -1) := by
  rcases Nat.lt_trichotomy m n with h | h | h
  · exact .inl ⟨h, cmp3_lt h, cmp3_gt h⟩
  · exact .inr (.inl ⟨h, cmp3_eq h, cmp3_eq h.symm⟩)
  · exact .inr (.inr ⟨h, cmp3_gt h, cmp3_lt h⟩)
theorem lim_small {xs : List Nat} (hu : U32 xs) (h : xs.length ≤ 60) : (lim (nv xs)).length ≤ 60 := Nat.le_trans (lim_length_le_length hu) h
theorem lim_add_small {m n : Nat} (hm : (lim m).length ≤ 60) (hn : (lim n).length ≤ 60) : (lim (m + n)).length ≤ 61 := by
  rw [lim_length_le] at *
  rw [pw_succ]; omega

set_option maxHeartbeats 1000000 in
theorem order_case (w : World) (A B C : Option Addr) (a b c : Nat) (xs ys zs : List Nat) (hA : Nt w A a xs) (hB : Nt w B b ys) (hC : Nt w C c zs) (h1 : xs.length ≤ 60) (h2 : ys.length ≤ 60) (h3 : zs.length ≤ 60)
    (x y z E : Int) (hx : cmp3 (nv xs) (nv ys) = x) (hy : cmp3 (nv ys) (nv zs) = y) (hz : cmp3 (nv xs) (nv zs) = z) (hneg : cmp3 (nv ys) (nv xs) = -x) (hsub : ∃ R, subS (nv xs) (nv ys) = (R, E))
    (hc : (x = -1 ∧ E = 4) ∨ (x = 0 ∧ E = 0) ∨ (x = 1 ∧ E = 0)) (hc2 : y = -1 ∨ y = 0 ∨ y = 1) (hc3 : x ≤ 0 → y ≤ 0 → z ≤ 0) (hc4 : 0 ≤ x → 0 ≤ y → 0 ≤ z)
    (hsame : decide (lim (nv xs) = lim (nv ys)) = (x == 0)) (hadd : cmp3 (nv xs + nv zs) (nv ys + nv zs) = x) :
    Calls Try.prog 4 #[.slice A xs.length a, .slice B ys.length b, .slice C zs.length c] w fun e w' => e = .returned (.bool true) ∧ Below w.heap.size w w' := by
  obtain ⟨R, hsub⟩ := hsub
  have hs1 := lim_small hA.u h1
  have hs2 := lim_small hB.u h2
  have hs3 := lim_small hC.u h3
  have ha1 := lim_add_small hs1 hs3
  have ha2 := lim_add_small hs2 hs3
  have HX := Lib.hid hx
  have HY := Lib.hid hy
  have HZ := Lib.hid hz
  have HN := Lib.hid hneg
  have HS := Lib.hid hsub
  have HM := Lib.hid hsame
  have HD := Lib.hid hadd
  clear hx hy hz hneg hsub hsame hadd
  rcases hc with ⟨rfl, rfl⟩ | ⟨rfl, rfl⟩ | ⟨rfl, rfl⟩ <;> rcases hc2 with rfl | rfl | rfl
  all_goals
    have hz1 := hc3
    have hz2 := hc4
    simp only [Int.reduceLE, forall_const, false_implies, Int.reduceNeg] at hz1 hz2
    clear hc3 hc4
    go_enter Try.func4, Try.ntmps4
    go_wp2_with fail
    have hAl := hA.len
    have hBl := hB.len
    have hCl := hC.len
    have hrd : Rd slv (w.alloc (.cells #[.slice A xs.length a, .slice B ys.length b, .slice C zs.length c] 25)) (some ⟨w.heap.size, 0, none⟩) [(A, xs.length, a), (B, ys.length, b), (C, zs.length, c)] := (Gr.lit (mk := slv) (e := 25) (B := w.heap.size) w [(A, xs.length, a), (B, ys.length, b), (C, zs.length, c)] _ rfl (by simp [maxLen]) (Nat.le_refl _)).rd
    have b1 : Below w.heap.size w (w.alloc (.cells #[.slice A xs.length a, .slice B ys.length b, .slice C zs.length c] 25)) := (Below.refl w.heap.size w).alloc (Nat.le_refl _) _
    revert hrd b1
    generalize (w.alloc (.cells #[.slice A xs.length a, .slice B ys.length b, .slice C zs.length c] 25)) = w1
    intro hrd b1
    refine (long_any w1 _ _ _ _ false hrd rfl (by simp) (by intro v hv; simp only [List.mem_cons, List.not_mem_nil, or_false] at hv; rcases hv with rfl | rfl | rfl <;> simp <;> omega) (by simp <;> omega)).mono ?_
    rintro e w' ⟨rfl, rfl⟩
    clear hrd
    go_wp2_with fail
    refine (cmp_any w1 A B a b _ _ xs ys _ (hA.below b1) (hB.below b1) rfl rfl HX.out).mono ?_
    rintro e w2 ⟨rfl, q⟩
    have bw2 := below_on b1 (q.below w1.heap.size) b1.size
    clear q
    go_wp2_with fail
    refine (cmp_any w2 B C b c _ _ ys zs _ (hB.below bw2) (hC.below bw2) rfl rfl HY.out).mono ?_
    rintro e w3 ⟨rfl, q⟩
    have bw3 := below_on bw2 (q.below w2.heap.size) bw2.size
    clear q
    go_wp2_with fail
    refine (cmp_any w3 A C a c _ _ xs zs z (hA.below bw3) (hC.below bw3) rfl rfl HZ.out).mono ?_
    rintro e w4 ⟨rfl, q⟩
    have bw4 := below_on bw3 (q.below w3.heap.size) bw3.size
    clear q
    go_wp2_with fail
    refine (cmp_any w4 B A b a _ _ ys xs _ (hB.below bw4) (hA.below bw4) rfl rfl HN.out).mono ?_
    rintro e w5 ⟨rfl, q⟩
    have bw5 := below_on bw4 (q.below w4.heap.size) bw4.size
    clear q
    go_wp2_with fail
    refine (cmp_any w5 A A a a _ _ xs xs 0 (hA.below bw5) (hA.below bw5) rfl rfl (cmp3_eq rfl)).mono ?_
    rintro e w6 ⟨rfl, q⟩
    have bw6 := below_on bw5 (q.below w5.heap.size) bw5.size
    clear q
    go_wp2_with fail
    refine (sub_any w6 A B a b _ _ xs ys R _ (hA.below bw6) (hB.below bw6) rfl rfl HS.out).mono ?_
    rintro e w7 ⟨A7, c7, rfl, n7, b7⟩
    have bw7 := below_on bw6 b7 bw6.size
    clear n7 b7
    go_wp2_with fail
    refine (add_any w7 A C a c _ _ xs zs (lim (nv xs + nv zs)) 0 (hA.below bw7) (hC.below bw7) rfl rfl (by rw [addS_ok (by omega) (by omega), sizS, if_neg (by omega)])).mono ?_
    rintro e w8 ⟨A8, c8, rfl, n8, b8⟩
    have bw8 := below_on bw7 b8 bw7.size
    go_wp2_with fail
    refine (add_any w8 B C b c _ _ ys zs (lim (nv ys + nv zs)) 0 (hB.below bw8) (hC.below bw8) rfl rfl (by rw [addS_ok (by omega) (by omega), sizS, if_neg (by omega)])).mono ?_
    rintro e w9 ⟨A9, c9, rfl, n9, b9⟩
    have bw9 := below_on bw8 b9 bw8.size
    have n8' := n8.below b9
    clear n8 b8 b9
    go_wp2_with fail
    refine (cmp_any w9 A8 A9 c8 c9 _ _ (lim (nv xs + nv zs)) (lim (nv ys + nv zs)) _ n8' n9 rfl rfl ((congr (congrArg cmp3 (nv_lim _)) (nv_lim _)).trans HD.out)).mono ?_
    rintro e wa ⟨rfl, q⟩
    have bwa := below_on bw9 (q.below w9.heap.size) bw9.size
    clear q
    go_wp2_with fail
    clear n8' n9
    refine (trim_any wa A a _ xs (hA.below bwa) rfl (by omega)).mono ?_
    rintro e wb ⟨Ab, cb, rfl, gb, bb⟩
    have bwb := below_on bwa bb bwa.size
    clear bb
    go_wp2_with fail
    refine (trim_any wb B b _ ys (hB.below bwb) rfl (by omega)).mono ?_
    rintro e wc ⟨Ac, cc, rfl, gc, bc⟩
    have bwc := below_on bwb bc bwb.size
    have nb := (gb.below bc).nt (lim_u32 _)
    have nc := gc.nt (lim_u32 _)
    clear bc gb gc
    go_wp2_with fail
    refine (same_any wc Ab Ac cb cc _ _ _ _ _ nb nc rfl rfl HM.out).mono ?_
    rintro e wd ⟨rfl, qd⟩
    have bwd := below_on bwc (qd.below wc.heap.size) bwc.size
    clear qd nb nc
    go_wp2_with fail
    refine (awake_any wd).mono ?_
    rintro e we ⟨rfl, be⟩
    go_wp2_with fail
    go_ret
    exact ⟨rfl, below_on bwd be bwd.size⟩

theorem order_walk (w : World) (A : Option Addr) (a : Nat) (xs : List Nat) (B : Option Addr) (b : Nat) (ys : List Nat) (C : Option Addr) (c : Nat) (zs : List Nat) (hA : Nt w A a xs) (hB : Nt w B b ys) (hC : Nt w C c zs) :
    Calls Try.prog 4 #[.slice A xs.length a, .slice B ys.length b, .slice C zs.length c] w fun e w' => e = .returned (.bool true) ∧ Below w.heap.size w w' := by
  by_cases h : 60 < xs.length ∨ 60 < ys.length ∨ 60 < zs.length
  · exact order_long w A B C a b c xs ys zs hA hB hC h
  · have s1 := lim_small hA.u (by omega)
    have s2 := lim_small hB.u (by omega)
    have hd : ∀ m n k : Nat, cmp3 (m + k) (n + k) = cmp3 m n := by
      intro m n k
      unfold cmp3
      by_cases h1 : m < n
      · rw [if_pos h1, if_pos (by omega)]
      · rw [if_neg h1, if_neg (by omega)]
        by_cases h2 : n < m
        · rw [if_pos h2, if_pos (by omega)]
        · rw [if_neg h2, if_neg (by omega)]
    have hle : ∀ m n : Nat, (cmp3 m n ≤ 0 ↔ m ≤ n) ∧ (0 ≤ cmp3 m n ↔ n ≤ m) := by
      intro m n
      rcases cmp3_cases m n with ⟨h1, h2, _⟩ | ⟨h1, h2, _⟩ | ⟨h1, h2, _⟩ <;> rw [h2] <;> omega
    rcases cmp3_cases (nv xs) (nv ys) with ⟨h1, h2, h3⟩ | ⟨h1, h2, h3⟩ | ⟨h1, h2, h3⟩
    · refine order_case w A B C a b c xs ys zs hA hB hC (by omega) (by omega) (by omega) (-1) _ _ 4 h2 rfl rfl h3 ⟨[], subS_neg (by omega) (by omega) h1⟩ (.inl ⟨rfl, rfl⟩) ?_ ?_ ?_ ?_ ((hd _ _ _).trans h2)
      · rcases cmp3_cases (nv ys) (nv zs) with ⟨_, h, _⟩ | ⟨_, h, _⟩ | ⟨_, h, _⟩ <;> simp [h]
      · intro _ h; rw [(hle _ _).1] at h ⊢; omega
      · intro h; omega
      · apply decide_eq_false; intro e; have := congrArg nv e; rw [nv_lim, nv_lim] at this; omega
    · refine order_case w A B C a b c xs ys zs hA hB hC (by omega) (by omega) (by omega) 0 _ _ 0 h2 rfl rfl h3 ⟨lim (nv xs - nv ys), ?_⟩ (.inr (.inl ⟨rfl, rfl⟩)) ?_ ?_ ?_ ?_ ((hd _ _ _).trans h2)
      · rw [subS_ok (by omega) (by omega) (by omega), sizS, if_neg]; have := lim_length_mono (show nv xs - nv ys ≤ nv xs by omega); omega
      · rcases cmp3_cases (nv ys) (nv zs) with ⟨_, h, _⟩ | ⟨_, h, _⟩ | ⟨_, h, _⟩ <;> simp [h]
      · intro _ h; rw [(hle _ _).1] at h ⊢; omega
      · intro _ h; rw [(hle _ _).2] at h ⊢; omega
      · apply decide_eq_true; rw [h1]
    · refine order_case w A B C a b c xs ys zs hA hB hC (by omega) (by omega) (by omega) 1 _ _ 0 h2 rfl rfl h3 ⟨lim (nv xs - nv ys), ?_⟩ (.inr (.inr ⟨rfl, rfl⟩)) ?_ ?_ ?_ ?_ ((hd _ _ _).trans h2)
      · rw [subS_ok (by omega) (by omega) (by omega), sizS, if_neg]; have := lim_length_mono (show nv xs - nv ys ≤ nv xs by omega); omega
      · rcases cmp3_cases (nv ys) (nv zs) with ⟨_, h, _⟩ | ⟨_, h, _⟩ | ⟨_, h, _⟩ <;> simp [h]
      · intro h; omega
      · intro _ h; rw [(hle _ _).2] at h ⊢; omega
      · apply decide_eq_false; intro e; have := congrArg nv e; rw [nv_lim, nv_lim] at this; omega
end Go.Proofs.Ytcenpboflecbcaa
