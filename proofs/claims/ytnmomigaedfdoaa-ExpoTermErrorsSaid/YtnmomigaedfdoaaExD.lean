/- The walks of expo's add, down, up and limb. -/
import Derived.Test.YtnmomigaedfdoaaExW
import Derived.Deep.CutBlock
import Derived.Deep.DeepCutAuto
import Derived.Deep.RegionHeld3
namespace Go.Proofs.Ytnmomigaedfdoaa
set_option maxRecDepth 100000
open Go.RowKit

set_option maxHeartbeats 1600000 in
theorem xadd_any (w : World) (x y : Px) (hx : x.ok w) (hy : y.ok w) :
    Calls Try.prog 103 #[x.val, y.val] w fun e w' => ∃ z : Px, e = .returned z.val ∧ z.pr = plusP x.pr y.pr ∧ z.ok w' ∧ Below w.heap.size w w' := by
  go_enter Try.func103, Try.ntmps103
  go_upto_region 1 with fail
  have a2 := (pv_alloc hx 97).1
  have b2 := (pv_alloc hx 97).2
  have hy2 := hy.below b2
  have z2 := size_al w (.cells x.cells 97)
  generalize (w.alloc (.cells x.cells 97)) = w2 at a2 b2 hy2 z2 ⊢
  have a3 := (pv_alloc hy2 97).1
  have b3 := (pv_alloc hy2 97).2
  have z3 := size_al w2 (.cells y.cells 97)
  replace a2 := a2.below b3
  replace b2 := below_on b2 b3 b2.size
  rw [z2] at a3 z3
  clear hx hy hy2 b3
  generalize (w2.alloc (.cells y.cells 97)) = w3 at a2 a3 b2 z3 ⊢
  have a4 := (pv_new w3 97).1
  have b4 := (pv_new w3 97).2
  replace a2 := a2.below b4
  replace a3 := a3.below b4
  replace b2 := below_on b2 b4 b2.size
  rw [z3] at a4
  clear b4
  generalize (w3.alloc (.cells #[.slice none 0 0, .slice none 0 0] 97)) = w4 at a2 a3 a4 b2 ⊢
  clear z2 z3
  obtain ⟨g2, hg2⟩ : ∃ g2, w.heap.size = g2 := ⟨_, rfl⟩
  rw [hg2] at a2 a3 a4 ⊢
  have p0 := a2.c0
  have p1 := a2.c1
  have q0 := a3.c0
  have q1 := a3.c1
  go_wp2_with fail
  refine (nadd_any w4 _ _ _ _ x.lo y.lo a2.ok.lo a3.ok.lo).mono ?_
  rintro _ w5 ⟨A5, c5, E5, rfl, n5, bb⟩
  replace a2 := a2.below bb
  replace a3 := a3.below bb
  replace a4 := a4.below bb
  replace b2 := below_on b2 bb b2.size
  clear p0 p1 q0 q1 bb
  have p0 := a2.c0
  have p1 := a2.c1
  have q0 := a3.c0
  have q1 := a3.c1
  go_wp2_with fail
  refine (nadd_any w5 _ _ _ _ x.hi y.hi a2.ok.hi a3.ok.hi).mono ?_
  rintro _ w6 ⟨A6, c6, E6, rfl, n6, bb⟩
  replace n5 := n5.below bb
  replace a4 := a4.below bb
  replace b2 := below_on b2 bb b2.size
  clear p0 p1 q0 q1 bb a2 a3
  have r0 := a4.c0
  have r1 := a4.c1
  have s0 := a4.f0
  have s1 := a4.f1
  go_wp2_with fail
  refine bodyPost_ret (v := (⟨A5, c5, addO x.lo y.lo, A6, c6, addO x.hi y.hi⟩ : Px).val) (by simp [results, Try.results103, go_sem, r0, r1]) rfl ?_
  have hok : (⟨A5, c5, addO x.lo y.lo, A6, c6, addO x.hi y.hi⟩ : Px).ok w6 := ⟨n5, n6⟩
  exact ⟨⟨A5, c5, addO x.lo y.lo, A6, c6, addO x.hi y.hi⟩, rfl, rfl, hok.set2 a4.bk (noInt_p _), set2_below b2 (by omega)⟩
set_option maxHeartbeats 1600000 in
theorem xdown_any (w : World) (A D E : Option Addr) (c d e a b k : Nat) (hA : Nt w A c (lim a)) (hD : Nt w D d (lim b)) (hE : Nt w E e (lim k)) :
    Calls Try.prog 92 #[.slice A (lim a).length c, .slice D (lim b).length d, .slice E (lim k).length e] w fun e w' => ∃ A' c', e = .returned (.slice A' (lim (downO a b k)).length c') ∧ Nt w' A' c' (lim (downO a b k)) ∧ Below w.heap.size w w' := by
  go_enter Try.func92, Try.ntmps92
  go_wp2_with fail
  refine (nmul_any w A D c d a b hA hD).mono ?_
  rintro _ w1 ⟨A1, c1, E1, rfl, n1, bw⟩
  replace hE := hE.below bw
  go_wp2_with fail
  refine (ndiv_any w1 A1 E c1 e _ k n1 hE).mono ?_
  rintro _ w2 ⟨A2, c2, D2, d2, E2, rfl, n2, _, bb⟩
  replace bw := below_on bw bb bw.size
  go_wp2_with fail
  go_ret
  exact ⟨A2, c2, rfl, n2, bw⟩
set_option maxHeartbeats 1600000 in
theorem xup_any (w : World) (A D E : Option Addr) (c d e a b k : Nat) (hA : Nt w A c (lim a)) (hD : Nt w D d (lim b)) (hE : Nt w E e (lim k)) :
    Calls Try.prog 105 #[.slice A (lim a).length c, .slice D (lim b).length d, .slice E (lim k).length e] w fun e w' => ∃ A' c', e = .returned (.slice A' (lim (upO a b k)).length c') ∧ Nt w' A' c' (lim (upO a b k)) ∧ Below w.heap.size w w' := by
  go_enter Try.func105, Try.ntmps105
  go_wp2_with fail
  refine (nmul_any w A D c d a b hA hD).mono ?_
  rintro _ w1 ⟨A1, c1, E1, rfl, n1, bw⟩
  replace hE := hE.below bw
  go_wp2_with fail
  refine (ndiv_any w1 A1 E c1 e _ k n1 hE).mono ?_
  rintro _ w2 ⟨A2, c2, D2, d2, E2, rfl, n2, m2, bb⟩
  replace bw := below_on bw bb bw.size
  have hml := modO_len (mulO a b) k
  go_wp2_with fail
  refine (nbits_any w2 D2 d2 _ m2 (by omega)).mono ?_
  rintro _ w3 ⟨rfl, rfl⟩
  by_cases hm : modO (mulO a b) k = 0
  · have h0 : bits2 (modO (mulO a b) k) = 0 := by rw [hm]; rfl
    rw [h0]
    have hu : Hid (upO a b k = divO (mulO a b) k) := Lib.hid (by rw [upO, if_pos hm])
    go_wp2_with fail
    go_ret
    exact ⟨A2, c2, by rw [hu.out]; rfl, by rw [hu.out]; exact n2, bw⟩
  · have h0 : 0 < bits2 (modO (mulO a b) k) := by
      rw [bits2, if_neg hm]; omega
    obtain ⟨bt, hbt⟩ : ∃ bt, bits2 (modO (mulO a b) k) = bt := ⟨_, rfl⟩
    rw [hbt] at h0 ⊢
    have hd : decide ((0 : Int) < (bt : Int)) = true := decide_eq_true (by omega)
    have hu : Hid (upO a b k = addO (divO (mulO a b) k) 1) := Lib.hid (by rw [upO, if_neg hm])
    clear hm hbt
    go_wp2_with fail
    refine (make_any w2 1 (by omega)).mono ?_
    rintro _ w3 ⟨A3, c3, rfl, n3, bb⟩
    replace n2 := n2.below bb
    replace bw := below_on bw bb bw.size
    go_wp2_with fail
    refine (nadd_any w3 A2 A3 c2 c3 _ 1 n2 n3).mono ?_
    rintro _ w4 ⟨A4, c4, E4, rfl, n4, bb⟩
    replace bw := below_on bw bb bw.size
    go_wp2_with fail
    go_ret
    exact ⟨A4, c4, by rw [hu.out]; rfl, by rw [hu.out]; exact n4, bw⟩
set_option maxHeartbeats 1600000 in
theorem xlimb_any (w : World) (A : Option Addr) (c a : Nat) (hA : Nt w A c (lim a)) (ha : a < 4294967296) :
    Calls Try.prog 102 #[.slice A (lim a).length c] w fun e w' => e = .returned (.int .u32 (a : Int)) ∧ w = w' := by
  by_cases h0 : a = 0
  · subst h0
    have hl : (lim 0).length = 0 := by rw [lim_zero]; rfl
    rw [hl]
    go_enter Try.func102, Try.ntmps102
    go_wp2_with fail
    go_ret
    exact ⟨rfl, rfl⟩
  · have hl : lim a = [a] := by
      rw [lim_pos h0, Nat.mod_eq_of_lt ha, Nat.div_eq_of_lt ha, lim_zero]
    rw [hl] at hA ⊢
    obtain ⟨ad, rfl, _, hc, _⟩ := hA.at 0 (by simp)
    have hcap := hA.cap
    have e0 : ad.add 0 = ad := by unfold Addr.add; rfl
    rw [e0] at hc
    go_enter Try.func102, Try.ntmps102
    go_wp2_with fail
    go_ret
    exact ⟨rfl, rfl⟩
end Go.Proofs.Ytnmomigaedfdoaa
