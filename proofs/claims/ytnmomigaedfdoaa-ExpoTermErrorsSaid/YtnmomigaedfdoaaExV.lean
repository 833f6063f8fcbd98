/- The reference's floor. -/
import Derived.Test.YtnmomigaedfdoaaExU
namespace Go.Proofs.Ytnmomigaedfdoaa
set_option maxRecDepth 100000
open Go.RowKit

theorem shg (v k : Nat) : ∃ (r : Nat) (E : Int), shiftS v (k : Int) = (lim r, E) ∧ ((lim v).length ≤ 512 → (lim r).length ≤ 512) ∧ (v = 0 → r = 0) := by
  rw [shiftS]
  split
  · exact ⟨0, 2, by rw [lim_zero], fun _ => by rw [lim_zero]; simp, fun _ => rfl⟩
  · split
    · exact ⟨0, 0, by rw [lim_zero], fun _ => by rw [lim_zero]; simp, fun _ => rfl⟩
    · rename_i h0
      split
      · refine ⟨nv (sizS (v * 2 ^ (k : Int).toNat)).1, (sizS (v * 2 ^ (k : Int).toNat)).2, ?_, fun _ => sizS_len _, fun h => absurd (.inl h) h0⟩
        rw [← sizS_lim]
      · exact ⟨_, 0, rfl, fun h => lim_len_mono (Nat.div_le_self _ _) h, fun h => absurd (.inl h) h0⟩
set_option maxHeartbeats 1600000 in
theorem efloor_any (w : World) (a b : Px) (bits : Nat) (oa : a.ok w) (ob : b.ok w) (la : (lim a.lo).length ≤ 512 ∧ (lim a.hi).length ≤ 512) (lb : (lim b.lo).length ≤ 512 ∧ (lim b.hi).length ≤ 512) :
    Calls Try.prog 57 #[a.val, b.val, .int .i64 (bits : Int)] w fun e w' => ∃ (A : Option Addr) (c v : Nat) (t : Bool), e = .returned (.tuple #[.slice A (lim v).length c, .bool t]) ∧ Nt w' A c (lim v) ∧ (lim v).length ≤ 512 ∧ (a.pr = ⟨0, 0⟩ → b.pr = ⟨0, 0⟩ → t = true) ∧ Below w.heap.size w w' := by
  have HA : Hid ((lim a.lo).length ≤ 10000 ∧ (lim a.hi).length ≤ 10000) := Lib.hid ⟨Nat.le_trans la.1 (by omega), Nat.le_trans la.2 (by omega)⟩
  have HB : Hid ((lim b.lo).length ≤ 10000 ∧ (lim b.hi).length ≤ 10000) := Lib.hid ⟨Nat.le_trans lb.1 (by omega), Nat.le_trans lb.2 (by omega)⟩
  obtain ⟨lo, E1, hl1, hl2, hl3⟩ := shg a.lo bits
  obtain ⟨hi, E2, hh1, hh2, hh3⟩ := shg a.hi bits
  have HS1 : Hid (shiftS (nv (lim a.lo)) (bits : Int) = (lim lo, E1)) := Lib.hid (by rw [nv_lim]; exact hl1)
  have HS2 : Hid (shiftS (nv (lim a.hi)) (bits : Int) = (lim hi, E2)) := Lib.hid (by rw [nv_lim]; exact hh1)
  have HL1 : Hid ((lim lo).length ≤ 10000) := Lib.hid (Nat.le_trans (hl2 la.1) (by omega))
  have HL2 : Hid ((lim hi).length ≤ 10000) := Lib.hid (Nat.le_trans (hh2 la.2) (by omega))
  have HQ1 : Hid ((lim (nv (lim (divO lo b.hi)))).length ≤ 1000000) := Lib.hid (by rw [nv_lim]; exact Nat.le_trans (divO_len _ _) (by omega))
  have HQ2 : Hid ((lim (nv (lim (divO hi b.lo)))).length ≤ 1000000) := Lib.hid (by rw [nv_lim]; exact Nat.le_trans (divO_len _ _) (by omega))
  have HZZ : Hid (a.pr = ⟨0, 0⟩ → b.pr = ⟨0, 0⟩ → ∀ z, cmp3 (nv (lim (divO lo b.hi))) (nv (lim (divO hi b.lo))) = z → z = 0) := Lib.hid (by
    intro ha hb z hz
    have e1 := hl3 (congrArg Pr.lo ha)
    have e2 := hh3 (congrArg Pr.hi ha)
    rw [e1, e2, divO_zero_left, divO_zero_left] at hz
    rw [← hz]
    exact cmp3_eq rfl)
  clear hl1 hl2 hl3 hh1 hh2 hh3 la lb
  go_enter Try.func57, Try.ntmps57
  go_upto_region 1 with fail
  have va := (pv_alloc oa 75).1
  have bw := (pv_alloc oa 75).2
  have sz := size_al w (.cells a.cells 75)
  replace ob := ob.below bw
  clear oa
  generalize (w.alloc (.cells a.cells 75)) = w1 at va bw sz ob ⊢
  have vb := (pv_alloc ob 75).1
  have bb := (pv_alloc ob 75).2
  rw [sz] at vb
  clear ob
  generalize (w1.alloc (.cells b.cells 75)) = w2 at vb bb ⊢
  replace va := va.below bb
  replace bw := below_on bw bb bw.size
  clear bb sz
  obtain ⟨g, hg⟩ : ∃ g, w.heap.size = g := ⟨_, rfl⟩
  rw [hg] at va vb ⊢
  have k0 := va.c0
  go_wp2_with fail
  refine (rshift_any w2 a.A a.c _ (bits : Int) (lim a.lo) (lim lo) E1 va.ok.lo rfl HA.out.1 HS1.out).mono ?_
  rintro _ w3 ⟨B1, b1, rfl, n1, bb⟩
  replace va := va.below bb
  replace vb := vb.below bb
  replace bw := below_on bw bb bw.size
  clear bb k0
  have k1 := va.c1
  go_wp2_with fail
  refine (rshift_any w3 a.D a.d _ (bits : Int) (lim a.hi) (lim hi) E2 va.ok.hi rfl HA.out.2 HS2.out).mono ?_
  rintro _ wx ⟨B2, b2, rfl, n2, bb⟩
  have N1 := Lib.hid (n1.below bb)
  have N2 := Lib.hid n2
  have VB := Lib.hid (vb.below bb)
  have HBW := Lib.hid (below_on bw bb bw.size)
  clear bb k1 va vb bw n1 n2
  go_upto_region 3 with fail
  refine wp_region_held_drew (S := fun w' => Cel w' (g + 1) b) (by kernel_rfl) (VB.out.below ((Below.refl wx.heap.size wx).drew)).cel (fun hHeld => ?_)
  have bz := (Below.refl wx.heap.size wx).drew
  generalize wx.drew = wd at *
  refine tkw 0 (.slice B1 (lim lo).length b1) rfl (by kernel_rfl) (by kernel_rfl) (by kernel_rfl) (fun _ _ _ h => h) ⟨by rfl, ?_⟩ (by assumption) ?_
  ·intro w hSw; go_simp; (try with_reducible rfl)
  try simp only [Act.put, tzA, tzB, tzD, tzE, tzF]
  refine tkw 1 (.pointer (some ⟨g + 1, 1, none⟩)) rfl (by kernel_rfl) (by kernel_rfl) (by kernel_rfl) (fun _ _ _ h => h) ⟨by rfl, ?_⟩ (by assumption) ?_
  ·intro w hSw; go_simp; (try with_reducible rfl)
  try simp only [Act.put, tzA, tzB, tzC, tzD, tzE, tzF]
  refine tkw 2 (.slice b.D (lim b.hi).length b.d) rfl (by kernel_rfl) (by kernel_rfl) (by kernel_rfl) (fun _ _ _ h => h) ⟨by rfl, ?_⟩ (by assumption) ?_
  ·intro w hSw; (try dsimp only at hSw); obtain ⟨s0, s1⟩ := hSw; go_simp; (try with_reducible rfl)
  try simp only [Act.put, tzA, tzB, tzC, tzD, tzE, tzF]
  refine tkw 4 (.slice B2 (lim hi).length b2) rfl (by kernel_rfl) (by kernel_rfl) (by kernel_rfl) (fun _ _ _ h => h) ⟨by rfl, ?_⟩ (by assumption) ?_
  ·intro w hSw; go_simp; (try with_reducible rfl)
  try simp only [Act.put, tzA, tzB, tzC, tzD, tzE, tzF]
  refine tkw 5 (.pointer (some ⟨g + 1, 0, none⟩)) rfl (by kernel_rfl) (by kernel_rfl) (by kernel_rfl) (fun _ _ _ h => h) ⟨by rfl, ?_⟩ (by assumption) ?_
  ·intro w hSw; go_simp; (try with_reducible rfl)
  try simp only [Act.put, tzA, tzB, tzC, tzD, tzE, tzF]
  refine tkw 6 (.slice b.A (lim b.lo).length b.c) rfl (by kernel_rfl) (by kernel_rfl) (by kernel_rfl) (fun _ _ _ h => h) ⟨by rfl, ?_⟩ (by assumption) ?_
  ·intro w hSw; (try dsimp only at hSw); obtain ⟨s0, s1⟩ := hSw; go_simp; (try with_reducible rfl)
  try simp only [Act.put, tzA, tzB, tzC, tzD, tzE, tzF]
  refine wpAnyH_ready (rs := [3]) (by kernel_rfl) (by simp) ?_
  refine AllReadyH.cons rfl (fun K hK => ?_) ?_
  ·go_simp
   go_at_call 82
   refine (eunder_any wd _ _ _ _ lo b.hi (N1.out.below bz) (VB.out.below bz).ok.hi HL1.out HB.out.2).mono ?_
   rintro _ wd ⟨C1, c1, rfl, m1, bb⟩
   try replace m1 := m1.below bb
   try replace m2 := m2.below bb
   replace bz := below_on bz bb bz.size
   clear bb
   refine hK.out _ _ (VB.out.below bz).cel (fun hHeld => ?_)
   clear hK K
   try simp only [Act.put]
   try simp only [tzD, tzE, tzF]
   refine wpAnyH_ready (rs := [7]) (by kernel_rfl) (by simp) ?_
   refine AllReadyH.cons rfl (fun K hK => ?_) ?_
   ·go_simp
    go_at_call 82
    refine (eunder_any wd _ _ _ _ hi b.lo (N2.out.below bz) (VB.out.below bz).ok.lo HL2.out HB.out.1).mono ?_
    rintro _ wd ⟨C2, c2, rfl, m2, bb⟩
    try replace m1 := m1.below bb
    try replace m2 := m2.below bb
    replace bz := below_on bz bb bz.size
    clear bb
    refine hK.out _ _ (VB.out.below bz).cel (fun hHeld => ?_)
    clear hK K
    try simp only [Act.put]
    try simp only [tzD, tzE, tzF]
    refine wpAnyH_ready (rs := [8]) (by kernel_rfl) (by simp) ?_
    refine AllReadyH.cons rfl (fun K hK => ?_) ?_
    ·go_simp
     refine hK.out _ _ (VB.out.below bz).cel (fun hHeld => ?_)
     clear hK K
     try simp only [Act.put]
     try simp only [tzD, tzE, tzF]
     refine wpAnyH_ready (rs := [9]) (by kernel_rfl) (by simp) ?_
     refine AllReadyH.cons rfl (fun K hK => ?_) ?_
     ·go_simp
      refine hK.out _ _ (VB.out.below bz).cel (fun hHeld => ?_)
      clear hK K
      try simp only [Act.put]
      try simp only [tzD, tzE, tzF]
      refine wpAnyH_done (by kernel_rfl) ?_ _
      clear hHeld
      obtain ⟨z, hz⟩ : ∃ z, cmp3 (nv (lim (divO lo b.hi))) (nv (lim (divO hi b.lo))) = z := ⟨_, rfl⟩
      have HZ := Lib.hid hz
      clear hz
      go_wp2_with fail
      refine (rcmp_any wd C1 C2 c1 c2 _ _ (lim (divO lo b.hi)) (lim (divO hi b.lo)) z m1 m2 rfl rfl HQ1.out HQ2.out HZ.out).mono ?_
      rintro _ we ⟨rfl, bb⟩
      replace m1 := m1.below bb
      replace bz := below_on bz bb bz.size
      clear bb m2
      go_wp2_with fail
      refine bodyPost_ret (v := .tuple #[.slice C1 (lim (divO lo b.hi)).length c1, .bool (z == 0)]) (by simp [results, Try.results57, go_sem]) rfl ?_
      exact ⟨C1, c1, divO lo b.hi, _, rfl, m1, divO_len _ _, fun ha hb => by rw [HZZ.out ha hb z HZ.out]; rfl, below_on HBW.out bz HBW.out.size⟩
     exact AllReadyH.nil
    exact AllReadyH.nil
   exact AllReadyH.nil
  exact AllReadyH.nil
end Go.Proofs.Ytnmomigaedfdoaa
