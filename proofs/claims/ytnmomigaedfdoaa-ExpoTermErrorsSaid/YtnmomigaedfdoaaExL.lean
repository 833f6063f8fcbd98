/- The reference's plus. What awake asks of expo, and same.Interval. -/
import Derived.Test.YtnmomigaedfdoaaExP
import Derived.Test.YtnmomigaedfdoaaSame
import Derived.Test.YtnmomigaedfdoaaFrG
namespace Go.Proofs.Ytnmomigaedfdoaa
set_option maxRecDepth 100000
open Go.RowKit

def smallP (a : Px) : Prop := (lim a.lo).length ≤ 10000 ∧ (lim a.hi).length ≤ 10000
set_option maxHeartbeats 1600000 in
theorem eplus_any (w : World) (a b : Px) (oa : a.ok w) (ob : b.ok w) (la : smallP a) (lb : smallP b) :
    Calls Try.prog 81 #[a.val, b.val] w fun e w' => ∃ z : Px, e = .returned z.val ∧ z.pr = ⟨addO a.lo b.lo, addO a.hi b.hi⟩ ∧ z.ok w' ∧ Below w.heap.size w w' := by
  have LA := Lib.hid la
  have LB := Lib.hid lb
  clear la lb
  go_enter Try.func81, Try.ntmps81
  go_upto_region 1 with fail
  have va := (pv_alloc oa 75).1
  have bw := (pv_alloc oa 75).2
  have sz := size_al w (.cells a.cells 75)
  replace ob := ob.below bw
  clear oa
  generalize (w.alloc (.cells a.cells 75)) = w1 at va bw sz ob ⊢
  have vb := (pv_alloc ob 75).1
  have bb := (pv_alloc ob 75).2
  have sz2 := size_al w1 (.cells b.cells 75)
  rw [sz] at vb sz2
  clear ob
  generalize (w1.alloc (.cells b.cells 75)) = w2 at vb bb sz2 ⊢
  replace va := va.below bb
  replace bw := below_on bw bb bw.size
  clear bb sz
  have vr := (pv_new w2 75).1
  have bb := (pv_new w2 75).2
  rw [sz2] at vr
  generalize (w2.alloc (.cells #[.slice none 0 0, .slice none 0 0] 75)) = w3 at vr bb ⊢
  replace va := va.below bb
  replace vb := vb.below bb
  replace bw := below_on bw bb bw.size
  clear bb sz2
  have HG : Hid (w.heap.size ≤ w.heap.size + 1 + 1) := Lib.hid (by omega)
  have VA := Lib.hid va
  have VB := Lib.hid vb
  have VR := Lib.hid vr
  have HBW := Lib.hid bw
  clear va vb vr bw
  obtain ⟨g, hg⟩ : ∃ g, w.heap.size = g := ⟨_, rfl⟩
  rw [hg] at VA VB VR HBW HG ⊢
  have HGE := Lib.hid hg
  have HGW : Hid (g ≤ w3.heap.size) := Lib.hid (by rw [← hg]; exact HBW.out.size)
  clear hg
  refine wp_region_held_drew (S := fun w' => (w'.cell? ⟨g, 0, none⟩ = some (.slice a.A (lim a.lo).length a.c) ∧ w'.cell? ⟨g, 1, none⟩ = some (.slice a.D (lim a.hi).length a.d)) ∧ w'.cell? ⟨g + 1, 0, none⟩ = some (.slice b.A (lim b.lo).length b.c) ∧ w'.cell? ⟨g + 1, 1, none⟩ = some (.slice b.D (lim b.hi).length b.d)) (by kernel_rfl) ⟨⟨(VA.out.below ((Below.refl w3.heap.size w3).drew)).c0, (VA.out.below ((Below.refl w3.heap.size w3).drew)).c1⟩, (VB.out.below ((Below.refl w3.heap.size w3).drew)).c0, (VB.out.below ((Below.refl w3.heap.size w3).drew)).c1⟩ (fun hHeld => ?_)
  have bz := (Below.refl w3.heap.size w3).drew
  generalize w3.drew = wd at *
  refine tkw 0 (.pointer (some ⟨g, 0, none⟩)) rfl (by kernel_rfl) (by kernel_rfl) (by kernel_rfl) (fun _ _ _ h => h) ⟨by rfl, ?_⟩ (by assumption) ?_
  ·intro w hSw; go_simp; (try with_reducible rfl)
  try simp only [Act.put, tzA, tzB, tzD, tzE, tzF]
  refine tkw 1 (.slice a.A (lim a.lo).length a.c) rfl (by kernel_rfl) (by kernel_rfl) (by kernel_rfl) (fun _ _ _ h => h) ⟨by rfl, ?_⟩ (by assumption) ?_
  ·intro w hSw; (try dsimp only at hSw); obtain ⟨⟨s0, s1⟩, _⟩ := hSw; go_simp; (try with_reducible rfl)
  try simp only [Act.put, tzA, tzB, tzC, tzD, tzE, tzF]
  refine tkw 2 (.pointer (some ⟨g + 1, 0, none⟩)) rfl (by kernel_rfl) (by kernel_rfl) (by kernel_rfl) (fun _ _ _ h => h) ⟨by rfl, ?_⟩ (by assumption) ?_
  ·intro w hSw; go_simp; (try with_reducible rfl)
  try simp only [Act.put, tzA, tzB, tzC, tzD, tzE, tzF]
  refine tkw 3 (.slice b.A (lim b.lo).length b.c) rfl (by kernel_rfl) (by kernel_rfl) (by kernel_rfl) (fun _ _ _ h => h) ⟨by rfl, ?_⟩ (by assumption) ?_
  ·intro w hSw; (try dsimp only at hSw); obtain ⟨_, s0, s1⟩ := hSw; go_simp; (try with_reducible rfl)
  try simp only [Act.put, tzA, tzB, tzC, tzD, tzE, tzF]
  refine tkw 5 (.pointer (some ⟨g, 1, none⟩)) rfl (by kernel_rfl) (by kernel_rfl) (by kernel_rfl) (fun _ _ _ h => h) ⟨by rfl, ?_⟩ (by assumption) ?_
  ·intro w hSw; go_simp; (try with_reducible rfl)
  try simp only [Act.put, tzA, tzB, tzC, tzD, tzE, tzF]
  refine tkw 6 (.slice a.D (lim a.hi).length a.d) rfl (by kernel_rfl) (by kernel_rfl) (by kernel_rfl) (fun _ _ _ h => h) ⟨by rfl, ?_⟩ (by assumption) ?_
  ·intro w hSw; (try dsimp only at hSw); obtain ⟨⟨s0, s1⟩, _⟩ := hSw; go_simp; (try with_reducible rfl)
  try simp only [Act.put, tzA, tzB, tzC, tzD, tzE, tzF]
  refine tkw 7 (.pointer (some ⟨g + 1, 1, none⟩)) rfl (by kernel_rfl) (by kernel_rfl) (by kernel_rfl) (fun _ _ _ h => h) ⟨by rfl, ?_⟩ (by assumption) ?_
  ·intro w hSw; go_simp; (try with_reducible rfl)
  try simp only [Act.put, tzA, tzB, tzC, tzD, tzE, tzF]
  refine tkw 8 (.slice b.D (lim b.hi).length b.d) rfl (by kernel_rfl) (by kernel_rfl) (by kernel_rfl) (fun _ _ _ h => h) ⟨by rfl, ?_⟩ (by assumption) ?_
  ·intro w hSw; (try dsimp only at hSw); obtain ⟨_, s0, s1⟩ := hSw; go_simp; (try with_reducible rfl)
  try simp only [Act.put, tzA, tzB, tzC, tzD, tzE, tzF]
  refine wpAnyH_ready (rs := [4]) (by kernel_rfl) (by simp) ?_
  refine AllReadyH.cons rfl (fun K hK => ?_) ?_
  ·go_simp
   go_at_call 80
   refine (eadd_any wd _ _ _ _ a.lo b.lo _ _ (VA.out.below bz).ok.lo (VB.out.below bz).ok.lo rfl rfl LA.out.1 LB.out.1).mono ?_
   rintro _ wd ⟨A1, c1, rfl, m1, bb⟩
   try replace m1 := m1.below bb
   try replace m2 := m2.below bb
   replace bz := below_on bz bb bz.size
   clear bb
   refine hK.out _ _ (by first | exact ⟨⟨va.c0, va.c1⟩, vb.c0, vb.c1⟩ | exact ⟨⟨(VA.out.below bz).c0, (VA.out.below bz).c1⟩, (VB.out.below bz).c0, (VB.out.below bz).c1⟩) (fun hHeld => ?_)
   clear hK K
   try simp only [Act.put]
   try simp only [tzD, tzE, tzF]
   refine wpAnyH_ready (rs := [9]) (by kernel_rfl) (by simp) ?_
   refine AllReadyH.cons rfl (fun K hK => ?_) ?_
   ·go_simp
    go_at_call 80
    refine (eadd_any wd _ _ _ _ a.hi b.hi _ _ (VA.out.below bz).ok.hi (VB.out.below bz).ok.hi rfl rfl LA.out.2 LB.out.2).mono ?_
    rintro _ wd ⟨A2, c2, rfl, m2, bb⟩
    try replace m1 := m1.below bb
    try replace m2 := m2.below bb
    replace bz := below_on bz bb bz.size
    clear bb
    refine hK.out _ _ (by first | exact ⟨⟨va.c0, va.c1⟩, vb.c0, vb.c1⟩ | exact ⟨⟨(VA.out.below bz).c0, (VA.out.below bz).c1⟩, (VB.out.below bz).c0, (VB.out.below bz).c1⟩) (fun hHeld => ?_)
    clear hK K
    try simp only [Act.put]
    try simp only [tzD, tzE, tzF]
    refine tkw 10 (.agg #[.slice A1 (lim (addO a.lo b.lo)).length c1, .slice A2 (lim (addO a.hi b.hi)).length c2]) rfl (by kernel_rfl) (by kernel_rfl) (by kernel_rfl) (fun _ _ _ h => h) ⟨by rfl, ?_⟩ (by assumption) ?_
    ·intro w hSw; go_simp; (try with_reducible rfl)
    try simp only [Act.put, tzA, tzB, tzC, tzD, tzE, tzF]
    refine wpAnyH_ready (rs := [11]) (by kernel_rfl) (by simp) ?_
    refine AllReadyH.cons rfl (fun K hK => ?_) ?_
    ·have vd := VR.out.below bz
     have k0 := vd.c0
     have k1 := vd.c1
     have k2 := vd.f0
     have k3 := vd.f1
     have oz : (⟨A1, c1, addO a.lo b.lo, A2, c2, addO a.hi b.hi⟩ : Px).ok wd := ⟨m1, m2⟩
     have vr := vd.put oz
     have va := (VA.out.below bz).far vd (v0 := .slice A1 (lim (addO a.lo b.lo)).length c1) (v1 := .slice A2 (lim (addO a.hi b.hi)).length c2) (by omega)
     have vb := (VB.out.below bz).far vd (v0 := .slice A1 (lim (addO a.lo b.lo)).length c1) (v1 := .slice A2 (lim (addO a.hi b.hi)).length c2) (by omega)
     have bq := set2_below (v0 := .slice A1 (lim (addO a.lo b.lo)).length c1) (v1 := .slice A2 (lim (addO a.hi b.hi)).length c2) (below_on HBW.out bz HGW.out) HG.out
     dsimp only [set2] at vr va vb bq
     go_simp
     clear k0 k1 k2 k3 vd hHeld bz
     generalize ((wd.setCell ⟨g + 1 + 1, 0, none⟩ (.slice A1 (lim (addO a.lo b.lo)).length c1)).setCell ⟨g + 1 + 1, 1, none⟩ (.slice A2 (lim (addO a.hi b.hi)).length c2)) = we at *
     generalize we = wd at *
     refine hK.out _ _ (by first | exact ⟨⟨va.c0, va.c1⟩, vb.c0, vb.c1⟩ | exact ⟨⟨(VA.out.below bz).c0, (VA.out.below bz).c1⟩, (VB.out.below bz).c0, (VB.out.below bz).c1⟩) (fun hHeld => ?_)
     clear hK K
     try simp only [Act.put]
     try simp only [tzD, tzE, tzF]
     refine wpAnyH_done (by kernel_rfl) ?_ _
     have e0 := vr.c0
     have e1 := vr.c1
     go_wp2_with fail
     refine bodyPost_ret (v := (⟨A1, c1, addO a.lo b.lo, A2, c2, addO a.hi b.hi⟩ : Px).val) (by simp [results, Try.results81, go_sem, e0, e1]) rfl ?_
     exact ⟨_, rfl, ⟨rfl, rfl⟩, vr.ok, by rw [HGE.out]; exact bq⟩
    exact AllReadyH.nil
   exact AllReadyH.nil
  exact AllReadyH.nil
end Go.Proofs.Ytnmomigaedfdoaa
namespace Go.Proofs.Ytnmomigaedfdoaa
set_option maxRecDepth 100000
open Go.RowKit

theorem xok11 : XOk 1 1 := ⟨by decide, by decide, by decide, by decide⟩
theorem fl_one : floorM 1 1 0 2 0 = 1 := by
  have e : fAt 1 1 0 2 0 50 = (1, 1) := by
    rw [fAt_eq xok11 (by omega) (by omega) (by omega) (by omega)]
    decide +kernel
  rw [floorM_at (j := 0) (by omega) (fun i hi => absurd hi (by omega)) (by rw [show (2 + 48) * 2 ^ 0 = 50 from rfl, e]), show (2 + 48) * 2 ^ 0 = 50 from rfl, e]
theorem prt14 : prt 1 2 = Rat.divInt 1 4 := by decide +kernel
theorem prt24 : prt 2 2 = Rat.divInt 1 2 := by decide +kernel
end Go.Proofs.Ytnmomigaedfdoaa
