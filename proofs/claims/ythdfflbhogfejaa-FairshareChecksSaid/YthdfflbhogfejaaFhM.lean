/- The walks of the reference's Full, Feasible and Binds. -/
import Derived.Test.YthdfflbhogfejaaFhL
namespace Go.Proofs.Ythdfflbhogfejaa
set_option maxRecDepth 100000
open Go.RowKit

theorem OkF.of {w : World} {vs : List Fx} (h : ∀ v ∈ vs, v.ok w) (k : ∀ v ∈ vs, v.xs.length ≤ 10000 ∧ v.ys.length ≤ 10000) : OkF w vs := fun v hv => ⟨h v hv, k v hv⟩
theorem cp_cell {w : World} {C : Option Addr} {cC : Nat} {caps : List Int} (h : Is w C cC caps) {k : Nat} (hk : k < caps.length) : ∃ ac, C = some ac ∧ (∀ w', Below w.heap.size w w' → w'.cell? (ac.add k) = some (.int .i64 (cpF caps k))) := by
 obtain ⟨ac, rfl, _, hcc⟩ := h.at k hk
 refine ⟨ac, rfl, fun w' hb => ?_⟩
 rw [(hb.cell (p := ac.add k) (World.block_lt_of_cell? w _ hcc)).trans hcc, cpF, Int.toNat_natCast, getD_lt _ _ _ hk]
theorem cp_wf {w : World} {C : Option Addr} {cC : Nat} {caps : List Int} (h : Is w C cC caps) {k : Nat} (hk : k < caps.length) : -9223372036854775808 ≤ cpF caps k ∧ cpF caps k ≤ 9223372036854775807 := by
 have := h.wf _ (List.getElem_mem hk)
 rw [cpF, Int.toNat_natCast, getD_lt _ _ _ hk]
 exact this
set_option maxHeartbeats 3200000 in
theorem rfull_any (w : World) (C : Option Addr) (nC cC : Nat) (caps : List Int) (D : Option Addr) (m d : Nat) (fs : List Fm) (A : Option Addr) (n c : Nat) (vs : List Fx) (link : Nat) (q : Rat) (b : Bool)
 (hC : Is w C cC caps) (hD : Ws w D d fs) (hA : RdF w A vs) (hok : OkF w vs) (hv : ∀ v ∈ vs, v.v) (hnC : nC = caps.length) (hm : m = fs.length) (hn : n = vs.length) (hl : vs.length = fs.length) (hle : fs.length ≤ 100) (hlk : link < caps.length) (hq : loadE (fs.map Fm.fl) (vs.map Fx.q) link fs.length = some q) (hb : decide ((cpF caps link : Rat) ≤ q) = b) :
 Calls Try.prog 49 #[.slice C nC cC, .slice D m d, .slice A n c, .int .i64 (link : Int)] w fun e w' => e = .returned (.bool b) ∧ Below w.heap.size w w' := by
 have HD := Lib.hid hD
 have HA := Lib.hid hA
 have HOK := Lib.hid hok
 have HV := Lib.hid hv
 have HVL := Lib.hid hl
 have HQ := Lib.hid hq
 have hlc := hC.len
 have hcap := hC.cap
 obtain ⟨ac, rfl, hcc⟩ := cp_cell hC hlk
 have HCB := Lib.hid (cp_wf hC hlk)
 have HU : Hid (decide (q < (cpF caps link : Rat)) = !b) := Lib.hid (by
  rw [← hb]
  by_cases h : q < (cpF caps link : Rat)
  ·rw [decide_eq_true h, decide_eq_false (by grind)]; rfl
  ·rw [decide_eq_false h, decide_eq_true (by grind)]; rfl)
 obtain ⟨cl, hcl⟩ : ∃ cl, cpF caps link = cl := ⟨_, rfl⟩
 rw [hcl] at hcc HCB HU
 have HCC := Lib.hid hcc
 clear hD hA hok hv hl hq hcl hcc hC hb
 subst hm hn hnC
 go_enter Try.func49, Try.ntmps49
 go_upto_region 1 with fail
 refine wp_region_held_drew (S := fun w' => w'.cell? (ac.add link) = some (.int .i64 cl)) (by kernel_rfl) (HCC.out _ ((Below.refl w.heap.size w).drew)) (fun hHeld => ?_)
 have bz := (Below.refl w.heap.size w).drew
 generalize w.drew = wd at *
 refine tkw 0 (.slice D fs.length d) rfl (by kernel_rfl) (by kernel_rfl) (by kernel_rfl) (fun _ _ _ h => h) ⟨by rfl, ?_⟩ (by assumption) ?_
 ·intro w hSw; go_simp; (try with_reducible rfl)
 try simp only [Act.put, tzA, tzB, tzD, tzE, tzF]
 refine tkw 1 (.slice A vs.length c) rfl (by kernel_rfl) (by kernel_rfl) (by kernel_rfl) (fun _ _ _ h => h) ⟨by rfl, ?_⟩ (by assumption) ?_
 ·intro w hSw; go_simp; (try with_reducible rfl)
 try simp only [Act.put, tzA, tzB, tzC, tzD, tzE, tzF]
 refine tkw 2 (.int .i64 (link : Int)) rfl (by kernel_rfl) (by kernel_rfl) (by kernel_rfl) (fun _ _ _ h => h) ⟨by rfl, ?_⟩ (by assumption) ?_
 ·intro w hSw; go_simp; (try with_reducible rfl)
 try simp only [Act.put, tzA, tzB, tzC, tzD, tzE, tzF]
 refine tkw 4 (.slice (some ac) caps.length cC) rfl (by kernel_rfl) (by kernel_rfl) (by kernel_rfl) (fun _ _ _ h => h) ⟨by rfl, ?_⟩ (by assumption) ?_
 ·intro w hSw; go_simp; (try with_reducible rfl)
 try simp only [Act.put, tzA, tzB, tzC, tzD, tzE, tzF]
 refine tkw 5 (.int .i64 (link : Int)) rfl (by kernel_rfl) (by kernel_rfl) (by kernel_rfl) (fun _ _ _ h => h) ⟨by rfl, ?_⟩ (by assumption) ?_
 ·intro w hSw; go_simp; (try with_reducible rfl)
 try simp only [Act.put, tzA, tzB, tzC, tzD, tzE, tzF]
 refine tkw 6 (.pointer (some (ac.add link))) rfl (by kernel_rfl) (by kernel_rfl) (by kernel_rfl) (fun _ _ _ h => h) ⟨by rfl, ?_⟩ (by assumption) ?_
 ·intro w hSw; go_simp; (try with_reducible rfl)
 try simp only [Act.put, tzA, tzB, tzC, tzD, tzE, tzF]
 refine tkw 7 (.int .i64 cl) rfl (by kernel_rfl) (by kernel_rfl) (by kernel_rfl) (fun _ _ _ h => h) ⟨by rfl, ?_⟩ (by assumption) ?_
 ·intro w hSw; go_simp; (try with_reducible rfl)
 try simp only [Act.put, tzA, tzB, tzC, tzD, tzE, tzF]
 refine wpAnyH_ready (rs := [3]) (by kernel_rfl) (by simp) ?_
 refine AllReadyH.cons rfl (fun K hK => ?_) ?_
 ·go_simp
  go_at_call 73
  refine (rload_any wd D _ d fs A _ c vs (link : Int) q (HD.out.below bz) (HA.out.below bz) (HOK.out.below bz) HV.out rfl rfl HVL.out hle HQ.out).mono ?_
  rintro e wd ⟨x1, rfl, n1, bb⟩
  try replace n1 := n1.below bb
  try replace n2 := n2.below bb
  replace bz := below_on bz bb bz.size
  clear bb
  refine hK.out _ _ (HCC.out _ bz) (fun hHeld => ?_)
  clear hK K
  try simp only [Act.put]
  try simp only [tzD, tzE, tzF]
  refine wpAnyH_ready (rs := [8]) (by kernel_rfl) (by simp) ?_
  refine AllReadyH.cons rfl (fun K hK => ?_) ?_
  ·go_simp
   go_at_call 34
   refine (rwhole_any wd cl (by have := HCB.out; omega) (by have := HCB.out; omega)).mono ?_
   rintro e wd ⟨y, rfl, _, n2, bb⟩
   try replace n1 := n1.below bb
   try replace n2 := n2.below bb
   replace bz := below_on bz bb bz.size
   clear bb
   refine hK.out _ _ (HCC.out _ bz) (fun hHeld => ?_)
   clear hK K
   try simp only [Act.put]
   try simp only [tzD, tzE, tzF]
   refine wpAnyH_ready (rs := [9]) (by kernel_rfl) (by simp) ?_
   refine AllReadyH.cons rfl (fun K hK => ?_) ?_
   ·go_simp
    go_at_call 33
    refine (rless_any wd x1 y q (cl : Rat) (!b) n1 n2 HU.out).mono ?_
    rintro e wd ⟨rfl, bb⟩
    clear n1 n2
    try replace n1 := n1.below bb
    try replace n2 := n2.below bb
    replace bz := below_on bz bb bz.size
    clear bb
    refine hK.out _ _ (HCC.out _ bz) (fun hHeld => ?_)
    clear hK K
    try simp only [Act.put]
    try simp only [tzD, tzE, tzF]
    refine tkw 10 (.bool b) rfl (by kernel_rfl) (by kernel_rfl) (by kernel_rfl) (fun _ _ _ h => h) ⟨by rfl, ?_⟩ (by assumption) ?_
    ·intro w hSw; go_simp; (try simp)
    try simp only [Act.put, tzA, tzB, tzC, tzD, tzE, tzF]
    refine wpAnyH_ready (rs := [11]) (by kernel_rfl) (by simp) ?_
    refine AllReadyH.cons rfl (fun K hK => ?_) ?_
    ·go_simp
     refine hK.out _ _ (HCC.out _ bz) (fun hHeld => ?_)
     clear hK K
     try simp only [Act.put]
     try simp only [tzD, tzE, tzF]
     refine wpAnyH_done (by kernel_rfl) ?_ _
     go_wp2_with fail
     go_ret
     exact ⟨ret_bool rfl, bz⟩
    exact AllReadyH.nil
   exact AllReadyH.nil
  exact AllReadyH.nil
 exact AllReadyH.nil
set_option maxHeartbeats 6400000 in
theorem rfeas_any (w : World) (C : Option Addr) (nC cC : Nat) (caps : List Int) (D : Option Addr) (m d : Nat) (fs : List Fm) (A : Option Addr) (n c : Nat) (vs : List Fx) (b : Bool)
 (hC : Is w C cC caps) (hD : Ws w D d fs) (hA : RdF w A vs) (hok : OkF w vs) (hv : ∀ v ∈ vs, v.v) (hnC : nC = caps.length) (hm : m = fs.length) (hn : n = vs.length) (hl : vs.length = fs.length) (hle : fs.length ≤ 100)
 (hlm : ∀ i, i < fs.length → 0 ≤ lmA (fs.map Fm.fl) i ∧ lmA (fs.map Fm.fl) i ≤ 4096)
 (hld : ∀ k : Nat, k < caps.length → ∃ q, loadE (fs.map Fm.fl) (vs.map Fx.q) (k : Int) fs.length = some q)
 (hb : ((∀ t (h : t < vs.length), 0 ≤ vs[t].q ∧ vs[t].q ≤ (lmA (fs.map Fm.fl) t : Rat)) ∧ ∀ k : Nat, k < caps.length → ∃ q, loadE (fs.map Fm.fl) (vs.map Fx.q) (k : Int) fs.length = some q ∧ q ≤ (cpF caps (k : Int) : Rat)) ↔ b = true) :
 Calls Try.prog 56 #[.slice C nC cC, .slice D m d, .slice A n c] w fun e w' => e = .returned (.bool b) ∧ Below w.heap.size w w' := by
 have HC := Lib.hid hC
 have HD := Lib.hid hD
 have HA := Lib.hid hA
 have HOK := Lib.hid hok
 have HV := Lib.hid hv
 have HVL := Lib.hid hl
 have HLM := Lib.hid hlm
 have HLD := Lib.hid hld
 have HB := Lib.hid hb
 have HBF : Hid (¬ ((∀ t (h : t < vs.length), 0 ≤ vs[t].q ∧ vs[t].q ≤ (lmA (fs.map Fm.fl) t : Rat)) ∧ ∀ k : Nat, k < caps.length → ∃ q, loadE (fs.map Fm.fl) (vs.map Fx.q) (k : Int) fs.length = some q ∧ q ≤ (cpF caps (k : Int) : Rat)) → b = false) := Lib.hid (fun h => by cases b with
  | false => rfl
  | true => exact absurd (hb.2 rfl) h)
 have hlc := hC.len
 have hcap := hC.cap
 clear hD hA hok hv hl hC hb hlm hld
 subst hm hn hnC
 go_enter Try.func56, Try.ntmps56
 go_wp2_with fail
 go_loopw [7] (fun jv wr => ∃ k : Nat, k ≤ fs.length ∧ jv = .int .i64 k ∧ (∀ t (h : t < vs.length), t < k → 0 ≤ vs[t].q ∧ vs[t].q ≤ (lmA (fs.map Fm.fl) t : Rat)) ∧ Below w.heap.size w wr) (fun jv _ => fs.length - (intOf jv).toNat)
 case atStart => exact ⟨0, by omega, rfl, fun t _ h => by omega, Below.refl _ _⟩
 case round =>
  obtain ⟨k, hk, rfl, hgood, bw⟩ := hrel
  have HGOOD := Lib.hid hgood
  clear hgood
  by_cases hkf : k < fs.length
  ·--D{
   have hlt : k < vs.length := by rw [HVL.out]; exact hkf
   obtain ⟨ad2, rfl, el⟩ := (HA.out.below bw).at k hlt
   have hof := okf_nm (HOK.out.below bw) HV.out hlt
   obtain ⟨x2, hx2⟩ : ∃ x2, vs[k] = x2 := ⟨_, rfl⟩
   have HX2 := Lib.hid hx2
   rw [hx2] at el hof
   have E2 := Lib.hid el
   have N2 := Lib.hid hof
   clear el hof hx2
   obtain ⟨ad, rfl, hadl, hcc⟩ := (HD.out.below bw).rd (by omega)
   have hc1 := (hcc k hkf).2
   have hgl := (fl_get hkf).2
   obtain ⟨x, hx⟩ : ∃ x, fs[k] = x := ⟨_, rfl⟩
   rw [hx] at hc1 hgl
   have HGL := Lib.hid hgl
   have HXM : Hid (0 ≤ x.m ∧ x.m ≤ 4096) := Lib.hid (by
    have := HLM.out k hkf
    rw [hgl] at this; exact this)
   have HC1 : Hid (∀ w', Below wr.heap.size wr w' → w'.cell? ⟨(ad.add (k * 2)).block, (ad.add (k * 2)).off + 1, none⟩ = some (.int .i64 x.m)) := Lib.hid (fun w' hb =>
    (hb.cell (p := ⟨(ad.add (k * 2)).block, (ad.add (k * 2)).off + 1, none⟩) (World.block_lt_of_cell? wr _ hc1)).trans hc1)
   have hdcap := HD.out.cap
   have hdmax := HD.out.max
   clear hcc hx hgl hc1 hadl
   go_upto_region 4 with fail
   go_cut [33] (fun s33 w2 => (∃ bad, s33 = .bool bad ∧ (bad = true ↔ ¬ (0 ≤ x2.q ∧ x2.q ≤ (x.m : Rat)))) ∧ Below wr.heap.size wr w2)
   case first =>
    have hzz : ((0 : Int) : Rat) = 0 := rfl
    by_cases hneg : x2.q < 0
    ·have HZ : Hid (decide (x2.q < ((0 : Int) : Rat)) = true) := Lib.hid (decide_eq_true (by rw [hzz]; exact hneg))
     have HP : Hid (∃ bad, Value.bool true = .bool bad ∧ (bad = true ↔ ¬ (0 ≤ x2.q ∧ x2.q ≤ (x.m : Rat)))) := Lib.hid ⟨true, rfl, fun _ h => by have := h.1; grind, fun _ => rfl⟩
     clear hneg hzz
     refine wp_region_held_drew (S := fun w' => (w'.cell? (ad2.add (k * 3)) = some (.bool x2.b) ∧ w'.cell? ⟨(ad2.add (k * 3)).block, (ad2.add (k * 3)).off + 1, none⟩ = some (.slice x2.A x2.xs.length x2.c) ∧ w'.cell? ⟨(ad2.add (k * 3)).block, (ad2.add (k * 3)).off + 2, none⟩ = some (.slice x2.D x2.ys.length x2.d))) (by kernel_rfl) ⟨(E2.out.below ((Below.refl wr.heap.size wr).drew)).c0, (E2.out.below ((Below.refl wr.heap.size wr).drew)).c1, (E2.out.below ((Below.refl wr.heap.size wr).drew)).c2⟩ (fun hHeld => ?_)
     have bz := (Below.refl wr.heap.size wr).drew
     generalize wr.drew = wd at *
     refine tkw 0 (.slice (some ad2) vs.length c) rfl (by kernel_rfl) (by kernel_rfl) (by kernel_rfl) (fun _ _ _ h => h) ⟨by rfl, ?_⟩ (by assumption) ?_
     ·intro w hSw; go_simp; (try with_reducible rfl)
     try simp only [Act.put, tzA, tzB, tzD, tzE, tzF]
     refine tkw 1 (.int .i64 (k : Int)) rfl (by kernel_rfl) (by kernel_rfl) (by kernel_rfl) (fun _ _ _ h => h) ⟨by rfl, ?_⟩ (by assumption) ?_
     ·intro w hSw; go_simp; (try with_reducible rfl)
     try simp only [Act.put, tzA, tzB, tzC, tzD, tzE, tzF]
     refine tkw 2 (.pointer (some (ad2.add (k * 3)))) rfl (by kernel_rfl) (by kernel_rfl) (by kernel_rfl) (fun _ _ _ h => h) ⟨by rfl, ?_⟩ (by assumption) ?_
     ·intro w hSw; go_simp; (try with_reducible rfl)
     try simp only [Act.put, tzA, tzB, tzC, tzD, tzE, tzF]
     refine tkw 3 (x2.val) rfl (by kernel_rfl) (by kernel_rfl) (by kernel_rfl) (fun _ _ _ h => h) ⟨by rfl, ?_⟩ (by assumption) ?_
     ·intro w hSw; (try dsimp only at hSw); obtain ⟨s0, s1, s2⟩ := hSw; go_simp; (try with_reducible rfl)
     try simp only [Act.put, tzA, tzB, tzC, tzD, tzE, tzF]
     refine wpAnyH_ready (rs := [4]) (by kernel_rfl) (by simp) ?_
     refine AllReadyH.cons rfl (fun K hK => ?_) ?_
     ·go_simp
      go_at_call 34
      refine (rwhole_any wd 0 (by omega) (by omega)).mono ?_
      rintro e wd ⟨y, rfl, _, n4, bb⟩
      try replace n4 := n4.below bb
      replace bz := below_on bz bb bz.size
      clear bb
      refine hK.out _ _ ⟨(E2.out.below bz).c0, (E2.out.below bz).c1, (E2.out.below bz).c2⟩ (fun hHeld => ?_)
      clear hK K
      try simp only [Act.put]
      try simp only [tzD, tzE, tzF]
      refine wpAnyH_ready (rs := [5]) (by kernel_rfl) (by simp) ?_
      refine AllReadyH.cons rfl (fun K hK => ?_) ?_
      ·go_simp
       go_at_call 33
       refine (rless_any wd x2 y x2.q ((0 : Int) : Rat) true (N2.out.below bz) n4 HZ.out).mono ?_
       rintro e wd ⟨rfl, bb⟩
       clear n4
       try replace n4 := n4.below bb
       replace bz := below_on bz bb bz.size
       clear bb
       refine hK.out _ _ ⟨(E2.out.below bz).c0, (E2.out.below bz).c1, (E2.out.below bz).c2⟩ (fun hHeld => ?_)
       clear hK K
       try simp only [Act.put]
       try simp only [tzD, tzE, tzF]
       refine tkw 6 (.bool true) rfl (by kernel_rfl) (by kernel_rfl) (by kernel_rfl) (fun _ _ _ h => h) ⟨by rfl, ?_⟩ (by assumption) ?_
       ·intro w hSw; go_simp; (try with_reducible rfl)
       try simp only [Act.put, tzA, tzB, tzC, tzD, tzE, tzF]
       refine tku 7 rfl (by kernel_rfl) (by kernel_rfl) (by kernel_rfl) (fun _ _ _ h => h) (by kernel_rfl) (by assumption) ?_
       try simp only [Act.put, tzA, tzB, tzC, tzD, tzE, tzF]
       refine tku 8 rfl (by kernel_rfl) (by kernel_rfl) (by kernel_rfl) (fun _ _ _ h => h) (by kernel_rfl) (by assumption) ?_
       try simp only [Act.put, tzA, tzB, tzC, tzD, tzE, tzF]
       refine tku 9 rfl (by kernel_rfl) (by kernel_rfl) (by kernel_rfl) (fun _ _ _ h => h) (by kernel_rfl) (by assumption) ?_
       try simp only [Act.put, tzA, tzB, tzC, tzD, tzE, tzF]
       refine tku 10 rfl (by kernel_rfl) (by kernel_rfl) (by kernel_rfl) (fun _ _ _ h => h) (by kernel_rfl) (by assumption) ?_
       try simp only [Act.put, tzA, tzB, tzC, tzD, tzE, tzF]
       refine tku 11 rfl (by kernel_rfl) (by kernel_rfl) (by kernel_rfl) (fun _ _ _ h => h) (by kernel_rfl) (by assumption) ?_
       try simp only [Act.put, tzA, tzB, tzC, tzD, tzE, tzF]
       refine tku 12 rfl (by kernel_rfl) (by kernel_rfl) (by kernel_rfl) (fun _ _ _ h => h) (by kernel_rfl) (by assumption) ?_
       try simp only [Act.put, tzA, tzB, tzC, tzD, tzE, tzF]
       refine tku 13 rfl (by kernel_rfl) (by kernel_rfl) (by kernel_rfl) (fun _ _ _ h => h) (by kernel_rfl) (by assumption) ?_
       try simp only [Act.put, tzA, tzB, tzC, tzD, tzE, tzF]
       refine tku 14 rfl (by kernel_rfl) (by kernel_rfl) (by kernel_rfl) (fun _ _ _ h => h) (by kernel_rfl) (by assumption) ?_
       try simp only [Act.put, tzA, tzB, tzC, tzD, tzE, tzF]
       refine tku 15 rfl (by kernel_rfl) (by kernel_rfl) (by kernel_rfl) (fun _ _ _ h => h) (by kernel_rfl) (by assumption) ?_
       try simp only [Act.put, tzA, tzB, tzC, tzD, tzE, tzF]
       refine tku 16 rfl (by kernel_rfl) (by kernel_rfl) (by kernel_rfl) (fun _ _ _ h => h) (by kernel_rfl) (by assumption) ?_
       try simp only [Act.put, tzA, tzB, tzC, tzD, tzE, tzF]
       refine tku 17 rfl (by kernel_rfl) (by kernel_rfl) (by kernel_rfl) (fun _ _ _ h => h) (by kernel_rfl) (by assumption) ?_
       try simp only [Act.put, tzA, tzB, tzC, tzD, tzE, tzF]
       refine tkw 18 (.bool true) rfl (by kernel_rfl) (by kernel_rfl) (by kernel_rfl) (fun _ _ _ h => h) ⟨by rfl, ?_⟩ (by assumption) ?_
       ·intro w hSw; go_simp; (try with_reducible rfl)
       try simp only [Act.put, tzA, tzB, tzC, tzD, tzE, tzF]
       refine wpAnyH_done (by kernel_rfl) ?_ _
       go_wp2_with fail
       go_meet
       case rel => exact ⟨HP.out, bz⟩
      exact AllReadyH.nil
     exact AllReadyH.nil
    ·have HZ : Hid (decide (x2.q < ((0 : Int) : Rat)) = false) := Lib.hid (decide_eq_false (by rw [hzz]; exact hneg))
     obtain ⟨u, hu⟩ : ∃ u, decide ((x.m : Rat) < x2.q) = u := ⟨_, rfl⟩
     have HU := Lib.hid hu
     have HP : Hid (∃ bad, Value.bool u = .bool bad ∧ (bad = true ↔ ¬ (0 ≤ x2.q ∧ x2.q ≤ (x.m : Rat)))) := Lib.hid ⟨_, rfl, by
      rw [← hu, decide_eq_true_iff]
      exact ⟨fun h k => by have := k.2; grind, fun h => Classical.byContradiction fun e => h ⟨by grind, by grind⟩⟩⟩
     clear hneg hzz hu
     refine wp_region_held_drew (S := fun w' => w'.cell? ⟨(ad.add (k * 2)).block, (ad.add (k * 2)).off + 1, none⟩ = some (.int .i64 x.m) ∧ (w'.cell? (ad2.add (k * 3)) = some (.bool x2.b) ∧ w'.cell? ⟨(ad2.add (k * 3)).block, (ad2.add (k * 3)).off + 1, none⟩ = some (.slice x2.A x2.xs.length x2.c) ∧ w'.cell? ⟨(ad2.add (k * 3)).block, (ad2.add (k * 3)).off + 2, none⟩ = some (.slice x2.D x2.ys.length x2.d))) (by kernel_rfl) ⟨HC1.out _ ((Below.refl wr.heap.size wr).drew), (E2.out.below ((Below.refl wr.heap.size wr).drew)).c0, (E2.out.below ((Below.refl wr.heap.size wr).drew)).c1, (E2.out.below ((Below.refl wr.heap.size wr).drew)).c2⟩ (fun hHeld => ?_)
     have bz := (Below.refl wr.heap.size wr).drew
     generalize wr.drew = wd at *
     refine tkw 0 (.slice (some ad2) vs.length c) rfl (by kernel_rfl) (by kernel_rfl) (by kernel_rfl) (fun _ _ _ h => h) ⟨by rfl, ?_⟩ (by assumption) ?_
     ·intro w hSw; go_simp; (try with_reducible rfl)
     try simp only [Act.put, tzA, tzB, tzD, tzE, tzF]
     refine tkw 1 (.int .i64 (k : Int)) rfl (by kernel_rfl) (by kernel_rfl) (by kernel_rfl) (fun _ _ _ h => h) ⟨by rfl, ?_⟩ (by assumption) ?_
     ·intro w hSw; go_simp; (try with_reducible rfl)
     try simp only [Act.put, tzA, tzB, tzC, tzD, tzE, tzF]
     refine tkw 2 (.pointer (some (ad2.add (k * 3)))) rfl (by kernel_rfl) (by kernel_rfl) (by kernel_rfl) (fun _ _ _ h => h) ⟨by rfl, ?_⟩ (by assumption) ?_
     ·intro w hSw; go_simp; (try with_reducible rfl)
     try simp only [Act.put, tzA, tzB, tzC, tzD, tzE, tzF]
     refine tkw 3 (x2.val) rfl (by kernel_rfl) (by kernel_rfl) (by kernel_rfl) (fun _ _ _ h => h) ⟨by rfl, ?_⟩ (by assumption) ?_
     ·intro w hSw; (try dsimp only at hSw); obtain ⟨_, s0, s1, s2⟩ := hSw; go_simp; (try with_reducible rfl)
     try simp only [Act.put, tzA, tzB, tzC, tzD, tzE, tzF]
     refine wpAnyH_ready (rs := [4]) (by kernel_rfl) (by simp) ?_
     refine AllReadyH.cons rfl (fun K hK => ?_) ?_
     ·go_simp
      go_at_call 34
      refine (rwhole_any wd 0 (by omega) (by omega)).mono ?_
      rintro e wd ⟨y, rfl, _, n4, bb⟩
      try replace n4 := n4.below bb
      try replace n5 := n5.below bb
      replace bz := below_on bz bb bz.size
      clear bb
      refine hK.out _ _ ⟨HC1.out _ bz, (E2.out.below bz).c0, (E2.out.below bz).c1, (E2.out.below bz).c2⟩ (fun hHeld => ?_)
      clear hK K
      try simp only [Act.put]
      try simp only [tzD, tzE, tzF]
      refine wpAnyH_ready (rs := [5]) (by kernel_rfl) (by simp) ?_
      refine AllReadyH.cons rfl (fun K hK => ?_) ?_
      ·go_simp
       go_at_call 33
       refine (rless_any wd x2 y x2.q ((0 : Int) : Rat) false (N2.out.below bz) n4 HZ.out).mono ?_
       rintro e wd ⟨rfl, bb⟩
       clear n4
       try replace n4 := n4.below bb
       try replace n5 := n5.below bb
       replace bz := below_on bz bb bz.size
       clear bb
       refine hK.out _ _ ⟨HC1.out _ bz, (E2.out.below bz).c0, (E2.out.below bz).c1, (E2.out.below bz).c2⟩ (fun hHeld => ?_)
       clear hK K
       try simp only [Act.put]
       try simp only [tzD, tzE, tzF]
       refine tkw 6 (.bool false) rfl (by kernel_rfl) (by kernel_rfl) (by kernel_rfl) (fun _ _ _ h => h) ⟨by rfl, ?_⟩ (by assumption) ?_
       ·intro w hSw; go_simp; (try with_reducible rfl)
       try simp only [Act.put, tzA, tzB, tzC, tzD, tzE, tzF]
       refine tkw 7 (.slice (some ad) fs.length d) rfl (by kernel_rfl) (by kernel_rfl) (by kernel_rfl) (fun _ _ _ h => h) ⟨by kernel_rfl, ?_⟩ (by assumption) ?_
       ·intro w hSw; go_simp; (try with_reducible rfl)
       try simp only [Act.put, tzA, tzB, tzC, tzD, tzE, tzF]
       refine tkw 8 (.int .i64 (k : Int)) rfl (by kernel_rfl) (by kernel_rfl) (by kernel_rfl) (fun _ _ _ h => h) ⟨by kernel_rfl, ?_⟩ (by assumption) ?_
       ·intro w hSw; go_simp; (try with_reducible rfl)
       try simp only [Act.put, tzA, tzB, tzC, tzD, tzE, tzF]
       refine tkw 9 (.pointer (some (ad.add (k * 2)))) rfl (by kernel_rfl) (by kernel_rfl) (by kernel_rfl) (fun _ _ _ h => h) ⟨by kernel_rfl, ?_⟩ (by assumption) ?_
       ·intro w hSw; go_simp; (try with_reducible rfl)
       try simp only [Act.put, tzA, tzB, tzC, tzD, tzE, tzF]
       refine tkw 10 (.pointer (some ⟨(ad.add (k * 2)).block, (ad.add (k * 2)).off + 1, none⟩)) rfl (by kernel_rfl) (by kernel_rfl) (by kernel_rfl) (fun _ _ _ h => h) ⟨by kernel_rfl, ?_⟩ (by assumption) ?_
       ·intro w hSw; go_simp; (try with_reducible rfl)
       try simp only [Act.put, tzA, tzB, tzC, tzD, tzE, tzF]
       refine tkw 11 (.int .i64 x.m) rfl (by kernel_rfl) (by kernel_rfl) (by kernel_rfl) (fun _ _ _ h => h) ⟨by kernel_rfl, ?_⟩ (by assumption) ?_
       ·intro w hSw; (try dsimp only at hSw); obtain ⟨s0, _⟩ := hSw; go_simp; (try with_reducible rfl)
       try simp only [Act.put, tzA, tzB, tzC, tzD, tzE, tzF]
       refine tkw 13 (.slice (some ad2) vs.length c) rfl (by kernel_rfl) (by kernel_rfl) (by kernel_rfl) (fun _ _ _ h => h) ⟨by kernel_rfl, ?_⟩ (by assumption) ?_
       ·intro w hSw; go_simp; (try with_reducible rfl)
       try simp only [Act.put, tzA, tzB, tzC, tzD, tzE, tzF]
       refine tkw 14 (.int .i64 (k : Int)) rfl (by kernel_rfl) (by kernel_rfl) (by kernel_rfl) (fun _ _ _ h => h) ⟨by kernel_rfl, ?_⟩ (by assumption) ?_
       ·intro w hSw; go_simp; (try with_reducible rfl)
       try simp only [Act.put, tzA, tzB, tzC, tzD, tzE, tzF]
       refine tkw 15 (.pointer (some (ad2.add (k * 3)))) rfl (by kernel_rfl) (by kernel_rfl) (by kernel_rfl) (fun _ _ _ h => h) ⟨by kernel_rfl, ?_⟩ (by assumption) ?_
       ·intro w hSw; go_simp; (try with_reducible rfl)
       try simp only [Act.put, tzA, tzB, tzC, tzD, tzE, tzF]
       refine tkw 16 (x2.val) rfl (by kernel_rfl) (by kernel_rfl) (by kernel_rfl) (fun _ _ _ h => h) ⟨by kernel_rfl, ?_⟩ (by assumption) ?_
       ·intro w hSw; (try dsimp only at hSw); obtain ⟨_, s0, s1, s2⟩ := hSw; go_simp; (try with_reducible rfl)
       try simp only [Act.put, tzA, tzB, tzC, tzD, tzE, tzF]
       refine wpAnyH_ready (rs := [12]) (by kernel_rfl) (by simp) ?_
       refine AllReadyH.cons rfl (fun K hK => ?_) ?_
       ·go_simp
        go_at_call 34
        refine (rwhole_any wd x.m (by have := HXM.out; omega) (by have := HXM.out; omega)).mono ?_
        rintro e wd ⟨y2, rfl, _, n5, bb⟩
        try replace n4 := n4.below bb
        try replace n5 := n5.below bb
        replace bz := below_on bz bb bz.size
        clear bb
        refine hK.out _ _ ⟨HC1.out _ bz, (E2.out.below bz).c0, (E2.out.below bz).c1, (E2.out.below bz).c2⟩ (fun hHeld => ?_)
        clear hK K
        try simp only [Act.put]
        try simp only [tzD, tzE, tzF]
        refine wpAnyH_ready (rs := [17]) (by kernel_rfl) (by simp) ?_
        refine AllReadyH.cons rfl (fun K hK => ?_) ?_
        ·go_simp
         go_at_call 33
         refine (rless_any wd y2 x2 (x.m : Rat) x2.q u n5 (N2.out.below bz) HU.out).mono ?_
         rintro e wd ⟨rfl, bb⟩
         clear n5
         try replace n4 := n4.below bb
         try replace n5 := n5.below bb
         replace bz := below_on bz bb bz.size
         clear bb
         refine hK.out _ _ ⟨HC1.out _ bz, (E2.out.below bz).c0, (E2.out.below bz).c1, (E2.out.below bz).c2⟩ (fun hHeld => ?_)
         clear hK K
         try simp only [Act.put]
         try simp only [tzD, tzE, tzF]
         refine tkw 18 (.bool u) rfl (by kernel_rfl) (by kernel_rfl) (by kernel_rfl) (fun _ _ _ h => h) ⟨by rfl, ?_⟩ (by assumption) ?_
         ·intro w hSw; go_simp; (try with_reducible rfl)
         try simp only [Act.put, tzA, tzB, tzC, tzD, tzE, tzF]
         refine wpAnyH_done (by kernel_rfl) ?_ _
         go_wp2_with fail
         go_meet
         case rel => exact ⟨HP.out, bz⟩
        exact AllReadyH.nil
       exact AllReadyH.nil
      exact AllReadyH.nil
     exact AllReadyH.nil
   case rest =>
    obtain ⟨⟨bad, rfl, hbad⟩, bb⟩ := hcut
    replace bw := below_on bw bb bw.size
    cases bad with
    | true =>
      have HBB : Hid (b = false) := Lib.hid (HBF.out (fun h => hbad.1 rfl (by
       have h1 := h.1 k hlt
       rw [HX2.out, HGL.out] at h1
       exact h1)))
      clear hbad
      go_wp2_with fail
      go_ret
      exact ⟨ret_bool HBB.out.symm, bw⟩
    | false =>
      have HNX : Hid (∀ t (h : t < vs.length), t < k + 1 → 0 ≤ vs[t].q ∧ vs[t].q ≤ (lmA (fs.map Fm.fl) t : Rat)) := Lib.hid (fun t ht htk => by
       rcases Nat.lt_or_ge t k with h1 | h1
       ·exact HGOOD.out t ht h1
       ·obtain rfl : t = k := by omega
        rw [HX2.out, HGL.out]
        exact Classical.byContradiction fun h => by have := hbad.2 h; cases this)
      clear hbad
      go_wp2_with fail
      go_roundw
      case rel => exact ⟨k + 1, by omega, by go_num, HNX.out, bw⟩
      case measure => simp [intOf]; omega
--D}
  ·have HGD : Hid (∀ t (h : t < vs.length), 0 ≤ vs[t].q ∧ vs[t].q ≤ (lmA (fs.map Fm.fl) t : Rat)) := Lib.hid (fun t ht => HGOOD.out t ht (by have := HVL.out; omega))
   clear HGOOD
   go_wp2_with fail
   go_loopw [8] (fun jv wr => ∃ k : Nat, k ≤ caps.length ∧ jv = .int .i64 k ∧ (∀ t : Nat, t < k → ∃ q, loadE (fs.map Fm.fl) (vs.map Fx.q) (t : Int) fs.length = some q ∧ q ≤ (cpF caps (t : Int) : Rat)) ∧ Below w.heap.size w wr) (fun jv _ => caps.length - (intOf jv).toNat)
   case atStart => exact ⟨0, by omega, rfl, fun t h => by omega, bw⟩
   case round =>
    clear bw
    obtain ⟨k, hk, rfl, hgood, bw⟩ := hrel
    have HGOOD := Lib.hid hgood
    clear hgood
    by_cases hlt : k < caps.length
    ·obtain ⟨ac, rfl, hcc⟩ := cp_cell HC.out hlt
     have HCB := Lib.hid (cp_wf HC.out hlt)
     obtain ⟨cl, hcl⟩ : ∃ cl, cpF caps k = cl := ⟨_, rfl⟩
     have HCL := Lib.hid hcl
     rw [hcl] at hcc HCB
     obtain ⟨q, hq⟩ := HLD.out k hlt
     have HQ := Lib.hid hq
     obtain ⟨u, hu⟩ : ∃ u, decide ((cl : Rat) < q) = u := ⟨_, rfl⟩
     have HU := Lib.hid hu
     have hc0 := hcc wr bw
     clear hcl hq hu hcc
     go_wp2_with fail
     refine (rwhole_any wr cl (by have := HCB.out; omega) (by have := HCB.out; omega)).mono ?_
     rintro e w1 ⟨y1, rfl, _, n1, bb⟩
     replace bw := below_on bw bb bw.size
     clear bb hc0
     go_wp2_with fail
     refine (rload_any w1 D _ d fs A _ c vs (k : Int) q (HD.out.below bw) (HA.out.below bw) (HOK.out.below bw) HV.out rfl rfl HVL.out hle HQ.out).mono ?_
     rintro e w2 ⟨y2, rfl, n2, bb⟩
     replace bw := below_on bw bb bw.size
     replace n1 := n1.below bb
     clear bb
     go_wp2_with fail
     refine (rless_any w2 y1 y2 (cl : Rat) q u n1 n2 HU.out).mono ?_
     rintro e w3 ⟨rfl, bb⟩
     replace bw := below_on bw bb bw.size
     clear bb n1 n2
     cases u with
     | true =>
       have HBB : Hid (b = false) := Lib.hid (HBF.out (fun h => by
        obtain ⟨p, h1, h2⟩ := h.2 k hlt
        rw [HQ.out] at h1
        cases h1
        rw [HCL.out] at h2
        have := of_decide_eq_true HU.out
        grind))
       go_wp2_with fail
       go_ret
       exact ⟨ret_bool HBB.out.symm, bw⟩
     | false =>
       have HNX : Hid (∀ t : Nat, t < k + 1 → ∃ q, loadE (fs.map Fm.fl) (vs.map Fx.q) (t : Int) fs.length = some q ∧ q ≤ (cpF caps (t : Int) : Rat)) := Lib.hid (fun t htk => by
        rcases Nat.lt_or_ge t k with h1 | h1
        ·exact HGOOD.out t h1
        ·obtain rfl : t = k := by omega
         refine ⟨q, HQ.out, ?_⟩
         rw [HCL.out]
         have := of_decide_eq_false HU.out
         grind)
       go_wp2_with fail
       go_roundw
       case rel => exact ⟨k + 1, by omega, by go_num, HNX.out, bw⟩
       case measure => simp [intOf]; omega
    ·have HBB : Hid (b = true) := Lib.hid (HB.out.1 ⟨HGD.out, fun t ht => HGOOD.out t (by omega)⟩)
     go_wp2_with fail
     go_ret
     exact ⟨ret_bool HBB.out.symm, bw⟩
set_option maxHeartbeats 6400000 in
theorem rbinds_any (w : World) (C : Option Addr) (nC cC : Nat) (caps : List Int) (D : Option Addr) (m d : Nat) (fs : List Fm) (A : Option Addr) (n c : Nat) (vs : List Fx) (i : Nat) (link : Int) (b : Bool)
 (hC : Is w C cC caps) (hD : Ws w D d fs) (hA : RdF w A vs) (hok : OkF w vs) (hv : ∀ v ∈ vs, v.v) (hnC : nC = caps.length) (hm : m = fs.length) (hn : n = vs.length) (hl : vs.length = fs.length) (hle : fs.length ≤ 100) (hi : i < fs.length)
 (hlk : ∀ e ∈ lkA (fs.map Fm.fl) i, 0 ≤ e ∧ e < (caps.length : Int))
 (hld : ∀ k : Nat, k < caps.length → ∃ q, loadE (fs.map Fm.fl) (vs.map Fx.q) (k : Int) fs.length = some q)
 (hb : (link ∈ lkA (fs.map Fm.fl) i ∧ (∃ q, loadE (fs.map Fm.fl) (vs.map Fx.q) link fs.length = some q ∧ (cpF caps link : Rat) ≤ q) ∧ ∀ k, k < fs.length → link ∈ lkA (fs.map Fm.fl) k → (vs.map Fx.q).getD k 0 ≤ (vs.map Fx.q).getD i 0) ↔ b = true) :
 Calls Try.prog 50 #[.slice C nC cC, .slice D m d, .slice A n c, .int .i64 (i : Int), .int .i64 link] w fun e w' => e = .returned (.bool b) ∧ Below w.heap.size w w' := by
 have HC := Lib.hid hC
 have HD := Lib.hid hD
 have HA := Lib.hid hA
 have HOK := Lib.hid hok
 have HV := Lib.hid hv
 have HVL := Lib.hid hl
 have HLD := Lib.hid hld
 have HB := Lib.hid hb
 have HBF : Hid (¬ (link ∈ lkA (fs.map Fm.fl) i ∧ (∃ q, loadE (fs.map Fm.fl) (vs.map Fx.q) link fs.length = some q ∧ (cpF caps link : Rat) ≤ q) ∧ ∀ k, k < fs.length → link ∈ lkA (fs.map Fm.fl) k → (vs.map Fx.q).getD k 0 ≤ (vs.map Fx.q).getD i 0) → b = false) := Lib.hid (fun h => by cases b with
  | false => rfl
  | true => exact absurd (hb.2 rfl) h)
 obtain ⟨ad, rfl, _, hcc⟩ := hD.rd (by omega)
 obtain ⟨hc0, hc1⟩ := hcc i hi
 have hxo := hD.ok _ (List.getElem_mem hi)
 have hgl := (fl_get hi).1
 have hdcap := hD.cap
 have hdmax := hD.max
 obtain ⟨x, hx⟩ : ∃ x, fs[i] = x := ⟨_, rfl⟩
 rw [hx] at hc0 hc1 hxo hgl
 have HGL := Lib.hid hgl
 have HLK := Lib.hid hlk
 obtain ⟨u, hu⟩ : ∃ u, decide (link ∈ x.ls) = u := ⟨_, rfl⟩
 have HU := Lib.hid hu
 clear hC hD hA hok hv hl hb hlk hld hcc hx hgl hu
 subst hm hn hnC
 go_enter Try.func50, Try.ntmps50
 go_wp2_with fail
 refine (ruses_any w x link u hxo HU.out).mono ?_
 rintro e wr ⟨rfl, bw⟩
 clear hxo hc0 hc1
 cases u with
 | false =>
   have HBB : Hid (b = false) := Lib.hid (HBF.out (fun h => of_decide_eq_false HU.out (by rw [← HGL.out]; exact h.1)))
   go_wp2_with fail
   go_ret
   exact ⟨ret_bool HBB.out.symm, bw⟩
 | true =>
   have hmem : link ∈ lkA (fs.map Fm.fl) i := by rw [HGL.out]; exact of_decide_eq_true HU.out
   have HMEM := Lib.hid hmem
   have hbd := HLK.out link hmem
   obtain ⟨t, rfl⟩ : ∃ t : Nat, link = (t : Int) := ⟨link.toNat, by omega⟩
   have htc : t < caps.length := by omega
   obtain ⟨q, hq⟩ := HLD.out t htc
   have HQ := Lib.hid hq
   obtain ⟨u, hu⟩ : ∃ u, decide ((cpF caps (t : Int) : Rat) ≤ q) = u := ⟨_, rfl⟩
   have HQU := Lib.hid hu
   clear hmem hbd hq hu HU
   go_wp2_with fail
   refine (rfull_any wr C _ cC caps (some ad) _ d fs A _ c vs t q u (HC.out.below bw) (HD.out.below bw) (HA.out.below bw) (HOK.out.below bw) HV.out rfl rfl rfl HVL.out hle htc HQ.out HQU.out).mono ?_
   rintro e wn ⟨rfl, bb⟩
   replace bw := below_on bw bb bw.size
   clear bb
   cases u with
   | false =>
     have HBB : Hid (b = false) := Lib.hid (HBF.out (fun h => by
      obtain ⟨p, h1, h2⟩ := h.2.1
      rw [HQ.out] at h1
      cases h1
      exact of_decide_eq_false HQU.out h2))
     go_wp2_with fail
     go_ret
     exact ⟨ret_bool HBB.out.symm, bw⟩
   | true =>
     go_wp2_with fail
     go_loopw [11] (fun jv wr => ∃ k : Nat, k ≤ fs.length ∧ jv = .int .i64 k ∧ (∀ s, s < k → (t : Int) ∈ lkA (fs.map Fm.fl) s → (vs.map Fx.q).getD s 0 ≤ (vs.map Fx.q).getD i 0) ∧ Below w.heap.size w wr) (fun jv _ => fs.length - (intOf jv).toNat)
     case atStart => exact ⟨0, by omega, rfl, fun s h => by omega, bw⟩
     case round =>
      clear bw
      obtain ⟨k, hk, rfl, hle2, bw⟩ := hrel
      have HLE := Lib.hid hle2
      clear hle2
      by_cases hlt : k < fs.length
      ·have hW := HD.out.below bw
       obtain ⟨_, had, _, hcc⟩ := hW.rd (by omega)
       injection had with had
       subst had
       obtain ⟨hc0, hc1⟩ := hcc k hlt
       have hok := hW.ok _ (List.getElem_mem hlt)
       have hgl := (fl_get hlt).1
       obtain ⟨x, hx⟩ : ∃ x, fs[k] = x := ⟨_, rfl⟩
       rw [hx] at hc0 hc1 hok hgl
       have HGL := Lib.hid hgl
       have HXO := Lib.hid hok
       have HC0 : Hid (∀ w', Below wr.heap.size wr w' → w'.cell? (ad.add (k * 2)) = some (.slice x.A x.ls.length x.c) ∧ w'.cell? ⟨(ad.add (k * 2)).block, (ad.add (k * 2)).off + 1, none⟩ = some (.int .i64 x.m)) := Lib.hid (fun w' hb =>
        ⟨(hb.cell (p := ad.add (k * 2)) (World.block_lt_of_cell? wr _ hc0)).trans hc0, (hb.cell (p := ⟨(ad.add (k * 2)).block, (ad.add (k * 2)).off + 1, none⟩) (World.block_lt_of_cell? wr _ hc1)).trans hc1⟩)
       clear hcc hx hW hgl hc0 hc1 hok
       have hkv : k < vs.length := by rw [HVL.out]; exact hlt
       have hiv : i < vs.length := by rw [HVL.out]; exact hi
       have hmk := map_q_getD vs hkv
       have hmi := map_q_getD vs hiv
       have hn2 := okf_nm (HOK.out.below bw) HV.out hkv
       have hn3 := okf_nm (HOK.out.below bw) HV.out hiv
       obtain ⟨ad2, rfl, e2⟩ := (HA.out.below bw).at k hkv
       obtain ⟨ad3, had, e3⟩ := (HA.out.below bw).at i hiv
       injection had with had
       subst had
       obtain ⟨x2, hx2⟩ : ∃ x2, vs[k] = x2 := ⟨_, rfl⟩
       obtain ⟨x3, hx3⟩ : ∃ x3, vs[i] = x3 := ⟨_, rfl⟩
       rw [hx2] at hmk hn2 e2
       rw [hx3] at hmi hn3 e3
       have N2 := Lib.hid hn2
       have N3 := Lib.hid hn3
       have E2 := Lib.hid e2
       have E3 := Lib.hid e3
       have HMK := Lib.hid hmk
       have HMI := Lib.hid hmi
       clear hn2 hn3 e2 e3 hmk hmi hx2 hx3
       go_upto_region 6 with fail
       go_cut [49] (fun s49 w2 => s49 = .bool (decide ((t : Int) ∈ x.ls ∧ x3.q < x2.q)) ∧ Below wr.heap.size wr w2)
       case first =>
        by_cases hu : (t : Int) ∈ x.ls
        ·have HU := Lib.hid (decide_eq_true hu)
         obtain ⟨u, hz⟩ : ∃ u, decide (x3.q < x2.q) = u := ⟨_, rfl⟩
         have HZ := Lib.hid hz
         have HP : Hid (Value.bool u = .bool (decide ((t : Int) ∈ x.ls ∧ x3.q < x2.q))) := Lib.hid (by
          congr 1
          rw [← hz, decide_eq_decide]
          exact ⟨fun h => ⟨hu, h⟩, fun h => h.2⟩)
         clear hz hu
         refine wp_region_held_drew (S := fun w' => (w'.cell? (ad.add (k * 2)) = some (.slice x.A x.ls.length x.c) ∧ w'.cell? ⟨(ad.add (k * 2)).block, (ad.add (k * 2)).off + 1, none⟩ = some (.int .i64 x.m)) ∧ (w'.cell? (ad2.add (k * 3)) = some (.bool x2.b) ∧ w'.cell? ⟨(ad2.add (k * 3)).block, (ad2.add (k * 3)).off + 1, none⟩ = some (.slice x2.A x2.xs.length x2.c) ∧ w'.cell? ⟨(ad2.add (k * 3)).block, (ad2.add (k * 3)).off + 2, none⟩ = some (.slice x2.D x2.ys.length x2.d)) ∧ (w'.cell? (ad2.add (i * 3)) = some (.bool x3.b) ∧ w'.cell? ⟨(ad2.add (i * 3)).block, (ad2.add (i * 3)).off + 1, none⟩ = some (.slice x3.A x3.xs.length x3.c) ∧ w'.cell? ⟨(ad2.add (i * 3)).block, (ad2.add (i * 3)).off + 2, none⟩ = some (.slice x3.D x3.ys.length x3.d))) (by kernel_rfl) ⟨HC0.out _ ((Below.refl wr.heap.size wr).drew), ⟨(E2.out.below ((Below.refl wr.heap.size wr).drew)).c0, (E2.out.below ((Below.refl wr.heap.size wr).drew)).c1, (E2.out.below ((Below.refl wr.heap.size wr).drew)).c2⟩, (E3.out.below ((Below.refl wr.heap.size wr).drew)).c0, (E3.out.below ((Below.refl wr.heap.size wr).drew)).c1, (E3.out.below ((Below.refl wr.heap.size wr).drew)).c2⟩ (fun hHeld => ?_)
         have bz := (Below.refl wr.heap.size wr).drew
         generalize wr.drew = wd at *
         refine tkw 0 (.slice (some ad) fs.length d) rfl (by kernel_rfl) (by kernel_rfl) (by kernel_rfl) (fun _ _ _ h => h) ⟨by rfl, ?_⟩ (by assumption) ?_
         ·intro w hSw; go_simp; (try with_reducible rfl)
         try simp only [Act.put, tzA, tzB, tzD, tzE, tzF]
         refine tkw 1 (.int .i64 (k : Int)) rfl (by kernel_rfl) (by kernel_rfl) (by kernel_rfl) (fun _ _ _ h => h) ⟨by rfl, ?_⟩ (by assumption) ?_
         ·intro w hSw; go_simp; (try with_reducible rfl)
         try simp only [Act.put, tzA, tzB, tzC, tzD, tzE, tzF]
         refine tkw 2 (.pointer (some (ad.add (k * 2)))) rfl (by kernel_rfl) (by kernel_rfl) (by kernel_rfl) (fun _ _ _ h => h) ⟨by rfl, ?_⟩ (by assumption) ?_
         ·intro w hSw; go_simp; (try with_reducible rfl)
         try simp only [Act.put, tzA, tzB, tzC, tzD, tzE, tzF]
         refine tkw 3 (x.val) rfl (by kernel_rfl) (by kernel_rfl) (by kernel_rfl) (fun _ _ _ h => h) ⟨by rfl, ?_⟩ (by assumption) ?_
         ·intro w hSw; (try dsimp only at hSw); obtain ⟨⟨s0, s1⟩, _⟩ := hSw; go_simp; (try with_reducible rfl)
         try simp only [Act.put, tzA, tzB, tzC, tzD, tzE, tzF]
         refine tkw 4 (.int .i64 (t : Int)) rfl (by kernel_rfl) (by kernel_rfl) (by kernel_rfl) (fun _ _ _ h => h) ⟨by rfl, ?_⟩ (by assumption) ?_
         ·intro w hSw; go_simp; (try with_reducible rfl)
         try simp only [Act.put, tzA, tzB, tzC, tzD, tzE, tzF]
         refine wpAnyH_ready (rs := [5]) (by kernel_rfl) (by simp) ?_
         refine AllReadyH.cons rfl (fun K hK => ?_) ?_
         ·go_simp
          go_at_call 69
          refine (ruses_any wd x (t : Int) true (HXO.out.below bz) HU.out).mono ?_
          rintro e wd ⟨rfl, bb⟩
          replace bz := below_on bz bb bz.size
          clear bb
          refine hK.out _ _ ⟨HC0.out _ bz, ⟨(E2.out.below bz).c0, (E2.out.below bz).c1, (E2.out.below bz).c2⟩, (E3.out.below bz).c0, (E3.out.below bz).c1, (E3.out.below bz).c2⟩ (fun hHeld => ?_)
          clear hK K
          try simp only [Act.put]
          try simp only [tzD, tzE, tzF]
          refine tkw 6 (.bool true) rfl (by kernel_rfl) (by kernel_rfl) (by kernel_rfl) (fun _ _ _ h => h) ⟨by rfl, ?_⟩ (by assumption) ?_
          ·intro w hSw; go_simp; (try with_reducible rfl)
          try simp only [Act.put, tzA, tzB, tzC, tzD, tzE, tzF]
          refine tkw 7 (.slice (some ad2) vs.length c) rfl (by kernel_rfl) (by kernel_rfl) (by kernel_rfl) (fun _ _ _ h => h) ⟨by kernel_rfl, ?_⟩ (by assumption) ?_
          ·intro w hSw; go_simp; (try with_reducible rfl)
          try simp only [Act.put, tzA, tzB, tzC, tzD, tzE, tzF]
          refine tkw 8 (.int .i64 (i : Int)) rfl (by kernel_rfl) (by kernel_rfl) (by kernel_rfl) (fun _ _ _ h => h) ⟨by kernel_rfl, ?_⟩ (by assumption) ?_
          ·intro w hSw; go_simp; (try with_reducible rfl)
          try simp only [Act.put, tzA, tzB, tzC, tzD, tzE, tzF]
          refine tkw 9 (.pointer (some (ad2.add (i * 3)))) rfl (by kernel_rfl) (by kernel_rfl) (by kernel_rfl) (fun _ _ _ h => h) ⟨by kernel_rfl, ?_⟩ (by assumption) ?_
          ·intro w hSw; go_simp; (try with_reducible rfl)
          try simp only [Act.put, tzA, tzB, tzC, tzD, tzE, tzF]
          refine tkw 10 (x3.val) rfl (by kernel_rfl) (by kernel_rfl) (by kernel_rfl) (fun _ _ _ h => h) ⟨by kernel_rfl, ?_⟩ (by assumption) ?_
          ·intro w hSw; (try dsimp only at hSw); obtain ⟨_, _, s0, s1, s2⟩ := hSw; go_simp; (try with_reducible rfl)
          try simp only [Act.put, tzA, tzB, tzC, tzD, tzE, tzF]
          refine tkw 11 (.slice (some ad2) vs.length c) rfl (by kernel_rfl) (by kernel_rfl) (by kernel_rfl) (fun _ _ _ h => h) ⟨by kernel_rfl, ?_⟩ (by assumption) ?_
          ·intro w hSw; go_simp; (try with_reducible rfl)
          try simp only [Act.put, tzA, tzB, tzC, tzD, tzE, tzF]
          refine tkw 12 (.int .i64 (k : Int)) rfl (by kernel_rfl) (by kernel_rfl) (by kernel_rfl) (fun _ _ _ h => h) ⟨by kernel_rfl, ?_⟩ (by assumption) ?_
          ·intro w hSw; go_simp; (try with_reducible rfl)
          try simp only [Act.put, tzA, tzB, tzC, tzD, tzE, tzF]
          refine tkw 13 (.pointer (some (ad2.add (k * 3)))) rfl (by kernel_rfl) (by kernel_rfl) (by kernel_rfl) (fun _ _ _ h => h) ⟨by kernel_rfl, ?_⟩ (by assumption) ?_
          ·intro w hSw; go_simp; (try with_reducible rfl)
          try simp only [Act.put, tzA, tzB, tzC, tzD, tzE, tzF]
          refine tkw 14 (x2.val) rfl (by kernel_rfl) (by kernel_rfl) (by kernel_rfl) (fun _ _ _ h => h) ⟨by kernel_rfl, ?_⟩ (by assumption) ?_
          ·intro w hSw; (try dsimp only at hSw); obtain ⟨_, ⟨s0, s1, s2⟩, _⟩ := hSw; go_simp; (try with_reducible rfl)
          try simp only [Act.put, tzA, tzB, tzC, tzD, tzE, tzF]
          refine wpAnyH_ready (rs := [15]) (by kernel_rfl) (by simp) ?_
          refine AllReadyH.cons rfl (fun K hK => ?_) ?_
          ·go_simp
           go_at_call 33
           refine (rless_any wd x3 x2 x3.q x2.q u (N3.out.below bz) (N2.out.below bz) HZ.out).mono ?_
           rintro e wd ⟨rfl, bb⟩
           replace bz := below_on bz bb bz.size
           clear bb
           refine hK.out _ _ ⟨HC0.out _ bz, ⟨(E2.out.below bz).c0, (E2.out.below bz).c1, (E2.out.below bz).c2⟩, (E3.out.below bz).c0, (E3.out.below bz).c1, (E3.out.below bz).c2⟩ (fun hHeld => ?_)
           clear hK K
           try simp only [Act.put]
           try simp only [tzD, tzE, tzF]
           refine tkw 16 (.bool u) rfl (by kernel_rfl) (by kernel_rfl) (by kernel_rfl) (fun _ _ _ h => h) ⟨by rfl, ?_⟩ (by assumption) ?_
           ·intro w hSw; go_simp; (try with_reducible rfl)
           try simp only [Act.put, tzA, tzB, tzC, tzD, tzE, tzF]
           refine wpAnyH_done (by kernel_rfl) ?_ _
           go_wp2_with fail
           go_meet
           case rel => exact ⟨HP.out, bz⟩
          exact AllReadyH.nil
         exact AllReadyH.nil
        ·have HU := Lib.hid (decide_eq_false hu)
         have HP : Hid (Value.bool false = .bool (decide ((t : Int) ∈ x.ls ∧ x3.q < x2.q))) := Lib.hid (by rw [decide_eq_false (fun h => hu h.1)])
         clear hu
         refine wp_region_held_drew (S := fun w' => (w'.cell? (ad.add (k * 2)) = some (.slice x.A x.ls.length x.c) ∧ w'.cell? ⟨(ad.add (k * 2)).block, (ad.add (k * 2)).off + 1, none⟩ = some (.int .i64 x.m)) ∧ (w'.cell? (ad2.add (k * 3)) = some (.bool x2.b) ∧ w'.cell? ⟨(ad2.add (k * 3)).block, (ad2.add (k * 3)).off + 1, none⟩ = some (.slice x2.A x2.xs.length x2.c) ∧ w'.cell? ⟨(ad2.add (k * 3)).block, (ad2.add (k * 3)).off + 2, none⟩ = some (.slice x2.D x2.ys.length x2.d)) ∧ (w'.cell? (ad2.add (i * 3)) = some (.bool x3.b) ∧ w'.cell? ⟨(ad2.add (i * 3)).block, (ad2.add (i * 3)).off + 1, none⟩ = some (.slice x3.A x3.xs.length x3.c) ∧ w'.cell? ⟨(ad2.add (i * 3)).block, (ad2.add (i * 3)).off + 2, none⟩ = some (.slice x3.D x3.ys.length x3.d))) (by kernel_rfl) ⟨HC0.out _ ((Below.refl wr.heap.size wr).drew), ⟨(E2.out.below ((Below.refl wr.heap.size wr).drew)).c0, (E2.out.below ((Below.refl wr.heap.size wr).drew)).c1, (E2.out.below ((Below.refl wr.heap.size wr).drew)).c2⟩, (E3.out.below ((Below.refl wr.heap.size wr).drew)).c0, (E3.out.below ((Below.refl wr.heap.size wr).drew)).c1, (E3.out.below ((Below.refl wr.heap.size wr).drew)).c2⟩ (fun hHeld => ?_)
         have bz := (Below.refl wr.heap.size wr).drew
         generalize wr.drew = wd at *
         refine tkw 0 (.slice (some ad) fs.length d) rfl (by kernel_rfl) (by kernel_rfl) (by kernel_rfl) (fun _ _ _ h => h) ⟨by rfl, ?_⟩ (by assumption) ?_
         ·intro w hSw; go_simp; (try with_reducible rfl)
         try simp only [Act.put, tzA, tzB, tzD, tzE, tzF]
         refine tkw 1 (.int .i64 (k : Int)) rfl (by kernel_rfl) (by kernel_rfl) (by kernel_rfl) (fun _ _ _ h => h) ⟨by rfl, ?_⟩ (by assumption) ?_
         ·intro w hSw; go_simp; (try with_reducible rfl)
         try simp only [Act.put, tzA, tzB, tzC, tzD, tzE, tzF]
         refine tkw 2 (.pointer (some (ad.add (k * 2)))) rfl (by kernel_rfl) (by kernel_rfl) (by kernel_rfl) (fun _ _ _ h => h) ⟨by rfl, ?_⟩ (by assumption) ?_
         ·intro w hSw; go_simp; (try with_reducible rfl)
         try simp only [Act.put, tzA, tzB, tzC, tzD, tzE, tzF]
         refine tkw 3 (x.val) rfl (by kernel_rfl) (by kernel_rfl) (by kernel_rfl) (fun _ _ _ h => h) ⟨by rfl, ?_⟩ (by assumption) ?_
         ·intro w hSw; (try dsimp only at hSw); obtain ⟨⟨s0, s1⟩, _⟩ := hSw; go_simp; (try with_reducible rfl)
         try simp only [Act.put, tzA, tzB, tzC, tzD, tzE, tzF]
         refine tkw 4 (.int .i64 (t : Int)) rfl (by kernel_rfl) (by kernel_rfl) (by kernel_rfl) (fun _ _ _ h => h) ⟨by rfl, ?_⟩ (by assumption) ?_
         ·intro w hSw; go_simp; (try with_reducible rfl)
         try simp only [Act.put, tzA, tzB, tzC, tzD, tzE, tzF]
         refine wpAnyH_ready (rs := [5]) (by kernel_rfl) (by simp) ?_
         refine AllReadyH.cons rfl (fun K hK => ?_) ?_
         ·go_simp
          go_at_call 69
          refine (ruses_any wd x (t : Int) false (HXO.out.below bz) HU.out).mono ?_
          rintro e wd ⟨rfl, bb⟩
          replace bz := below_on bz bb bz.size
          clear bb
          refine hK.out _ _ ⟨HC0.out _ bz, ⟨(E2.out.below bz).c0, (E2.out.below bz).c1, (E2.out.below bz).c2⟩, (E3.out.below bz).c0, (E3.out.below bz).c1, (E3.out.below bz).c2⟩ (fun hHeld => ?_)
          clear hK K
          try simp only [Act.put]
          try simp only [tzD, tzE, tzF]
          refine tkw 6 (.bool false) rfl (by kernel_rfl) (by kernel_rfl) (by kernel_rfl) (fun _ _ _ h => h) ⟨by rfl, ?_⟩ (by assumption) ?_
          ·intro w hSw; go_simp; (try with_reducible rfl)
          try simp only [Act.put, tzA, tzB, tzC, tzD, tzE, tzF]
          refine tku 7 rfl (by kernel_rfl) (by kernel_rfl) (by kernel_rfl) (fun _ _ _ h => h) (by kernel_rfl) (by assumption) ?_
          try simp only [Act.put, tzA, tzB, tzC, tzD, tzE, tzF]
          refine tku 8 rfl (by kernel_rfl) (by kernel_rfl) (by kernel_rfl) (fun _ _ _ h => h) (by kernel_rfl) (by assumption) ?_
          try simp only [Act.put, tzA, tzB, tzC, tzD, tzE, tzF]
          refine tku 9 rfl (by kernel_rfl) (by kernel_rfl) (by kernel_rfl) (fun _ _ _ h => h) (by kernel_rfl) (by assumption) ?_
          try simp only [Act.put, tzA, tzB, tzC, tzD, tzE, tzF]
          refine tku 10 rfl (by kernel_rfl) (by kernel_rfl) (by kernel_rfl) (fun _ _ _ h => h) (by kernel_rfl) (by assumption) ?_
          try simp only [Act.put, tzA, tzB, tzC, tzD, tzE, tzF]
          refine tku 11 rfl (by kernel_rfl) (by kernel_rfl) (by kernel_rfl) (fun _ _ _ h => h) (by kernel_rfl) (by assumption) ?_
          try simp only [Act.put, tzA, tzB, tzC, tzD, tzE, tzF]
          refine tku 12 rfl (by kernel_rfl) (by kernel_rfl) (by kernel_rfl) (fun _ _ _ h => h) (by kernel_rfl) (by assumption) ?_
          try simp only [Act.put, tzA, tzB, tzC, tzD, tzE, tzF]
          refine tku 13 rfl (by kernel_rfl) (by kernel_rfl) (by kernel_rfl) (fun _ _ _ h => h) (by kernel_rfl) (by assumption) ?_
          try simp only [Act.put, tzA, tzB, tzC, tzD, tzE, tzF]
          refine tku 14 rfl (by kernel_rfl) (by kernel_rfl) (by kernel_rfl) (fun _ _ _ h => h) (by kernel_rfl) (by assumption) ?_
          try simp only [Act.put, tzA, tzB, tzC, tzD, tzE, tzF]
          refine tku 15 rfl (by kernel_rfl) (by kernel_rfl) (by kernel_rfl) (fun _ _ _ h => h) (by kernel_rfl) (by assumption) ?_
          try simp only [Act.put, tzA, tzB, tzC, tzD, tzE, tzF]
          refine tkw 16 (.bool false) rfl (by kernel_rfl) (by kernel_rfl) (by kernel_rfl) (fun _ _ _ h => h) ⟨by rfl, ?_⟩ (by assumption) ?_
          ·intro w hSw; go_simp; (try with_reducible rfl)
          try simp only [Act.put, tzA, tzB, tzC, tzD, tzE, tzF]
          refine wpAnyH_done (by kernel_rfl) ?_ _
          go_wp2_with fail
          go_meet
          case rel => exact ⟨HP.out, bz⟩
         exact AllReadyH.nil
       case rest =>
        obtain ⟨rfl, bb⟩ := hcut
        replace bw := below_on bw bb bw.size
        by_cases hbad : (t : Int) ∈ x.ls ∧ x3.q < x2.q
        ·have HBB : Hid (b = false) := Lib.hid (HBF.out (fun h => by
          have := h.2.2 k hlt (by rw [HGL.out]; exact hbad.1)
          rw [HMK.out, HMI.out] at this
          have h2 := hbad.2
          grind))
         rw [decide_eq_true hbad]
         clear hbad
         go_wp2_with fail
         go_ret
         exact ⟨ret_bool HBB.out.symm, bw⟩
        ·have HNX : Hid (∀ s, s < k + 1 → (t : Int) ∈ lkA (fs.map Fm.fl) s → (vs.map Fx.q).getD s 0 ≤ (vs.map Fx.q).getD i 0) := Lib.hid (fun s ht hm => by
          rcases Nat.lt_or_ge s k with h1 | h1
          ·exact HLE.out s h1 hm
          ·obtain rfl : s = k := by omega
           rw [HMK.out, HMI.out]
           rw [HGL.out] at hm
           by_cases h3 : x3.q < x2.q
           ·exact absurd ⟨hm, h3⟩ hbad
           ·grind)
         rw [decide_eq_false hbad]
         clear hbad
         go_wp2_with fail
         go_roundw
         case rel => exact ⟨k + 1, by omega, by go_num, HNX.out, bw⟩
         case measure => simp [intOf]; omega
      ·have HBB : Hid (b = true) := Lib.hid (HB.out.1 ⟨HMEM.out, ⟨q, HQ.out, of_decide_eq_true HQU.out⟩, fun s hs hm => HLE.out s (by omega) hm⟩)
       go_wp2_with fail
       go_ret
       exact ⟨ret_bool HBB.out.symm, bw⟩
end Go.Proofs.Ythdfflbhogfejaa
