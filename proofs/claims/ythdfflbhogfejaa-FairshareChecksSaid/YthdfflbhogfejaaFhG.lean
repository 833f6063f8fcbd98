/- The walk of fairshare.Check. -/
import Derived.Test.YthdfflbhogfejaaFhF
namespace Go.Proofs.Ythdfflbhogfejaa
set_option maxRecDepth 100000
open Go.RowKit

/-- what Check accepts -/
structure chkP (caps : List Int) (l : List Fl) (vs : List Fx) (ats : List Int) : Prop where
  vl : validFl caps l
  lv : vs.length = l.length
  la : ats.length = l.length
  vv : ∀ v ∈ vs, v.v
  bd : ∀ i, i < l.length → 0 ≤ (vs.map Fx.q).getD i 0 ∧ (vs.map Fx.q).getD i 0 ≤ (lmA l i : Rat)
  ld : ∀ k : Nat, k < caps.length → ∃ q, loadE l (vs.map Fx.q) (k : Int) l.length = some q ∧ q ≤ (cpF caps (k : Int) : Rat)
  at_ : ∀ i, i < l.length → if ats.getD i 0 = -1 then (vs.map Fx.q).getD i 0 = (lmA l i : Rat) else ats.getD i 0 ∈ lkA l i ∧ limP (cpF caps) l (vs.map Fx.q) (ats.getD i 0) i
set_option maxHeartbeats 8000000 in
theorem check_any (w : World) (C : Option Addr) (nC cC : Nat) (caps : List Int) (D : Option Addr) (m d : Nat) (fs : List Fm) (A : Option Addr) (n c : Nat) (vs : List Fx) (E : Option Addr) (ne ce : Nat) (ats : List Int) (b : Bool)
    (hC : Is w C cC caps) (hD : Ws w D d fs) (hA : RdF w A vs) (hok : OkF w vs) (hE : Is w E ce ats) (hnC : nC = caps.length) (hm : m = fs.length) (hn : n = vs.length) (hne : ne = ats.length) (hvc : vs.length ≤ 1000) (hb : chkP caps (fs.map Fm.fl) vs ats ↔ b = true) :
    Calls Try.prog 21 #[.slice C nC cC, .slice D m d, .slice A n c, .slice E ne ce] w fun e w' => e = .returned (.bool b) ∧ Below w.heap.size w w' := by
  have HC := Lib.hid hC
  have HD := Lib.hid hD
  have HA := Lib.hid hA
  have HOK := Lib.hid hok
  have HE := Lib.hid hE
  have HBF : Hid (¬ chkP caps (fs.map Fm.fl) vs ats → b = false) := Lib.hid (fun h => by cases b with
    | false => rfl
    | true => exact absurd (hb.2 rfl) h)
  have HB := Lib.hid hb
  have hle := hE.len
  clear hC hD hA hok hE hb
  subst hm hn hnC hne
  by_cases hv : validFl caps (fs.map Fm.fl)
  · by_cases hl1 : vs.length = fs.length
    · by_cases hl2 : ats.length = fs.length
      · have HV := Lib.hid hv
        have HVD := Lib.hid (decide_eq_true hv)
        have HVL := Lib.hid hl1
        have HAL := Lib.hid hl2
        have hfl : fs.length ≤ 48 := by have := hv.2.1; rwa [List.length_map] at this
        have hcl : caps.length ≤ 64 := hv.1
        have t1 : ((vs.length : Int) != (fs.length : Int)) = false := by simp [hl1]
        have t2 : ((ats.length : Int) != (fs.length : Int)) = false := by simp [hl2]
        clear hv hl1 hl2
        go_enter Try.func21, Try.ntmps21
        go_wp2_with fail
        refine (flvalid_any w C _ cC caps D _ d fs true HC.out HD.out rfl rfl HVD.out).mono ?_
        rintro e w1 ⟨rfl, bw⟩
        go_wp2_with fail
        go_loopw [37] (fun jv wr => ∃ k : Nat, k ≤ vs.length ∧ jv = .int .i64 k ∧ (∀ t (h : t < vs.length), t < k → vs[t].v ∧ 0 ≤ vs[t].q ∧ vs[t].q ≤ (lmA (fs.map Fm.fl) t : Rat)) ∧ Below w.heap.size w wr) (fun jv _ => vs.length - (intOf jv).toNat)
        case atStart => exact ⟨0, by omega, rfl, fun t _ h => by omega, bw⟩
        case round =>
          clear bw
          obtain ⟨k, hk, rfl, hgood, bw⟩ := hrel
          have HGOOD := Lib.hid hgood
          clear hgood
          by_cases hlt : k < vs.length
          · --D{
            have hkf : k < fs.length := by rw [← HVL.out]; exact hlt
            obtain ⟨a2, rfl, el⟩ := (HA.out.below bw).at k hlt
            have hof := (HOK.out.below bw) _ (List.getElem_mem hlt)
            obtain ⟨x1, hx1⟩ : ∃ x1, vs[k] = x1 := ⟨_, rfl⟩
            have HX1 := Lib.hid hx1
            rw [hx1] at el hof
            have HLL := Lib.hid hof.2
            have c0 := el.c0
            have c1 := el.c1
            have c2 := el.c2
            have ok1 := hof.1
            clear el hof hx1
            go_upto_region 6 with fail
            have a10 := (fa_alloc ok1).1
            have bb := (fa_alloc ok1).2
            clear ok1 c0 c1 c2
            generalize (wr.alloc (.cells #[.bool x1.b, .slice x1.A x1.xs.length x1.c, .slice x1.D x1.ys.length x1.d] 41)) = wm at a10 bb ⊢
            have HBM := Lib.hid (below_on bw bb bw.size)
            generalize wr.heap.size = g10 at a10 ⊢
            have HA10 := Lib.hid a10
            clear a10 bb bw
            obtain ⟨ad, rfl, hadl, hcc⟩ := (HD.out.below HBM.out).rd (by omega)
            have hc1 := (hcc k hkf).2
            have hgl := (fl_get hkf).2
            obtain ⟨x, hx⟩ : ∃ x, fs[k] = x := ⟨_, rfl⟩
            rw [hx] at hc1 hgl
            have HGL := Lib.hid hgl
            have HXM : Hid (0 ≤ x.m ∧ x.m ≤ 4096) := Lib.hid (by
              have := HV.out.lm k (by simpa using hkf)
              rw [hgl] at this; exact this)
            have HC1 : Hid (∀ w', Below wm.heap.size wm w' → w'.cell? ⟨(ad.add (k * 2)).block, (ad.add (k * 2)).off + 1, none⟩ = some (.int .i64 x.m)) := Lib.hid (fun w' hb =>
              (hb.cell (p := ⟨(ad.add (k * 2)).block, (ad.add (k * 2)).off + 1, none⟩) (World.block_lt_of_cell? wm _ hc1)).trans hc1)
            clear hcc hx hgl hc1 hadl
            go_cut [61] (fun s61 w2 => (∃ bad, s61 = .bool bad ∧ (bad = true ↔ ¬ (x1.v ∧ 0 ≤ x1.q ∧ x1.q ≤ (x.m : Rat)))) ∧ Below wm.heap.size wm w2)
            case first =>
              by_cases hxv : x1.v
              · have HVD := Lib.hid (decide_eq_true hxv)
                have HVQ : Hid (Vq x1 x1.q) := Lib.hid ⟨hxv, rfl, HLL.out.1, HLL.out.2⟩
                have hzz : ((0 : Int) : Rat) = 0 := rfl
                by_cases hneg : x1.q < 0
                · have HZ : Hid (cmpQ x1.q ((0 : Int) : Rat) = -1) := Lib.hid (by rw [hzz]; exact cmpQ_lt hneg)
                  have HP : Hid (∃ bad, Value.bool true = .bool bad ∧ (bad = true ↔ ¬ (x1.v ∧ 0 ≤ x1.q ∧ x1.q ≤ (x.m : Rat)))) := Lib.hid ⟨true, rfl, fun _ h => by have := h.2.1; grind, fun _ => rfl⟩
                  clear hxv hneg hzz
                  refine wp_region_held_drew (S := fun w' => w'.cell? ⟨g10, 0, none⟩ = some (.bool x1.b) ∧ w'.cell? ⟨g10, 1, none⟩ = some (.slice x1.A x1.xs.length x1.c) ∧ w'.cell? ⟨g10, 2, none⟩ = some (.slice x1.D x1.ys.length x1.d)) (by kernel_rfl) ⟨(HA10.out.below ((Below.refl wm.heap.size wm).drew)).c0, (HA10.out.below ((Below.refl wm.heap.size wm).drew)).c1, (HA10.out.below ((Below.refl wm.heap.size wm).drew)).c2⟩ (fun hHeld => ?_)
                  have bz := (Below.refl wm.heap.size wm).drew
                  generalize wm.drew = wd at *
                  refine tkw 0 (x1.val) rfl (by kernel_rfl) (by kernel_rfl) (by kernel_rfl) (fun _ _ _ h => h) ⟨by rfl, ?_⟩ (by assumption) ?_
                  ·intro w hSw; (try dsimp only at hSw); obtain ⟨s0, s1, s2⟩ := hSw; go_simp; (try with_reducible rfl)
                  try simp only [Act.put, tzA, tzB, tzD, tzE, tzF]
                  refine wpAnyH_ready (rs := [1]) (by kernel_rfl) (by simp) ?_
                  refine AllReadyH.cons rfl (fun K hK => ?_) ?_
                  ·go_simp
                   go_at_call 44
                   refine (fvalid_any wd x1 true (HA10.out.ok.below bz) HLL.out.1 HLL.out.2 HVD.out).mono ?_
                   rintro e wd ⟨rfl, bb⟩
                   try replace n4 := n4.below bb
                   replace bz := below_on bz bb bz.size
                   clear bb
                   refine hK.out _ _ ⟨(HA10.out.below bz).c0, (HA10.out.below bz).c1, (HA10.out.below bz).c2⟩ (fun hHeld => ?_)
                   clear hK K
                   try simp only [Act.put]
                   try simp only [tzD, tzE, tzF]
                   refine tkw 2 (.bool false) rfl (by kernel_rfl) (by kernel_rfl) (by kernel_rfl) (fun _ _ _ h => h) ⟨by rfl, ?_⟩ (by assumption) ?_
                   ·intro w hSw; go_simp; (try with_reducible rfl)
                   try simp only [Act.put, tzA, tzB, tzC, tzD, tzE, tzF]
                   refine tkw 3 (.bool false) rfl (by kernel_rfl) (by kernel_rfl) (by kernel_rfl) (fun _ _ _ h => h) ⟨by rfl, ?_⟩ (by assumption) ?_
                   ·intro w hSw; go_simp; (try with_reducible rfl)
                   try simp only [Act.put, tzA, tzB, tzC, tzD, tzE, tzF]
                   refine tkw 4 (x1.val) rfl (by kernel_rfl) (by kernel_rfl) (by kernel_rfl) (fun _ _ _ h => h) ⟨by kernel_rfl, ?_⟩ (by assumption) ?_
                   ·intro w hSw; (try dsimp only at hSw); obtain ⟨s0, s1, s2⟩ := hSw; go_simp; (try with_reducible rfl)
                   try simp only [Act.put, tzA, tzB, tzC, tzD, tzE, tzF]
                   refine wpAnyH_ready (rs := [5]) (by kernel_rfl) (by simp) ?_
                   refine AllReadyH.cons rfl (fun K hK => ?_) ?_
                   ·go_simp
                    go_at_call 38
                    refine (whole_any wd 0 (by omega) (by omega)).mono ?_
                    rintro e wd ⟨y, rfl, _, n4, bb⟩
                    try replace n4 := n4.below bb
                    replace bz := below_on bz bb bz.size
                    clear bb
                    refine hK.out _ _ ⟨(HA10.out.below bz).c0, (HA10.out.below bz).c1, (HA10.out.below bz).c2⟩ (fun hHeld => ?_)
                    clear hK K
                    try simp only [Act.put]
                    try simp only [tzD, tzE, tzF]
                    refine wpAnyH_ready (rs := [6]) (by kernel_rfl) (by simp) ?_
                    refine AllReadyH.cons rfl (fun K hK => ?_) ?_
                    ·go_simp
                     go_at_call 41
                     refine (compare_any wd x1 y x1.q ((0 : Int) : Rat) (-1) (HVQ.out.nm (HA10.out.ok.below bz)) n4 HZ.out).mono ?_
                     rintro e wd ⟨rfl, bb⟩
                     clear n4
                     try replace n4 := n4.below bb
                     replace bz := below_on bz bb bz.size
                     clear bb
                     refine hK.out _ _ ⟨(HA10.out.below bz).c0, (HA10.out.below bz).c1, (HA10.out.below bz).c2⟩ (fun hHeld => ?_)
                     clear hK K
                     try simp only [Act.put]
                     try simp only [tzD, tzE, tzF]
                     refine tkw 7 (.bool true) rfl (by kernel_rfl) (by kernel_rfl) (by kernel_rfl) (fun _ _ _ h => h) ⟨by kernel_rfl, ?_⟩ (by assumption) ?_
                     ·intro w hSw; go_simp; (try with_reducible rfl)
                     try simp only [Act.put, tzA, tzB, tzC, tzD, tzE, tzF]
                     refine tkw 8 (.bool true) rfl (by kernel_rfl) (by kernel_rfl) (by kernel_rfl) (fun _ _ _ h => h) ⟨by rfl, ?_⟩ (by assumption) ?_
                     ·intro w hSw; go_simp; (try with_reducible rfl)
                     try simp only [Act.put, tzA, tzB, tzC, tzD, tzE, tzF]
                     refine tkw 9 (.bool true) rfl (by kernel_rfl) (by kernel_rfl) (by kernel_rfl) (fun _ _ _ h => h) ⟨by rfl, ?_⟩ (by assumption) ?_
                     ·intro w hSw; go_simp; (try with_reducible rfl)
                     try simp only [Act.put, tzA, tzB, tzC, tzD, tzE, tzF]
                     refine tku 10 rfl (by kernel_rfl) (by kernel_rfl) (by kernel_rfl) (fun _ _ _ h => h) (by kernel_rfl) (by assumption) ?_
                     try simp only [Act.put, tzA, tzB, tzC, tzD, tzE, tzF]
                     refine tku 11 rfl (by kernel_rfl) (by kernel_rfl) (by kernel_rfl) (fun _ _ _ h => h) (by kernel_rfl) (by assumption) ?_
                     try simp only [Act.put, tzA, tzB, tzC, tzD, tzE, tzF]
                     refine tku 12 rfl (by kernel_rfl) (by kernel_rfl) (by kernel_rfl) (fun _ _ _ h => h) (by kernel_rfl) (by assumption) ?_
                     try simp only [Act.put, tzA, tzB, tzC, tzD, tzE, tzF]
                     refine tku 13 rfl (by kernel_rfl) (by kernel_rfl) (by kernel_rfl) (fun _ _ _ h => h) (by kernel_rfl) (by assumption) ?_
                     try simp only [Act.put, tzA, tzB, tzC, tzD, tzE, tzF]
                     refine tku 14 rfl (by kernel_rfl) (by kernel_rfl) (by kernel_rfl) (fun _ _ _ h => h) (by kernel_rfl) (by assumption) ?_
                     try simp only [Act.put, tzA, tzB, tzC, tzD, tzE, tzF]
                     refine tku 15 rfl (by kernel_rfl) (by kernel_rfl) (by kernel_rfl) (fun _ _ _ h => h) (by kernel_rfl) (by assumption) ?_
                     try simp only [Act.put, tzA, tzB, tzC, tzD, tzE, tzF]
                     refine tku 16 rfl (by kernel_rfl) (by kernel_rfl) (by kernel_rfl) (fun _ _ _ h => h) (by kernel_rfl) (by assumption) ?_
                     try simp only [Act.put, tzA, tzB, tzC, tzD, tzE, tzF]
                     refine tku 17 rfl (by kernel_rfl) (by kernel_rfl) (by kernel_rfl) (fun _ _ _ h => h) (by kernel_rfl) (by assumption) ?_
                     try simp only [Act.put, tzA, tzB, tzC, tzD, tzE, tzF]
                     refine tku 18 rfl (by kernel_rfl) (by kernel_rfl) (by kernel_rfl) (fun _ _ _ h => h) (by kernel_rfl) (by assumption) ?_
                     try simp only [Act.put, tzA, tzB, tzC, tzD, tzE, tzF]
                     refine tkw 19 (.bool true) rfl (by kernel_rfl) (by kernel_rfl) (by kernel_rfl) (fun _ _ _ h => h) ⟨by rfl, ?_⟩ (by assumption) ?_
                     ·intro w hSw; go_simp; (try with_reducible rfl)
                     try simp only [Act.put, tzA, tzB, tzC, tzD, tzE, tzF]
                     refine wpAnyH_done (by kernel_rfl) ?_ _
                     go_wp2_with fail
                     go_meet
                     case rel => exact ⟨HP.out, bz⟩
                    exact AllReadyH.nil
                   exact AllReadyH.nil
                  exact AllReadyH.nil
                · obtain ⟨z0, hz0⟩ : ∃ z0, cmpQ x1.q ((0 : Int) : Rat) = z0 := ⟨_, rfl⟩
                  obtain ⟨z1, hz1⟩ : ∃ z1, cmpQ x1.q (x.m : Rat) = z1 := ⟨_, rfl⟩
                  have HZ := Lib.hid hz0
                  have HZ1 := Lib.hid hz1
                  have hd0 : decide (z0 < 0) = false := decide_eq_false (by
                    rw [← hz0, hzz]
                    rcases cmpQ_cases x1.q 0 with ⟨h1, _⟩ | ⟨_, h2⟩ | ⟨_, h2⟩
                    · exact absurd h1 hneg
                    · rw [h2]; omega
                    · rw [h2]; omega)
                  have HP : Hid (∃ bad, Value.bool (decide (0 < z1)) = .bool bad ∧ (bad = true ↔ ¬ (x1.v ∧ 0 ≤ x1.q ∧ x1.q ≤ (x.m : Rat)))) := Lib.hid ⟨_, rfl, by
                    rw [decide_eq_true_iff, ← hz1]
                    rcases cmpQ_cases x1.q (x.m : Rat) with ⟨h1, h2⟩ | ⟨h1, h2⟩ | ⟨h1, h2⟩
                    · rw [h2]; exact ⟨fun h => by omega, fun h => absurd ⟨hxv, by grind, by grind⟩ h⟩
                    · rw [h2]; exact ⟨fun h => by omega, fun h => absurd ⟨hxv, by grind, by grind⟩ h⟩
                    · rw [h2]; exact ⟨fun _ h => by have := h.2.2; grind, fun _ => by omega⟩⟩
                  clear hxv hneg hz0 hz1 hzz
                  refine wp_region_held_drew (S := fun w' => w'.cell? ⟨(ad.add (k * 2)).block, (ad.add (k * 2)).off + 1, none⟩ = some (.int .i64 x.m) ∧ w'.cell? ⟨g10, 0, none⟩ = some (.bool x1.b) ∧ w'.cell? ⟨g10, 1, none⟩ = some (.slice x1.A x1.xs.length x1.c) ∧ w'.cell? ⟨g10, 2, none⟩ = some (.slice x1.D x1.ys.length x1.d)) (by kernel_rfl) ⟨HC1.out _ ((Below.refl wm.heap.size wm).drew), (HA10.out.below ((Below.refl wm.heap.size wm).drew)).c0, (HA10.out.below ((Below.refl wm.heap.size wm).drew)).c1, (HA10.out.below ((Below.refl wm.heap.size wm).drew)).c2⟩ (fun hHeld => ?_)
                  have bz := (Below.refl wm.heap.size wm).drew
                  generalize wm.drew = wd at *
                  refine tkw 0 (x1.val) rfl (by kernel_rfl) (by kernel_rfl) (by kernel_rfl) (fun _ _ _ h => h) ⟨by rfl, ?_⟩ (by assumption) ?_
                  ·intro w hSw; (try dsimp only at hSw); obtain ⟨_, s0, s1, s2⟩ := hSw; go_simp; (try with_reducible rfl)
                  try simp only [Act.put, tzA, tzB, tzD, tzE, tzF]
                  refine wpAnyH_ready (rs := [1]) (by kernel_rfl) (by simp) ?_
                  refine AllReadyH.cons rfl (fun K hK => ?_) ?_
                  ·go_simp
                   go_at_call 44
                   refine (fvalid_any wd x1 true (HA10.out.ok.below bz) HLL.out.1 HLL.out.2 HVD.out).mono ?_
                   rintro e wd ⟨rfl, bb⟩
                   try replace n4 := n4.below bb
                   try replace n5 := n5.below bb
                   replace bz := below_on bz bb bz.size
                   clear bb
                   refine hK.out _ _ ⟨HC1.out _ bz, (HA10.out.below bz).c0, (HA10.out.below bz).c1, (HA10.out.below bz).c2⟩ (fun hHeld => ?_)
                   clear hK K
                   try simp only [Act.put]
                   try simp only [tzD, tzE, tzF]
                   refine tkw 2 (.bool false) rfl (by kernel_rfl) (by kernel_rfl) (by kernel_rfl) (fun _ _ _ h => h) ⟨by rfl, ?_⟩ (by assumption) ?_
                   ·intro w hSw; go_simp; (try with_reducible rfl)
                   try simp only [Act.put, tzA, tzB, tzC, tzD, tzE, tzF]
                   refine tkw 3 (.bool false) rfl (by kernel_rfl) (by kernel_rfl) (by kernel_rfl) (fun _ _ _ h => h) ⟨by rfl, ?_⟩ (by assumption) ?_
                   ·intro w hSw; go_simp; (try with_reducible rfl)
                   try simp only [Act.put, tzA, tzB, tzC, tzD, tzE, tzF]
                   refine tkw 4 (x1.val) rfl (by kernel_rfl) (by kernel_rfl) (by kernel_rfl) (fun _ _ _ h => h) ⟨by kernel_rfl, ?_⟩ (by assumption) ?_
                   ·intro w hSw; (try dsimp only at hSw); obtain ⟨_, s0, s1, s2⟩ := hSw; go_simp; (try with_reducible rfl)
                   try simp only [Act.put, tzA, tzB, tzC, tzD, tzE, tzF]
                   refine wpAnyH_ready (rs := [5]) (by kernel_rfl) (by simp) ?_
                   refine AllReadyH.cons rfl (fun K hK => ?_) ?_
                   ·go_simp
                    go_at_call 38
                    refine (whole_any wd 0 (by omega) (by omega)).mono ?_
                    rintro e wd ⟨y, rfl, _, n4, bb⟩
                    try replace n4 := n4.below bb
                    try replace n5 := n5.below bb
                    replace bz := below_on bz bb bz.size
                    clear bb
                    refine hK.out _ _ ⟨HC1.out _ bz, (HA10.out.below bz).c0, (HA10.out.below bz).c1, (HA10.out.below bz).c2⟩ (fun hHeld => ?_)
                    clear hK K
                    try simp only [Act.put]
                    try simp only [tzD, tzE, tzF]
                    refine wpAnyH_ready (rs := [6]) (by kernel_rfl) (by simp) ?_
                    refine AllReadyH.cons rfl (fun K hK => ?_) ?_
                    ·go_simp
                     go_at_call 41
                     refine (compare_any wd x1 y x1.q ((0 : Int) : Rat) z0 (HVQ.out.nm (HA10.out.ok.below bz)) n4 HZ.out).mono ?_
                     rintro e wd ⟨rfl, bb⟩
                     clear n4
                     try replace n4 := n4.below bb
                     try replace n5 := n5.below bb
                     replace bz := below_on bz bb bz.size
                     clear bb
                     refine hK.out _ _ ⟨HC1.out _ bz, (HA10.out.below bz).c0, (HA10.out.below bz).c1, (HA10.out.below bz).c2⟩ (fun hHeld => ?_)
                     clear hK K
                     try simp only [Act.put]
                     try simp only [tzD, tzE, tzF]
                     refine tkw 7 (.bool false) rfl (by kernel_rfl) (by kernel_rfl) (by kernel_rfl) (fun _ _ _ h => h) ⟨by kernel_rfl, ?_⟩ (by assumption) ?_
                     ·intro w hSw; go_simp; (try with_reducible rfl)
                     try simp only [Act.put, tzA, tzB, tzC, tzD, tzE, tzF]
                     refine tkw 8 (.bool false) rfl (by kernel_rfl) (by kernel_rfl) (by kernel_rfl) (fun _ _ _ h => h) ⟨by rfl, ?_⟩ (by assumption) ?_
                     ·intro w hSw; go_simp; (try with_reducible rfl)
                     try simp only [Act.put, tzA, tzB, tzC, tzD, tzE, tzF]
                     refine tkw 9 (.bool false) rfl (by kernel_rfl) (by kernel_rfl) (by kernel_rfl) (fun _ _ _ h => h) ⟨by rfl, ?_⟩ (by assumption) ?_
                     ·intro w hSw; go_simp; (try with_reducible rfl)
                     try simp only [Act.put, tzA, tzB, tzC, tzD, tzE, tzF]
                     refine tkw 10 (x1.val) rfl (by kernel_rfl) (by kernel_rfl) (by kernel_rfl) (fun _ _ _ h => h) ⟨by kernel_rfl, ?_⟩ (by assumption) ?_
                     ·intro w hSw; (try dsimp only at hSw); obtain ⟨_, s0, s1, s2⟩ := hSw; go_simp; (try with_reducible rfl)
                     try simp only [Act.put, tzA, tzB, tzC, tzD, tzE, tzF]
                     refine tkw 11 (.slice (some ad) fs.length d) rfl (by kernel_rfl) (by kernel_rfl) (by kernel_rfl) (fun _ _ _ h => h) ⟨by kernel_rfl, ?_⟩ (by assumption) ?_
                     ·intro w hSw; go_simp; (try with_reducible rfl)
                     try simp only [Act.put, tzA, tzB, tzC, tzD, tzE, tzF]
                     refine tkw 12 (.int .i64 (k : Int)) rfl (by kernel_rfl) (by kernel_rfl) (by kernel_rfl) (fun _ _ _ h => h) ⟨by kernel_rfl, ?_⟩ (by assumption) ?_
                     ·intro w hSw; go_simp; (try with_reducible rfl)
                     try simp only [Act.put, tzA, tzB, tzC, tzD, tzE, tzF]
                     refine tkw 13 (.pointer (some (ad.add (k * 2)))) rfl (by kernel_rfl) (by kernel_rfl) (by kernel_rfl) (fun _ _ _ h => h) ⟨by kernel_rfl, ?_⟩ (by assumption) ?_
                     ·intro w hSw; go_simp; (try with_reducible rfl)
                     try simp only [Act.put, tzA, tzB, tzC, tzD, tzE, tzF]
                     refine tkw 14 (.pointer (some ⟨(ad.add (k * 2)).block, (ad.add (k * 2)).off + 1, none⟩)) rfl (by kernel_rfl) (by kernel_rfl) (by kernel_rfl) (fun _ _ _ h => h) ⟨by kernel_rfl, ?_⟩ (by assumption) ?_
                     ·intro w hSw; go_simp; (try with_reducible rfl)
                     try simp only [Act.put, tzA, tzB, tzC, tzD, tzE, tzF]
                     refine tkw 15 (.int .i64 x.m) rfl (by kernel_rfl) (by kernel_rfl) (by kernel_rfl) (fun _ _ _ h => h) ⟨by kernel_rfl, ?_⟩ (by assumption) ?_
                     ·intro w hSw; (try dsimp only at hSw); obtain ⟨s0, _⟩ := hSw; go_simp; (try with_reducible rfl)
                     try simp only [Act.put, tzA, tzB, tzC, tzD, tzE, tzF]
                     refine wpAnyH_ready (rs := [16]) (by kernel_rfl) (by simp) ?_
                     refine AllReadyH.cons rfl (fun K hK => ?_) ?_
                     ·go_simp
                      go_at_call 38
                      refine (whole_any wd x.m (by have := HXM.out; omega) (by have := HXM.out; omega)).mono ?_
                      rintro e wd ⟨y2, rfl, _, n5, bb⟩
                      try replace n4 := n4.below bb
                      try replace n5 := n5.below bb
                      replace bz := below_on bz bb bz.size
                      clear bb
                      refine hK.out _ _ ⟨HC1.out _ bz, (HA10.out.below bz).c0, (HA10.out.below bz).c1, (HA10.out.below bz).c2⟩ (fun hHeld => ?_)
                      clear hK K
                      try simp only [Act.put]
                      try simp only [tzD, tzE, tzF]
                      refine wpAnyH_ready (rs := [17]) (by kernel_rfl) (by simp) ?_
                      refine AllReadyH.cons rfl (fun K hK => ?_) ?_
                      ·go_simp
                       go_at_call 41
                       refine (compare_any wd x1 y2 x1.q (x.m : Rat) z1 (HVQ.out.nm (HA10.out.ok.below bz)) n5 HZ1.out).mono ?_
                       rintro e wd ⟨rfl, bb⟩
                       clear n5
                       try replace n4 := n4.below bb
                       try replace n5 := n5.below bb
                       replace bz := below_on bz bb bz.size
                       clear bb
                       refine hK.out _ _ ⟨HC1.out _ bz, (HA10.out.below bz).c0, (HA10.out.below bz).c1, (HA10.out.below bz).c2⟩ (fun hHeld => ?_)
                       clear hK K
                       try simp only [Act.put]
                       try simp only [tzD, tzE, tzF]
                       refine tkw 18 (.bool (decide (0 < z1))) rfl (by kernel_rfl) (by kernel_rfl) (by kernel_rfl) (fun _ _ _ h => h) ⟨by kernel_rfl, ?_⟩ (by assumption) ?_
                       ·intro w hSw; go_simp; (try with_reducible rfl)
                       try simp only [Act.put, tzA, tzB, tzC, tzD, tzE, tzF]
                       refine tkw 19 (.bool (decide (0 < z1))) rfl (by kernel_rfl) (by kernel_rfl) (by kernel_rfl) (fun _ _ _ h => h) ⟨by rfl, ?_⟩ (by assumption) ?_
                       ·intro w hSw; go_simp; (try with_reducible rfl)
                       try simp only [Act.put, tzA, tzB, tzC, tzD, tzE, tzF]
                       refine wpAnyH_done (by kernel_rfl) ?_ _
                       go_wp2_with fail
                       go_meet
                       case rel => exact ⟨HP.out, bz⟩
                      exact AllReadyH.nil
                     exact AllReadyH.nil
                    exact AllReadyH.nil
                   exact AllReadyH.nil
                  exact AllReadyH.nil
              · have HVD := Lib.hid (decide_eq_false hxv)
                have HP : Hid (∃ bad, Value.bool true = .bool bad ∧ (bad = true ↔ ¬ (x1.v ∧ 0 ≤ x1.q ∧ x1.q ≤ (x.m : Rat)))) := Lib.hid ⟨true, rfl, fun _ h => hxv h.1, fun _ => rfl⟩
                clear hxv
                refine wp_region_held_drew (S := fun w' => w'.cell? ⟨g10, 0, none⟩ = some (.bool x1.b) ∧ w'.cell? ⟨g10, 1, none⟩ = some (.slice x1.A x1.xs.length x1.c) ∧ w'.cell? ⟨g10, 2, none⟩ = some (.slice x1.D x1.ys.length x1.d)) (by kernel_rfl) ⟨(HA10.out.below ((Below.refl wm.heap.size wm).drew)).c0, (HA10.out.below ((Below.refl wm.heap.size wm).drew)).c1, (HA10.out.below ((Below.refl wm.heap.size wm).drew)).c2⟩ (fun hHeld => ?_)
                have bz := (Below.refl wm.heap.size wm).drew
                generalize wm.drew = wd at *
                refine tkw 0 (x1.val) rfl (by kernel_rfl) (by kernel_rfl) (by kernel_rfl) (fun _ _ _ h => h) ⟨by rfl, ?_⟩ (by assumption) ?_
                ·intro w hSw; (try dsimp only at hSw); obtain ⟨s0, s1, s2⟩ := hSw; go_simp; (try with_reducible rfl)
                try simp only [Act.put, tzA, tzB, tzD, tzE, tzF]
                refine wpAnyH_ready (rs := [1]) (by kernel_rfl) (by simp) ?_
                refine AllReadyH.cons rfl (fun K hK => ?_) ?_
                ·go_simp
                 go_at_call 44
                 refine (fvalid_any wd x1 false (HA10.out.ok.below bz) HLL.out.1 HLL.out.2 HVD.out).mono ?_
                 rintro e wd ⟨rfl, bb⟩
                 replace bz := below_on bz bb bz.size
                 clear bb
                 refine hK.out _ _ ⟨(HA10.out.below bz).c0, (HA10.out.below bz).c1, (HA10.out.below bz).c2⟩ (fun hHeld => ?_)
                 clear hK K
                 try simp only [Act.put]
                 try simp only [tzD, tzE, tzF]
                 refine tkw 2 (.bool true) rfl (by kernel_rfl) (by kernel_rfl) (by kernel_rfl) (fun _ _ _ h => h) ⟨by rfl, ?_⟩ (by assumption) ?_
                 ·intro w hSw; go_simp; (try with_reducible rfl)
                 try simp only [Act.put, tzA, tzB, tzC, tzD, tzE, tzF]
                 refine tkw 3 (.bool true) rfl (by kernel_rfl) (by kernel_rfl) (by kernel_rfl) (fun _ _ _ h => h) ⟨by rfl, ?_⟩ (by assumption) ?_
                 ·intro w hSw; go_simp; (try with_reducible rfl)
                 try simp only [Act.put, tzA, tzB, tzC, tzD, tzE, tzF]
                 refine tku 4 rfl (by kernel_rfl) (by kernel_rfl) (by kernel_rfl) (fun _ _ _ h => h) (by kernel_rfl) (by assumption) ?_
                 try simp only [Act.put, tzA, tzB, tzC, tzD, tzE, tzF]
                 refine tku 5 rfl (by kernel_rfl) (by kernel_rfl) (by kernel_rfl) (fun _ _ _ h => h) (by kernel_rfl) (by assumption) ?_
                 try simp only [Act.put, tzA, tzB, tzC, tzD, tzE, tzF]
                 refine tku 6 rfl (by kernel_rfl) (by kernel_rfl) (by kernel_rfl) (fun _ _ _ h => h) (by kernel_rfl) (by assumption) ?_
                 try simp only [Act.put, tzA, tzB, tzC, tzD, tzE, tzF]
                 refine tku 7 rfl (by kernel_rfl) (by kernel_rfl) (by kernel_rfl) (fun _ _ _ h => h) (by kernel_rfl) (by assumption) ?_
                 try simp only [Act.put, tzA, tzB, tzC, tzD, tzE, tzF]
                 refine tkw 8 (.bool true) rfl (by kernel_rfl) (by kernel_rfl) (by kernel_rfl) (fun _ _ _ h => h) ⟨by rfl, ?_⟩ (by assumption) ?_
                 ·intro w hSw; go_simp; (try with_reducible rfl)
                 try simp only [Act.put, tzA, tzB, tzC, tzD, tzE, tzF]
                 refine tkw 9 (.bool true) rfl (by kernel_rfl) (by kernel_rfl) (by kernel_rfl) (fun _ _ _ h => h) ⟨by rfl, ?_⟩ (by assumption) ?_
                 ·intro w hSw; go_simp; (try with_reducible rfl)
                 try simp only [Act.put, tzA, tzB, tzC, tzD, tzE, tzF]
                 refine tku 10 rfl (by kernel_rfl) (by kernel_rfl) (by kernel_rfl) (fun _ _ _ h => h) (by kernel_rfl) (by assumption) ?_
                 try simp only [Act.put, tzA, tzB, tzC, tzD, tzE, tzF]
                 refine tku 11 rfl (by kernel_rfl) (by kernel_rfl) (by kernel_rfl) (fun _ _ _ h => h) (by kernel_rfl) (by assumption) ?_
                 try simp only [Act.put, tzA, tzB, tzC, tzD, tzE, tzF]
                 refine tku 12 rfl (by kernel_rfl) (by kernel_rfl) (by kernel_rfl) (fun _ _ _ h => h) (by kernel_rfl) (by assumption) ?_
                 try simp only [Act.put, tzA, tzB, tzC, tzD, tzE, tzF]
                 refine tku 13 rfl (by kernel_rfl) (by kernel_rfl) (by kernel_rfl) (fun _ _ _ h => h) (by kernel_rfl) (by assumption) ?_
                 try simp only [Act.put, tzA, tzB, tzC, tzD, tzE, tzF]
                 refine tku 14 rfl (by kernel_rfl) (by kernel_rfl) (by kernel_rfl) (fun _ _ _ h => h) (by kernel_rfl) (by assumption) ?_
                 try simp only [Act.put, tzA, tzB, tzC, tzD, tzE, tzF]
                 refine tku 15 rfl (by kernel_rfl) (by kernel_rfl) (by kernel_rfl) (fun _ _ _ h => h) (by kernel_rfl) (by assumption) ?_
                 try simp only [Act.put, tzA, tzB, tzC, tzD, tzE, tzF]
                 refine tku 16 rfl (by kernel_rfl) (by kernel_rfl) (by kernel_rfl) (fun _ _ _ h => h) (by kernel_rfl) (by assumption) ?_
                 try simp only [Act.put, tzA, tzB, tzC, tzD, tzE, tzF]
                 refine tku 17 rfl (by kernel_rfl) (by kernel_rfl) (by kernel_rfl) (fun _ _ _ h => h) (by kernel_rfl) (by assumption) ?_
                 try simp only [Act.put, tzA, tzB, tzC, tzD, tzE, tzF]
                 refine tku 18 rfl (by kernel_rfl) (by kernel_rfl) (by kernel_rfl) (fun _ _ _ h => h) (by kernel_rfl) (by assumption) ?_
                 try simp only [Act.put, tzA, tzB, tzC, tzD, tzE, tzF]
                 refine tkw 19 (.bool true) rfl (by kernel_rfl) (by kernel_rfl) (by kernel_rfl) (fun _ _ _ h => h) ⟨by rfl, ?_⟩ (by assumption) ?_
                 ·intro w hSw; go_simp; (try with_reducible rfl)
                 try simp only [Act.put, tzA, tzB, tzC, tzD, tzE, tzF]
                 refine wpAnyH_done (by kernel_rfl) ?_ _
                 go_wp2_with fail
                 go_meet
                 case rel => exact ⟨HP.out, bz⟩
                exact AllReadyH.nil
            case rest =>
              obtain ⟨⟨bad, rfl, hbad⟩, bb⟩ := hcut
              have bw := below_on HBM.out bb HBM.out.size
              cases bad with
              | true =>
                have HBB : Hid (b = false) := Lib.hid (HBF.out (fun h => hbad.1 rfl (by
                  have h1 := h.bd k (by simpa using hkf)
                  rw [map_q_getD vs hlt, HX1.out, HGL.out] at h1
                  exact ⟨by rw [← HX1.out]; exact h.vv _ (List.getElem_mem hlt), h1⟩)))
                clear hbad
                go_wp2_with fail
                go_ret
                exact ⟨ret_bool HBB.out.symm, bw⟩
              | false =>
                have HNX : Hid (∀ t (h : t < vs.length), t < k + 1 → vs[t].v ∧ 0 ≤ vs[t].q ∧ vs[t].q ≤ (lmA (fs.map Fm.fl) t : Rat)) := Lib.hid (fun t ht htk => by
                  rcases Nat.lt_or_ge t k with h1 | h1
                  · exact HGOOD.out t ht h1
                  · obtain rfl : t = k := by omega
                    rw [HX1.out, HGL.out]
                    exact Classical.byContradiction fun h => by have := hbad.2 h; cases this)
                clear hbad
                go_wp2_with fail
                go_roundw
                case rel => exact ⟨k + 1, by omega, by go_num, HNX.out, bw⟩
                case measure => simp [intOf]; omega
            --D}
          · have HGD : Hid (∀ t (h : t < vs.length), vs[t].v ∧ 0 ≤ vs[t].q ∧ vs[t].q ≤ (lmA (fs.map Fm.fl) t : Rat)) := Lib.hid (fun t ht => HGOOD.out t ht (by omega))
            have HVV : Hid (∀ v ∈ vs, v.v) := Lib.hid (fun v hv => by
              obtain ⟨i, hi, rfl⟩ := List.getElem_of_mem hv
              exact (HGD.out i hi).1)
            clear HGOOD
            go_wp2_with fail
            go_loopw [65] (fun jv wr => ∃ k : Nat, k ≤ caps.length ∧ jv = .int .i64 k ∧ (∀ t : Nat, t < k → ∃ q, loadE (fs.map Fm.fl) (vs.map Fx.q) (t : Int) fs.length = some q ∧ q ≤ (cpF caps (t : Int) : Rat)) ∧ Below w.heap.size w wr) (fun jv _ => caps.length - (intOf jv).toNat)
            case atStart => exact ⟨0, by omega, rfl, fun t h => by omega, bw⟩
            case round =>
              clear bw
              obtain ⟨k, hk, rfl, hgood, bw⟩ := hrel
              have HGOOD := Lib.hid hgood
              clear hgood
              by_cases hlt : k < caps.length
              · --D{
                obtain ⟨ac, rfl, _, hcc⟩ := (HC.out.below bw).at k hlt
                have HCP : Hid (cpF caps (k : Int) = caps[k]) := Lib.hid (by rw [cpF, Int.toNat_natCast, getD_lt _ _ _ hlt])
                have HCB := Lib.hid (HC.out.wf _ (List.getElem_mem hlt))
                have hcap := HC.out.cap
                obtain ⟨cl, hcl⟩ : ∃ cl, caps[k] = cl := ⟨_, rfl⟩
                rw [hcl] at hcc HCP HCB
                clear hcl
                go_wp2_with fail
                refine (load_nm wr D _ d fs A _ c vs (k : Int) (HD.out.below bw) (HA.out.below bw) (HOK.out.below bw) HVV.out rfl rfl HVL.out (by omega)).mono ?_
                rintro e wn ⟨x1, rfl, hq1, ok1, bb⟩
                have HQ1 := Lib.hid hq1
                replace bw := below_on bw bb bw.size
                clear hq1 bb hcc
                obtain ⟨E0, hE⟩ : ∃ E0 : Int, (if (loadE (fs.map Fm.fl) (vs.map Fx.q) (k : Int) fs.length).isSome then 0 else 2) = E0 := ⟨_, rfl⟩
                rw [hE]
                have HE0 := Lib.hid hE
                clear hE
                go_upto_region 13 with fail
                have a13 := (fa_alloc ok1).1
                have bb := (fa_alloc ok1).2
                clear ok1
                generalize (wn.alloc (.cells #[.bool x1.b, .slice x1.A x1.xs.length x1.c, .slice x1.D x1.ys.length x1.d] 41)) = wm at a13 bb ⊢
                have HBM := Lib.hid (below_on bw bb bw.size)
                generalize wn.heap.size = g13 at a13 ⊢
                have HA13 := Lib.hid a13
                clear a13 bb bw
                go_cut [85] (fun s85 w2 => (∃ bad, s85 = .bool bad ∧ (bad = true ↔ ¬ ∃ q, loadE (fs.map Fm.fl) (vs.map Fx.q) (k : Int) fs.length = some q ∧ q ≤ (cl : Rat))) ∧ Below wm.heap.size wm w2)
                case first =>
                  cases hx : loadE (fs.map Fm.fl) (vs.map Fx.q) (k : Int) fs.length with
                  | none =>
                    obtain rfl : E0 = 2 := by rw [← HE0.out, hx]; rfl
                    have HP : Hid (∃ bad, Value.bool true = .bool bad ∧ (bad = true ↔ ¬ ∃ q, loadE (fs.map Fm.fl) (vs.map Fx.q) (k : Int) fs.length = some q ∧ q ≤ (cl : Rat))) := Lib.hid ⟨true, rfl, fun _ ⟨q, h, _⟩ => (by rw [hx] at h; cases h), fun _ => rfl⟩
                    clear hx HE0 HQ1
                    refine wp_region_held_drew (S := fun w' => True) (by kernel_rfl) trivial (fun hHeld => ?_)
                    have bz := (Below.refl wm.heap.size wm).drew
                    generalize wm.drew = wd at *
                    refine tkw 0 (.int .i64 2) rfl (by kernel_rfl) (by kernel_rfl) (by kernel_rfl) (fun _ _ _ h => h) ⟨by rfl, ?_⟩ (by assumption) ?_
                    ·intro w hSw; go_simp; (try with_reducible rfl)
                    try simp only [Act.put, tzA, tzB, tzD, tzE, tzF]
                    refine tkw 1 (.bool true) rfl (by kernel_rfl) (by kernel_rfl) (by kernel_rfl) (fun _ _ _ h => h) ⟨by rfl, ?_⟩ (by assumption) ?_
                    ·intro w hSw; go_simp; (try with_reducible rfl)
                    try simp only [Act.put, tzA, tzB, tzC, tzD, tzE, tzF]
                    refine tkw 2 (.bool true) rfl (by kernel_rfl) (by kernel_rfl) (by kernel_rfl) (fun _ _ _ h => h) ⟨by rfl, ?_⟩ (by assumption) ?_
                    ·intro w hSw; go_simp; (try with_reducible rfl)
                    try simp only [Act.put, tzA, tzB, tzC, tzD, tzE, tzF]
                    refine tku 3 rfl (by kernel_rfl) (by kernel_rfl) (by kernel_rfl) (fun _ _ _ h => h) (by kernel_rfl) (by assumption) ?_
                    try simp only [Act.put, tzA, tzB, tzC, tzD, tzE, tzF]
                    refine tku 4 rfl (by kernel_rfl) (by kernel_rfl) (by kernel_rfl) (fun _ _ _ h => h) (by kernel_rfl) (by assumption) ?_
                    try simp only [Act.put, tzA, tzB, tzC, tzD, tzE, tzF]
                    refine tku 5 rfl (by kernel_rfl) (by kernel_rfl) (by kernel_rfl) (fun _ _ _ h => h) (by kernel_rfl) (by assumption) ?_
                    try simp only [Act.put, tzA, tzB, tzC, tzD, tzE, tzF]
                    refine tku 6 rfl (by kernel_rfl) (by kernel_rfl) (by kernel_rfl) (fun _ _ _ h => h) (by kernel_rfl) (by assumption) ?_
                    try simp only [Act.put, tzA, tzB, tzC, tzD, tzE, tzF]
                    refine tku 7 rfl (by kernel_rfl) (by kernel_rfl) (by kernel_rfl) (fun _ _ _ h => h) (by kernel_rfl) (by assumption) ?_
                    try simp only [Act.put, tzA, tzB, tzC, tzD, tzE, tzF]
                    refine tkw 8 (.bool true) rfl (by kernel_rfl) (by kernel_rfl) (by kernel_rfl) (fun _ _ _ h => h) ⟨by rfl, ?_⟩ (by assumption) ?_
                    ·intro w hSw; go_simp; (try with_reducible rfl)
                    try simp only [Act.put, tzA, tzB, tzC, tzD, tzE, tzF]
                    refine wpAnyH_done (by kernel_rfl) ?_ _
                    go_wp2_with fail
                    go_meet
                    case rel => exact ⟨HP.out, bz⟩
                  | some q =>
                    obtain rfl : E0 = 0 := by rw [← HE0.out, hx]; rfl
                    have HQ0 := Lib.hid (HQ1.out q hx)
                    clear HE0 HQ1
                    obtain ⟨z, hz⟩ : ∃ z, cmpQ q (cl : Rat) = z := ⟨_, rfl⟩
                    have HZ := Lib.hid hz
                    have HP : Hid (∃ bad, Value.bool (decide (0 < z)) = .bool bad ∧ (bad = true ↔ ¬ ∃ q, loadE (fs.map Fm.fl) (vs.map Fx.q) (k : Int) fs.length = some q ∧ q ≤ (cl : Rat))) := Lib.hid ⟨_, rfl, by
                      rw [decide_eq_true_iff, ← hz, hx]
                      rcases cmpQ_cases q (cl : Rat) with ⟨h1, h2⟩ | ⟨h1, h2⟩ | ⟨h1, h2⟩
                      · rw [h2]; exact ⟨fun h => by omega, fun h => absurd ⟨q, rfl, by grind⟩ h⟩
                      · rw [h2]; exact ⟨fun h => by omega, fun h => absurd ⟨q, rfl, by grind⟩ h⟩
                      · rw [h2]; exact ⟨fun _ ⟨p, e, h⟩ => (by cases e; grind), fun _ => by omega⟩⟩
                    clear hz hx
                    refine wp_region_held_drew (S := fun w' => w'.cell? ⟨g13, 0, none⟩ = some (.bool x1.b) ∧ w'.cell? ⟨g13, 1, none⟩ = some (.slice x1.A x1.xs.length x1.c) ∧ w'.cell? ⟨g13, 2, none⟩ = some (.slice x1.D x1.ys.length x1.d)) (by kernel_rfl) ⟨(HA13.out.below ((Below.refl wm.heap.size wm).drew)).c0, (HA13.out.below ((Below.refl wm.heap.size wm).drew)).c1, (HA13.out.below ((Below.refl wm.heap.size wm).drew)).c2⟩ (fun hHeld => ?_)
                    have bz := (Below.refl wm.heap.size wm).drew
                    generalize wm.drew = wd at *
                    refine tkw 0 (.int .i64 0) rfl (by kernel_rfl) (by kernel_rfl) (by kernel_rfl) (fun _ _ _ h => h) ⟨by rfl, ?_⟩ (by assumption) ?_
                    ·intro w hSw; go_simp; (try with_reducible rfl)
                    try simp only [Act.put, tzA, tzB, tzD, tzE, tzF]
                    refine tkw 1 (.bool false) rfl (by kernel_rfl) (by kernel_rfl) (by kernel_rfl) (fun _ _ _ h => h) ⟨by rfl, ?_⟩ (by assumption) ?_
                    ·intro w hSw; go_simp; (try with_reducible rfl)
                    try simp only [Act.put, tzA, tzB, tzC, tzD, tzE, tzF]
                    refine tkw 2 (.bool false) rfl (by kernel_rfl) (by kernel_rfl) (by kernel_rfl) (fun _ _ _ h => h) ⟨by rfl, ?_⟩ (by assumption) ?_
                    ·intro w hSw; go_simp; (try with_reducible rfl)
                    try simp only [Act.put, tzA, tzB, tzC, tzD, tzE, tzF]
                    refine tkw 3 (x1.val) rfl (by kernel_rfl) (by kernel_rfl) (by kernel_rfl) (fun _ _ _ h => h) ⟨by kernel_rfl, ?_⟩ (by assumption) ?_
                    ·intro w hSw; (try dsimp only at hSw); obtain ⟨s0, s1, s2⟩ := hSw; go_simp; (try with_reducible rfl)
                    try simp only [Act.put, tzA, tzB, tzC, tzD, tzE, tzF]
                    refine tkw 4 (.int .i64 cl) rfl (by kernel_rfl) (by kernel_rfl) (by kernel_rfl) (fun _ _ _ h => h) ⟨by kernel_rfl, ?_⟩ (by assumption) ?_
                    ·intro w hSw; go_simp; (try with_reducible rfl)
                    try simp only [Act.put, tzA, tzB, tzC, tzD, tzE, tzF]
                    refine wpAnyH_ready (rs := [5]) (by kernel_rfl) (by simp) ?_
                    refine AllReadyH.cons rfl (fun K hK => ?_) ?_
                    ·go_simp
                     go_at_call 38
                     refine (whole_any wd cl HCB.out.1 HCB.out.2).mono ?_
                     rintro e wd ⟨y, rfl, _, n4, bb⟩
                     try replace n4 := n4.below bb
                     replace bz := below_on bz bb bz.size
                     clear bb
                     refine hK.out _ _ ⟨(HA13.out.below bz).c0, (HA13.out.below bz).c1, (HA13.out.below bz).c2⟩ (fun hHeld => ?_)
                     clear hK K
                     try simp only [Act.put]
                     try simp only [tzD, tzE, tzF]
                     refine wpAnyH_ready (rs := [6]) (by kernel_rfl) (by simp) ?_
                     refine AllReadyH.cons rfl (fun K hK => ?_) ?_
                     ·go_simp
                      go_at_call 41
                      refine (compare_any wd x1 y q (cl : Rat) z (HQ0.out.nm (HA13.out.ok.below bz)) n4 HZ.out).mono ?_
                      rintro e wd ⟨rfl, bb⟩
                      clear n4
                      try replace n4 := n4.below bb
                      replace bz := below_on bz bb bz.size
                      clear bb
                      refine hK.out _ _ ⟨(HA13.out.below bz).c0, (HA13.out.below bz).c1, (HA13.out.below bz).c2⟩ (fun hHeld => ?_)
                      clear hK K
                      try simp only [Act.put]
                      try simp only [tzD, tzE, tzF]
                      refine tkw 7 (.bool (decide (0 < z))) rfl (by kernel_rfl) (by kernel_rfl) (by kernel_rfl) (fun _ _ _ h => h) ⟨by kernel_rfl, ?_⟩ (by assumption) ?_
                      ·intro w hSw; go_simp; (try with_reducible rfl)
                      try simp only [Act.put, tzA, tzB, tzC, tzD, tzE, tzF]
                      refine tkw 8 (.bool (decide (0 < z))) rfl (by kernel_rfl) (by kernel_rfl) (by kernel_rfl) (fun _ _ _ h => h) ⟨by rfl, ?_⟩ (by assumption) ?_
                      ·intro w hSw; go_simp; (try with_reducible rfl)
                      try simp only [Act.put, tzA, tzB, tzC, tzD, tzE, tzF]
                      refine wpAnyH_done (by kernel_rfl) ?_ _
                      go_wp2_with fail
                      go_meet
                      case rel => exact ⟨HP.out, bz⟩
                     exact AllReadyH.nil
                    exact AllReadyH.nil
                case rest =>
                  obtain ⟨⟨bad, rfl, hbad⟩, bb⟩ := hcut
                  have bw := below_on HBM.out bb HBM.out.size
                  clear HQ1 HE0
                  cases bad with
                  | true =>
                    have HBB : Hid (b = false) := Lib.hid (HBF.out (fun h => hbad.1 rfl (by
                      have h1 := h.ld k hlt
                      rw [List.length_map, HCP.out] at h1; exact h1)))
                    clear hbad
                    go_wp2_with fail
                    go_ret
                    exact ⟨ret_bool HBB.out.symm, bw⟩
                  | false =>
                    have HNX : Hid (∀ t : Nat, t < k + 1 → ∃ q, loadE (fs.map Fm.fl) (vs.map Fx.q) (t : Int) fs.length = some q ∧ q ≤ (cpF caps (t : Int) : Rat)) := Lib.hid (fun t htk => by
                      rcases Nat.lt_or_ge t k with h1 | h1
                      · exact HGOOD.out t h1
                      · obtain rfl : t = k := by omega
                        rw [HCP.out]
                        exact Classical.byContradiction fun h => by have := hbad.2 h; cases this)
                    clear hbad
                    go_wp2_with fail
                    go_roundw
                    case rel => exact ⟨k + 1, by omega, by go_num, HNX.out, bw⟩
                    case measure => simp [intOf]; omega
                --D}
              · have HLD : Hid (∀ t : Nat, t < caps.length → ∃ q, loadE (fs.map Fm.fl) (vs.map Fx.q) (t : Int) fs.length = some q ∧ q ≤ (cpF caps (t : Int) : Rat)) := Lib.hid (fun t ht => HGOOD.out t (by omega))
                clear HGOOD
                go_wp2_with fail
                go_loopw [89] (fun jv wr => ∃ k : Nat, k ≤ fs.length ∧ jv = .int .i64 k ∧ (∀ t, t < k → if ats.getD t 0 = -1 then (vs.map Fx.q).getD t 0 = (lmA (fs.map Fm.fl) t : Rat) else ats.getD t 0 ∈ lkA (fs.map Fm.fl) t ∧ limP (cpF caps) (fs.map Fm.fl) (vs.map Fx.q) (ats.getD t 0) t) ∧ Below w.heap.size w wr) (fun jv _ => fs.length - (intOf jv).toNat)
                case atStart => exact ⟨0, by omega, rfl, fun t h => by omega, bw⟩
                case round =>
                  clear bw
                  obtain ⟨k, hk, rfl, hgood, bw⟩ := hrel
                  have HGOOD := Lib.hid hgood
                  clear hgood
                  by_cases hlt : k < fs.length
                  · obtain ⟨ad, rfl, _, hcc⟩ := (HD.out.below bw).rd (by omega)
                    obtain ⟨hc0, hc1⟩ := hcc k hlt
                    have hok := HD.out.ok _ (List.getElem_mem hlt)
                    have hgl := fl_get hlt
                    obtain ⟨x, hx⟩ : ∃ x, fs[k] = x := ⟨_, rfl⟩
                    rw [hx] at hc0 hc1 hok hgl
                    have HGL := Lib.hid hgl
                    have HXO := Lib.hid hok
                    have HXM : Hid (0 ≤ x.m ∧ x.m ≤ 4096) := Lib.hid (by
                      have := HV.out.lm k (by simpa using hlt)
                      rw [hgl.2] at this; exact this)
                    have HLK : Hid (∀ e ∈ x.ls, 0 ≤ e ∧ e < (caps.length : Int)) := Lib.hid (fun e he => HV.out.okR.lk k (by simpa using hlt) e (by rw [hgl.1]; exact he))
                    clear hcc hx hgl hok
                    go_upto_region 19 with fail
                    have fb := (fb_alloc wr x 48).1
                    have bb := (fb_alloc wr x 48).2
                    clear hc0 hc1
                    generalize (wr.alloc (.cells #[.slice x.A x.ls.length x.c, .int .i64 x.m] 48)) = wm at fb bb ⊢
                    have HBM := Lib.hid (below_on bw bb bw.size)
                    generalize wr.heap.size = gF at fb ⊢
                    have HFB := Lib.hid fb
                    clear fb bb bw
                    have hka : k < ats.length := by rw [HAL.out]; exact hlt
                    obtain ⟨ae, rfl, _, hce⟩ := (HE.out.below HBM.out).at k hka
                    have hga : ats.getD k 0 = ats[k] := getD_lt _ _ _ hka
                    obtain ⟨t0, ht0⟩ : ∃ t0, ats[k] = t0 := ⟨_, rfl⟩
                    rw [ht0] at hce hga
                    have HGA := Lib.hid hga
                    have HCE0 : Hid (∀ w', Below wm.heap.size wm w' → w'.cell? (ae.add k) = some (.int .i64 t0)) := Lib.hid (fun w' hb => (hb.cell (p := ae.add k) (World.block_lt_of_cell? wm _ hce)).trans hce)
                    clear ht0 hga
                    have hkv : k < vs.length := by rw [HVL.out]; exact hlt
                    have hmk := map_q_getD vs hkv
                    have hcec := HE.out.cap
                    have hcem := HE.out.max
                    by_cases hm1 : t0 = -1
                    · subst hm1
                      have hn2 := okf_nm (HOK.out.below HBM.out) HVV.out hkv
                      obtain ⟨ad2, rfl, e2⟩ := (HA.out.below HBM.out).at k hkv
                      obtain ⟨x2, hx2⟩ : ∃ x2, vs[k] = x2 := ⟨_, rfl⟩
                      rw [hx2] at hmk hn2 e2
                      have N2 := Lib.hid hn2
                      have E2 := Lib.hid e2
                      have HMK := Lib.hid hmk
                      clear hn2 e2 hmk hx2
                      go_upto_region 20 with fail
                      clear hce
                      go_cut [107] (fun s107 w2 => (∃ bad, s107 = .bool bad ∧ (bad = true ↔ ¬ x2.q = (x.m : Rat))) ∧ Below wm.heap.size wm w2)
                      case first =>
                        obtain ⟨z, hz⟩ : ∃ z, cmpQ x2.q (x.m : Rat) = z := ⟨_, rfl⟩
                        have HZ := Lib.hid hz
                        have HP : Hid (∃ bad, Value.bool (z != 0) = .bool bad ∧ (bad = true ↔ ¬ x2.q = (x.m : Rat))) := Lib.hid ⟨_, rfl, by
                          rw [bne, cmp_zero hz]; simp⟩
                        clear hz
                        refine wp_region_held_drew (S := fun w' => w'.cell? ⟨gF, 1, none⟩ = some (.int .i64 x.m) ∧ w'.cell? (ad2.add (k * 3)) = some (.bool x2.b) ∧ w'.cell? ⟨(ad2.add (k * 3)).block, (ad2.add (k * 3)).off + 1, none⟩ = some (.slice x2.A x2.xs.length x2.c) ∧ w'.cell? ⟨(ad2.add (k * 3)).block, (ad2.add (k * 3)).off + 2, none⟩ = some (.slice x2.D x2.ys.length x2.d)) (by kernel_rfl) ⟨(HFB.out.below ((Below.refl wm.heap.size wm).drew)).c1, (E2.out.below ((Below.refl wm.heap.size wm).drew)).c0, (E2.out.below ((Below.refl wm.heap.size wm).drew)).c1, (E2.out.below ((Below.refl wm.heap.size wm).drew)).c2⟩ (fun hHeld => ?_)
                        have bz := (Below.refl wm.heap.size wm).drew
                        generalize wm.drew = wd at *
                        refine tkw 0 (.slice (some ad2) vs.length c) rfl (by kernel_rfl) (by kernel_rfl) (by kernel_rfl) (fun _ _ _ h => h) ⟨by rfl, ?_⟩ (by assumption) ?_
                        ·intro w hSw; go_simp; (try with_reducible rfl)
                        try simp only [Act.put, tzA, tzB, tzD, tzE, tzF]
                        refine tkw 1 (.int .i64 (k : Int)) rfl (by kernel_rfl) (by kernel_rfl) (by kernel_rfl) (fun _ _ _ h => h) ⟨by rfl, ?_⟩ (by assumption) ?_
                        ·intro w hSw; go_simp; (try with_reducible rfl)
                        try simp only [Act.put, tzA, tzB, tzC, tzD, tzE, tzF]
                        refine tkw 2 (.pointer (some (ad2.add (k * 3)))) rfl (by kernel_rfl) (by kernel_rfl) (by kernel_rfl) (fun _ _ _ h => h) ⟨by rfl, ?_⟩ (by assumption) ?_
                        ·intro w hSw; go_simp; (try with_reducible rfl)
                        try simp only [Act.put, tzA, tzB, tzC, tzD, tzE, tzF]
                        refine tkw 3 (x2.val) rfl (by kernel_rfl) (by kernel_rfl) (by kernel_rfl) (fun _ _ _ h => h) ⟨by rfl, ?_⟩ (by assumption) ?_
                        ·intro w hSw; (try dsimp only at hSw); obtain ⟨_, s0, s1, s2⟩ := hSw; go_simp; (try with_reducible rfl)
                        try simp only [Act.put, tzA, tzB, tzC, tzD, tzE, tzF]
                        refine tkw 4 (.pointer (some ⟨gF, 1, none⟩)) rfl (by kernel_rfl) (by kernel_rfl) (by kernel_rfl) (fun _ _ _ h => h) ⟨by rfl, ?_⟩ (by assumption) ?_
                        ·intro w hSw; go_simp; (try with_reducible rfl)
                        try simp only [Act.put, tzA, tzB, tzC, tzD, tzE, tzF]
                        refine tkw 5 (.int .i64 x.m) rfl (by kernel_rfl) (by kernel_rfl) (by kernel_rfl) (fun _ _ _ h => h) ⟨by rfl, ?_⟩ (by assumption) ?_
                        ·intro w hSw; (try dsimp only at hSw); obtain ⟨s0, _⟩ := hSw; go_simp; (try with_reducible rfl)
                        try simp only [Act.put, tzA, tzB, tzC, tzD, tzE, tzF]
                        refine wpAnyH_ready (rs := [6]) (by kernel_rfl) (by simp) ?_
                        refine AllReadyH.cons rfl (fun K hK => ?_) ?_
                        ·go_simp
                         go_at_call 38
                         refine (whole_any wd x.m (by have := HXM.out; omega) (by have := HXM.out; omega)).mono ?_
                         rintro e wd ⟨y, rfl, _, n4, bb⟩
                         try replace n4 := n4.below bb
                         replace bz := below_on bz bb bz.size
                         clear bb
                         refine hK.out _ _ ⟨(HFB.out.below bz).c1, (E2.out.below bz).c0, (E2.out.below bz).c1, (E2.out.below bz).c2⟩ (fun hHeld => ?_)
                         clear hK K
                         try simp only [Act.put]
                         try simp only [tzD, tzE, tzF]
                         refine wpAnyH_ready (rs := [7]) (by kernel_rfl) (by simp) ?_
                         refine AllReadyH.cons rfl (fun K hK => ?_) ?_
                         ·go_simp
                          go_at_call 41
                          refine (compare_any wd x2 y x2.q (x.m : Rat) z (N2.out.below bz) n4 HZ.out).mono ?_
                          rintro e wd ⟨rfl, bb⟩
                          clear n4
                          try replace n4 := n4.below bb
                          replace bz := below_on bz bb bz.size
                          clear bb
                          refine hK.out _ _ ⟨(HFB.out.below bz).c1, (E2.out.below bz).c0, (E2.out.below bz).c1, (E2.out.below bz).c2⟩ (fun hHeld => ?_)
                          clear hK K
                          try simp only [Act.put]
                          try simp only [tzD, tzE, tzF]
                          refine tkw 8 (.bool (z != 0)) rfl (by kernel_rfl) (by kernel_rfl) (by kernel_rfl) (fun _ _ _ h => h) ⟨by rfl, ?_⟩ (by assumption) ?_
                          ·intro w hSw; go_simp; (try with_reducible rfl)
                          try simp only [Act.put, tzA, tzB, tzC, tzD, tzE, tzF]
                          refine wpAnyH_done (by kernel_rfl) ?_ _
                          go_wp2_with fail
                          go_meet
                          case rel => exact ⟨HP.out, bz⟩
                         exact AllReadyH.nil
                        exact AllReadyH.nil
                      case rest =>
                        obtain ⟨⟨bad, rfl, hbad⟩, bb⟩ := hcut
                        have bw := below_on HBM.out bb HBM.out.size
                        cases bad with
                        | true =>
                          have HBB : Hid (b = false) := Lib.hid (HBF.out (fun h => hbad.1 rfl (by
                            have h1 := h.at_ k (by simpa using hlt)
                            rw [if_pos HGA.out, HMK.out, HGL.out.2] at h1; exact h1)))
                          clear hbad
                          go_wp2_with fail
                          go_ret
                          exact ⟨ret_bool HBB.out.symm, bw⟩
                        | false =>
                          have HNX : Hid (∀ t, t < k + 1 → if ats.getD t 0 = -1 then (vs.map Fx.q).getD t 0 = (lmA (fs.map Fm.fl) t : Rat) else ats.getD t 0 ∈ lkA (fs.map Fm.fl) t ∧ limP (cpF caps) (fs.map Fm.fl) (vs.map Fx.q) (ats.getD t 0) t) := Lib.hid (fun t htk => by
                            rcases Nat.lt_or_ge t k with h1 | h1
                            · exact HGOOD.out t h1
                            · obtain rfl : t = k := by omega
                              rw [if_pos HGA.out, HMK.out, HGL.out.2]
                              exact Classical.byContradiction fun h => by have := hbad.2 h; cases this)
                          clear hbad
                          go_wp2_with fail
                          go_roundw
                          case rel => exact ⟨k + 1, by omega, by go_num, HNX.out, bw⟩
                          case measure => simp [intOf]; omega
                    · have hm2 : (t0 == -1) = false := beq_eq_false_iff_ne.2 hm1
                      have HM1 : Hid (¬ ats.getD k 0 = -1) := Lib.hid (by rw [HGA.out]; exact hm1)
                      clear hm1 hmk
                      go_upto_region 22 with fail
                      clear hce hm2
                      go_cut [127] (fun s127 w2 => (∃ bad, s127 = .bool bad ∧ (bad = true ↔ ¬ (t0 ∈ x.ls ∧ limP (cpF caps) (fs.map Fm.fl) (vs.map Fx.q) t0 k))) ∧ Below wm.heap.size wm w2)
                      case first =>
                        by_cases hu : t0 ∈ x.ls
                        · have hlk := HLK.out _ hu
                          obtain ⟨e0, rfl⟩ : ∃ e0 : Nat, t0 = (e0 : Int) := ⟨t0.toNat, by omega⟩
                          have HU := Lib.hid (decide_eq_true hu)
                          have HEC : Hid (e0 < caps.length) := Lib.hid (by omega)
                          have HCE := HCE0
                          obtain ⟨lb, hlb⟩ : ∃ lb, decide (limP (cpF caps) (fs.map Fm.fl) (vs.map Fx.q) (e0 : Int) k) = lb := ⟨_, rfl⟩
                          have HLB := Lib.hid hlb
                          have HP : Hid (∃ bad, Value.bool (!lb) = .bool bad ∧ (bad = true ↔ ¬ ((e0 : Int) ∈ x.ls ∧ limP (cpF caps) (fs.map Fm.fl) (vs.map Fx.q) (e0 : Int) k))) := Lib.hid ⟨_, rfl, by
                            rw [← hlb]
                            by_cases h : limP (cpF caps) (fs.map Fm.fl) (vs.map Fx.q) (e0 : Int) k
                            · rw [decide_eq_true h]; exact ⟨fun e => (by cases e), fun e => absurd ⟨hu, h⟩ e⟩
                            · rw [decide_eq_false h]; exact ⟨fun _ e => h e.2, fun _ => rfl⟩⟩
                          clear hlb hu hlk
                          refine wp_region_held_drew (S := fun w' => w'.cell? ⟨gF, 0, none⟩ = some (.slice x.A x.ls.length x.c) ∧ w'.cell? (ae.add k) = some (.int .i64 (e0 : Int))) (by kernel_rfl) ⟨(HFB.out.below ((Below.refl wm.heap.size wm).drew)).c0, HCE.out _ ((Below.refl wm.heap.size wm).drew)⟩ (fun hHeld => ?_)
                          have bz := (Below.refl wm.heap.size wm).drew
                          generalize wm.drew = wd at *
                          refine tkw 0 (.pointer (some ⟨gF, 0, none⟩)) rfl (by kernel_rfl) (by kernel_rfl) (by kernel_rfl) (fun _ _ _ h => h) ⟨by rfl, ?_⟩ (by assumption) ?_
                          ·intro w hSw; go_simp; (try with_reducible rfl)
                          try simp only [Act.put, tzA, tzB, tzD, tzE, tzF]
                          refine tkw 1 (.slice x.A x.ls.length x.c) rfl (by kernel_rfl) (by kernel_rfl) (by kernel_rfl) (fun _ _ _ h => h) ⟨by rfl, ?_⟩ (by assumption) ?_
                          ·intro w hSw; (try dsimp only at hSw); obtain ⟨s0, _⟩ := hSw; go_simp; (try with_reducible rfl)
                          try simp only [Act.put, tzA, tzB, tzC, tzD, tzE, tzF]
                          refine tkw 2 (.slice (some ae) ats.length ce) rfl (by kernel_rfl) (by kernel_rfl) (by kernel_rfl) (fun _ _ _ h => h) ⟨by rfl, ?_⟩ (by assumption) ?_
                          ·intro w hSw; go_simp; (try with_reducible rfl)
                          try simp only [Act.put, tzA, tzB, tzC, tzD, tzE, tzF]
                          refine tkw 3 (.int .i64 (k : Int)) rfl (by kernel_rfl) (by kernel_rfl) (by kernel_rfl) (fun _ _ _ h => h) ⟨by rfl, ?_⟩ (by assumption) ?_
                          ·intro w hSw; go_simp; (try with_reducible rfl)
                          try simp only [Act.put, tzA, tzB, tzC, tzD, tzE, tzF]
                          refine tkw 4 (.pointer (some (ae.add k))) rfl (by kernel_rfl) (by kernel_rfl) (by kernel_rfl) (fun _ _ _ h => h) ⟨by rfl, ?_⟩ (by assumption) ?_
                          ·intro w hSw; go_simp; (try with_reducible rfl)
                          try simp only [Act.put, tzA, tzB, tzC, tzD, tzE, tzF]
                          refine tkw 5 (.int .i64 (e0 : Int)) rfl (by kernel_rfl) (by kernel_rfl) (by kernel_rfl) (fun _ _ _ h => h) ⟨by rfl, ?_⟩ (by assumption) ?_
                          ·intro w hSw; (try dsimp only at hSw); obtain ⟨_, s0⟩ := hSw; go_simp; (try with_reducible rfl)
                          try simp only [Act.put, tzA, tzB, tzC, tzD, tzE, tzF]
                          refine wpAnyH_ready (rs := [6]) (by kernel_rfl) (by simp) ?_
                          refine AllReadyH.cons rfl (fun K hK => ?_) ?_
                          ·go_simp
                           go_at_call 46
                           refine (contains_i wd x.A _ x.c x.ls (e0 : Int) true (HXO.out.is.below (below_on HBM.out bz HBM.out.size)) rfl HU.out).mono ?_
                           rintro e wn ⟨rfl, rfl⟩
                           have bb := Below.refl wd.heap.size wd
                           replace bz := below_on bz bb bz.size
                           clear bb
                           refine hK.out _ _ ⟨(HFB.out.below bz).c0, HCE.out _ bz⟩ (fun hHeld => ?_)
                           clear hK K
                           try simp only [Act.put]
                           try simp only [tzD, tzE, tzF]
                           refine tkw 7 (.bool false) rfl (by kernel_rfl) (by kernel_rfl) (by kernel_rfl) (fun _ _ _ h => h) ⟨by rfl, ?_⟩ (by assumption) ?_
                           ·intro w hSw; go_simp; (try with_reducible rfl)
                           try simp only [Act.put, tzA, tzB, tzC, tzD, tzE, tzF]
                           refine tkw 8 (.bool false) rfl (by kernel_rfl) (by kernel_rfl) (by kernel_rfl) (fun _ _ _ h => h) ⟨by rfl, ?_⟩ (by assumption) ?_
                           ·intro w hSw; go_simp; (try with_reducible rfl)
                           try simp only [Act.put, tzA, tzB, tzC, tzD, tzE, tzF]
                           refine tkw 9 (.slice C caps.length cC) rfl (by kernel_rfl) (by kernel_rfl) (by kernel_rfl) (fun _ _ _ h => h) ⟨by kernel_rfl, ?_⟩ (by assumption) ?_
                           ·intro w hSw; go_simp; (try with_reducible rfl)
                           try simp only [Act.put, tzA, tzB, tzC, tzD, tzE, tzF]
                           refine tkw 10 (.slice (some ad) fs.length d) rfl (by kernel_rfl) (by kernel_rfl) (by kernel_rfl) (fun _ _ _ h => h) ⟨by kernel_rfl, ?_⟩ (by assumption) ?_
                           ·intro w hSw; go_simp; (try with_reducible rfl)
                           try simp only [Act.put, tzA, tzB, tzC, tzD, tzE, tzF]
                           refine tkw 11 (.slice A vs.length c) rfl (by kernel_rfl) (by kernel_rfl) (by kernel_rfl) (fun _ _ _ h => h) ⟨by kernel_rfl, ?_⟩ (by assumption) ?_
                           ·intro w hSw; go_simp; (try with_reducible rfl)
                           try simp only [Act.put, tzA, tzB, tzC, tzD, tzE, tzF]
                           refine tkw 12 (.slice (some ae) ats.length ce) rfl (by kernel_rfl) (by kernel_rfl) (by kernel_rfl) (fun _ _ _ h => h) ⟨by kernel_rfl, ?_⟩ (by assumption) ?_
                           ·intro w hSw; go_simp; (try with_reducible rfl)
                           try simp only [Act.put, tzA, tzB, tzC, tzD, tzE, tzF]
                           refine tkw 13 (.int .i64 (k : Int)) rfl (by kernel_rfl) (by kernel_rfl) (by kernel_rfl) (fun _ _ _ h => h) ⟨by kernel_rfl, ?_⟩ (by assumption) ?_
                           ·intro w hSw; go_simp; (try with_reducible rfl)
                           try simp only [Act.put, tzA, tzB, tzC, tzD, tzE, tzF]
                           refine tkw 14 (.pointer (some (ae.add k))) rfl (by kernel_rfl) (by kernel_rfl) (by kernel_rfl) (fun _ _ _ h => h) ⟨by kernel_rfl, ?_⟩ (by assumption) ?_
                           ·intro w hSw; go_simp; (try with_reducible rfl)
                           try simp only [Act.put, tzA, tzB, tzC, tzD, tzE, tzF]
                           refine tkw 15 (.int .i64 (e0 : Int)) rfl (by kernel_rfl) (by kernel_rfl) (by kernel_rfl) (fun _ _ _ h => h) ⟨by kernel_rfl, ?_⟩ (by assumption) ?_
                           ·intro w hSw; (try dsimp only at hSw); obtain ⟨_, s0⟩ := hSw; go_simp; (try with_reducible rfl)
                           try simp only [Act.put, tzA, tzB, tzC, tzD, tzE, tzF]
                           refine tkw 16 (.int .i64 (k : Int)) rfl (by kernel_rfl) (by kernel_rfl) (by kernel_rfl) (fun _ _ _ h => h) ⟨by kernel_rfl, ?_⟩ (by assumption) ?_
                           ·intro w hSw; go_simp; (try with_reducible rfl)
                           try simp only [Act.put, tzA, tzB, tzC, tzD, tzE, tzF]
                           refine wpAnyH_ready (rs := [17]) (by kernel_rfl) (by simp) ?_
                           refine AllReadyH.cons rfl (fun K hK => ?_) ?_
                           ·go_simp
                            go_at_call 43
                            refine (limits_any wd C _ cC caps (some ad) _ d fs A _ c vs e0 k lb (HC.out.below (below_on HBM.out bz HBM.out.size)) (HD.out.below (below_on HBM.out bz HBM.out.size)) (HA.out.below (below_on HBM.out bz HBM.out.size)) (HOK.out.below (below_on HBM.out bz HBM.out.size)) HVV.out rfl rfl rfl HVL.out (by omega) HEC.out hlt HLB.out).mono ?_
                            rintro e wd ⟨rfl, bb⟩
                            replace bz := below_on bz bb bz.size
                            clear bb
                            refine hK.out _ _ ⟨(HFB.out.below bz).c0, HCE.out _ bz⟩ (fun hHeld => ?_)
                            clear hK K
                            try simp only [Act.put]
                            try simp only [tzD, tzE, tzF]
                            refine tkw 18 (.bool (!lb)) rfl (by kernel_rfl) (by kernel_rfl) (by kernel_rfl) (fun _ _ _ h => h) ⟨by kernel_rfl, ?_⟩ (by assumption) ?_
                            ·intro w hSw; go_simp; (try with_reducible rfl)
                            try simp only [Act.put, tzA, tzB, tzC, tzD, tzE, tzF]
                            refine tkw 19 (.bool (!lb)) rfl (by kernel_rfl) (by kernel_rfl) (by kernel_rfl) (fun _ _ _ h => h) ⟨by rfl, ?_⟩ (by assumption) ?_
                            ·intro w hSw; go_simp; (try with_reducible rfl)
                            try simp only [Act.put, tzA, tzB, tzC, tzD, tzE, tzF]
                            refine wpAnyH_done (by kernel_rfl) ?_ _
                            go_wp2_with fail
                            go_meet
                            case rel => exact ⟨HP.out, bz⟩
                           exact AllReadyH.nil
                          exact AllReadyH.nil
                        · have HU := Lib.hid (decide_eq_false hu)
                          have HCE := HCE0
                          have HP : Hid (∃ bad, Value.bool true = .bool bad ∧ (bad = true ↔ ¬ (t0 ∈ x.ls ∧ limP (cpF caps) (fs.map Fm.fl) (vs.map Fx.q) t0 k))) := Lib.hid ⟨true, rfl, fun _ e => hu e.1, fun _ => rfl⟩
                          clear hu
                          refine wp_region_held_drew (S := fun w' => w'.cell? ⟨gF, 0, none⟩ = some (.slice x.A x.ls.length x.c) ∧ w'.cell? (ae.add k) = some (.int .i64 t0)) (by kernel_rfl) ⟨(HFB.out.below ((Below.refl wm.heap.size wm).drew)).c0, HCE.out _ ((Below.refl wm.heap.size wm).drew)⟩ (fun hHeld => ?_)
                          have bz := (Below.refl wm.heap.size wm).drew
                          generalize wm.drew = wd at *
                          refine tkw 0 (.pointer (some ⟨gF, 0, none⟩)) rfl (by kernel_rfl) (by kernel_rfl) (by kernel_rfl) (fun _ _ _ h => h) ⟨by rfl, ?_⟩ (by assumption) ?_
                          ·intro w hSw; go_simp; (try with_reducible rfl)
                          try simp only [Act.put, tzA, tzB, tzD, tzE, tzF]
                          refine tkw 1 (.slice x.A x.ls.length x.c) rfl (by kernel_rfl) (by kernel_rfl) (by kernel_rfl) (fun _ _ _ h => h) ⟨by rfl, ?_⟩ (by assumption) ?_
                          ·intro w hSw; (try dsimp only at hSw); obtain ⟨s0, _⟩ := hSw; go_simp; (try with_reducible rfl)
                          try simp only [Act.put, tzA, tzB, tzC, tzD, tzE, tzF]
                          refine tkw 2 (.slice (some ae) ats.length ce) rfl (by kernel_rfl) (by kernel_rfl) (by kernel_rfl) (fun _ _ _ h => h) ⟨by rfl, ?_⟩ (by assumption) ?_
                          ·intro w hSw; go_simp; (try with_reducible rfl)
                          try simp only [Act.put, tzA, tzB, tzC, tzD, tzE, tzF]
                          refine tkw 3 (.int .i64 (k : Int)) rfl (by kernel_rfl) (by kernel_rfl) (by kernel_rfl) (fun _ _ _ h => h) ⟨by rfl, ?_⟩ (by assumption) ?_
                          ·intro w hSw; go_simp; (try with_reducible rfl)
                          try simp only [Act.put, tzA, tzB, tzC, tzD, tzE, tzF]
                          refine tkw 4 (.pointer (some (ae.add k))) rfl (by kernel_rfl) (by kernel_rfl) (by kernel_rfl) (fun _ _ _ h => h) ⟨by rfl, ?_⟩ (by assumption) ?_
                          ·intro w hSw; go_simp; (try with_reducible rfl)
                          try simp only [Act.put, tzA, tzB, tzC, tzD, tzE, tzF]
                          refine tkw 5 (.int .i64 t0) rfl (by kernel_rfl) (by kernel_rfl) (by kernel_rfl) (fun _ _ _ h => h) ⟨by rfl, ?_⟩ (by assumption) ?_
                          ·intro w hSw; (try dsimp only at hSw); obtain ⟨_, s0⟩ := hSw; go_simp; (try with_reducible rfl)
                          try simp only [Act.put, tzA, tzB, tzC, tzD, tzE, tzF]
                          refine wpAnyH_ready (rs := [6]) (by kernel_rfl) (by simp) ?_
                          refine AllReadyH.cons rfl (fun K hK => ?_) ?_
                          ·go_simp
                           go_at_call 46
                           refine (contains_i wd x.A _ x.c x.ls t0 false (HXO.out.is.below (below_on HBM.out bz HBM.out.size)) rfl HU.out).mono ?_
                           rintro e wn ⟨rfl, rfl⟩
                           have bb := Below.refl wd.heap.size wd
                           replace bz := below_on bz bb bz.size
                           clear bb
                           refine hK.out _ _ ⟨(HFB.out.below bz).c0, HCE.out _ bz⟩ (fun hHeld => ?_)
                           clear hK K
                           try simp only [Act.put]
                           try simp only [tzD, tzE, tzF]
                           refine tkw 7 (.bool true) rfl (by kernel_rfl) (by kernel_rfl) (by kernel_rfl) (fun _ _ _ h => h) ⟨by rfl, ?_⟩ (by assumption) ?_
                           ·intro w hSw; go_simp; (try with_reducible rfl)
                           try simp only [Act.put, tzA, tzB, tzC, tzD, tzE, tzF]
                           refine tkw 8 (.bool true) rfl (by kernel_rfl) (by kernel_rfl) (by kernel_rfl) (fun _ _ _ h => h) ⟨by rfl, ?_⟩ (by assumption) ?_
                           ·intro w hSw; go_simp; (try with_reducible rfl)
                           try simp only [Act.put, tzA, tzB, tzC, tzD, tzE, tzF]
                           refine tku 9 rfl (by kernel_rfl) (by kernel_rfl) (by kernel_rfl) (fun _ _ _ h => h) (by kernel_rfl) (by assumption) ?_
                           try simp only [Act.put, tzA, tzB, tzC, tzD, tzE, tzF]
                           refine tku 10 rfl (by kernel_rfl) (by kernel_rfl) (by kernel_rfl) (fun _ _ _ h => h) (by kernel_rfl) (by assumption) ?_
                           try simp only [Act.put, tzA, tzB, tzC, tzD, tzE, tzF]
                           refine tku 11 rfl (by kernel_rfl) (by kernel_rfl) (by kernel_rfl) (fun _ _ _ h => h) (by kernel_rfl) (by assumption) ?_
                           try simp only [Act.put, tzA, tzB, tzC, tzD, tzE, tzF]
                           refine tku 12 rfl (by kernel_rfl) (by kernel_rfl) (by kernel_rfl) (fun _ _ _ h => h) (by kernel_rfl) (by assumption) ?_
                           try simp only [Act.put, tzA, tzB, tzC, tzD, tzE, tzF]
                           refine tku 13 rfl (by kernel_rfl) (by kernel_rfl) (by kernel_rfl) (fun _ _ _ h => h) (by kernel_rfl) (by assumption) ?_
                           try simp only [Act.put, tzA, tzB, tzC, tzD, tzE, tzF]
                           refine tku 14 rfl (by kernel_rfl) (by kernel_rfl) (by kernel_rfl) (fun _ _ _ h => h) (by kernel_rfl) (by assumption) ?_
                           try simp only [Act.put, tzA, tzB, tzC, tzD, tzE, tzF]
                           refine tku 15 rfl (by kernel_rfl) (by kernel_rfl) (by kernel_rfl) (fun _ _ _ h => h) (by kernel_rfl) (by assumption) ?_
                           try simp only [Act.put, tzA, tzB, tzC, tzD, tzE, tzF]
                           refine tku 16 rfl (by kernel_rfl) (by kernel_rfl) (by kernel_rfl) (fun _ _ _ h => h) (by kernel_rfl) (by assumption) ?_
                           try simp only [Act.put, tzA, tzB, tzC, tzD, tzE, tzF]
                           refine tku 17 rfl (by kernel_rfl) (by kernel_rfl) (by kernel_rfl) (fun _ _ _ h => h) (by kernel_rfl) (by assumption) ?_
                           try simp only [Act.put, tzA, tzB, tzC, tzD, tzE, tzF]
                           refine tku 18 rfl (by kernel_rfl) (by kernel_rfl) (by kernel_rfl) (fun _ _ _ h => h) (by kernel_rfl) (by assumption) ?_
                           try simp only [Act.put, tzA, tzB, tzC, tzD, tzE, tzF]
                           refine tkw 19 (.bool true) rfl (by kernel_rfl) (by kernel_rfl) (by kernel_rfl) (fun _ _ _ h => h) ⟨by rfl, ?_⟩ (by assumption) ?_
                           ·intro w hSw; go_simp; (try with_reducible rfl)
                           try simp only [Act.put, tzA, tzB, tzC, tzD, tzE, tzF]
                           refine wpAnyH_done (by kernel_rfl) ?_ _
                           go_wp2_with fail
                           go_meet
                           case rel => exact ⟨HP.out, bz⟩
                          exact AllReadyH.nil
                      case rest =>
                        obtain ⟨⟨bad, rfl, hbad⟩, bb⟩ := hcut
                        have bw := below_on HBM.out bb HBM.out.size
                        cases bad with
                        | true =>
                          have HBB : Hid (b = false) := Lib.hid (HBF.out (fun h => hbad.1 rfl (by
                            have h1 := h.at_ k (by simpa using hlt)
                            rw [if_neg HM1.out, HGA.out, HGL.out.1] at h1; exact h1)))
                          clear hbad
                          go_wp2_with fail
                          go_ret
                          exact ⟨ret_bool HBB.out.symm, bw⟩
                        | false =>
                          have HNX : Hid (∀ t, t < k + 1 → if ats.getD t 0 = -1 then (vs.map Fx.q).getD t 0 = (lmA (fs.map Fm.fl) t : Rat) else ats.getD t 0 ∈ lkA (fs.map Fm.fl) t ∧ limP (cpF caps) (fs.map Fm.fl) (vs.map Fx.q) (ats.getD t 0) t) := Lib.hid (fun t htk => by
                            rcases Nat.lt_or_ge t k with h1 | h1
                            · exact HGOOD.out t h1
                            · obtain rfl : t = k := by omega
                              rw [if_neg HM1.out, HGA.out, HGL.out.1]
                              exact Classical.byContradiction fun h => by have := hbad.2 h; cases this)
                          clear hbad
                          go_wp2_with fail
                          go_roundw
                          case rel => exact ⟨k + 1, by omega, by go_num, HNX.out, bw⟩
                          case measure => simp [intOf]; omega
                  · have HBB : Hid (b = true) := Lib.hid (HB.out.1 ⟨HV.out, by rw [List.length_map]; exact HVL.out, by rw [List.length_map]; exact HAL.out, HVV.out, fun i hi => by
                      rw [List.length_map] at hi
                      have hiv : i < vs.length := by rw [HVL.out]; exact hi
                      rw [map_q_getD vs hiv]
                      exact (HGD.out i hiv).2, fun t ht => by rw [List.length_map]; exact HLD.out t ht, fun i hi => HGOOD.out i (by rw [List.length_map] at hi; omega)⟩)
                    go_wp2_with fail
                    go_ret
                    exact ⟨ret_bool HBB.out.symm, bw⟩
      · have HVD := Lib.hid (decide_eq_true hv)
        have t1 : ((vs.length : Int) != (fs.length : Int)) = false := by simp [hl1]
        have t2 : ((ats.length : Int) != (fs.length : Int)) = true := by rw [bne, beq_eq_false_iff_ne.2 (by omega)]; rfl
        have HBB : Hid (b = false) := Lib.hid (HBF.out (fun h => hl2 (by have := h.la; rwa [List.length_map] at this)))
        clear hv hl1 hl2
        go_enter Try.func21, Try.ntmps21
        go_wp2_with fail
        refine (flvalid_any w C _ cC caps D _ d fs true HC.out HD.out rfl rfl HVD.out).mono ?_
        rintro e w1 ⟨rfl, bw⟩
        go_wp2_with fail
        go_ret
        exact ⟨ret_bool HBB.out.symm, bw⟩
    · have HVD := Lib.hid (decide_eq_true hv)
      have t1 : ((vs.length : Int) != (fs.length : Int)) = true := by rw [bne, beq_eq_false_iff_ne.2 (by omega)]; rfl
      have HBB : Hid (b = false) := Lib.hid (HBF.out (fun h => hl1 (by have := h.lv; rwa [List.length_map] at this)))
      clear hv hl1
      go_enter Try.func21, Try.ntmps21
      go_wp2_with fail
      refine (flvalid_any w C _ cC caps D _ d fs true HC.out HD.out rfl rfl HVD.out).mono ?_
      rintro e w1 ⟨rfl, bw⟩
      go_wp2_with fail
      go_ret
      exact ⟨ret_bool HBB.out.symm, bw⟩
  · have HVD := Lib.hid (decide_eq_false hv)
    have HBB : Hid (b = false) := Lib.hid (HBF.out (fun h => hv h.vl))
    clear hv
    go_enter Try.func21, Try.ntmps21
    go_wp2_with fail
    refine (flvalid_any w C _ cC caps D _ d fs false HC.out HD.out rfl rfl HVD.out).mono ?_
    rintro e w1 ⟨rfl, bw⟩
    go_wp2_with fail
    go_ret
    exact ⟨ret_bool HBB.out.symm, bw⟩
end Go.Proofs.Ythdfflbhogfejaa
