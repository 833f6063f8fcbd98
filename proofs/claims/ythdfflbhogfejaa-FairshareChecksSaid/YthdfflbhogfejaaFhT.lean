/- The walk of the reference's Check. -/
import Derived.Test.YthdfflbhogfejaaFhM
import Derived.Test.YthdfflbhogfejaaFhG
import Derived.Test.YthdfflbhogfejaaFsR
namespace Go.Proofs.Ythdfflbhogfejaa
set_option maxRecDepth 100000
open Go.RowKit

/-- what Check asks of a flow and its bottleneck -/
def atP (cp : Int → Int) (l : List Fl) (R : List Rat) (ats : List Int) (t : Nat) : Prop := if ats.getD t 0 = -1 then R.getD t 0 = (lmA l t : Rat) else ats.getD t 0 ∈ lkA l t ∧ limP cp l R (ats.getD t 0) t
theorem limP_of {cp : Int → Int} {l : List Fl} {R : List Rat} {i : Nat} {k : Int} (hld : ∃ q, loadE l R k l.length = some q ∧ q ≤ (cp k : Rat)) (hk : k ∈ lkA l i) :
 (k ∈ lkA l i ∧ (∃ q, loadE l R k l.length = some q ∧ (cp k : Rat) ≤ q) ∧ ∀ j, j < l.length → k ∈ lkA l j → R.getD j 0 ≤ R.getD i 0) ↔ (k ∈ lkA l i ∧ limP cp l R k i) := by
 obtain ⟨q, h1, h2⟩ := hld
 rw [limP]
 constructor
 ·rintro ⟨_, ⟨p, h3, h4⟩, h5⟩
  refine ⟨hk, ?_, h5⟩
  rw [h1] at h3
  cases h3
  rw [h1]; congr 1; grind
 ·rintro ⟨_, h3, h5⟩
  exact ⟨hk, ⟨_, h3, Rat.le_refl⟩, h5⟩
set_option maxHeartbeats 6400000 in
theorem rcheck_any (w : World) (C : Option Addr) (nC cC : Nat) (caps : List Int) (D : Option Addr) (m d : Nat) (fs : List Fm) (A : Option Addr) (n c : Nat) (vs : List Fx) (E : Option Addr) (ne ce : Nat) (ats : List Int) (b : Bool)
 (hC : Is w C cC caps) (hD : Ws w D d fs) (hA : RdF w A vs) (hok : OkF w vs) (hE : Is w E ce ats) (hnC : nC = caps.length) (hm : m = fs.length) (hn : n = vs.length) (hne : ne = ats.length) (hvc : vs.length ≤ 1000) (hb : chkP caps (fs.map Fm.fl) vs ats ↔ b = true) :
 Calls Try.prog 31 #[.slice C nC cC, .slice D m d, .slice A n c, .slice E ne ce] w fun e w' => e = .returned (.bool b) ∧ Below w.heap.size w w' := by
 have HC := Lib.hid hC
 have HD := Lib.hid hD
 have HA := Lib.hid hA
 have HOK := Lib.hid hok
 have HE := Lib.hid hE
 have HBF : Hid (¬ chkP caps (fs.map Fm.fl) vs ats → b = false) := Lib.hid (fun h => by cases b with
  | false => rfl
  | true => exact absurd (hb.2 rfl) h)
 have HB := Lib.hid hb
 have hle := hE.len
 clear hC hD hA hok hE hb
 subst hm hn hnC hne
 by_cases hv : validFl caps (fs.map Fm.fl)
 ·by_cases hl1 : vs.length = fs.length
  ·by_cases hl2 : ats.length = fs.length
   ·have HV := Lib.hid hv
    have HVD := Lib.hid (decide_eq_true hv)
    have HVL := Lib.hid hl1
    have HAL := Lib.hid hl2
    have hfl : fs.length ≤ 48 := by have := hv.2.1; rwa [List.length_map] at this
    have hcl : caps.length ≤ 64 := hv.1
    have t1 : ((vs.length : Int) != (fs.length : Int)) = false := by simp [hl1]
    have t2 : ((ats.length : Int) != (fs.length : Int)) = false := by simp [hl2]
    clear hv hl1 hl2
    go_enter Try.func31, Try.ntmps31
    go_wp2_with fail
    refine (rvalid_any w C _ cC caps D _ d fs true HC.out HD.out rfl rfl HVD.out).mono ?_
    rintro e w1 ⟨rfl, rfl⟩
    go_wp2_with fail
    go_loopw [9] (fun jv wr => ∃ k : Nat, k ≤ fs.length ∧ jv = .int .i64 k ∧ (∀ t (h : t < vs.length), t < k → vs[t].v) ∧ Below w.heap.size w wr) (fun jv _ => fs.length - (intOf jv).toNat)
    case atStart => exact ⟨0, by omega, rfl, fun t _ h => by omega, Below.refl _ _⟩
    case round =>
     obtain ⟨k, hk, rfl, hgood, bw⟩ := hrel
     have HGOOD := Lib.hid hgood
     clear hgood
     by_cases hlt : k < fs.length
     ·--D{
      have hkv : k < vs.length := by rw [HVL.out]; exact hlt
      obtain ⟨a2, rfl, el⟩ := (HA.out.below bw).at k hkv
      have hof := (HOK.out.below bw) _ (List.getElem_mem hkv)
      obtain ⟨x1, hx1⟩ : ∃ x1, vs[k] = x1 := ⟨_, rfl⟩
      have HX1 := Lib.hid hx1
      rw [hx1] at el hof
      have HLL := Lib.hid hof.2
      have c0 := el.c0
      have c1 := el.c1
      have c2 := el.c2
      have ok1 := hof.1
      obtain ⟨u, hu⟩ : ∃ u, decide x1.v = u := ⟨_, rfl⟩
      have HU := Lib.hid hu
      clear el hof hx1 hu
      go_wp2_with fail
      refine (rfvalid_any wr x1 u ok1 HLL.out.1 HLL.out.2 HU.out).mono ?_
      rintro e w2 ⟨rfl, bb⟩
      replace bw := below_on bw bb bw.size
      clear ok1 c0 c1 c2 bb
      cases u with
      | false =>
        have HBB : Hid (b = false) := Lib.hid (HBF.out (fun h => of_decide_eq_false HU.out (by rw [← HX1.out]; exact h.vv _ (List.getElem_mem hkv))))
        go_wp2_with fail
        go_ret
        exact ⟨ret_bool HBB.out.symm, bw⟩
      | true =>
        have HNX : Hid (∀ t (h : t < vs.length), t < k + 1 → vs[t].v) := Lib.hid (fun t ht htk => by
         rcases Nat.lt_or_ge t k with h1 | h1
         ·exact HGOOD.out t ht h1
         ·obtain rfl : t = k := by omega
          rw [HX1.out]; exact of_decide_eq_true HU.out)
        go_wp2_with fail
        go_roundw
        case rel => exact ⟨k + 1, by omega, by go_num, HNX.out, bw⟩
        case measure => simp [intOf]; omega
--D}
     ·have HVV : Hid (∀ v ∈ vs, v.v) := Lib.hid (fun v hv => by
       obtain ⟨i, hi, rfl⟩ := List.getElem_of_mem hv
       exact HGOOD.out i hi (by have := HVL.out; omega))
      clear HGOOD
      obtain ⟨u1, hu1⟩ : ∃ u, (sumsP caps (fs.map Fm.fl) (vs.map Fx.q) ↔ u = true) := by
       by_cases h : sumsP caps (fs.map Fm.fl) (vs.map Fx.q)
       ·exact ⟨true, fun _ => rfl, fun _ => h⟩
       ·exact ⟨false, fun k => absurd k h, fun k => by cases k⟩
      have HU1 := Lib.hid hu1
      clear hu1
      go_wp2_with fail
      refine (rsummable_any wr C _ cC caps D _ d fs A _ c vs u1 (HD.out.below bw) (HA.out.below bw) (HOK.out.below bw) HVV.out rfl rfl rfl HVL.out (by omega) (by omega) HU1.out).mono ?_
      rintro e w2 ⟨rfl, bb⟩
      replace bw := below_on bw bb bw.size
      clear bb
      cases u1 with
      | false =>
        have HBB : Hid (b = false) := Lib.hid (HBF.out (fun h => by
         have := HU1.out.1 (fun k hk => by
          obtain ⟨q, h1, _⟩ := h.ld k hk
          exact ⟨q, h1⟩)
         cases this))
        go_wp2_with fail
        go_ret
        exact ⟨ret_bool HBB.out.symm, bw⟩
      | true =>
        have HSU : Hid (∀ k : Nat, k < caps.length → ∃ q, loadE (fs.map Fm.fl) (vs.map Fx.q) (k : Int) fs.length = some q) := Lib.hid (fun k hk => by
         obtain ⟨q, hq⟩ := HU1.out.2 rfl k hk
         rw [List.length_map] at hq
         exact ⟨q, hq⟩)
        obtain ⟨u2, hu2⟩ : ∃ u, (((∀ t (h : t < vs.length), 0 ≤ vs[t].q ∧ vs[t].q ≤ (lmA (fs.map Fm.fl) t : Rat)) ∧ ∀ k : Nat, k < caps.length → ∃ q, loadE (fs.map Fm.fl) (vs.map Fx.q) (k : Int) fs.length = some q ∧ q ≤ (cpF caps (k : Int) : Rat)) ↔ u = true) := by
         by_cases h : (∀ t (h : t < vs.length), 0 ≤ vs[t].q ∧ vs[t].q ≤ (lmA (fs.map Fm.fl) t : Rat)) ∧ ∀ k : Nat, k < caps.length → ∃ q, loadE (fs.map Fm.fl) (vs.map Fx.q) (k : Int) fs.length = some q ∧ q ≤ (cpF caps (k : Int) : Rat)
         ·exact ⟨true, fun _ => rfl, fun _ => h⟩
         ·exact ⟨false, fun k => absurd k h, fun k => by cases k⟩
        have HU2 := Lib.hid hu2
        clear hu2
        go_wp2_with fail
        refine (rfeas_any w2 C _ cC caps D _ d fs A _ c vs u2 (HC.out.below bw) (HD.out.below bw) (HA.out.below bw) (HOK.out.below bw) HVV.out rfl rfl rfl HVL.out (by omega) (fun i hi => HV.out.lm i (by simpa using hi)) HSU.out HU2.out).mono ?_
        rintro e w3 ⟨rfl, bb⟩
        replace bw := below_on bw bb bw.size
        clear bb
        cases u2 with
        | false =>
          have HBB : Hid (b = false) := Lib.hid (HBF.out (fun h => by
           have := HU2.out.1 ⟨fun t ht => by
            have := h.bd t (by rw [List.length_map, ← HVL.out]; exact ht)
            rwa [map_q_getD vs ht] at this, fun k hk => by
            have := h.ld k hk
            rwa [List.length_map] at this⟩
           cases this))
          go_wp2_with fail
          go_ret
          exact ⟨ret_bool HBB.out.symm, bw⟩
        | true =>
          have HFE := Lib.hid (HU2.out.2 rfl)
          have HAT : Hid (∀ k : Nat, k < fs.length → (atP (cpF caps) (fs.map Fm.fl) (vs.map Fx.q) ats k ↔ ¬ ¬ atP (cpF caps) (fs.map Fm.fl) (vs.map Fx.q) ats k)) := Lib.hid (fun k _ => ⟨fun h k => k h, fun h => Classical.byContradiction h⟩)
          clear HU1 HU2 HAT
          go_wp2_with fail
          go_loopw [10] (fun jv wr => ∃ k : Nat, k ≤ fs.length ∧ jv = .int .i64 k ∧ (∀ t, t < k → atP (cpF caps) (fs.map Fm.fl) (vs.map Fx.q) ats t) ∧ Below w.heap.size w wr) (fun jv _ => fs.length - (intOf jv).toNat)
          case atStart => exact ⟨0, by omega, rfl, fun t h => by omega, bw⟩
          case round =>
           clear bw
           obtain ⟨k, hk, rfl, hgood, bw⟩ := hrel
           have HGOOD := Lib.hid hgood
           clear hgood
           by_cases hlt : k < fs.length
           ·obtain ⟨ad, rfl, _, hcc⟩ := (HD.out.below bw).rd (by omega)
            have hc1 := (hcc k hlt).2
            have hgl := fl_get hlt
            obtain ⟨x, hx⟩ : ∃ x, fs[k] = x := ⟨_, rfl⟩
            rw [hx] at hc1 hgl
            have HGL := Lib.hid hgl
            have HXM : Hid (0 ≤ x.m ∧ x.m ≤ 4096) := Lib.hid (by
             have := HV.out.lm k (by simpa using hlt)
             rw [hgl.2] at this; exact this)
            have HLK : Hid (∀ e ∈ lkA (fs.map Fm.fl) k, 0 ≤ e ∧ e < (caps.length : Int)) := Lib.hid (HV.out.okR.lk k (by simpa using hlt))
            have HC1 : Hid (∀ w', Below wr.heap.size wr w' → w'.cell? ⟨(ad.add (k * 2)).block, (ad.add (k * 2)).off + 1, none⟩ = some (.int .i64 x.m)) := Lib.hid (fun w' hb =>
             (hb.cell (p := ⟨(ad.add (k * 2)).block, (ad.add (k * 2)).off + 1, none⟩) (World.block_lt_of_cell? wr _ hc1)).trans hc1)
            clear hcc hx hgl hc1
            have hka : k < ats.length := by rw [HAL.out]; exact hlt
            obtain ⟨ae, rfl, _, hce⟩ := (HE.out.below bw).at k hka
            have hga : ats.getD k 0 = ats[k] := getD_lt _ _ _ hka
            obtain ⟨t0, ht0⟩ : ∃ t0, ats[k] = t0 := ⟨_, rfl⟩
            rw [ht0] at hce hga
            have HGA := Lib.hid hga
            have HCE : Hid (∀ w', Below wr.heap.size wr w' → w'.cell? (ae.add k) = some (.int .i64 t0)) := Lib.hid (fun w' hb => (hb.cell (p := ae.add k) (World.block_lt_of_cell? wr _ hce)).trans hce)
            clear ht0 hga hce
            have hkv : k < vs.length := by rw [HVL.out]; exact hlt
            have hmk := map_q_getD vs hkv
            have hcec := HE.out.cap
            have hcem := HE.out.max
            have hdcap := HD.out.cap
            have hdmax := HD.out.max
            have hn2 := okf_nm (HOK.out.below bw) HVV.out hkv
            obtain ⟨ad2, rfl, e2⟩ := (HA.out.below bw).at k hkv
            obtain ⟨x2, hx2⟩ : ∃ x2, vs[k] = x2 := ⟨_, rfl⟩
            have hbd := (HFE.out.1 k hkv).2
            rw [hx2] at hmk hn2 e2 hbd
            have N2 := Lib.hid hn2
            have E2 := Lib.hid e2
            have HMK := Lib.hid hmk
            have HBD := Lib.hid hbd
            clear hn2 e2 hmk hx2 hbd
            have HBW := Lib.hid bw
            go_upto_region 13 with fail
            go_cut [95] (fun s95 w2 => (∃ bad, s95 = .bool bad ∧ (bad = true ↔ ¬ atP (cpF caps) (fs.map Fm.fl) (vs.map Fx.q) ats k)) ∧ Below wr.heap.size wr w2)
            case first =>
             by_cases hm1 : t0 = -1
             ·subst hm1
              have hid : atP (cpF caps) (fs.map Fm.fl) (vs.map Fx.q) ats k ↔ x2.q = (x.m : Rat) := by rw [atP, if_pos HGA.out, HMK.out, HGL.out.2]
              obtain ⟨u, hu⟩ : ∃ u, decide (x2.q < (x.m : Rat)) = u := ⟨_, rfl⟩
              have HU := Lib.hid hu
              have HP : Hid (∃ bad, Value.bool u = .bool bad ∧ (bad = true ↔ ¬ atP (cpF caps) (fs.map Fm.fl) (vs.map Fx.q) ats k)) := Lib.hid ⟨_, rfl, by
               rw [hid, ← hu, decide_eq_true_iff]
               have := HBD.out
               rw [HGL.out.2] at this
               exact ⟨fun h e => by grind, fun h => by grind⟩⟩
              clear hid hu
              cases u with
              | true =>
                refine wp_region_held_drew (S := fun w' => w'.cell? (ae.add k) = some (.int .i64 (-1)) ∧ w'.cell? ⟨(ad.add (k * 2)).block, (ad.add (k * 2)).off + 1, none⟩ = some (.int .i64 x.m) ∧ (w'.cell? (ad2.add (k * 3)) = some (.bool x2.b) ∧ w'.cell? ⟨(ad2.add (k * 3)).block, (ad2.add (k * 3)).off + 1, none⟩ = some (.slice x2.A x2.xs.length x2.c) ∧ w'.cell? ⟨(ad2.add (k * 3)).block, (ad2.add (k * 3)).off + 2, none⟩ = some (.slice x2.D x2.ys.length x2.d))) (by kernel_rfl) ⟨HCE.out _ ((Below.refl wr.heap.size wr).drew), HC1.out _ ((Below.refl wr.heap.size wr).drew), (E2.out.below ((Below.refl wr.heap.size wr).drew)).c0, (E2.out.below ((Below.refl wr.heap.size wr).drew)).c1, (E2.out.below ((Below.refl wr.heap.size wr).drew)).c2⟩ (fun hHeld => ?_)
                have bz := (Below.refl wr.heap.size wr).drew
                generalize wr.drew = wd at *
                refine tkw 0 (.slice (some ae) ats.length ce) rfl (by kernel_rfl) (by kernel_rfl) (by kernel_rfl) (fun _ _ _ h => h) ⟨by rfl, ?_⟩ (by assumption) ?_
                ·intro w hSw; go_simp; (try with_reducible rfl)
                try simp only [Act.put, tzA, tzB, tzD, tzE, tzF]
                refine tkw 1 (.int .i64 (k : Int)) rfl (by kernel_rfl) (by kernel_rfl) (by kernel_rfl) (fun _ _ _ h => h) ⟨by rfl, ?_⟩ (by assumption) ?_
                ·intro w hSw; go_simp; (try with_reducible rfl)
                try simp only [Act.put, tzA, tzB, tzC, tzD, tzE, tzF]
                refine tkw 2 (.pointer (some (ae.add k))) rfl (by kernel_rfl) (by kernel_rfl) (by kernel_rfl) (fun _ _ _ h => h) ⟨by rfl, ?_⟩ (by assumption) ?_
                ·intro w hSw; go_simp; (try with_reducible rfl)
                try simp only [Act.put, tzA, tzB, tzC, tzD, tzE, tzF]
                refine tkw 3 (.int .i64 (-1)) rfl (by kernel_rfl) (by kernel_rfl) (by kernel_rfl) (fun _ _ _ h => h) ⟨by rfl, ?_⟩ (by assumption) ?_
                ·intro w hSw; (try dsimp only at hSw); obtain ⟨s0, _⟩ := hSw; go_simp; (try with_reducible rfl)
                try simp only [Act.put, tzA, tzB, tzC, tzD, tzE, tzF]
                refine tkw 4 (.bool true) rfl (by kernel_rfl) (by kernel_rfl) (by kernel_rfl) (fun _ _ _ h => h) ⟨by rfl, ?_⟩ (by assumption) ?_
                ·intro w hSw; go_simp; (try with_reducible rfl)
                try simp only [Act.put, tzA, tzB, tzC, tzD, tzE, tzF]
                refine tkw 5 (.bool true) rfl (by kernel_rfl) (by kernel_rfl) (by kernel_rfl) (fun _ _ _ h => h) ⟨by rfl, ?_⟩ (by assumption) ?_
                ·intro w hSw; go_simp; (try with_reducible rfl)
                try simp only [Act.put, tzA, tzB, tzC, tzD, tzE, tzF]
                refine tkw 6 (.slice (some ad2) vs.length c) rfl (by kernel_rfl) (by kernel_rfl) (by kernel_rfl) (fun _ _ _ h => h) ⟨by kernel_rfl, ?_⟩ (by assumption) ?_
                ·intro w hSw; go_simp; (try with_reducible rfl)
                try simp only [Act.put, tzA, tzB, tzC, tzD, tzE, tzF]
                refine tkw 7 (.int .i64 (k : Int)) rfl (by kernel_rfl) (by kernel_rfl) (by kernel_rfl) (fun _ _ _ h => h) ⟨by kernel_rfl, ?_⟩ (by assumption) ?_
                ·intro w hSw; go_simp; (try with_reducible rfl)
                try simp only [Act.put, tzA, tzB, tzC, tzD, tzE, tzF]
                refine tkw 8 (.pointer (some (ad2.add (k * 3)))) rfl (by kernel_rfl) (by kernel_rfl) (by kernel_rfl) (fun _ _ _ h => h) ⟨by kernel_rfl, ?_⟩ (by assumption) ?_
                ·intro w hSw; go_simp; (try with_reducible rfl)
                try simp only [Act.put, tzA, tzB, tzC, tzD, tzE, tzF]
                refine tkw 9 (x2.val) rfl (by kernel_rfl) (by kernel_rfl) (by kernel_rfl) (fun _ _ _ h => h) ⟨by kernel_rfl, ?_⟩ (by assumption) ?_
                ·intro w hSw; (try dsimp only at hSw); obtain ⟨_, _, s0, s1, s2⟩ := hSw; go_simp; (try with_reducible rfl)
                try simp only [Act.put, tzA, tzB, tzC, tzD, tzE, tzF]
                refine tkw 10 (.slice (some ad) fs.length d) rfl (by kernel_rfl) (by kernel_rfl) (by kernel_rfl) (fun _ _ _ h => h) ⟨by kernel_rfl, ?_⟩ (by assumption) ?_
                ·intro w hSw; go_simp; (try with_reducible rfl)
                try simp only [Act.put, tzA, tzB, tzC, tzD, tzE, tzF]
                refine tkw 11 (.int .i64 (k : Int)) rfl (by kernel_rfl) (by kernel_rfl) (by kernel_rfl) (fun _ _ _ h => h) ⟨by kernel_rfl, ?_⟩ (by assumption) ?_
                ·intro w hSw; go_simp; (try with_reducible rfl)
                try simp only [Act.put, tzA, tzB, tzC, tzD, tzE, tzF]
                refine tkw 12 (.pointer (some (ad.add (k * 2)))) rfl (by kernel_rfl) (by kernel_rfl) (by kernel_rfl) (fun _ _ _ h => h) ⟨by kernel_rfl, ?_⟩ (by assumption) ?_
                ·intro w hSw; go_simp; (try with_reducible rfl)
                try simp only [Act.put, tzA, tzB, tzC, tzD, tzE, tzF]
                refine tkw 13 (.pointer (some ⟨(ad.add (k * 2)).block, (ad.add (k * 2)).off + 1, none⟩)) rfl (by kernel_rfl) (by kernel_rfl) (by kernel_rfl) (fun _ _ _ h => h) ⟨by kernel_rfl, ?_⟩ (by assumption) ?_
                ·intro w hSw; go_simp; (try with_reducible rfl)
                try simp only [Act.put, tzA, tzB, tzC, tzD, tzE, tzF]
                refine tkw 14 (.int .i64 x.m) rfl (by kernel_rfl) (by kernel_rfl) (by kernel_rfl) (fun _ _ _ h => h) ⟨by kernel_rfl, ?_⟩ (by assumption) ?_
                ·intro w hSw; (try dsimp only at hSw); obtain ⟨_, s0, _⟩ := hSw; go_simp; (try with_reducible rfl)
                try simp only [Act.put, tzA, tzB, tzC, tzD, tzE, tzF]
                refine wpAnyH_ready (rs := [15]) (by kernel_rfl) (by simp) ?_
                refine AllReadyH.cons rfl (fun K hK => ?_) ?_
                ·go_simp
                 go_at_call 34
                 refine (rwhole_any wd x.m (by have := HXM.out; omega) (by have := HXM.out; omega)).mono ?_
                 rintro e wd ⟨y2, rfl, _, n5, bb⟩
                 try replace n5 := n5.below bb
                 replace bz := below_on bz bb bz.size
                 clear bb
                 refine hK.out _ _ ⟨HCE.out _ bz, HC1.out _ bz, (E2.out.below bz).c0, (E2.out.below bz).c1, (E2.out.below bz).c2⟩ (fun hHeld => ?_)
                 clear hK K
                 try simp only [Act.put]
                 try simp only [tzD, tzE, tzF]
                 refine wpAnyH_ready (rs := [16]) (by kernel_rfl) (by simp) ?_
                 refine AllReadyH.cons rfl (fun K hK => ?_) ?_
                 ·go_simp
                  go_at_call 33
                  refine (rless_any wd x2 y2 x2.q (x.m : Rat) true (N2.out.below bz) n5 HU.out).mono ?_
                  rintro e wd ⟨rfl, bb⟩
                  clear n5
                  try replace n5 := n5.below bb
                  replace bz := below_on bz bb bz.size
                  clear bb
                  refine hK.out _ _ ⟨HCE.out _ bz, HC1.out _ bz, (E2.out.below bz).c0, (E2.out.below bz).c1, (E2.out.below bz).c2⟩ (fun hHeld => ?_)
                  clear hK K
                  try simp only [Act.put]
                  try simp only [tzD, tzE, tzF]
                  refine tkw 17 (.bool true) rfl (by kernel_rfl) (by kernel_rfl) (by kernel_rfl) (fun _ _ _ h => h) ⟨by rfl, ?_⟩ (by assumption) ?_
                  ·intro w hSw; go_simp; (try with_reducible rfl)
                  try simp only [Act.put, tzA, tzB, tzC, tzD, tzE, tzF]
                  refine tkw 18 (.bool true) rfl (by kernel_rfl) (by kernel_rfl) (by kernel_rfl) (fun _ _ _ h => h) ⟨by rfl, ?_⟩ (by assumption) ?_
                  ·intro w hSw; go_simp; (try with_reducible rfl)
                  try simp only [Act.put, tzA, tzB, tzC, tzD, tzE, tzF]
                  refine tku 19 rfl (by kernel_rfl) (by kernel_rfl) (by kernel_rfl) (fun _ _ _ h => h) (by kernel_rfl) (by assumption) ?_
                  try simp only [Act.put, tzA, tzB, tzC, tzD, tzE, tzF]
                  refine tku 20 rfl (by kernel_rfl) (by kernel_rfl) (by kernel_rfl) (fun _ _ _ h => h) (by kernel_rfl) (by assumption) ?_
                  try simp only [Act.put, tzA, tzB, tzC, tzD, tzE, tzF]
                  refine tku 21 rfl (by kernel_rfl) (by kernel_rfl) (by kernel_rfl) (fun _ _ _ h => h) (by kernel_rfl) (by assumption) ?_
                  try simp only [Act.put, tzA, tzB, tzC, tzD, tzE, tzF]
                  refine tku 22 rfl (by kernel_rfl) (by kernel_rfl) (by kernel_rfl) (fun _ _ _ h => h) (by kernel_rfl) (by assumption) ?_
                  try simp only [Act.put, tzA, tzB, tzC, tzD, tzE, tzF]
                  refine tku 23 rfl (by kernel_rfl) (by kernel_rfl) (by kernel_rfl) (fun _ _ _ h => h) (by kernel_rfl) (by assumption) ?_
                  try simp only [Act.put, tzA, tzB, tzC, tzD, tzE, tzF]
                  refine tku 24 rfl (by kernel_rfl) (by kernel_rfl) (by kernel_rfl) (fun _ _ _ h => h) (by kernel_rfl) (by assumption) ?_
                  try simp only [Act.put, tzA, tzB, tzC, tzD, tzE, tzF]
                  refine tku 25 rfl (by kernel_rfl) (by kernel_rfl) (by kernel_rfl) (fun _ _ _ h => h) (by kernel_rfl) (by assumption) ?_
                  try simp only [Act.put, tzA, tzB, tzC, tzD, tzE, tzF]
                  refine tku 26 rfl (by kernel_rfl) (by kernel_rfl) (by kernel_rfl) (fun _ _ _ h => h) (by kernel_rfl) (by assumption) ?_
                  try simp only [Act.put, tzA, tzB, tzC, tzD, tzE, tzF]
                  refine tku 27 rfl (by kernel_rfl) (by kernel_rfl) (by kernel_rfl) (fun _ _ _ h => h) (by kernel_rfl) (by assumption) ?_
                  try simp only [Act.put, tzA, tzB, tzC, tzD, tzE, tzF]
                  refine tku 28 rfl (by kernel_rfl) (by kernel_rfl) (by kernel_rfl) (fun _ _ _ h => h) (by kernel_rfl) (by assumption) ?_
                  try simp only [Act.put, tzA, tzB, tzC, tzD, tzE, tzF]
                  refine tku 29 rfl (by kernel_rfl) (by kernel_rfl) (by kernel_rfl) (fun _ _ _ h => h) (by kernel_rfl) (by assumption) ?_
                  try simp only [Act.put, tzA, tzB, tzC, tzD, tzE, tzF]
                  refine tku 30 rfl (by kernel_rfl) (by kernel_rfl) (by kernel_rfl) (fun _ _ _ h => h) (by kernel_rfl) (by assumption) ?_
                  try simp only [Act.put, tzA, tzB, tzC, tzD, tzE, tzF]
                  refine tku 31 rfl (by kernel_rfl) (by kernel_rfl) (by kernel_rfl) (fun _ _ _ h => h) (by kernel_rfl) (by assumption) ?_
                  try simp only [Act.put, tzA, tzB, tzC, tzD, tzE, tzF]
                  refine tku 32 rfl (by kernel_rfl) (by kernel_rfl) (by kernel_rfl) (fun _ _ _ h => h) (by kernel_rfl) (by assumption) ?_
                  try simp only [Act.put, tzA, tzB, tzC, tzD, tzE, tzF]
                  refine tku 33 rfl (by kernel_rfl) (by kernel_rfl) (by kernel_rfl) (fun _ _ _ h => h) (by kernel_rfl) (by assumption) ?_
                  try simp only [Act.put, tzA, tzB, tzC, tzD, tzE, tzF]
                  refine tku 34 rfl (by kernel_rfl) (by kernel_rfl) (by kernel_rfl) (fun _ _ _ h => h) (by kernel_rfl) (by assumption) ?_
                  try simp only [Act.put, tzA, tzB, tzC, tzD, tzE, tzF]
                  refine tku 35 rfl (by kernel_rfl) (by kernel_rfl) (by kernel_rfl) (fun _ _ _ h => h) (by kernel_rfl) (by assumption) ?_
                  try simp only [Act.put, tzA, tzB, tzC, tzD, tzE, tzF]
                  refine tkw 36 (.bool true) rfl (by kernel_rfl) (by kernel_rfl) (by kernel_rfl) (fun _ _ _ h => h) ⟨by rfl, ?_⟩ (by assumption) ?_
                  ·intro w hSw; go_simp; (try with_reducible rfl)
                  try simp only [Act.put, tzA, tzB, tzC, tzD, tzE, tzF]
                  refine wpAnyH_done (by kernel_rfl) ?_ _
                  go_wp2_with fail
                  go_meet
                  case rel => exact ⟨HP.out, bz⟩
                 exact AllReadyH.nil
                exact AllReadyH.nil
              | false =>
                refine wp_region_held_drew (S := fun w' => w'.cell? (ae.add k) = some (.int .i64 (-1)) ∧ w'.cell? ⟨(ad.add (k * 2)).block, (ad.add (k * 2)).off + 1, none⟩ = some (.int .i64 x.m) ∧ (w'.cell? (ad2.add (k * 3)) = some (.bool x2.b) ∧ w'.cell? ⟨(ad2.add (k * 3)).block, (ad2.add (k * 3)).off + 1, none⟩ = some (.slice x2.A x2.xs.length x2.c) ∧ w'.cell? ⟨(ad2.add (k * 3)).block, (ad2.add (k * 3)).off + 2, none⟩ = some (.slice x2.D x2.ys.length x2.d))) (by kernel_rfl) ⟨HCE.out _ ((Below.refl wr.heap.size wr).drew), HC1.out _ ((Below.refl wr.heap.size wr).drew), (E2.out.below ((Below.refl wr.heap.size wr).drew)).c0, (E2.out.below ((Below.refl wr.heap.size wr).drew)).c1, (E2.out.below ((Below.refl wr.heap.size wr).drew)).c2⟩ (fun hHeld => ?_)
                have bz := (Below.refl wr.heap.size wr).drew
                generalize wr.drew = wd at *
                refine tkw 0 (.slice (some ae) ats.length ce) rfl (by kernel_rfl) (by kernel_rfl) (by kernel_rfl) (fun _ _ _ h => h) ⟨by rfl, ?_⟩ (by assumption) ?_
                ·intro w hSw; go_simp; (try with_reducible rfl)
                try simp only [Act.put, tzA, tzB, tzD, tzE, tzF]
                refine tkw 1 (.int .i64 (k : Int)) rfl (by kernel_rfl) (by kernel_rfl) (by kernel_rfl) (fun _ _ _ h => h) ⟨by rfl, ?_⟩ (by assumption) ?_
                ·intro w hSw; go_simp; (try with_reducible rfl)
                try simp only [Act.put, tzA, tzB, tzC, tzD, tzE, tzF]
                refine tkw 2 (.pointer (some (ae.add k))) rfl (by kernel_rfl) (by kernel_rfl) (by kernel_rfl) (fun _ _ _ h => h) ⟨by rfl, ?_⟩ (by assumption) ?_
                ·intro w hSw; go_simp; (try with_reducible rfl)
                try simp only [Act.put, tzA, tzB, tzC, tzD, tzE, tzF]
                refine tkw 3 (.int .i64 (-1)) rfl (by kernel_rfl) (by kernel_rfl) (by kernel_rfl) (fun _ _ _ h => h) ⟨by rfl, ?_⟩ (by assumption) ?_
                ·intro w hSw; (try dsimp only at hSw); obtain ⟨s0, _⟩ := hSw; go_simp; (try with_reducible rfl)
                try simp only [Act.put, tzA, tzB, tzC, tzD, tzE, tzF]
                refine tkw 4 (.bool true) rfl (by kernel_rfl) (by kernel_rfl) (by kernel_rfl) (fun _ _ _ h => h) ⟨by rfl, ?_⟩ (by assumption) ?_
                ·intro w hSw; go_simp; (try with_reducible rfl)
                try simp only [Act.put, tzA, tzB, tzC, tzD, tzE, tzF]
                refine tkw 5 (.bool true) rfl (by kernel_rfl) (by kernel_rfl) (by kernel_rfl) (fun _ _ _ h => h) ⟨by rfl, ?_⟩ (by assumption) ?_
                ·intro w hSw; go_simp; (try with_reducible rfl)
                try simp only [Act.put, tzA, tzB, tzC, tzD, tzE, tzF]
                refine tkw 6 (.slice (some ad2) vs.length c) rfl (by kernel_rfl) (by kernel_rfl) (by kernel_rfl) (fun _ _ _ h => h) ⟨by kernel_rfl, ?_⟩ (by assumption) ?_
                ·intro w hSw; go_simp; (try with_reducible rfl)
                try simp only [Act.put, tzA, tzB, tzC, tzD, tzE, tzF]
                refine tkw 7 (.int .i64 (k : Int)) rfl (by kernel_rfl) (by kernel_rfl) (by kernel_rfl) (fun _ _ _ h => h) ⟨by kernel_rfl, ?_⟩ (by assumption) ?_
                ·intro w hSw; go_simp; (try with_reducible rfl)
                try simp only [Act.put, tzA, tzB, tzC, tzD, tzE, tzF]
                refine tkw 8 (.pointer (some (ad2.add (k * 3)))) rfl (by kernel_rfl) (by kernel_rfl) (by kernel_rfl) (fun _ _ _ h => h) ⟨by kernel_rfl, ?_⟩ (by assumption) ?_
                ·intro w hSw; go_simp; (try with_reducible rfl)
                try simp only [Act.put, tzA, tzB, tzC, tzD, tzE, tzF]
                refine tkw 9 (x2.val) rfl (by kernel_rfl) (by kernel_rfl) (by kernel_rfl) (fun _ _ _ h => h) ⟨by kernel_rfl, ?_⟩ (by assumption) ?_
                ·intro w hSw; (try dsimp only at hSw); obtain ⟨_, _, s0, s1, s2⟩ := hSw; go_simp; (try with_reducible rfl)
                try simp only [Act.put, tzA, tzB, tzC, tzD, tzE, tzF]
                refine tkw 10 (.slice (some ad) fs.length d) rfl (by kernel_rfl) (by kernel_rfl) (by kernel_rfl) (fun _ _ _ h => h) ⟨by kernel_rfl, ?_⟩ (by assumption) ?_
                ·intro w hSw; go_simp; (try with_reducible rfl)
                try simp only [Act.put, tzA, tzB, tzC, tzD, tzE, tzF]
                refine tkw 11 (.int .i64 (k : Int)) rfl (by kernel_rfl) (by kernel_rfl) (by kernel_rfl) (fun _ _ _ h => h) ⟨by kernel_rfl, ?_⟩ (by assumption) ?_
                ·intro w hSw; go_simp; (try with_reducible rfl)
                try simp only [Act.put, tzA, tzB, tzC, tzD, tzE, tzF]
                refine tkw 12 (.pointer (some (ad.add (k * 2)))) rfl (by kernel_rfl) (by kernel_rfl) (by kernel_rfl) (fun _ _ _ h => h) ⟨by kernel_rfl, ?_⟩ (by assumption) ?_
                ·intro w hSw; go_simp; (try with_reducible rfl)
                try simp only [Act.put, tzA, tzB, tzC, tzD, tzE, tzF]
                refine tkw 13 (.pointer (some ⟨(ad.add (k * 2)).block, (ad.add (k * 2)).off + 1, none⟩)) rfl (by kernel_rfl) (by kernel_rfl) (by kernel_rfl) (fun _ _ _ h => h) ⟨by kernel_rfl, ?_⟩ (by assumption) ?_
                ·intro w hSw; go_simp; (try with_reducible rfl)
                try simp only [Act.put, tzA, tzB, tzC, tzD, tzE, tzF]
                refine tkw 14 (.int .i64 x.m) rfl (by kernel_rfl) (by kernel_rfl) (by kernel_rfl) (fun _ _ _ h => h) ⟨by kernel_rfl, ?_⟩ (by assumption) ?_
                ·intro w hSw; (try dsimp only at hSw); obtain ⟨_, s0, _⟩ := hSw; go_simp; (try with_reducible rfl)
                try simp only [Act.put, tzA, tzB, tzC, tzD, tzE, tzF]
                refine wpAnyH_ready (rs := [15]) (by kernel_rfl) (by simp) ?_
                refine AllReadyH.cons rfl (fun K hK => ?_) ?_
                ·go_simp
                 go_at_call 34
                 refine (rwhole_any wd x.m (by have := HXM.out; omega) (by have := HXM.out; omega)).mono ?_
                 rintro e wd ⟨y2, rfl, _, n5, bb⟩
                 try replace n5 := n5.below bb
                 replace bz := below_on bz bb bz.size
                 clear bb
                 refine hK.out _ _ ⟨HCE.out _ bz, HC1.out _ bz, (E2.out.below bz).c0, (E2.out.below bz).c1, (E2.out.below bz).c2⟩ (fun hHeld => ?_)
                 clear hK K
                 try simp only [Act.put]
                 try simp only [tzD, tzE, tzF]
                 refine wpAnyH_ready (rs := [16]) (by kernel_rfl) (by simp) ?_
                 refine AllReadyH.cons rfl (fun K hK => ?_) ?_
                 ·go_simp
                  go_at_call 33
                  refine (rless_any wd x2 y2 x2.q (x.m : Rat) false (N2.out.below bz) n5 HU.out).mono ?_
                  rintro e wd ⟨rfl, bb⟩
                  clear n5
                  try replace n5 := n5.below bb
                  replace bz := below_on bz bb bz.size
                  clear bb
                  refine hK.out _ _ ⟨HCE.out _ bz, HC1.out _ bz, (E2.out.below bz).c0, (E2.out.below bz).c1, (E2.out.below bz).c2⟩ (fun hHeld => ?_)
                  clear hK K
                  try simp only [Act.put]
                  try simp only [tzD, tzE, tzF]
                  refine tkw 17 (.bool false) rfl (by kernel_rfl) (by kernel_rfl) (by kernel_rfl) (fun _ _ _ h => h) ⟨by rfl, ?_⟩ (by assumption) ?_
                  ·intro w hSw; go_simp; (try with_reducible rfl)
                  try simp only [Act.put, tzA, tzB, tzC, tzD, tzE, tzF]
                  refine tkw 18 (.bool false) rfl (by kernel_rfl) (by kernel_rfl) (by kernel_rfl) (fun _ _ _ h => h) ⟨by rfl, ?_⟩ (by assumption) ?_
                  ·intro w hSw; go_simp; (try with_reducible rfl)
                  try simp only [Act.put, tzA, tzB, tzC, tzD, tzE, tzF]
                  refine tkw 19 (.slice (some ae) ats.length ce) rfl (by kernel_rfl) (by kernel_rfl) (by kernel_rfl) (fun _ _ _ h => h) ⟨by kernel_rfl, ?_⟩ (by assumption) ?_
                  ·intro w hSw; go_simp; (try with_reducible rfl)
                  try simp only [Act.put, tzA, tzB, tzC, tzD, tzE, tzF]
                  refine tkw 20 (.int .i64 (k : Int)) rfl (by kernel_rfl) (by kernel_rfl) (by kernel_rfl) (fun _ _ _ h => h) ⟨by kernel_rfl, ?_⟩ (by assumption) ?_
                  ·intro w hSw; go_simp; (try with_reducible rfl)
                  try simp only [Act.put, tzA, tzB, tzC, tzD, tzE, tzF]
                  refine tkw 21 (.pointer (some (ae.add k))) rfl (by kernel_rfl) (by kernel_rfl) (by kernel_rfl) (fun _ _ _ h => h) ⟨by kernel_rfl, ?_⟩ (by assumption) ?_
                  ·intro w hSw; go_simp; (try with_reducible rfl)
                  try simp only [Act.put, tzA, tzB, tzC, tzD, tzE, tzF]
                  refine tkw 22 (.int .i64 (-1)) rfl (by kernel_rfl) (by kernel_rfl) (by kernel_rfl) (fun _ _ _ h => h) ⟨by kernel_rfl, ?_⟩ (by assumption) ?_
                  ·intro w hSw; (try dsimp only at hSw); obtain ⟨s0, _⟩ := hSw; go_simp; (try with_reducible rfl)
                  try simp only [Act.put, tzA, tzB, tzC, tzD, tzE, tzF]
                  refine tkw 23 (.bool false) rfl (by kernel_rfl) (by kernel_rfl) (by kernel_rfl) (fun _ _ _ h => h) ⟨by kernel_rfl, ?_⟩ (by assumption) ?_
                  ·intro w hSw; go_simp; (try with_reducible rfl)
                  try simp only [Act.put, tzA, tzB, tzC, tzD, tzE, tzF]
                  refine tkw 24 (.bool false) rfl (by kernel_rfl) (by kernel_rfl) (by kernel_rfl) (fun _ _ _ h => h) ⟨by kernel_rfl, ?_⟩ (by assumption) ?_
                  ·intro w hSw; go_simp; (try with_reducible rfl)
                  try simp only [Act.put, tzA, tzB, tzC, tzD, tzE, tzF]
                  refine tku 25 rfl (by kernel_rfl) (by kernel_rfl) (by kernel_rfl) (fun _ _ _ h => h) (by kernel_rfl) (by assumption) ?_
                  try simp only [Act.put, tzA, tzB, tzC, tzD, tzE, tzF]
                  refine tku 26 rfl (by kernel_rfl) (by kernel_rfl) (by kernel_rfl) (fun _ _ _ h => h) (by kernel_rfl) (by assumption) ?_
                  try simp only [Act.put, tzA, tzB, tzC, tzD, tzE, tzF]
                  refine tku 27 rfl (by kernel_rfl) (by kernel_rfl) (by kernel_rfl) (fun _ _ _ h => h) (by kernel_rfl) (by assumption) ?_
                  try simp only [Act.put, tzA, tzB, tzC, tzD, tzE, tzF]
                  refine tku 28 rfl (by kernel_rfl) (by kernel_rfl) (by kernel_rfl) (fun _ _ _ h => h) (by kernel_rfl) (by assumption) ?_
                  try simp only [Act.put, tzA, tzB, tzC, tzD, tzE, tzF]
                  refine tku 29 rfl (by kernel_rfl) (by kernel_rfl) (by kernel_rfl) (fun _ _ _ h => h) (by kernel_rfl) (by assumption) ?_
                  try simp only [Act.put, tzA, tzB, tzC, tzD, tzE, tzF]
                  refine tku 30 rfl (by kernel_rfl) (by kernel_rfl) (by kernel_rfl) (fun _ _ _ h => h) (by kernel_rfl) (by assumption) ?_
                  try simp only [Act.put, tzA, tzB, tzC, tzD, tzE, tzF]
                  refine tku 31 rfl (by kernel_rfl) (by kernel_rfl) (by kernel_rfl) (fun _ _ _ h => h) (by kernel_rfl) (by assumption) ?_
                  try simp only [Act.put, tzA, tzB, tzC, tzD, tzE, tzF]
                  refine tku 32 rfl (by kernel_rfl) (by kernel_rfl) (by kernel_rfl) (fun _ _ _ h => h) (by kernel_rfl) (by assumption) ?_
                  try simp only [Act.put, tzA, tzB, tzC, tzD, tzE, tzF]
                  refine tku 33 rfl (by kernel_rfl) (by kernel_rfl) (by kernel_rfl) (fun _ _ _ h => h) (by kernel_rfl) (by assumption) ?_
                  try simp only [Act.put, tzA, tzB, tzC, tzD, tzE, tzF]
                  refine tku 34 rfl (by kernel_rfl) (by kernel_rfl) (by kernel_rfl) (fun _ _ _ h => h) (by kernel_rfl) (by assumption) ?_
                  try simp only [Act.put, tzA, tzB, tzC, tzD, tzE, tzF]
                  refine tkw 35 (.bool false) rfl (by kernel_rfl) (by kernel_rfl) (by kernel_rfl) (fun _ _ _ h => h) ⟨by kernel_rfl, ?_⟩ (by assumption) ?_
                  ·intro w hSw; go_simp; (try with_reducible rfl)
                  try simp only [Act.put, tzA, tzB, tzC, tzD, tzE, tzF]
                  refine tkw 36 (.bool false) rfl (by kernel_rfl) (by kernel_rfl) (by kernel_rfl) (fun _ _ _ h => h) ⟨by rfl, ?_⟩ (by assumption) ?_
                  ·intro w hSw; go_simp; (try with_reducible rfl)
                  try simp only [Act.put, tzA, tzB, tzC, tzD, tzE, tzF]
                  refine wpAnyH_done (by kernel_rfl) ?_ _
                  go_wp2_with fail
                  go_meet
                  case rel => exact ⟨HP.out, bz⟩
                 exact AllReadyH.nil
                exact AllReadyH.nil
             ·have hm2 : (t0 == -1) = false := beq_eq_false_iff_ne.2 hm1
              have hm3 : (t0 != -1) = true := by rw [bne_iff_ne]; exact hm1
              obtain ⟨u, hu⟩ : ∃ u, ((t0 ∈ lkA (fs.map Fm.fl) k ∧ (∃ q, loadE (fs.map Fm.fl) (vs.map Fx.q) t0 fs.length = some q ∧ (cpF caps t0 : Rat) ≤ q) ∧ ∀ j, j < fs.length → t0 ∈ lkA (fs.map Fm.fl) j → (vs.map Fx.q).getD j 0 ≤ (vs.map Fx.q).getD k 0) ↔ u = true) := by
               by_cases h : (t0 ∈ lkA (fs.map Fm.fl) k ∧ (∃ q, loadE (fs.map Fm.fl) (vs.map Fx.q) t0 fs.length = some q ∧ (cpF caps t0 : Rat) ≤ q) ∧ ∀ j, j < fs.length → t0 ∈ lkA (fs.map Fm.fl) j → (vs.map Fx.q).getD j 0 ≤ (vs.map Fx.q).getD k 0)
               ·exact ⟨true, fun _ => rfl, fun _ => h⟩
               ·exact ⟨false, fun k => absurd k h, fun k => by cases k⟩
              have HU := Lib.hid hu
              have HP : Hid (∃ bad, Value.bool (!u) = .bool bad ∧ (bad = true ↔ ¬ atP (cpF caps) (fs.map Fm.fl) (vs.map Fx.q) ats k)) := Lib.hid ⟨_, rfl, by
               have hid : atP (cpF caps) (fs.map Fm.fl) (vs.map Fx.q) ats k ↔ u = true := by
                rw [atP, HGA.out, if_neg hm1, ← hu]
                by_cases hmem : t0 ∈ lkA (fs.map Fm.fl) k
                ·have hb := HLK.out t0 hmem
                 have hld := HFE.out.2 t0.toNat (by omega)
                 rw [Int.toNat_of_nonneg hb.1] at hld
                 have h1 := limP_of (cp := cpF caps) (l := fs.map Fm.fl) (R := vs.map Fx.q) (i := k) (k := t0) (by rw [List.length_map]; exact hld) hmem
                 rw [List.length_map] at h1
                 exact h1.symm
                ·exact ⟨fun h => absurd h.1 hmem, fun h => absurd h.1 hmem⟩
               rw [hid]
               cases u <;> simp⟩
              clear hu
              refine wp_region_held_drew (S := fun w' => w'.cell? (ae.add k) = some (.int .i64 t0) ∧ w'.cell? ⟨(ad.add (k * 2)).block, (ad.add (k * 2)).off + 1, none⟩ = some (.int .i64 x.m) ∧ (w'.cell? (ad2.add (k * 3)) = some (.bool x2.b) ∧ w'.cell? ⟨(ad2.add (k * 3)).block, (ad2.add (k * 3)).off + 1, none⟩ = some (.slice x2.A x2.xs.length x2.c) ∧ w'.cell? ⟨(ad2.add (k * 3)).block, (ad2.add (k * 3)).off + 2, none⟩ = some (.slice x2.D x2.ys.length x2.d))) (by kernel_rfl) ⟨HCE.out _ ((Below.refl wr.heap.size wr).drew), HC1.out _ ((Below.refl wr.heap.size wr).drew), (E2.out.below ((Below.refl wr.heap.size wr).drew)).c0, (E2.out.below ((Below.refl wr.heap.size wr).drew)).c1, (E2.out.below ((Below.refl wr.heap.size wr).drew)).c2⟩ (fun hHeld => ?_)
              have bz := (Below.refl wr.heap.size wr).drew
              generalize wr.drew = wd at *
              refine tkw 0 (.slice (some ae) ats.length ce) rfl (by kernel_rfl) (by kernel_rfl) (by kernel_rfl) (fun _ _ _ h => h) ⟨by rfl, ?_⟩ (by assumption) ?_
              ·intro w hSw; go_simp; (try with_reducible rfl)
              try simp only [Act.put, tzA, tzB, tzD, tzE, tzF]
              refine tkw 1 (.int .i64 (k : Int)) rfl (by kernel_rfl) (by kernel_rfl) (by kernel_rfl) (fun _ _ _ h => h) ⟨by rfl, ?_⟩ (by assumption) ?_
              ·intro w hSw; go_simp; (try with_reducible rfl)
              try simp only [Act.put, tzA, tzB, tzC, tzD, tzE, tzF]
              refine tkw 2 (.pointer (some (ae.add k))) rfl (by kernel_rfl) (by kernel_rfl) (by kernel_rfl) (fun _ _ _ h => h) ⟨by rfl, ?_⟩ (by assumption) ?_
              ·intro w hSw; go_simp; (try with_reducible rfl)
              try simp only [Act.put, tzA, tzB, tzC, tzD, tzE, tzF]
              refine tkw 3 (.int .i64 t0) rfl (by kernel_rfl) (by kernel_rfl) (by kernel_rfl) (fun _ _ _ h => h) ⟨by rfl, ?_⟩ (by assumption) ?_
              ·intro w hSw; (try dsimp only at hSw); obtain ⟨s0, _⟩ := hSw; go_simp; (try with_reducible rfl)
              try simp only [Act.put, tzA, tzB, tzC, tzD, tzE, tzF]
              refine tkw 4 (.bool false) rfl (by kernel_rfl) (by kernel_rfl) (by kernel_rfl) (fun _ _ _ h => h) ⟨by rfl, ?_⟩ (by assumption) ?_
              ·intro w hSw; go_simp; (try simp only [hm2])
              try simp only [Act.put, tzA, tzB, tzC, tzD, tzE, tzF]
              refine tkw 5 (.bool false) rfl (by kernel_rfl) (by kernel_rfl) (by kernel_rfl) (fun _ _ _ h => h) ⟨by rfl, ?_⟩ (by assumption) ?_
              ·intro w hSw; go_simp; (try with_reducible rfl)
              try simp only [Act.put, tzA, tzB, tzC, tzD, tzE, tzF]
              refine tku 6 rfl (by kernel_rfl) (by kernel_rfl) (by kernel_rfl) (fun _ _ _ h => h) (by kernel_rfl) (by assumption) ?_
              try simp only [Act.put, tzA, tzB, tzC, tzD, tzE, tzF]
              refine tku 7 rfl (by kernel_rfl) (by kernel_rfl) (by kernel_rfl) (fun _ _ _ h => h) (by kernel_rfl) (by assumption) ?_
              try simp only [Act.put, tzA, tzB, tzC, tzD, tzE, tzF]
              refine tku 8 rfl (by kernel_rfl) (by kernel_rfl) (by kernel_rfl) (fun _ _ _ h => h) (by kernel_rfl) (by assumption) ?_
              try simp only [Act.put, tzA, tzB, tzC, tzD, tzE, tzF]
              refine tku 9 rfl (by kernel_rfl) (by kernel_rfl) (by kernel_rfl) (fun _ _ _ h => h) (by kernel_rfl) (by assumption) ?_
              try simp only [Act.put, tzA, tzB, tzC, tzD, tzE, tzF]
              refine tku 10 rfl (by kernel_rfl) (by kernel_rfl) (by kernel_rfl) (fun _ _ _ h => h) (by kernel_rfl) (by assumption) ?_
              try simp only [Act.put, tzA, tzB, tzC, tzD, tzE, tzF]
              refine tku 11 rfl (by kernel_rfl) (by kernel_rfl) (by kernel_rfl) (fun _ _ _ h => h) (by kernel_rfl) (by assumption) ?_
              try simp only [Act.put, tzA, tzB, tzC, tzD, tzE, tzF]
              refine tku 12 rfl (by kernel_rfl) (by kernel_rfl) (by kernel_rfl) (fun _ _ _ h => h) (by kernel_rfl) (by assumption) ?_
              try simp only [Act.put, tzA, tzB, tzC, tzD, tzE, tzF]
              refine tku 13 rfl (by kernel_rfl) (by kernel_rfl) (by kernel_rfl) (fun _ _ _ h => h) (by kernel_rfl) (by assumption) ?_
              try simp only [Act.put, tzA, tzB, tzC, tzD, tzE, tzF]
              refine tku 14 rfl (by kernel_rfl) (by kernel_rfl) (by kernel_rfl) (fun _ _ _ h => h) (by kernel_rfl) (by assumption) ?_
              try simp only [Act.put, tzA, tzB, tzC, tzD, tzE, tzF]
              refine tku 15 rfl (by kernel_rfl) (by kernel_rfl) (by kernel_rfl) (fun _ _ _ h => h) (by kernel_rfl) (by assumption) ?_
              try simp only [Act.put, tzA, tzB, tzC, tzD, tzE, tzF]
              refine tku 16 rfl (by kernel_rfl) (by kernel_rfl) (by kernel_rfl) (fun _ _ _ h => h) (by kernel_rfl) (by assumption) ?_
              try simp only [Act.put, tzA, tzB, tzC, tzD, tzE, tzF]
              refine tkw 17 (.bool false) rfl (by kernel_rfl) (by kernel_rfl) (by kernel_rfl) (fun _ _ _ h => h) ⟨by rfl, ?_⟩ (by assumption) ?_
              ·intro w hSw; go_simp; (try with_reducible rfl)
              try simp only [Act.put, tzA, tzB, tzC, tzD, tzE, tzF]
              refine tkw 18 (.bool false) rfl (by kernel_rfl) (by kernel_rfl) (by kernel_rfl) (fun _ _ _ h => h) ⟨by rfl, ?_⟩ (by assumption) ?_
              ·intro w hSw; go_simp; (try with_reducible rfl)
              try simp only [Act.put, tzA, tzB, tzC, tzD, tzE, tzF]
              refine tkw 19 (.slice (some ae) ats.length ce) rfl (by kernel_rfl) (by kernel_rfl) (by kernel_rfl) (fun _ _ _ h => h) ⟨by kernel_rfl, ?_⟩ (by assumption) ?_
              ·intro w hSw; go_simp; (try with_reducible rfl)
              try simp only [Act.put, tzA, tzB, tzC, tzD, tzE, tzF]
              refine tkw 20 (.int .i64 (k : Int)) rfl (by kernel_rfl) (by kernel_rfl) (by kernel_rfl) (fun _ _ _ h => h) ⟨by kernel_rfl, ?_⟩ (by assumption) ?_
              ·intro w hSw; go_simp; (try with_reducible rfl)
              try simp only [Act.put, tzA, tzB, tzC, tzD, tzE, tzF]
              refine tkw 21 (.pointer (some (ae.add k))) rfl (by kernel_rfl) (by kernel_rfl) (by kernel_rfl) (fun _ _ _ h => h) ⟨by kernel_rfl, ?_⟩ (by assumption) ?_
              ·intro w hSw; go_simp; (try with_reducible rfl)
              try simp only [Act.put, tzA, tzB, tzC, tzD, tzE, tzF]
              refine tkw 22 (.int .i64 t0) rfl (by kernel_rfl) (by kernel_rfl) (by kernel_rfl) (fun _ _ _ h => h) ⟨by kernel_rfl, ?_⟩ (by assumption) ?_
              ·intro w hSw; (try dsimp only at hSw); obtain ⟨s0, _⟩ := hSw; go_simp; (try with_reducible rfl)
              try simp only [Act.put, tzA, tzB, tzC, tzD, tzE, tzF]
              refine tkw 23 (.bool true) rfl (by kernel_rfl) (by kernel_rfl) (by kernel_rfl) (fun _ _ _ h => h) ⟨by kernel_rfl, ?_⟩ (by assumption) ?_
              ·intro w hSw; go_simp; (try simp only [hm3])
              try simp only [Act.put, tzA, tzB, tzC, tzD, tzE, tzF]
              refine tkw 24 (.bool true) rfl (by kernel_rfl) (by kernel_rfl) (by kernel_rfl) (fun _ _ _ h => h) ⟨by kernel_rfl, ?_⟩ (by assumption) ?_
              ·intro w hSw; go_simp; (try with_reducible rfl)
              try simp only [Act.put, tzA, tzB, tzC, tzD, tzE, tzF]
              refine tkw 25 (.slice C caps.length cC) rfl (by kernel_rfl) (by kernel_rfl) (by kernel_rfl) (fun _ _ _ h => h) ⟨by kernel_rfl, ?_⟩ (by assumption) ?_
              ·intro w hSw; go_simp; (try with_reducible rfl)
              try simp only [Act.put, tzA, tzB, tzC, tzD, tzE, tzF]
              refine tkw 26 (.slice (some ad) fs.length d) rfl (by kernel_rfl) (by kernel_rfl) (by kernel_rfl) (fun _ _ _ h => h) ⟨by kernel_rfl, ?_⟩ (by assumption) ?_
              ·intro w hSw; go_simp; (try with_reducible rfl)
              try simp only [Act.put, tzA, tzB, tzC, tzD, tzE, tzF]
              refine tkw 27 (.slice (some ad2) vs.length c) rfl (by kernel_rfl) (by kernel_rfl) (by kernel_rfl) (fun _ _ _ h => h) ⟨by kernel_rfl, ?_⟩ (by assumption) ?_
              ·intro w hSw; go_simp; (try with_reducible rfl)
              try simp only [Act.put, tzA, tzB, tzC, tzD, tzE, tzF]
              refine tkw 28 (.int .i64 (k : Int)) rfl (by kernel_rfl) (by kernel_rfl) (by kernel_rfl) (fun _ _ _ h => h) ⟨by kernel_rfl, ?_⟩ (by assumption) ?_
              ·intro w hSw; go_simp; (try with_reducible rfl)
              try simp only [Act.put, tzA, tzB, tzC, tzD, tzE, tzF]
              refine tkw 29 (.slice (some ae) ats.length ce) rfl (by kernel_rfl) (by kernel_rfl) (by kernel_rfl) (fun _ _ _ h => h) ⟨by kernel_rfl, ?_⟩ (by assumption) ?_
              ·intro w hSw; go_simp; (try with_reducible rfl)
              try simp only [Act.put, tzA, tzB, tzC, tzD, tzE, tzF]
              refine tkw 30 (.int .i64 (k : Int)) rfl (by kernel_rfl) (by kernel_rfl) (by kernel_rfl) (fun _ _ _ h => h) ⟨by kernel_rfl, ?_⟩ (by assumption) ?_
              ·intro w hSw; go_simp; (try with_reducible rfl)
              try simp only [Act.put, tzA, tzB, tzC, tzD, tzE, tzF]
              refine tkw 31 (.pointer (some (ae.add k))) rfl (by kernel_rfl) (by kernel_rfl) (by kernel_rfl) (fun _ _ _ h => h) ⟨by kernel_rfl, ?_⟩ (by assumption) ?_
              ·intro w hSw; go_simp; (try with_reducible rfl)
              try simp only [Act.put, tzA, tzB, tzC, tzD, tzE, tzF]
              refine tkw 32 (.int .i64 t0) rfl (by kernel_rfl) (by kernel_rfl) (by kernel_rfl) (fun _ _ _ h => h) ⟨by kernel_rfl, ?_⟩ (by assumption) ?_
              ·intro w hSw; (try dsimp only at hSw); obtain ⟨s0, _⟩ := hSw; go_simp; (try with_reducible rfl)
              try simp only [Act.put, tzA, tzB, tzC, tzD, tzE, tzF]
              refine wpAnyH_ready (rs := [33]) (by kernel_rfl) (by simp) ?_
              refine AllReadyH.cons rfl (fun K hK => ?_) ?_
              ·go_simp
               go_at_call 50
               refine (rbinds_any wd C _ cC caps (some ad) _ d fs (some ad2) _ c vs k t0 u (HC.out.below (below_on HBW.out bz HBW.out.size)) (HD.out.below (below_on HBW.out bz HBW.out.size)) (HA.out.below (below_on HBW.out bz HBW.out.size)) (HOK.out.below (below_on HBW.out bz HBW.out.size)) HVV.out rfl rfl rfl HVL.out (by omega) hlt HLK.out HSU.out HU.out).mono ?_
               rintro e wd ⟨rfl, bb⟩
               try replace n5 := n5.below bb
               replace bz := below_on bz bb bz.size
               clear bb
               refine hK.out _ _ ⟨HCE.out _ bz, HC1.out _ bz, (E2.out.below bz).c0, (E2.out.below bz).c1, (E2.out.below bz).c2⟩ (fun hHeld => ?_)
               clear hK K
               try simp only [Act.put]
               try simp only [tzD, tzE, tzF]
               refine tkw 34 (.bool (!u)) rfl (by kernel_rfl) (by kernel_rfl) (by kernel_rfl) (fun _ _ _ h => h) ⟨by kernel_rfl, ?_⟩ (by assumption) ?_
               ·intro w hSw; go_simp; (try with_reducible rfl)
               try simp only [Act.put, tzA, tzB, tzC, tzD, tzE, tzF]
               refine tkw 35 (.bool (!u)) rfl (by kernel_rfl) (by kernel_rfl) (by kernel_rfl) (fun _ _ _ h => h) ⟨by kernel_rfl, ?_⟩ (by assumption) ?_
               ·intro w hSw; go_simp; (try with_reducible rfl)
               try simp only [Act.put, tzA, tzB, tzC, tzD, tzE, tzF]
               refine tkw 36 (.bool (!u)) rfl (by kernel_rfl) (by kernel_rfl) (by kernel_rfl) (fun _ _ _ h => h) ⟨by rfl, ?_⟩ (by assumption) ?_
               ·intro w hSw; go_simp; (try with_reducible rfl)
               try simp only [Act.put, tzA, tzB, tzC, tzD, tzE, tzF]
               refine wpAnyH_done (by kernel_rfl) ?_ _
               go_wp2_with fail
               go_meet
               case rel => exact ⟨HP.out, bz⟩
              exact AllReadyH.nil
            case rest =>
             obtain ⟨⟨bad, rfl, hbad⟩, bb⟩ := hcut
             replace bw := below_on bw bb bw.size
             cases bad with
             | true =>
               have HBB : Hid (b = false) := Lib.hid (HBF.out (fun h => hbad.1 rfl (h.at_ k (by simpa using hlt))))
               clear hbad
               go_wp2_with fail
               go_ret
               exact ⟨ret_bool HBB.out.symm, bw⟩
             | false =>
               have HNX : Hid (∀ t, t < k + 1 → atP (cpF caps) (fs.map Fm.fl) (vs.map Fx.q) ats t) := Lib.hid (fun t htk => by
                rcases Nat.lt_or_ge t k with h1 | h1
                ·exact HGOOD.out t h1
                ·obtain rfl : t = k := by omega
                 exact Classical.byContradiction fun h => by have := hbad.2 h; cases this)
               clear hbad
               go_wp2_with fail
               go_roundw
               case rel => exact ⟨k + 1, by omega, by go_num, HNX.out, bw⟩
               case measure => simp [intOf]; omega
           ·have HBB : Hid (b = true) := Lib.hid (HB.out.1 ⟨HV.out, by rw [List.length_map]; exact HVL.out, by rw [List.length_map]; exact HAL.out, HVV.out, fun i hi => by
             have hiv : i < vs.length := by rw [List.length_map] at hi; rw [HVL.out]; exact hi
             rw [map_q_getD vs hiv]
             exact HFE.out.1 i hiv, fun k hk => by rw [List.length_map]; exact HFE.out.2 k hk, fun i hi => HGOOD.out i (by rw [List.length_map] at hi; omega)⟩)
            go_wp2_with fail
            go_ret
            exact ⟨ret_bool HBB.out.symm, bw⟩
   ·have HVD := Lib.hid (decide_eq_true hv)
    have t1 : ((vs.length : Int) != (fs.length : Int)) = false := by simp [hl1]
    have t2 : ((ats.length : Int) != (fs.length : Int)) = true := by rw [bne, beq_eq_false_iff_ne.2 (by omega)]; rfl
    have HBB : Hid (b = false) := Lib.hid (HBF.out (fun h => hl2 (by have := h.la; rwa [List.length_map] at this)))
    clear hv hl1 hl2
    go_enter Try.func31, Try.ntmps31
    go_wp2_with fail
    refine (rvalid_any w C _ cC caps D _ d fs true HC.out HD.out rfl rfl HVD.out).mono ?_
    rintro e w1 ⟨rfl, rfl⟩
    go_wp2_with fail
    go_ret
    exact ⟨ret_bool HBB.out.symm, Below.refl _ _⟩
  ·have HVD := Lib.hid (decide_eq_true hv)
   have t1 : ((vs.length : Int) != (fs.length : Int)) = true := by rw [bne, beq_eq_false_iff_ne.2 (by omega)]; rfl
   have HBB : Hid (b = false) := Lib.hid (HBF.out (fun h => hl1 (by have := h.lv; rwa [List.length_map] at this)))
   clear hv hl1
   go_enter Try.func31, Try.ntmps31
   go_wp2_with fail
   refine (rvalid_any w C _ cC caps D _ d fs true HC.out HD.out rfl rfl HVD.out).mono ?_
   rintro e w1 ⟨rfl, rfl⟩
   go_wp2_with fail
   go_ret
   exact ⟨ret_bool HBB.out.symm, Below.refl _ _⟩
 ·have HVD := Lib.hid (decide_eq_false hv)
  have HBB : Hid (b = false) := Lib.hid (HBF.out (fun h => hv h.vl))
  clear hv
  go_enter Try.func31, Try.ntmps31
  go_wp2_with fail
  refine (rvalid_any w C _ cC caps D _ d fs false HC.out HD.out rfl rfl HVD.out).mono ?_
  rintro e w1 ⟨rfl, rfl⟩
  go_wp2_with fail
  go_ret
  exact ⟨ret_bool HBB.out.symm, Below.refl _ _⟩
end Go.Proofs.Ythdfflbhogfejaa
