/- The walk of the reference's Bottlenecks. -/
import Derived.Test.YthdfflbhogfejaaFhO
import Derived.Test.YthdfflbhogfejaaTrX
namespace Go.Proofs.Ythdfflbhogfejaa
set_option maxRecDepth 100000
open Go.RowKit

/-- a full link on which nobody has more -/
theorem limP_full {caps : List Int} {l : List Fl} (h : validFl caps l) (h14 : l.length ≤ 14) {i : Nat} (hi : i < l.length) {k : Int} (hk : k ∈ lkA l i) :
 (k ∈ lkA l i ∧ (∃ q, loadE l (ratesM (cpF caps) l caps.length) k l.length = some q ∧ (cpF caps k : Rat) ≤ q) ∧ ∀ j, j < l.length → k ∈ lkA l j → (ratesM (cpF caps) l caps.length).getD j 0 ≤ (ratesM (cpF caps) l caps.length).getD i 0) ↔ decide (limP (cpF caps) l (ratesM (cpF caps) l caps.length) k i) = true := by
 rw [decide_eq_true_iff, rates_limP h h14, rates_load h h14]
 have hb := h.okR.lk i hi k hk
 have hc := (ratesM_cert h.okR).cap k.toNat (by omega)
 rw [Int.toNat_of_nonneg hb.1] at hc
 constructor
 ·rintro ⟨_, ⟨q, h1, h2⟩, h3⟩
  cases h1
  exact ⟨by grind, h3⟩
 ·rintro ⟨h1, h2⟩
  exact ⟨hk, ⟨_, rfl, by rw [h1]; exact Rat.le_refl⟩, h2⟩
/-- what the inner loop has found: nothing as yet, or the bottleneck -/
def botS (cp : Int → Int) (l : List Fl) (R : List Rat) (i : Nat) (ls : List Int) (u : Nat) (a : Int) : Prop :=
 (a = -1 ∧ (u = 0 ∨ R.getD i 0 < (lmA l i : Rat)) ∧ ∀ t (h : t < ls.length), t < u → ¬ limP cp l R ls[t] i) ∨ (R.getD i 0 < (lmA l i : Rat) ∧ a = botA cp l R i ∧ 0 ≤ a)
theorem botS_end {cp : Int → Int} {l : List Fl} {R : List Rat} {i : Nat} {u : Nat} {a : Int} (h : botS cp l R i (lkA l i) u a) (hu : u ≤ (lkA l i).length) (hle : R.getD i 0 ≤ (lmA l i : Rat)) (hc : ¬ (u < (lkA l i).length ∧ R.getD i 0 < (lmA l i : Rat) ∧ a < 0)) : a = botA cp l R i := by
 rcases h with ⟨h1, h2, h3⟩ | ⟨_, h2, _⟩
 ·by_cases he : R.getD i 0 = (lmA l i : Rat)
  ·rw [botA, if_pos he]; exact h1
  ·have hlt : R.getD i 0 < (lmA l i : Rat) := by grind
   have hul : u = (lkA l i).length := by
    rcases Nat.lt_or_ge u (lkA l i).length with h4 | h4
    ·exact absurd ⟨h4, hlt, by omega⟩ hc
    ·omega
   rw [botA, if_neg he, find_none (fun t ht => decide_eq_false (h3 t ht (by omega)))]
   exact h1
 ·exact h2
set_option maxHeartbeats 6400000 in
theorem rbot_ok (w : World) (A : Option Addr) (n c : Nat) (caps : List Int) (D : Option Addr) (m d : Nat) (fs : List Fm) (hA : Is w A c caps) (hD : Ws w D d fs) (hn : n = caps.length) (hm : m = fs.length) (hv : validFl caps (fs.map Fm.fl)) (h14 : fs.length ≤ 14) :
 Calls Try.prog 28 #[.slice A n c, .slice D m d] w fun e w' => ∃ A' c', e = .returned (.tuple #[.slice A' (botM (cpF caps) (fs.map Fm.fl) (ratesM (cpF caps) (fs.map Fm.fl) caps.length)).length c', .int .i64 0]) ∧ Gr iv 3 w' w.heap.size A' c' (botM (cpF caps) (fs.map Fm.fl) (ratesM (cpF caps) (fs.map Fm.fl) caps.length)) ∧ Below w.heap.size w w' := by
 have HA := Lib.hid hA; clear hA
 have HD := Lib.hid hD; clear hD
 have HV := Lib.hid hv; clear hv
 have hdcap := HD.out.cap
 have hdmax := HD.out.max
 have hclen : caps.length ≤ 64 := HV.out.1
 subst hn hm
 obtain ⟨i1, hi, hi0, hi1, hi2⟩ := info_parts int_info
 go_enter Try.func28, Try.ntmps28
 go_wp2_with fail
 refine (rrates_ok w A _ c caps D _ d fs HA.out HD.out rfl rfl HV.out h14).mono ?_
 rintro e w1 ⟨AR, vs, rfl, hq, hvl, hvq, bw1⟩
 have hR : vs.map Fx.q = ratesM (cpF caps) (fs.map Fm.fl) caps.length := rates_map (by rw [hvl, ratesM_len HV.out.okR, List.length_map]) (fun i hi => (hvq i hi).2)
 have HR := Lib.hid hR
 have HRD := Lib.hid hq.fr.rd
 have HVV : Hid (∀ v ∈ vs, v.v) := Lib.hid (fun v hv => by
  obtain ⟨i, hi, rfl⟩ := List.getElem_of_mem hv
  exact (hvq i hi).2.v)
 have HOK : Hid (OkF w1 vs) := Lib.hid (fun v hv => by
  refine ⟨hq.ok v hv, ?_⟩
  obtain ⟨i, hi, rfl⟩ := List.getElem_of_mem hv
  exact ⟨(hvq i hi).2.l, (hvq i hi).2.m⟩)
 have HVL := Lib.hid hvl
 have HBW1 := Lib.hid bw1
 have HBD : Hid (∀ i, i < fs.length → (vs.map Fx.q).getD i 0 ≤ (lmA (fs.map Fm.fl) i : Rat)) := Lib.hid (fun i hi => by rw [hR]; exact ((ratesM_cert HV.out.okR).nn i (by simpa using hi)).2)
 have HLD : Hid (∀ k : Nat, k < caps.length → ∃ q, loadE (fs.map Fm.fl) (vs.map Fx.q) (k : Int) fs.length = some q) := Lib.hid (fun k hk => by
  have := rates_load HV.out (by rw [List.length_map]; exact h14) (k : Int)
  rw [List.length_map] at this
  rw [hR]; exact ⟨_, this⟩)
 have HBI : Hid (∀ i k, i < fs.length → k ∈ lkA (fs.map Fm.fl) i → ((k ∈ lkA (fs.map Fm.fl) i ∧ (∃ q, loadE (fs.map Fm.fl) (vs.map Fx.q) k fs.length = some q ∧ (cpF caps k : Rat) ≤ q) ∧ ∀ j, j < fs.length → k ∈ lkA (fs.map Fm.fl) j → (vs.map Fx.q).getD j 0 ≤ (vs.map Fx.q).getD i 0) ↔ decide (limP (cpF caps) (fs.map Fm.fl) (vs.map Fx.q) k i) = true)) := Lib.hid (fun i k hi hk => by
  have := limP_full HV.out (by rw [List.length_map]; exact h14) (i := i) (by simpa using hi) hk
  rw [List.length_map] at this
  rw [hR]; exact this)
 have HB0 : Hid (botM (cpF caps) (fs.map Fm.fl) (ratesM (cpF caps) (fs.map Fm.fl) caps.length) = (List.range fs.length).map (botA (cpF caps) (fs.map Fm.fl) (vs.map Fx.q))) := Lib.hid (by rw [← hR, botM, List.length_map])
 clear hq hvl hvq hR bw1
 go_wp2_with fail
 go_loopw [8, 9] (fun ov jv wr => ∃ (k : Nat) (A8 : Option Addr) (c8 : Nat), k ≤ fs.length ∧ jv = .int .i64 k ∧ ov = .slice A8 k c8 ∧ Gr iv 3 wr w1.heap.size A8 c8 ((List.range k).map (botA (cpF caps) (fs.map Fm.fl) (vs.map Fx.q))) ∧ Below w1.heap.size w1 wr) (fun _ jv _ => fs.length - (intOf jv).toNat)
 case atStart => exact ⟨0, none, 0, by omega, rfl, rfl, Gr.nil _ _, Below.refl _ _⟩
 case round =>
  obtain ⟨k, A8, c8, hk, rfl, rfl, hG, bz⟩ := hrel
  have HG := Lib.hid hG
  have HBZ := Lib.hid bz
  clear hG bz
  by_cases hlt : k < fs.length
  ·obtain ⟨ad, rfl, _, hcc⟩ := HD.out.rd (by omega)
   obtain ⟨hc0, hc1⟩ := hcc k hlt
   have hok := HD.out.ok _ (List.getElem_mem hlt)
   have hgl := fl_get hlt
   obtain ⟨x, hx⟩ : ∃ x, fs[k] = x := ⟨_, rfl⟩
   rw [hx] at hc0 hc1 hok hgl
   have HGL := Lib.hid hgl
   have HXO := Lib.hid hok
   have HXM : Hid (0 ≤ x.m ∧ x.m ≤ 4096) := Lib.hid (by
    have := HV.out.lm k (by simpa using hlt)
    rw [hgl.2] at this; exact this)
   have HLK : Hid (∀ e ∈ x.ls, 0 ≤ e ∧ e < (caps.length : Int)) := Lib.hid (fun e he => HV.out.okR.lk k (by simpa using hlt) e (by rw [hgl.1]; exact he))
   have HC0 : Hid (∀ w', Below w.heap.size w w' → w'.cell? (ad.add (k * 2)) = some (.slice x.A x.ls.length x.c) ∧ w'.cell? ⟨(ad.add (k * 2)).block, (ad.add (k * 2)).off + 1, none⟩ = some (.int .i64 x.m)) := Lib.hid (fun w' hb =>
    ⟨(hb.cell (p := ad.add (k * 2)) (World.block_lt_of_cell? w _ hc0)).trans hc0, (hb.cell (p := ⟨(ad.add (k * 2)).block, (ad.add (k * 2)).off + 1, none⟩) (World.block_lt_of_cell? w _ hc1)).trans hc1⟩)
   clear hcc hx hgl hok hc0 hc1
   have hkv : k < vs.length := by rw [HVL.out]; exact hlt
   have hmk := map_q_getD vs hkv
   have hn2 := okf_nm HOK.out HVV.out hkv
   obtain ⟨ad2, rfl, e2⟩ := HRD.out.at k hkv
   obtain ⟨x2, hx2⟩ : ∃ x2, vs[k] = x2 := ⟨_, rfl⟩
   rw [hx2] at hmk hn2 e2
   have HMK := Lib.hid hmk
   have N2 := Lib.hid hn2
   have E2 := Lib.hid e2
   clear hmk hn2 e2 hx2
   obtain ⟨lb, hlb⟩ : ∃ lb, decide (x2.q < (x.m : Rat)) = lb := ⟨_, rfl⟩
   have HU := Lib.hid hlb
   have HBS0 : Hid (botS (cpF caps) (fs.map Fm.fl) (vs.map Fx.q) k x.ls 0 (-1)) := Lib.hid (.inl ⟨rfl, .inl rfl, fun t _ h => by omega⟩)
   clear hlb
   have hxcap := HXO.out.is.cap
   have hxlen := HXO.out.is.len
   go_wp2_with fail
   go_loopw [10, 11] (fun av jv wr => ∃ (u : Nat) (a : Int), u ≤ x.ls.length ∧ jv = .int .i64 u ∧ av = .int .i64 a ∧ -9223372036854775808 ≤ a ∧ a ≤ 9223372036854775807 ∧ botS (cpF caps) (fs.map Fm.fl) (vs.map Fx.q) k x.ls u a ∧ Gr iv 3 wr w1.heap.size A8 c8 ((List.range k).map (botA (cpF caps) (fs.map Fm.fl) (vs.map Fx.q))) ∧ Below w1.heap.size w1 wr) (fun _ jv _ => x.ls.length - (intOf jv).toNat)
   case atStart => exact ⟨0, -1, by omega, rfl, rfl, by omega, by omega, HBS0.out, HG.out, HBZ.out⟩
   case round =>
    clear HG HBZ HBS0
    obtain ⟨u, a, hu, rfl, rfl, ha0, ha1, hS, hG, bz⟩ := hrel
    have HS := Lib.hid hS
    have HG := Lib.hid hG
    have HBZ := Lib.hid bz
    clear hS hG bz
    go_upto_region 10 with fail
    go_cut [51] (fun s51 w2 => s51 = .bool (decide (u < x.ls.length ∧ lb = true ∧ a < 0)) ∧ Below wr.heap.size wr w2)
    case first =>
     by_cases hux : u < x.ls.length
     ·have hud : decide ((u : Int) < (x.ls.length : Int)) = true := decide_eq_true (by omega)
      cases lb with
      | false =>
        have HP : Hid (Value.bool false = .bool (decide (u < x.ls.length ∧ false = true ∧ a < 0))) := Lib.hid (by rw [decide_eq_false (fun h => by cases h.2.1)])
        refine wp_region_held_drew (S := fun w' => (w'.cell? (ad.add (k * 2)) = some (.slice x.A x.ls.length x.c) ∧ w'.cell? ⟨(ad.add (k * 2)).block, (ad.add (k * 2)).off + 1, none⟩ = some (.int .i64 x.m)) ∧ (w'.cell? (ad2.add (k * 3)) = some (.bool x2.b) ∧ w'.cell? ⟨(ad2.add (k * 3)).block, (ad2.add (k * 3)).off + 1, none⟩ = some (.slice x2.A x2.xs.length x2.c) ∧ w'.cell? ⟨(ad2.add (k * 3)).block, (ad2.add (k * 3)).off + 2, none⟩ = some (.slice x2.D x2.ys.length x2.d))) (by kernel_rfl) ⟨HC0.out _ (below_on HBW1.out (below_on HBZ.out ((Below.refl wr.heap.size wr).drew) HBZ.out.size) HBW1.out.size), (E2.out.below (below_on HBZ.out ((Below.refl wr.heap.size wr).drew) HBZ.out.size)).c0, (E2.out.below (below_on HBZ.out ((Below.refl wr.heap.size wr).drew) HBZ.out.size)).c1, (E2.out.below (below_on HBZ.out ((Below.refl wr.heap.size wr).drew) HBZ.out.size)).c2⟩ (fun hHeld => ?_)
        have bz := (Below.refl wr.heap.size wr).drew
        generalize wr.drew = wd at *
        refine tkw 0 (.int .i64 (u : Int)) rfl (by kernel_rfl) (by kernel_rfl) (by kernel_rfl) (fun _ _ _ h => h) ⟨by rfl, ?_⟩ (by assumption) ?_
        ·intro w hSw; go_simp; (try with_reducible rfl)
        try simp only [Act.put, tzA, tzB, tzD, tzE, tzF]
        refine tkw 1 (.slice (some ad) fs.length d) rfl (by kernel_rfl) (by kernel_rfl) (by kernel_rfl) (fun _ _ _ h => h) ⟨by rfl, ?_⟩ (by assumption) ?_
        ·intro w hSw; go_simp; (try with_reducible rfl)
        try simp only [Act.put, tzA, tzB, tzC, tzD, tzE, tzF]
        refine tkw 2 (.int .i64 (k : Int)) rfl (by kernel_rfl) (by kernel_rfl) (by kernel_rfl) (fun _ _ _ h => h) ⟨by rfl, ?_⟩ (by assumption) ?_
        ·intro w hSw; go_simp; (try with_reducible rfl)
        try simp only [Act.put, tzA, tzB, tzC, tzD, tzE, tzF]
        refine tkw 3 (.pointer (some (ad.add (k * 2)))) rfl (by kernel_rfl) (by kernel_rfl) (by kernel_rfl) (fun _ _ _ h => h) ⟨by rfl, ?_⟩ (by assumption) ?_
        ·intro w hSw; go_simp; (try with_reducible rfl)
        try simp only [Act.put, tzA, tzB, tzC, tzD, tzE, tzF]
        refine tkw 4 (.pointer (some (ad.add (k * 2)))) rfl (by kernel_rfl) (by kernel_rfl) (by kernel_rfl) (fun _ _ _ h => h) ⟨by rfl, ?_⟩ (by assumption) ?_
        ·intro w hSw; go_simp; (try with_reducible rfl)
        try simp only [Act.put, tzA, tzB, tzC, tzD, tzE, tzF]
        refine tkw 5 (.slice x.A x.ls.length x.c) rfl (by kernel_rfl) (by kernel_rfl) (by kernel_rfl) (fun _ _ _ h => h) ⟨by rfl, ?_⟩ (by assumption) ?_
        ·intro w hSw; (try dsimp only at hSw); obtain ⟨⟨s0, s1⟩, _⟩ := hSw; go_simp; (try with_reducible rfl)
        try simp only [Act.put, tzA, tzB, tzC, tzD, tzE, tzF]
        refine tkw 6 (.int .i64 (x.ls.length : Int)) rfl (by kernel_rfl) (by kernel_rfl) (by kernel_rfl) (fun _ _ _ h => h) ⟨by rfl, ?_⟩ (by assumption) ?_
        ·intro w hSw; go_simp; (try with_reducible rfl)
        try simp only [Act.put, tzA, tzB, tzC, tzD, tzE, tzF]
        refine tkw 7 (.bool true) rfl (by kernel_rfl) (by kernel_rfl) (by kernel_rfl) (fun _ _ _ h => h) ⟨by rfl, ?_⟩ (by assumption) ?_
        ·intro w hSw; go_simp; (try simp only [hud])
        try simp only [Act.put, tzA, tzB, tzC, tzD, tzE, tzF]
        refine tkw 8 (.bool true) rfl (by kernel_rfl) (by kernel_rfl) (by kernel_rfl) (fun _ _ _ h => h) ⟨by rfl, ?_⟩ (by assumption) ?_
        ·intro w hSw; go_simp; (try with_reducible rfl)
        try simp only [Act.put, tzA, tzB, tzC, tzD, tzE, tzF]
        refine tkw 9 (.slice (some ad2) vs.length vs.length) rfl (by kernel_rfl) (by kernel_rfl) (by kernel_rfl) (fun _ _ _ h => h) ⟨by kernel_rfl, ?_⟩ (by assumption) ?_
        ·intro w hSw; go_simp; (try with_reducible rfl)
        try simp only [Act.put, tzA, tzB, tzC, tzD, tzE, tzF]
        refine tkw 10 (.int .i64 (k : Int)) rfl (by kernel_rfl) (by kernel_rfl) (by kernel_rfl) (fun _ _ _ h => h) ⟨by kernel_rfl, ?_⟩ (by assumption) ?_
        ·intro w hSw; go_simp; (try with_reducible rfl)
        try simp only [Act.put, tzA, tzB, tzC, tzD, tzE, tzF]
        refine tkw 11 (.pointer (some (ad2.add (k * 3)))) rfl (by kernel_rfl) (by kernel_rfl) (by kernel_rfl) (fun _ _ _ h => h) ⟨by kernel_rfl, ?_⟩ (by assumption) ?_
        ·intro w hSw; go_simp; (try with_reducible rfl)
        try simp only [Act.put, tzA, tzB, tzC, tzD, tzE, tzF]
        refine tkw 12 (x2.val) rfl (by kernel_rfl) (by kernel_rfl) (by kernel_rfl) (fun _ _ _ h => h) ⟨by kernel_rfl, ?_⟩ (by assumption) ?_
        ·intro w hSw; (try dsimp only at hSw); obtain ⟨_, s0, s1, s2⟩ := hSw; go_simp; (try with_reducible rfl)
        try simp only [Act.put, tzA, tzB, tzC, tzD, tzE, tzF]
        refine tkw 13 (.slice (some ad) fs.length d) rfl (by kernel_rfl) (by kernel_rfl) (by kernel_rfl) (fun _ _ _ h => h) ⟨by kernel_rfl, ?_⟩ (by assumption) ?_
        ·intro w hSw; go_simp; (try with_reducible rfl)
        try simp only [Act.put, tzA, tzB, tzC, tzD, tzE, tzF]
        refine tkw 14 (.int .i64 (k : Int)) rfl (by kernel_rfl) (by kernel_rfl) (by kernel_rfl) (fun _ _ _ h => h) ⟨by kernel_rfl, ?_⟩ (by assumption) ?_
        ·intro w hSw; go_simp; (try with_reducible rfl)
        try simp only [Act.put, tzA, tzB, tzC, tzD, tzE, tzF]
        refine tkw 15 (.pointer (some (ad.add (k * 2)))) rfl (by kernel_rfl) (by kernel_rfl) (by kernel_rfl) (fun _ _ _ h => h) ⟨by kernel_rfl, ?_⟩ (by assumption) ?_
        ·intro w hSw; go_simp; (try with_reducible rfl)
        try simp only [Act.put, tzA, tzB, tzC, tzD, tzE, tzF]
        refine tkw 16 (.pointer (some ⟨(ad.add (k * 2)).block, (ad.add (k * 2)).off + 1, none⟩)) rfl (by kernel_rfl) (by kernel_rfl) (by kernel_rfl) (fun _ _ _ h => h) ⟨by kernel_rfl, ?_⟩ (by assumption) ?_
        ·intro w hSw; go_simp; (try with_reducible rfl)
        try simp only [Act.put, tzA, tzB, tzC, tzD, tzE, tzF]
        refine tkw 17 (.int .i64 x.m) rfl (by kernel_rfl) (by kernel_rfl) (by kernel_rfl) (fun _ _ _ h => h) ⟨by kernel_rfl, ?_⟩ (by assumption) ?_
        ·intro w hSw; (try dsimp only at hSw); obtain ⟨⟨s0, s1⟩, _⟩ := hSw; go_simp; (try with_reducible rfl)
        try simp only [Act.put, tzA, tzB, tzC, tzD, tzE, tzF]
        refine wpAnyH_ready (rs := [18]) (by kernel_rfl) (by simp) ?_
        refine AllReadyH.cons rfl (fun K hK => ?_) ?_
        ·go_simp
         go_at_call 34
         refine (rwhole_any wd x.m (by have := HXM.out; omega) (by have := HXM.out; omega)).mono ?_
         rintro e wd ⟨y2, rfl, _, n5, bb⟩
         try replace n5 := n5.below bb
         replace bz := below_on bz bb bz.size
         clear bb
         refine hK.out _ _ ⟨HC0.out _ (below_on HBW1.out (below_on HBZ.out bz HBZ.out.size) HBW1.out.size), (E2.out.below (below_on HBZ.out bz HBZ.out.size)).c0, (E2.out.below (below_on HBZ.out bz HBZ.out.size)).c1, (E2.out.below (below_on HBZ.out bz HBZ.out.size)).c2⟩ (fun hHeld => ?_)
         clear hK K
         try simp only [Act.put]
         try simp only [tzD, tzE, tzF]
         refine wpAnyH_ready (rs := [19]) (by kernel_rfl) (by simp) ?_
         refine AllReadyH.cons rfl (fun K hK => ?_) ?_
         ·go_simp
          go_at_call 33
          refine (rless_any wd x2 y2 x2.q (x.m : Rat) false (N2.out.below (below_on HBZ.out bz HBZ.out.size)) n5 HU.out).mono ?_
          rintro e wd ⟨rfl, bb⟩
          clear n5
          try replace n5 := n5.below bb
          replace bz := below_on bz bb bz.size
          clear bb
          refine hK.out _ _ ⟨HC0.out _ (below_on HBW1.out (below_on HBZ.out bz HBZ.out.size) HBW1.out.size), (E2.out.below (below_on HBZ.out bz HBZ.out.size)).c0, (E2.out.below (below_on HBZ.out bz HBZ.out.size)).c1, (E2.out.below (below_on HBZ.out bz HBZ.out.size)).c2⟩ (fun hHeld => ?_)
          clear hK K
          try simp only [Act.put]
          try simp only [tzD, tzE, tzF]
          refine tkw 20 (.bool false) rfl (by kernel_rfl) (by kernel_rfl) (by kernel_rfl) (fun _ _ _ h => h) ⟨by rfl, ?_⟩ (by assumption) ?_
          ·intro w hSw; go_simp; (try with_reducible rfl)
          try simp only [Act.put, tzA, tzB, tzC, tzD, tzE, tzF]
          refine tkw 21 (.bool false) rfl (by kernel_rfl) (by kernel_rfl) (by kernel_rfl) (fun _ _ _ h => h) ⟨by rfl, ?_⟩ (by assumption) ?_
          ·intro w hSw; go_simp; (try with_reducible rfl)
          try simp only [Act.put, tzA, tzB, tzC, tzD, tzE, tzF]
          refine tku 22 rfl (by kernel_rfl) (by kernel_rfl) (by kernel_rfl) (fun _ _ _ h => h) (by kernel_rfl) (by assumption) ?_
          try simp only [Act.put, tzA, tzB, tzC, tzD, tzE, tzF]
          refine tku 23 rfl (by kernel_rfl) (by kernel_rfl) (by kernel_rfl) (fun _ _ _ h => h) (by kernel_rfl) (by assumption) ?_
          try simp only [Act.put, tzA, tzB, tzC, tzD, tzE, tzF]
          refine tkw 24 (.bool false) rfl (by kernel_rfl) (by kernel_rfl) (by kernel_rfl) (fun _ _ _ h => h) ⟨by rfl, ?_⟩ (by assumption) ?_
          ·intro w hSw; go_simp; (try with_reducible rfl)
          try simp only [Act.put, tzA, tzB, tzC, tzD, tzE, tzF]
          refine wpAnyH_done (by kernel_rfl) ?_ _
          go_wp2_with fail
          go_meet
          case rel => exact ⟨HP.out, bz⟩
         exact AllReadyH.nil
        exact AllReadyH.nil
      | true =>
        have HP : Hid (Value.bool (decide (a < 0)) = .bool (decide (u < x.ls.length ∧ true = true ∧ a < 0))) := Lib.hid (by
         congr 1
         rw [decide_eq_decide]
         exact ⟨fun h => ⟨hux, rfl, h⟩, fun h => h.2.2⟩)
        refine wp_region_held_drew (S := fun w' => (w'.cell? (ad.add (k * 2)) = some (.slice x.A x.ls.length x.c) ∧ w'.cell? ⟨(ad.add (k * 2)).block, (ad.add (k * 2)).off + 1, none⟩ = some (.int .i64 x.m)) ∧ (w'.cell? (ad2.add (k * 3)) = some (.bool x2.b) ∧ w'.cell? ⟨(ad2.add (k * 3)).block, (ad2.add (k * 3)).off + 1, none⟩ = some (.slice x2.A x2.xs.length x2.c) ∧ w'.cell? ⟨(ad2.add (k * 3)).block, (ad2.add (k * 3)).off + 2, none⟩ = some (.slice x2.D x2.ys.length x2.d))) (by kernel_rfl) ⟨HC0.out _ (below_on HBW1.out (below_on HBZ.out ((Below.refl wr.heap.size wr).drew) HBZ.out.size) HBW1.out.size), (E2.out.below (below_on HBZ.out ((Below.refl wr.heap.size wr).drew) HBZ.out.size)).c0, (E2.out.below (below_on HBZ.out ((Below.refl wr.heap.size wr).drew) HBZ.out.size)).c1, (E2.out.below (below_on HBZ.out ((Below.refl wr.heap.size wr).drew) HBZ.out.size)).c2⟩ (fun hHeld => ?_)
        have bz := (Below.refl wr.heap.size wr).drew
        generalize wr.drew = wd at *
        refine tkw 0 (.int .i64 (u : Int)) rfl (by kernel_rfl) (by kernel_rfl) (by kernel_rfl) (fun _ _ _ h => h) ⟨by rfl, ?_⟩ (by assumption) ?_
        ·intro w hSw; go_simp; (try with_reducible rfl)
        try simp only [Act.put, tzA, tzB, tzD, tzE, tzF]
        refine tkw 1 (.slice (some ad) fs.length d) rfl (by kernel_rfl) (by kernel_rfl) (by kernel_rfl) (fun _ _ _ h => h) ⟨by rfl, ?_⟩ (by assumption) ?_
        ·intro w hSw; go_simp; (try with_reducible rfl)
        try simp only [Act.put, tzA, tzB, tzC, tzD, tzE, tzF]
        refine tkw 2 (.int .i64 (k : Int)) rfl (by kernel_rfl) (by kernel_rfl) (by kernel_rfl) (fun _ _ _ h => h) ⟨by rfl, ?_⟩ (by assumption) ?_
        ·intro w hSw; go_simp; (try with_reducible rfl)
        try simp only [Act.put, tzA, tzB, tzC, tzD, tzE, tzF]
        refine tkw 3 (.pointer (some (ad.add (k * 2)))) rfl (by kernel_rfl) (by kernel_rfl) (by kernel_rfl) (fun _ _ _ h => h) ⟨by rfl, ?_⟩ (by assumption) ?_
        ·intro w hSw; go_simp; (try with_reducible rfl)
        try simp only [Act.put, tzA, tzB, tzC, tzD, tzE, tzF]
        refine tkw 4 (.pointer (some (ad.add (k * 2)))) rfl (by kernel_rfl) (by kernel_rfl) (by kernel_rfl) (fun _ _ _ h => h) ⟨by rfl, ?_⟩ (by assumption) ?_
        ·intro w hSw; go_simp; (try with_reducible rfl)
        try simp only [Act.put, tzA, tzB, tzC, tzD, tzE, tzF]
        refine tkw 5 (.slice x.A x.ls.length x.c) rfl (by kernel_rfl) (by kernel_rfl) (by kernel_rfl) (fun _ _ _ h => h) ⟨by rfl, ?_⟩ (by assumption) ?_
        ·intro w hSw; (try dsimp only at hSw); obtain ⟨⟨s0, s1⟩, _⟩ := hSw; go_simp; (try with_reducible rfl)
        try simp only [Act.put, tzA, tzB, tzC, tzD, tzE, tzF]
        refine tkw 6 (.int .i64 (x.ls.length : Int)) rfl (by kernel_rfl) (by kernel_rfl) (by kernel_rfl) (fun _ _ _ h => h) ⟨by rfl, ?_⟩ (by assumption) ?_
        ·intro w hSw; go_simp; (try with_reducible rfl)
        try simp only [Act.put, tzA, tzB, tzC, tzD, tzE, tzF]
        refine tkw 7 (.bool true) rfl (by kernel_rfl) (by kernel_rfl) (by kernel_rfl) (fun _ _ _ h => h) ⟨by rfl, ?_⟩ (by assumption) ?_
        ·intro w hSw; go_simp; (try simp only [hud])
        try simp only [Act.put, tzA, tzB, tzC, tzD, tzE, tzF]
        refine tkw 8 (.bool true) rfl (by kernel_rfl) (by kernel_rfl) (by kernel_rfl) (fun _ _ _ h => h) ⟨by rfl, ?_⟩ (by assumption) ?_
        ·intro w hSw; go_simp; (try with_reducible rfl)
        try simp only [Act.put, tzA, tzB, tzC, tzD, tzE, tzF]
        refine tkw 9 (.slice (some ad2) vs.length vs.length) rfl (by kernel_rfl) (by kernel_rfl) (by kernel_rfl) (fun _ _ _ h => h) ⟨by kernel_rfl, ?_⟩ (by assumption) ?_
        ·intro w hSw; go_simp; (try with_reducible rfl)
        try simp only [Act.put, tzA, tzB, tzC, tzD, tzE, tzF]
        refine tkw 10 (.int .i64 (k : Int)) rfl (by kernel_rfl) (by kernel_rfl) (by kernel_rfl) (fun _ _ _ h => h) ⟨by kernel_rfl, ?_⟩ (by assumption) ?_
        ·intro w hSw; go_simp; (try with_reducible rfl)
        try simp only [Act.put, tzA, tzB, tzC, tzD, tzE, tzF]
        refine tkw 11 (.pointer (some (ad2.add (k * 3)))) rfl (by kernel_rfl) (by kernel_rfl) (by kernel_rfl) (fun _ _ _ h => h) ⟨by kernel_rfl, ?_⟩ (by assumption) ?_
        ·intro w hSw; go_simp; (try with_reducible rfl)
        try simp only [Act.put, tzA, tzB, tzC, tzD, tzE, tzF]
        refine tkw 12 (x2.val) rfl (by kernel_rfl) (by kernel_rfl) (by kernel_rfl) (fun _ _ _ h => h) ⟨by kernel_rfl, ?_⟩ (by assumption) ?_
        ·intro w hSw; (try dsimp only at hSw); obtain ⟨_, s0, s1, s2⟩ := hSw; go_simp; (try with_reducible rfl)
        try simp only [Act.put, tzA, tzB, tzC, tzD, tzE, tzF]
        refine tkw 13 (.slice (some ad) fs.length d) rfl (by kernel_rfl) (by kernel_rfl) (by kernel_rfl) (fun _ _ _ h => h) ⟨by kernel_rfl, ?_⟩ (by assumption) ?_
        ·intro w hSw; go_simp; (try with_reducible rfl)
        try simp only [Act.put, tzA, tzB, tzC, tzD, tzE, tzF]
        refine tkw 14 (.int .i64 (k : Int)) rfl (by kernel_rfl) (by kernel_rfl) (by kernel_rfl) (fun _ _ _ h => h) ⟨by kernel_rfl, ?_⟩ (by assumption) ?_
        ·intro w hSw; go_simp; (try with_reducible rfl)
        try simp only [Act.put, tzA, tzB, tzC, tzD, tzE, tzF]
        refine tkw 15 (.pointer (some (ad.add (k * 2)))) rfl (by kernel_rfl) (by kernel_rfl) (by kernel_rfl) (fun _ _ _ h => h) ⟨by kernel_rfl, ?_⟩ (by assumption) ?_
        ·intro w hSw; go_simp; (try with_reducible rfl)
        try simp only [Act.put, tzA, tzB, tzC, tzD, tzE, tzF]
        refine tkw 16 (.pointer (some ⟨(ad.add (k * 2)).block, (ad.add (k * 2)).off + 1, none⟩)) rfl (by kernel_rfl) (by kernel_rfl) (by kernel_rfl) (fun _ _ _ h => h) ⟨by kernel_rfl, ?_⟩ (by assumption) ?_
        ·intro w hSw; go_simp; (try with_reducible rfl)
        try simp only [Act.put, tzA, tzB, tzC, tzD, tzE, tzF]
        refine tkw 17 (.int .i64 x.m) rfl (by kernel_rfl) (by kernel_rfl) (by kernel_rfl) (fun _ _ _ h => h) ⟨by kernel_rfl, ?_⟩ (by assumption) ?_
        ·intro w hSw; (try dsimp only at hSw); obtain ⟨⟨s0, s1⟩, _⟩ := hSw; go_simp; (try with_reducible rfl)
        try simp only [Act.put, tzA, tzB, tzC, tzD, tzE, tzF]
        refine wpAnyH_ready (rs := [18]) (by kernel_rfl) (by simp) ?_
        refine AllReadyH.cons rfl (fun K hK => ?_) ?_
        ·go_simp
         go_at_call 34
         refine (rwhole_any wd x.m (by have := HXM.out; omega) (by have := HXM.out; omega)).mono ?_
         rintro e wd ⟨y2, rfl, _, n5, bb⟩
         try replace n5 := n5.below bb
         replace bz := below_on bz bb bz.size
         clear bb
         refine hK.out _ _ ⟨HC0.out _ (below_on HBW1.out (below_on HBZ.out bz HBZ.out.size) HBW1.out.size), (E2.out.below (below_on HBZ.out bz HBZ.out.size)).c0, (E2.out.below (below_on HBZ.out bz HBZ.out.size)).c1, (E2.out.below (below_on HBZ.out bz HBZ.out.size)).c2⟩ (fun hHeld => ?_)
         clear hK K
         try simp only [Act.put]
         try simp only [tzD, tzE, tzF]
         refine wpAnyH_ready (rs := [19]) (by kernel_rfl) (by simp) ?_
         refine AllReadyH.cons rfl (fun K hK => ?_) ?_
         ·go_simp
          go_at_call 33
          refine (rless_any wd x2 y2 x2.q (x.m : Rat) true (N2.out.below (below_on HBZ.out bz HBZ.out.size)) n5 HU.out).mono ?_
          rintro e wd ⟨rfl, bb⟩
          clear n5
          try replace n5 := n5.below bb
          replace bz := below_on bz bb bz.size
          clear bb
          refine hK.out _ _ ⟨HC0.out _ (below_on HBW1.out (below_on HBZ.out bz HBZ.out.size) HBW1.out.size), (E2.out.below (below_on HBZ.out bz HBZ.out.size)).c0, (E2.out.below (below_on HBZ.out bz HBZ.out.size)).c1, (E2.out.below (below_on HBZ.out bz HBZ.out.size)).c2⟩ (fun hHeld => ?_)
          clear hK K
          try simp only [Act.put]
          try simp only [tzD, tzE, tzF]
          refine tkw 20 (.bool true) rfl (by kernel_rfl) (by kernel_rfl) (by kernel_rfl) (fun _ _ _ h => h) ⟨by rfl, ?_⟩ (by assumption) ?_
          ·intro w hSw; go_simp; (try with_reducible rfl)
          try simp only [Act.put, tzA, tzB, tzC, tzD, tzE, tzF]
          refine tkw 21 (.bool true) rfl (by kernel_rfl) (by kernel_rfl) (by kernel_rfl) (fun _ _ _ h => h) ⟨by rfl, ?_⟩ (by assumption) ?_
          ·intro w hSw; go_simp; (try with_reducible rfl)
          try simp only [Act.put, tzA, tzB, tzC, tzD, tzE, tzF]
          refine tkw 22 (.int .i64 a) rfl (by kernel_rfl) (by kernel_rfl) (by kernel_rfl) (fun _ _ _ h => h) ⟨by kernel_rfl, ?_⟩ (by assumption) ?_
          ·intro w hSw; go_simp; (try with_reducible rfl)
          try simp only [Act.put, tzA, tzB, tzC, tzD, tzE, tzF]
          refine tkw 23 (.bool (decide (a < 0))) rfl (by kernel_rfl) (by kernel_rfl) (by kernel_rfl) (fun _ _ _ h => h) ⟨by kernel_rfl, ?_⟩ (by assumption) ?_
          ·intro w hSw; go_simp; (try with_reducible rfl)
          try simp only [Act.put, tzA, tzB, tzC, tzD, tzE, tzF]
          refine tkw 24 (.bool (decide (a < 0))) rfl (by kernel_rfl) (by kernel_rfl) (by kernel_rfl) (fun _ _ _ h => h) ⟨by rfl, ?_⟩ (by assumption) ?_
          ·intro w hSw; go_simp; (try with_reducible rfl)
          try simp only [Act.put, tzA, tzB, tzC, tzD, tzE, tzF]
          refine wpAnyH_done (by kernel_rfl) ?_ _
          go_wp2_with fail
          go_meet
          case rel => exact ⟨HP.out, bz⟩
         exact AllReadyH.nil
        exact AllReadyH.nil
     ·have hud : decide ((u : Int) < (x.ls.length : Int)) = false := decide_eq_false (by omega)
      have HP : Hid (Value.bool false = .bool (decide (u < x.ls.length ∧ lb = true ∧ a < 0))) := Lib.hid (by rw [decide_eq_false (fun h => hux h.1)])
      refine wp_region_held_drew (S := fun w' => (w'.cell? (ad.add (k * 2)) = some (.slice x.A x.ls.length x.c) ∧ w'.cell? ⟨(ad.add (k * 2)).block, (ad.add (k * 2)).off + 1, none⟩ = some (.int .i64 x.m)) ∧ (w'.cell? (ad2.add (k * 3)) = some (.bool x2.b) ∧ w'.cell? ⟨(ad2.add (k * 3)).block, (ad2.add (k * 3)).off + 1, none⟩ = some (.slice x2.A x2.xs.length x2.c) ∧ w'.cell? ⟨(ad2.add (k * 3)).block, (ad2.add (k * 3)).off + 2, none⟩ = some (.slice x2.D x2.ys.length x2.d))) (by kernel_rfl) ⟨HC0.out _ (below_on HBW1.out (below_on HBZ.out ((Below.refl wr.heap.size wr).drew) HBZ.out.size) HBW1.out.size), (E2.out.below (below_on HBZ.out ((Below.refl wr.heap.size wr).drew) HBZ.out.size)).c0, (E2.out.below (below_on HBZ.out ((Below.refl wr.heap.size wr).drew) HBZ.out.size)).c1, (E2.out.below (below_on HBZ.out ((Below.refl wr.heap.size wr).drew) HBZ.out.size)).c2⟩ (fun hHeld => ?_)
      have bz := (Below.refl wr.heap.size wr).drew
      generalize wr.drew = wd at *
      refine tkw 0 (.int .i64 (u : Int)) rfl (by kernel_rfl) (by kernel_rfl) (by kernel_rfl) (fun _ _ _ h => h) ⟨by rfl, ?_⟩ (by assumption) ?_
      ·intro w hSw; go_simp; (try with_reducible rfl)
      try simp only [Act.put, tzA, tzB, tzD, tzE, tzF]
      refine tkw 1 (.slice (some ad) fs.length d) rfl (by kernel_rfl) (by kernel_rfl) (by kernel_rfl) (fun _ _ _ h => h) ⟨by rfl, ?_⟩ (by assumption) ?_
      ·intro w hSw; go_simp; (try with_reducible rfl)
      try simp only [Act.put, tzA, tzB, tzC, tzD, tzE, tzF]
      refine tkw 2 (.int .i64 (k : Int)) rfl (by kernel_rfl) (by kernel_rfl) (by kernel_rfl) (fun _ _ _ h => h) ⟨by rfl, ?_⟩ (by assumption) ?_
      ·intro w hSw; go_simp; (try with_reducible rfl)
      try simp only [Act.put, tzA, tzB, tzC, tzD, tzE, tzF]
      refine tkw 3 (.pointer (some (ad.add (k * 2)))) rfl (by kernel_rfl) (by kernel_rfl) (by kernel_rfl) (fun _ _ _ h => h) ⟨by rfl, ?_⟩ (by assumption) ?_
      ·intro w hSw; go_simp; (try with_reducible rfl)
      try simp only [Act.put, tzA, tzB, tzC, tzD, tzE, tzF]
      refine tkw 4 (.pointer (some (ad.add (k * 2)))) rfl (by kernel_rfl) (by kernel_rfl) (by kernel_rfl) (fun _ _ _ h => h) ⟨by rfl, ?_⟩ (by assumption) ?_
      ·intro w hSw; go_simp; (try with_reducible rfl)
      try simp only [Act.put, tzA, tzB, tzC, tzD, tzE, tzF]
      refine tkw 5 (.slice x.A x.ls.length x.c) rfl (by kernel_rfl) (by kernel_rfl) (by kernel_rfl) (fun _ _ _ h => h) ⟨by rfl, ?_⟩ (by assumption) ?_
      ·intro w hSw; (try dsimp only at hSw); obtain ⟨⟨s0, s1⟩, _⟩ := hSw; go_simp; (try with_reducible rfl)
      try simp only [Act.put, tzA, tzB, tzC, tzD, tzE, tzF]
      refine tkw 6 (.int .i64 (x.ls.length : Int)) rfl (by kernel_rfl) (by kernel_rfl) (by kernel_rfl) (fun _ _ _ h => h) ⟨by rfl, ?_⟩ (by assumption) ?_
      ·intro w hSw; go_simp; (try with_reducible rfl)
      try simp only [Act.put, tzA, tzB, tzC, tzD, tzE, tzF]
      refine tkw 7 (.bool false) rfl (by kernel_rfl) (by kernel_rfl) (by kernel_rfl) (fun _ _ _ h => h) ⟨by rfl, ?_⟩ (by assumption) ?_
      ·intro w hSw; go_simp; (try simp only [hud])
      try simp only [Act.put, tzA, tzB, tzC, tzD, tzE, tzF]
      refine tkw 8 (.bool false) rfl (by kernel_rfl) (by kernel_rfl) (by kernel_rfl) (fun _ _ _ h => h) ⟨by rfl, ?_⟩ (by assumption) ?_
      ·intro w hSw; go_simp; (try with_reducible rfl)
      try simp only [Act.put, tzA, tzB, tzC, tzD, tzE, tzF]
      refine tku 9 rfl (by kernel_rfl) (by kernel_rfl) (by kernel_rfl) (fun _ _ _ h => h) (by kernel_rfl) (by assumption) ?_
      try simp only [Act.put, tzA, tzB, tzC, tzD, tzE, tzF]
      refine tku 10 rfl (by kernel_rfl) (by kernel_rfl) (by kernel_rfl) (fun _ _ _ h => h) (by kernel_rfl) (by assumption) ?_
      try simp only [Act.put, tzA, tzB, tzC, tzD, tzE, tzF]
      refine tku 11 rfl (by kernel_rfl) (by kernel_rfl) (by kernel_rfl) (fun _ _ _ h => h) (by kernel_rfl) (by assumption) ?_
      try simp only [Act.put, tzA, tzB, tzC, tzD, tzE, tzF]
      refine tku 12 rfl (by kernel_rfl) (by kernel_rfl) (by kernel_rfl) (fun _ _ _ h => h) (by kernel_rfl) (by assumption) ?_
      try simp only [Act.put, tzA, tzB, tzC, tzD, tzE, tzF]
      refine tku 13 rfl (by kernel_rfl) (by kernel_rfl) (by kernel_rfl) (fun _ _ _ h => h) (by kernel_rfl) (by assumption) ?_
      try simp only [Act.put, tzA, tzB, tzC, tzD, tzE, tzF]
      refine tku 14 rfl (by kernel_rfl) (by kernel_rfl) (by kernel_rfl) (fun _ _ _ h => h) (by kernel_rfl) (by assumption) ?_
      try simp only [Act.put, tzA, tzB, tzC, tzD, tzE, tzF]
      refine tku 15 rfl (by kernel_rfl) (by kernel_rfl) (by kernel_rfl) (fun _ _ _ h => h) (by kernel_rfl) (by assumption) ?_
      try simp only [Act.put, tzA, tzB, tzC, tzD, tzE, tzF]
      refine tku 16 rfl (by kernel_rfl) (by kernel_rfl) (by kernel_rfl) (fun _ _ _ h => h) (by kernel_rfl) (by assumption) ?_
      try simp only [Act.put, tzA, tzB, tzC, tzD, tzE, tzF]
      refine tku 17 rfl (by kernel_rfl) (by kernel_rfl) (by kernel_rfl) (fun _ _ _ h => h) (by kernel_rfl) (by assumption) ?_
      try simp only [Act.put, tzA, tzB, tzC, tzD, tzE, tzF]
      refine tku 18 rfl (by kernel_rfl) (by kernel_rfl) (by kernel_rfl) (fun _ _ _ h => h) (by kernel_rfl) (by assumption) ?_
      try simp only [Act.put, tzA, tzB, tzC, tzD, tzE, tzF]
      refine tku 19 rfl (by kernel_rfl) (by kernel_rfl) (by kernel_rfl) (fun _ _ _ h => h) (by kernel_rfl) (by assumption) ?_
      try simp only [Act.put, tzA, tzB, tzC, tzD, tzE, tzF]
      refine tkw 20 (.bool false) rfl (by kernel_rfl) (by kernel_rfl) (by kernel_rfl) (fun _ _ _ h => h) ⟨by rfl, ?_⟩ (by assumption) ?_
      ·intro w hSw; go_simp; (try with_reducible rfl)
      try simp only [Act.put, tzA, tzB, tzC, tzD, tzE, tzF]
      refine tkw 21 (.bool false) rfl (by kernel_rfl) (by kernel_rfl) (by kernel_rfl) (fun _ _ _ h => h) ⟨by rfl, ?_⟩ (by assumption) ?_
      ·intro w hSw; go_simp; (try with_reducible rfl)
      try simp only [Act.put, tzA, tzB, tzC, tzD, tzE, tzF]
      refine tku 22 rfl (by kernel_rfl) (by kernel_rfl) (by kernel_rfl) (fun _ _ _ h => h) (by kernel_rfl) (by assumption) ?_
      try simp only [Act.put, tzA, tzB, tzC, tzD, tzE, tzF]
      refine tku 23 rfl (by kernel_rfl) (by kernel_rfl) (by kernel_rfl) (fun _ _ _ h => h) (by kernel_rfl) (by assumption) ?_
      try simp only [Act.put, tzA, tzB, tzC, tzD, tzE, tzF]
      refine tkw 24 (.bool false) rfl (by kernel_rfl) (by kernel_rfl) (by kernel_rfl) (fun _ _ _ h => h) ⟨by rfl, ?_⟩ (by assumption) ?_
      ·intro w hSw; go_simp; (try with_reducible rfl)
      try simp only [Act.put, tzA, tzB, tzC, tzD, tzE, tzF]
      refine wpAnyH_done (by kernel_rfl) ?_ _
      go_wp2_with fail
      go_meet
      case rel => exact ⟨HP.out, bz⟩
    case rest =>
     obtain ⟨rfl, bb⟩ := hcut
     have hG := HG.out.below bb
     have bz := below_on HBZ.out bb HBZ.out.size
     clear bb HG HBZ
     by_cases hcond : u < x.ls.length ∧ lb = true ∧ a < 0
     ·have HCOND := Lib.hid hcond
      have hux := hcond.1
      rw [decide_eq_true hcond]
      have bwr := below_on HBW1.out bz HBW1.out.size
      have hc0 := (HC0.out _ bwr).1
      obtain ⟨ax, hax, _, hcx⟩ := (HXO.out.is.below bwr).at u hux
      rw [hax] at hc0
      have hmem : x.ls[u] ∈ lkA (fs.map Fm.fl) k := by rw [HGL.out.1]; exact List.getElem_mem hux
      have hlk := HLK.out _ (List.getElem_mem hux)
      obtain ⟨e0, he0⟩ : ∃ e0, x.ls[u] = e0 := ⟨_, rfl⟩
      have HE0 := Lib.hid he0
      rw [he0] at hcx hmem hlk
      have HMEM := Lib.hid hmem
      have HLKE := Lib.hid hlk
      obtain ⟨bq, hbq⟩ : ∃ bq, decide (limP (cpF caps) (fs.map Fm.fl) (vs.map Fx.q) e0 k) = bq := ⟨_, rfl⟩
      have HBQ := Lib.hid hbq
      have HGX := Lib.hid hG
      have HBX := Lib.hid bz
      have HBWR := Lib.hid bwr
      have HAX := Lib.hid hax
      have HCX := Lib.hid hcx
      clear hmem hlk he0 hcond hbq hax hG bz bwr
      go_wp2_with fail
      refine (rbinds_any _ A _ c caps (some ad) _ d fs (some ad2) _ _ vs k e0 bq (HA.out.below HBWR.out) (HD.out.below HBWR.out) (HRD.out.below HBX.out) (HOK.out.below HBX.out) HVV.out rfl rfl rfl HVL.out (by omega) hlt (fun e he => by
       have := HLK.out e (by rw [← HGL.out.1]; exact he)
       exact this) HLD.out (by rw [← HBQ.out]; exact HBI.out k e0 hlt HMEM.out)).mono ?_
      rintro e wn ⟨rfl, bb⟩
      have hG := HGX.out.below bb
      have bz := below_on HBX.out bb HBX.out.size
      clear HGX HBX HBWR
      cases bq with
      | true =>
        have hc0n : wn.cell? (ad.add (k * 2)) = some (.slice (some ax) x.ls.length x.c) := by
         have := (HC0.out _ (below_on HBW1.out bz HBW1.out.size)).1
         rwa [HAX.out] at this
        have hcxn := (bb.cell (p := ax.add u) (World.block_lt_of_cell? _ _ HCX.out)).trans HCX.out
        have HNS : Hid (botS (cpF caps) (fs.map Fm.fl) (vs.map Fx.q) k x.ls (u + 1) e0) := Lib.hid (by
         have hlim : limP (cpF caps) (fs.map Fm.fl) (vs.map Fx.q) e0 k := of_decide_eq_true HBQ.out
         have hless : (vs.map Fx.q).getD k 0 < (lmA (fs.map Fm.fl) k : Rat) := by
          rw [HMK.out, HGL.out.2]
          exact of_decide_eq_true (by rw [HU.out]; exact HCOND.out.2.1)
         refine .inr ⟨hless, ?_, HLKE.out.1⟩
         rcases HS.out with ⟨_, _, h3⟩ | ⟨_, h2, h3⟩
         ·rw [botA, if_neg (fun h => by grind), HGL.out.1, find_at (j := u) hux (fun t ht htu => decide_eq_false (h3 t ht htu)) (by rw [HE0.out]; exact decide_eq_true hlim), Option.getD_some, HE0.out]
         ·have := HCOND.out.2.2
          omega)
        have h0 := HLKE.out
        clear hc0 hcx bb
        go_wp2_with fail
        go_roundw
        case rel => exact ⟨u + 1, e0, by omega, by go_num, rfl, by omega, by omega, HNS.out, hG, bz⟩
        case measure => simp [intOf]; omega
      | false =>
        have HNS : Hid (botS (cpF caps) (fs.map Fm.fl) (vs.map Fx.q) k x.ls (u + 1) a) := Lib.hid (by
         have hless : (vs.map Fx.q).getD k 0 < (lmA (fs.map Fm.fl) k : Rat) := by
          rw [HMK.out, HGL.out.2]
          exact of_decide_eq_true (by rw [HU.out]; exact HCOND.out.2.1)
         rcases HS.out with ⟨h1, _, h3⟩ | ⟨_, _, h3⟩
         ·refine .inl ⟨h1, .inr hless, fun t ht htu => ?_⟩
          rcases Nat.lt_or_ge t u with h4 | h4
          ·exact h3 t ht h4
          ·obtain rfl : t = u := by omega
           rw [HE0.out]
           exact of_decide_eq_false HBQ.out
         ·have := HCOND.out.2.2
          omega)
        clear hc0 hcx bb
        go_wp2_with fail
        go_roundw
        case rel => exact ⟨u + 1, a, by omega, by go_num, rfl, ha0, ha1, HNS.out, hG, bz⟩
        case measure => simp [intOf]; omega
     ·have HAB : Hid (a = botA (cpF caps) (fs.map Fm.fl) (vs.map Fx.q) k) := Lib.hid (by
       refine botS_end (u := u) (by rw [HGL.out.1]; exact HS.out) (by rw [HGL.out.1]; exact hu) (HBD.out k hlt) (fun h => hcond ?_)
       rw [HGL.out.1, HMK.out, HGL.out.2] at h
       exact ⟨h.1, by rw [← HU.out]; exact decide_eq_true h.2.1, h.2.2⟩)
      rw [decide_eq_false hcond]
      clear hcond HS
      have bl := (Below.refl wc.heap.size wc).alloc (Nat.le_refl _) (.cells #[.int .i64 a] 3)
      have hgl := hG.below bl
      have hrow := int_one wc a 3
      have hbb := below_on bz bl bz.size
      clear hG bz bl
      go_upto_region 7 with (at_builtin; refine wpList_append_rd _ (mk := iv) (fun _ => rfl) rfl _ _ 22 rfl 3 i1 (iv 0) 8 Try.underlying22 hi hi0 hi1 hi2 rfl (B := w1.heap.size) rfl (by simp) hgl (some ⟨wc.heap.size, 0, none⟩) 1 1 [a] rfl rfl hrow (by simp only [maxLen]; omega) (by omega) hbb.size ?_; intro A2 c2 wq hgq hgrq hbq hatq)
      have hgn : Gr iv 3 wq w1.heap.size A2 c2 ((List.range (k + 1)).map (botA (cpF caps) (fs.map Fm.fl) (vs.map Fx.q))) := by
       rw [List.range_succ, List.map_append, List.map_singleton, ← HAB.out]; exact hgq
      have hbn := hbb.trans hbq
      clear hgl hrow hbb hgq hgrq hbq hatq
      go_wp2_with fail
      go_roundw
      case rel => exact ⟨k + 1, A2, c2, by omega, by go_num, rfl, hgn, hbn⟩
      case measure => simp [intOf]; omega
  ·obtain rfl : k = fs.length := by omega
   go_wp2_with fail
   go_ret2
   exact ⟨A8, c8, by rw [HB0.out]; simp, by rw [HB0.out]; exact HG.out.more (fun ad e => Nat.le_trans HBW1.out.size (HG.out.form.2.2 ad e).1), below_on HBW1.out HBZ.out HBW1.out.size⟩
end Go.Proofs.Ythdfflbhogfejaa
