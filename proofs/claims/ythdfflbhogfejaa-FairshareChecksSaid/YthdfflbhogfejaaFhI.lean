/- The rates are accepted with their bottlenecks; whatever is accepted is the rates. No program in sight. The walk of drydocklaw31.awake. -/
import Derived.Test.YthdfflbhogfejaaFhG
import Derived.Test.YthdfflbhogfejaaRaK
import Derived.Test.YthdfflbhogfejaaFsU
import Derived.Test.YthdfflbhogfejaaTrX
namespace Go.Proofs.Ythdfflbhogfejaa
set_option maxRecDepth 100000

theorem not_big {q : Rat} (h : Sz q 4 4) : ¬ bigQ q := by
  have h1 := h.1; have h2 := h.2
  rw [bigQ]; omega
section
variable {caps : List Int} {l : List Fl}
theorem rates_sm (h : validFl caps l) (h14 : l.length ≤ 14) : ∃ D, SmR (cpF caps) l (itR (cpF caps) l caps.length l.length) D := itR_sm h.okR h14 (fun i hi => (h.lm i hi).2) l.length h14
theorem rates_load (h : validFl caps l) (h14 : l.length ≤ 14) (k : Int) : loadE l (ratesM (cpF caps) l caps.length) k l.length = some (ldq l (ratesM (cpF caps) l caps.length) k) := by
  obtain ⟨D, hD⟩ := rates_sm h h14
  refine loadE_ok _ fun m hm => not_big (hD.sz (B := 14 * 4096) ((Qd.sum (n := m) (B := 4096) (fun i hi => ?_)).mono (Nat.mul_le_mul_right _ (by omega))) (by omega))
  rw [tk]
  split
  · exact hD.qd i (by omega)
  · exact Qd.zero _ _
theorem rates_limP (h : validFl caps l) (h14 : l.length ≤ 14) {i : Nat} {k : Int} : limP (cpF caps) l (ratesM (cpF caps) l caps.length) k i ↔ ldq l (ratesM (cpF caps) l caps.length) k = (cpF caps k : Rat) ∧ ∀ j, j < l.length → k ∈ lkA l j → (ratesM (cpF caps) l caps.length).getD j 0 ≤ (ratesM (cpF caps) l caps.length).getD i 0 := by
  rw [limP, rates_load h h14]
  constructor
  · rintro ⟨h1, h2⟩; exact ⟨Option.some.inj h1, h2⟩
  · rintro ⟨h1, h2⟩; exact ⟨congrArg some h1, h2⟩
theorem rates_chk (h : validFl caps l) (h14 : l.length ≤ 14) {vs : List Fx} (hv : ∀ v ∈ vs, v.v) (hR : vs.map Fx.q = ratesM (cpF caps) l caps.length) : chkP caps l vs (botM (cpF caps) l (ratesM (cpF caps) l caps.length)) := by
  have hc := ratesM_cert h.okR
  have hl : vs.length = l.length := by have := congrArg List.length hR; rw [List.length_map, hc.lo] at this; exact this
  refine ⟨h, hl, botM_len _ _ _, hv, fun i hi => by rw [hR]; exact hc.nn i hi, fun k hk => ?_, fun i hi => ?_⟩
  · rw [hR]
    exact ⟨_, rates_load h h14 _, hc.cap k hk⟩
  · have hb : (botM (cpF caps) l (ratesM (cpF caps) l caps.length)).getD i 0 = botA (cpF caps) l (ratesM (cpF caps) l caps.length) i := by
      rw [getD_lt _ _ _ (by rw [botM_len]; exact hi)]; simp [botM]
    rw [hb, hR]
    by_cases he : (ratesM (cpF caps) l caps.length).getD i 0 = (lmA l i : Rat)
    · have : botA (cpF caps) l (ratesM (cpF caps) l caps.length) i = -1 := by rw [botA, if_pos he]
      rw [if_pos this]; exact he
    · rcases hc.held i hi with h1 | ⟨k, hk, h1, h2⟩
      · exact absurd h1 he
      · have hlim : limP (cpF caps) l (ratesM (cpF caps) l caps.length) k i := (rates_limP h h14).2 ⟨h1, h2⟩
        cases hf : (lkA l i).find? (fun e => decide (limP (cpF caps) l (ratesM (cpF caps) l caps.length) e i)) with
        | none =>
          rw [List.find?_eq_none] at hf
          exact absurd (decide_eq_true hlim) (hf k hk)
        | some e =>
          have hbe : botA (cpF caps) l (ratesM (cpF caps) l caps.length) i = e := by rw [botA, if_neg he, hf]; rfl
          have hem := List.mem_of_find?_eq_some hf
          have hep := List.find?_some hf
          have hne : ¬ e = -1 := fun x => by have := h.okR.lk i hi e hem; omega
          rw [hbe, if_neg hne]
          exact ⟨hem, of_decide_eq_true hep⟩
end
/-! the example of the sanity check -/
abbrev awC : List Int := [6, 10]
abbrev awL : List Fl := [([0], 100), ([0, 1], 100), ([1], 4)]
theorem awV : validFl awC awL := by decide +kernel
theorem awR : ratesM (cpF awC) awL 2 = [3, 3, 4] := by decide +kernel
theorem awB : botM (cpF awC) awL [3, 3, 4] = [0, 0, -1] := by decide +kernel
theorem awU : unitsM (cpF awC) awL = [3, 3, 4] := (unitsM_of awV.ok (k := 5) (show allFin (itU (cpF awC) awL 5) by unfold allFin; decide +kernel)).symm.trans (by decide +kernel)
end Go.Proofs.Ythdfflbhogfejaa
namespace Go.Proofs.Ythdfflbhogfejaa
set_option maxRecDepth 100000
open Go.RowKit

theorem gr_is {w : World} {B c : Nat} {e : TypeId} {A : Option Addr} {xs : List Int} (h : Gr iv e w B A c xs) (hw : ∀ x ∈ xs, -1 ≤ x ∧ x ≤ 1000000) : Is w A c xs := h.is (fun x hx => by have := hw x hx; omega)
theorem is1 (w : World) (a : Int) (ha : -1 ≤ a ∧ a ≤ 1000) : Is (w.alloc (.cells #[.int .i64 a] 3)) (some ⟨w.heap.size, 0, none⟩) 1 [a] ∧ Below w.heap.size w (w.alloc (.cells #[.int .i64 a] 3)) :=
  ⟨gr_is (Gr.lit (mk := iv) (e := 3) (B := w.heap.size) w [a] #[.int .i64 a] rfl (by simp [maxLen]) (Nat.le_refl _)) (fun x hx => by obtain rfl : x = a := by simpa using hx
                                                                                                                                     omega), (Below.refl _ _).alloc (Nat.le_refl _) _⟩
theorem is2 (w : World) (a b : Int) (ha : -1 ≤ a ∧ a ≤ 1000) (hb : -1 ≤ b ∧ b ≤ 1000) : Is (w.alloc (.cells #[.int .i64 a, .int .i64 b] 3)) (some ⟨w.heap.size, 0, none⟩) 2 [a, b] ∧ Below w.heap.size w (w.alloc (.cells #[.int .i64 a, .int .i64 b] 3)) :=
  ⟨gr_is (Gr.lit (mk := iv) (e := 3) (B := w.heap.size) w [a, b] #[.int .i64 a, .int .i64 b] rfl (by simp [maxLen]) (Nat.le_refl _)) (fun x hx => by
    simp only [List.mem_cons, List.not_mem_nil, or_false] at hx
    rcases hx with rfl | rfl <;> omega), (Below.refl _ _).alloc (Nat.le_refl _) _⟩
theorem is3 (w : World) (a b c : Int) (ha : -1 ≤ a ∧ a ≤ 1000) (hb : -1 ≤ b ∧ b ≤ 1000) (hc : -1 ≤ c ∧ c ≤ 1000) : Is (w.alloc (.cells #[.int .i64 a, .int .i64 b, .int .i64 c] 3)) (some ⟨w.heap.size, 0, none⟩) 3 [a, b, c] ∧ Below w.heap.size w (w.alloc (.cells #[.int .i64 a, .int .i64 b, .int .i64 c] 3)) :=
  ⟨gr_is (Gr.lit (mk := iv) (e := 3) (B := w.heap.size) w [a, b, c] #[.int .i64 a, .int .i64 b, .int .i64 c] rfl (by simp [maxLen]) (Nat.le_refl _)) (fun x hx => by
    simp only [List.mem_cons, List.not_mem_nil, or_false] at hx
    rcases hx with rfl | rfl | rfl <;> omega), (Below.refl _ _).alloc (Nat.le_refl _) _⟩
/-- three flows that lie behind one another -/
theorem ws3 (w : World) (x y z : Fm) (hx : x.ok w) (hy : y.ok w) (hz : z.ok w) : Ws (w.alloc (.cells #[.slice x.A x.ls.length x.c, .int .i64 x.m, .slice y.A y.ls.length y.c, .int .i64 y.m, .slice z.A z.ls.length z.c, .int .i64 z.m] 48)) (some ⟨w.heap.size, 0, none⟩) 3 [x, y, z] := by
  have bb := (Below.refl w.heap.size w).alloc (Nat.le_refl _) (.cells #[.slice x.A x.ls.length x.c, .int .i64 x.m, .slice y.A y.ls.length y.c, .int .i64 y.m, .slice z.A z.ls.length z.c, .int .i64 z.m] 48)
  refine ⟨by simp, by omega, fun _ => ⟨_, rfl, by simp, fun k hk => ?_⟩, fun u hu => ?_⟩
  · match k, hk with
    | 0, _ => exact ⟨by simp [go_sem, Addr.add], by simp [go_sem, Addr.add]⟩
    | 1, _ => exact ⟨by simp [go_sem, Addr.add], by simp [go_sem, Addr.add]⟩
    | 2, _ => exact ⟨by simp [go_sem, Addr.add], by simp [go_sem, Addr.add]⟩
  · simp only [List.mem_cons, List.not_mem_nil, or_false] at hu
    rcases hu with rfl | rfl | rfl
    · exact hx.below bb
    · exact hy.below bb
    · exact hz.below bb
/-- the capacities and flows of the example, as the program lays them -/
theorem aw_mem (w : World) : ∃ (gC gF : Nat) (fs : List Fm) (W : World), gC = w.heap.size ∧ gF = w.heap.size + 1 + 1 + 1 + 1 ∧ fs.map Fm.fl = awL ∧ fs.length = 3 ∧ W = (((((w.alloc (.cells #[.int .i64 6, .int .i64 10] 3)).alloc (.cells #[.int .i64 0] 3)).alloc (.cells #[.int .i64 0, .int .i64 1] 3)).alloc (.cells #[.int .i64 1] 3)).alloc (.cells #[.slice (some ⟨w.heap.size + 1, 0, none⟩) 1 1, .int .i64 100, .slice (some ⟨w.heap.size + 1 + 1, 0, none⟩) 2 2, .int .i64 100, .slice (some ⟨w.heap.size + 1 + 1 + 1, 0, none⟩) 1 1, .int .i64 4] 48)) ∧ Is W (some ⟨gC, 0, none⟩) 2 awC ∧ Ws W (some ⟨gF, 0, none⟩) 3 fs ∧ Below w.heap.size w W := by
  obtain ⟨c1, b1⟩ := is2 w 6 10 (by omega) (by omega)
  have s1 := size_alloc w (.cells #[.int .i64 6, .int .i64 10] 3)
  generalize (w.alloc (.cells #[.int .i64 6, .int .i64 10] 3)) = w1 at *
  obtain ⟨c2, b2⟩ := is1 w1 0 (by omega)
  have s2 := size_alloc w1 (.cells #[.int .i64 0] 3)
  generalize (w1.alloc (.cells #[.int .i64 0] 3)) = w2 at *
  obtain ⟨c3, b3⟩ := is2 w2 0 1 (by omega) (by omega)
  have s3 := size_alloc w2 (.cells #[.int .i64 0, .int .i64 1] 3)
  generalize (w2.alloc (.cells #[.int .i64 0, .int .i64 1] 3)) = w3 at *
  obtain ⟨c4, b4⟩ := is1 w3 1 (by omega)
  have s4 := size_alloc w3 (.cells #[.int .i64 1] 3)
  generalize (w3.alloc (.cells #[.int .i64 1] 3)) = w4 at *
  rw [s1] at c2 s2
  rw [s2] at c3 s3
  rw [s3] at c4 s4
  have hw := ws3 w4 ⟨some ⟨w.heap.size + 1, 0, none⟩, 1, [0], 100⟩ ⟨some ⟨w.heap.size + 1 + 1, 0, none⟩, 2, [0, 1], 100⟩ ⟨some ⟨w.heap.size + 1 + 1 + 1, 0, none⟩, 1, [1], 4⟩
    ⟨(c2.below b3).below b4, by show (-9223372036854775808 : Int) ≤ 100 ∧ (100 : Int) ≤ _; omega⟩ ⟨c3.below b4, by show (-9223372036854775808 : Int) ≤ 100 ∧ (100 : Int) ≤ _; omega⟩ ⟨c4, by show (-9223372036854775808 : Int) ≤ 4 ∧ (4 : Int) ≤ _; omega⟩
  rw [s4] at hw
  have b5 := (Below.refl w4.heap.size w4).alloc (Nat.le_refl _) (.cells #[.slice (some ⟨w.heap.size + 1, 0, none⟩) 1 1, .int .i64 100, .slice (some ⟨w.heap.size + 1 + 1, 0, none⟩) 2 2, .int .i64 100, .slice (some ⟨w.heap.size + 1 + 1 + 1, 0, none⟩) 1 1, .int .i64 4] 48)
  refine ⟨_, _, _, _, rfl, rfl, ?_, ?_, rfl, ?_, hw, ?_⟩
  · rfl
  · rfl
  · exact (((c1.below b2).below b3).below b4).below b5
  · exact below_on (below_on (below_on (below_on b1 b2 (by omega)) b3 (by omega)) b4 (by omega)) b5 (by omega)
theorem Qr.addr {w : World} {B : Nat} {A : Option Addr} {vs : List Fx} (h : Qr w B A vs) (h0 : 0 < vs.length) : ∃ g, A = some ⟨g, 0, none⟩ := by
  rcases h.fr.2 with ⟨_, hn⟩ | ⟨g, cap, cur, hv, _⟩
  · omega
  · simp only [Value.slice.injEq] at hv
    exact ⟨g, hv.1⟩
set_option maxHeartbeats 4000000 in
theorem awakes_any (w : World) : Calls Try.prog 15 #[] w fun e w' => e = .returned (.bool true) ∧ Below w.heap.size w w' := by
  obtain ⟨gC, gF, fs, W, hgC, hgF, hfs, hfl, hW, hC, hF, bw⟩ := aw_mem w
  have HFS := Lib.hid hfs
  have HFL := Lib.hid hfl
  have HV : Hid (validFl awC (fs.map Fm.fl)) := Lib.hid (by rw [hfs]; exact awV)
  have HC := Lib.hid hC
  have HF := Lib.hid hF
  have HBW := Lib.hid bw
  clear hfs hfl hC hF bw
  go_enter Try.func15, Try.ntmps15
  go_upto_region 3 with fail
  rw [← hW, ← hgF, ← hgC]
  clear hW hgC hgF
  go_wp2_with fail
  refine (funits_ok W (some ⟨gC, 0, none⟩) _ 2 awC (some ⟨gF, 0, none⟩) _ 3 fs HC.out HF.out rfl HFL.out.symm HV.out).mono ?_
  rintro e w2 ⟨AU, cU, rfl, hu, bb⟩
  rw [HFS.out, awU] at hu ⊢
  have HU0 : Hid (Is w2 AU cU [3, 3, 4]) := Lib.hid (gr_is hu (by intro x hx; simp only [List.mem_cons, List.not_mem_nil, or_false] at hx; rcases hx with rfl | rfl | rfl <;> omega))
  have HB2 := Lib.hid bb
  clear hu bb
  go_wp2_with fail
  refine (frates_ok w2 (some ⟨gC, 0, none⟩) _ 2 awC (some ⟨gF, 0, none⟩) _ 3 fs (HC.out.below HB2.out) (HF.out.below HB2.out) rfl HFL.out.symm HV.out (by rw [HFL.out]; omega)).mono ?_
  rintro e w3 ⟨AR, vs, rfl, hq, hvl, hvq, bb⟩
  rw [HFS.out, show ratesM (cpF awC) awL awC.length = [3, 3, 4] from awR] at hvq
  rw [HFL.out] at hvl
  obtain ⟨gR, rfl⟩ := hq.addr (by omega)
  rw [hvl]
  have HVS : Hid (vs.map Fx.q = [3, 3, 4]) := Lib.hid (rates_map (by rw [hvl]; rfl) (fun i hi => (hvq i hi).2))
  have HVV : Hid (∀ v ∈ vs, v.v) := Lib.hid (fun v hv => by
    obtain ⟨i, hi, rfl⟩ := List.getElem_of_mem hv
    exact (hvq i hi).2.v)
  have HOK0 : Hid (OkF w3 vs) := Lib.hid (fun v hv => by
    refine ⟨hq.ok v hv, ?_⟩
    obtain ⟨i, hi, rfl⟩ := List.getElem_of_mem hv
    exact ⟨(hvq i hi).2.l, (hvq i hi).2.m⟩)
  have HVL := Lib.hid hvl
  have hx2 := (hvq 2 (by omega)).1
  have hc2 := hq.cells 2 (by omega)
  have ho2 := hq.ok _ (List.getElem_mem (show 2 < vs.length by omega))
  obtain ⟨x2, hxx⟩ : ∃ x2, vs[2]'(by omega) = x2 := ⟨_, rfl⟩
  rw [hxx] at hx2 hc2 ho2
  have HX0 : Hid (x2.ok w3 ∧ Rp x2 ((4 : Int) : Rat)) := Lib.hid ⟨ho2, hx2⟩
  have HCX0 : Hid (∀ w', Below w3.heap.size w3 w' → w'.cell? ⟨gR, 6, none⟩ = some (.bool x2.b) ∧ w'.cell? ⟨gR, 7, none⟩ = some (.slice x2.A x2.xs.length x2.c) ∧ w'.cell? ⟨gR, 8, none⟩ = some (.slice x2.D x2.ys.length x2.d)) := Lib.hid (fun w' hb => by
    have hl : gR < w3.heap.size := hq.lt.2
    exact ⟨(hb.cell (p := ⟨gR, 6, none⟩) hl).trans hc2.1, (hb.cell (p := ⟨gR, 7, none⟩) hl).trans hc2.2.1, (hb.cell (p := ⟨gR, 8, none⟩) hl).trans hc2.2.2⟩)
  have HRD0 := Lib.hid hq.fr.rd
  have HB3 := Lib.hid (below_on HB2.out bb HB2.out.size)
  have HU1 := Lib.hid (HU0.out.below bb)
  clear hq hvq hx2 hc2 ho2 hxx bb hvl HU0
  go_wp2_with fail
  refine (fbot_ok w3 (some ⟨gC, 0, none⟩) _ 2 awC (some ⟨gF, 0, none⟩) _ 3 fs (HC.out.below HB3.out) (HF.out.below HB3.out) rfl HFL.out.symm HV.out (by rw [HFL.out]; omega)).mono ?_
  rintro e w4 ⟨AB, cB, rfl, hb, bb⟩
  rw [HFS.out, show ratesM (cpF awC) awL awC.length = [3, 3, 4] from awR, awB] at hb ⊢
  have HBO0 : Hid (Is w4 AB cB [0, 0, -1]) := Lib.hid (gr_is hb (by intro x hx; simp only [List.mem_cons, List.not_mem_nil, or_false] at hx; rcases hx with rfl | rfl | rfl <;> omega))
  have HU2 := Lib.hid (HU1.out.below bb)
  have HOK := Lib.hid (HOK0.out.below bb)
  have HRD := Lib.hid (HRD0.out.below bb)
  have HX2 := Lib.hid (And.intro (HX0.out.1.below bb) HX0.out.2)
  have HCX1 : Hid (∀ w', Below w4.heap.size w4 w' → w'.cell? ⟨gR, 6, none⟩ = some (.bool x2.b) ∧ w'.cell? ⟨gR, 7, none⟩ = some (.slice x2.A x2.xs.length x2.c) ∧ w'.cell? ⟨gR, 8, none⟩ = some (.slice x2.D x2.ys.length x2.d)) := Lib.hid (fun w' hb => HCX0.out w' (below_on bb hb bb.size))
  have HB4 := Lib.hid (below_on HB3.out bb HB3.out.size)
  have HCK : Hid (∀ w', Below w4.heap.size w4 w' → Calls Try.prog 21 #[.slice (some ⟨gC, 0, none⟩) 2 2, .slice (some ⟨gF, 0, none⟩) 3 3, .slice (some ⟨gR, 0, none⟩) 3 3, .slice AB 3 cB] w' fun e w'' => e = .returned (.bool true) ∧ Below w'.heap.size w' w'') := Lib.hid (fun w' hb => by
    refine check_any w' (some ⟨gC, 0, none⟩) _ 2 awC (some ⟨gF, 0, none⟩) _ 3 fs (some ⟨gR, 0, none⟩) _ 3 vs AB _ cB [0, 0, -1] true ((HC.out.below HB4.out).below hb) ((HF.out.below HB4.out).below hb) (HRD.out.below hb) (HOK.out.below hb) (HBO0.out.below hb) rfl HFL.out.symm HVL.out.symm rfl (by rw [HVL.out]; omega) ⟨fun _ => rfl, fun _ => ?_⟩
    rw [HFS.out]
    have := rates_chk (caps := awC) (l := awL) awV (by decide) (vs := vs) HVV.out (by rw [HVS.out]; exact awR.symm)
    rw [show ratesM (cpF awC) awL awC.length = [3, 3, 4] from awR, awB] at this
    exact this)
  have HBWW := Lib.hid (below_on HBW.out HB4.out HBW.out.size)
  clear hb bb HU1 HOK0 HRD0 HX0 HCX0 HB2 HB3
  go_upto_region 6 with fail
  generalize w4 = wm at *
  have HU := HU2
  have HBO := HBO0
  have HCX := HCX1
  have HBW0 := HBWW
  clear HBW
  have HBW := HBW0
  refine wp_region_held_drew (S := fun w' => w'.cell? ⟨gR, 6, none⟩ = some (.bool x2.b) ∧ w'.cell? ⟨gR, 7, none⟩ = some (.slice x2.A x2.xs.length x2.c) ∧ w'.cell? ⟨gR, 8, none⟩ = some (.slice x2.D x2.ys.length x2.d)) (by kernel_rfl) (HCX.out _ ((Below.refl wm.heap.size wm).drew)) (fun hHeld => ?_)
  have bz := (Below.refl wm.heap.size wm).drew
  generalize wm.drew = wd at *
  refine tkw 0 (.int .i64 0) rfl (by kernel_rfl) (by kernel_rfl) (by kernel_rfl) (fun _ _ _ h => h) ⟨by rfl, ?_⟩ (by assumption) ?_
  ·intro w hSw; go_simp; (try with_reducible rfl)
  try simp only [Act.put, tzA, tzB, tzD, tzE, tzF]
  refine tkw 1 (.bool true) rfl (by kernel_rfl) (by kernel_rfl) (by kernel_rfl) (fun _ _ _ h => h) ⟨by rfl, ?_⟩ (by assumption) ?_
  ·intro w hSw; go_simp; (try with_reducible rfl)
  try simp only [Act.put, tzA, tzB, tzC, tzD, tzE, tzF]
  refine tkw 2 (.bool true) rfl (by kernel_rfl) (by kernel_rfl) (by kernel_rfl) (fun _ _ _ h => h) ⟨by rfl, ?_⟩ (by assumption) ?_
  ·intro w hSw; go_simp; (try with_reducible rfl)
  try simp only [Act.put, tzA, tzB, tzC, tzD, tzE, tzF]
  refine tkw 3 (.slice AU 3 cU) rfl (by kernel_rfl) (by kernel_rfl) (by kernel_rfl) (fun _ _ _ h => h) ⟨by kernel_rfl, ?_⟩ (by assumption) ?_
  ·intro w hSw; go_simp; (try with_reducible rfl)
  try simp only [Act.put, tzA, tzB, tzC, tzD, tzE, tzF]
  refine wpAnyH_ready (rs := [4]) (by kernel_rfl) (by simp) ?_
  refine AllReadyH.cons rfl (fun K hK => ?_) ?_
  ·go_simp
   have hI := (is3 wd 3 3 4 (by omega) (by omega) (by omega)).1
   have bb := (is3 wd 3 3 4 (by omega) (by omega) (by omega)).2
   generalize hL : wd.heap.size = gL at hI ⊢
   replace bz := below_on bz bb bz.size
   clear bb
   generalize (wd.alloc (.cells #[.int .i64 3, .int .i64 3, .int .i64 4] 3)) = we at *
   clear hL
   generalize we = wd at *
   refine hK.out _ _ (HCX.out _ bz) (fun hHeld => ?_)
   clear hK K
   try simp only [Act.put]
   try simp only [tzD, tzE, tzF]
   refine wpAnyH_ready (rs := [5]) (by kernel_rfl) (by simp) ?_
   refine AllReadyH.cons rfl (fun K hK => ?_) ?_
   ·go_simp
    go_at_call 25
    refine (sameints_any wd AU _ cU [3, 3, 4] _ _ _ [3, 3, 4] true (HU.out.below bz) hI rfl rfl (decide_eq_true rfl)).mono ?_
    rintro e wd ⟨rfl, bb⟩
    clear hI
    try replace n4 := n4.below bb
    replace bz := below_on bz bb bz.size
    clear bb
    refine hK.out _ _ (HCX.out _ bz) (fun hHeld => ?_)
    clear hK K
    try simp only [Act.put]
    try simp only [tzD, tzE, tzF]
    refine tkw 6 (.bool true) rfl (by kernel_rfl) (by kernel_rfl) (by kernel_rfl) (fun _ _ _ h => h) ⟨by rfl, ?_⟩ (by assumption) ?_
    ·intro w hSw; go_simp; (try with_reducible rfl)
    try simp only [Act.put, tzA, tzB, tzC, tzD, tzE, tzF]
    refine tkw 7 (.bool true) rfl (by kernel_rfl) (by kernel_rfl) (by kernel_rfl) (fun _ _ _ h => h) ⟨by rfl, ?_⟩ (by assumption) ?_
    ·intro w hSw; go_simp; (try with_reducible rfl)
    try simp only [Act.put, tzA, tzB, tzC, tzD, tzE, tzF]
    refine tkw 8 (.int .i64 0) rfl (by kernel_rfl) (by kernel_rfl) (by kernel_rfl) (fun _ _ _ h => h) ⟨by kernel_rfl, ?_⟩ (by assumption) ?_
    ·intro w hSw; go_simp; (try with_reducible rfl)
    try simp only [Act.put, tzA, tzB, tzC, tzD, tzE, tzF]
    refine tkw 9 (.bool true) rfl (by kernel_rfl) (by kernel_rfl) (by kernel_rfl) (fun _ _ _ h => h) ⟨by kernel_rfl, ?_⟩ (by assumption) ?_
    ·intro w hSw; go_simp; (try with_reducible rfl)
    try simp only [Act.put, tzA, tzB, tzC, tzD, tzE, tzF]
    refine tkw 10 (.bool true) rfl (by kernel_rfl) (by kernel_rfl) (by kernel_rfl) (fun _ _ _ h => h) ⟨by rfl, ?_⟩ (by assumption) ?_
    ·intro w hSw; go_simp; (try with_reducible rfl)
    try simp only [Act.put, tzA, tzB, tzC, tzD, tzE, tzF]
    refine tkw 11 (.bool true) rfl (by kernel_rfl) (by kernel_rfl) (by kernel_rfl) (fun _ _ _ h => h) ⟨by rfl, ?_⟩ (by assumption) ?_
    ·intro w hSw; go_simp; (try with_reducible rfl)
    try simp only [Act.put, tzA, tzB, tzC, tzD, tzE, tzF]
    refine tkw 12 (.slice (some ⟨gR, 0, none⟩) 3 3) rfl (by kernel_rfl) (by kernel_rfl) (by kernel_rfl) (fun _ _ _ h => h) ⟨by kernel_rfl, ?_⟩ (by assumption) ?_
    ·intro w hSw; go_simp; (try with_reducible rfl)
    try simp only [Act.put, tzA, tzB, tzC, tzD, tzE, tzF]
    refine tkw 13 (.int .i64 3) rfl (by kernel_rfl) (by kernel_rfl) (by kernel_rfl) (fun _ _ _ h => h) ⟨by kernel_rfl, ?_⟩ (by assumption) ?_
    ·intro w hSw; go_simp; (try with_reducible rfl)
    try simp only [Act.put, tzA, tzB, tzC, tzD, tzE, tzF]
    refine tkw 14 (.bool true) rfl (by kernel_rfl) (by kernel_rfl) (by kernel_rfl) (fun _ _ _ h => h) ⟨by kernel_rfl, ?_⟩ (by assumption) ?_
    ·intro w hSw; go_simp; (try with_reducible rfl)
    try simp only [Act.put, tzA, tzB, tzC, tzD, tzE, tzF]
    refine tkw 15 (.bool true) rfl (by kernel_rfl) (by kernel_rfl) (by kernel_rfl) (fun _ _ _ h => h) ⟨by rfl, ?_⟩ (by assumption) ?_
    ·intro w hSw; go_simp; (try with_reducible rfl)
    try simp only [Act.put, tzA, tzB, tzC, tzD, tzE, tzF]
    refine tkw 16 (.bool true) rfl (by kernel_rfl) (by kernel_rfl) (by kernel_rfl) (fun _ _ _ h => h) ⟨by rfl, ?_⟩ (by assumption) ?_
    ·intro w hSw; go_simp; (try with_reducible rfl)
    try simp only [Act.put, tzA, tzB, tzC, tzD, tzE, tzF]
    refine tkw 17 (.slice (some ⟨gR, 0, none⟩) 3 3) rfl (by kernel_rfl) (by kernel_rfl) (by kernel_rfl) (fun _ _ _ h => h) ⟨by kernel_rfl, ?_⟩ (by assumption) ?_
    ·intro w hSw; go_simp; (try with_reducible rfl)
    try simp only [Act.put, tzA, tzB, tzC, tzD, tzE, tzF]
    refine tkw 18 (.pointer (some ⟨gR, 6, none⟩)) rfl (by kernel_rfl) (by kernel_rfl) (by kernel_rfl) (fun _ _ _ h => h) ⟨by kernel_rfl, ?_⟩ (by assumption) ?_
    ·intro w hSw; go_simp; (try with_reducible rfl)
    try simp only [Act.put, tzA, tzB, tzC, tzD, tzE, tzF]
    refine tkw 19 (x2.val) rfl (by kernel_rfl) (by kernel_rfl) (by kernel_rfl) (fun _ _ _ h => h) ⟨by kernel_rfl, ?_⟩ (by assumption) ?_
    ·intro w hSw; (try dsimp only at hSw); obtain ⟨s0, s1, s2⟩ := hSw; go_simp; (try with_reducible rfl)
    try simp only [Act.put, tzA, tzB, tzC, tzD, tzE, tzF]
    refine wpAnyH_ready (rs := [20]) (by kernel_rfl) (by simp) ?_
    refine AllReadyH.cons rfl (fun K hK => ?_) ?_
    ·go_simp
     go_at_call 34
     refine (rwhole_any wd 4 (by omega) (by omega)).mono ?_
     rintro e wd ⟨y, rfl, ry, n4, bb⟩
     try replace n4 := n4.below bb
     replace bz := below_on bz bb bz.size
     clear bb
     refine hK.out _ _ (HCX.out _ bz) (fun hHeld => ?_)
     clear hK K
     try simp only [Act.put]
     try simp only [tzD, tzE, tzF]
     refine wpAnyH_ready (rs := [21]) (by kernel_rfl) (by simp) ?_
     refine AllReadyH.cons rfl (fun K hK => ?_) ?_
     ·go_simp
      go_at_call 32
      refine (samefr_any wd x2 y true (HX2.out.1.below bz) n4.ok (decide_eq_true (HX2.out.2.same ry))).mono ?_
      rintro e wd ⟨rfl, bb⟩
      clear n4 ry
      try replace n4 := n4.below bb
      replace bz := below_on bz bb bz.size
      clear bb
      refine hK.out _ _ (HCX.out _ bz) (fun hHeld => ?_)
      clear hK K
      try simp only [Act.put]
      try simp only [tzD, tzE, tzF]
      refine tkw 22 (.bool true) rfl (by kernel_rfl) (by kernel_rfl) (by kernel_rfl) (fun _ _ _ h => h) ⟨by rfl, ?_⟩ (by assumption) ?_
      ·intro w hSw; go_simp; (try with_reducible rfl)
      try simp only [Act.put, tzA, tzB, tzC, tzD, tzE, tzF]
      refine tkw 23 (.bool true) rfl (by kernel_rfl) (by kernel_rfl) (by kernel_rfl) (fun _ _ _ h => h) ⟨by rfl, ?_⟩ (by assumption) ?_
      ·intro w hSw; go_simp; (try with_reducible rfl)
      try simp only [Act.put, tzA, tzB, tzC, tzD, tzE, tzF]
      refine tkw 24 (.int .i64 0) rfl (by kernel_rfl) (by kernel_rfl) (by kernel_rfl) (fun _ _ _ h => h) ⟨by kernel_rfl, ?_⟩ (by assumption) ?_
      ·intro w hSw; go_simp; (try with_reducible rfl)
      try simp only [Act.put, tzA, tzB, tzC, tzD, tzE, tzF]
      refine tkw 25 (.bool true) rfl (by kernel_rfl) (by kernel_rfl) (by kernel_rfl) (fun _ _ _ h => h) ⟨by kernel_rfl, ?_⟩ (by assumption) ?_
      ·intro w hSw; go_simp; (try with_reducible rfl)
      try simp only [Act.put, tzA, tzB, tzC, tzD, tzE, tzF]
      refine tkw 26 (.bool true) rfl (by kernel_rfl) (by kernel_rfl) (by kernel_rfl) (fun _ _ _ h => h) ⟨by rfl, ?_⟩ (by assumption) ?_
      ·intro w hSw; go_simp; (try with_reducible rfl)
      try simp only [Act.put, tzA, tzB, tzC, tzD, tzE, tzF]
      refine tkw 27 (.bool true) rfl (by kernel_rfl) (by kernel_rfl) (by kernel_rfl) (fun _ _ _ h => h) ⟨by rfl, ?_⟩ (by assumption) ?_
      ·intro w hSw; go_simp; (try with_reducible rfl)
      try simp only [Act.put, tzA, tzB, tzC, tzD, tzE, tzF]
      refine tkw 28 (.slice AB 3 cB) rfl (by kernel_rfl) (by kernel_rfl) (by kernel_rfl) (fun _ _ _ h => h) ⟨by kernel_rfl, ?_⟩ (by assumption) ?_
      ·intro w hSw; go_simp; (try with_reducible rfl)
      try simp only [Act.put, tzA, tzB, tzC, tzD, tzE, tzF]
      refine wpAnyH_ready (rs := [29]) (by kernel_rfl) (by simp) ?_
      refine AllReadyH.cons rfl (fun K hK => ?_) ?_
      ·go_simp
       have hI := (is3 wd 0 0 (-1) (by omega) (by omega) (by omega)).1
       have bb := (is3 wd 0 0 (-1) (by omega) (by omega) (by omega)).2
       generalize hL : wd.heap.size = gL at hI ⊢
       replace bz := below_on bz bb bz.size
       clear bb
       generalize (wd.alloc (.cells #[.int .i64 0, .int .i64 0, .int .i64 (-1)] 3)) = we at *
       clear hL
       generalize we = wd at *
       refine hK.out _ _ (HCX.out _ bz) (fun hHeld => ?_)
       clear hK K
       try simp only [Act.put]
       try simp only [tzD, tzE, tzF]
       refine wpAnyH_ready (rs := [30]) (by kernel_rfl) (by simp) ?_
       refine AllReadyH.cons rfl (fun K hK => ?_) ?_
       ·go_simp
        go_at_call 25
        refine (sameints_any wd AB _ cB [0, 0, -1] _ _ _ [0, 0, -1] true (HBO.out.below bz) hI rfl rfl (decide_eq_true rfl)).mono ?_
        rintro e wd ⟨rfl, bb⟩
        clear hI
        try replace n4 := n4.below bb
        replace bz := below_on bz bb bz.size
        clear bb
        refine hK.out _ _ (HCX.out _ bz) (fun hHeld => ?_)
        clear hK K
        try simp only [Act.put]
        try simp only [tzD, tzE, tzF]
        refine tkw 31 (.bool true) rfl (by kernel_rfl) (by kernel_rfl) (by kernel_rfl) (fun _ _ _ h => h) ⟨by rfl, ?_⟩ (by assumption) ?_
        ·intro w hSw; go_simp; (try with_reducible rfl)
        try simp only [Act.put, tzA, tzB, tzC, tzD, tzE, tzF]
        refine tkw 32 (.bool true) rfl (by kernel_rfl) (by kernel_rfl) (by kernel_rfl) (fun _ _ _ h => h) ⟨by rfl, ?_⟩ (by assumption) ?_
        ·intro w hSw; go_simp; (try with_reducible rfl)
        try simp only [Act.put, tzA, tzB, tzC, tzD, tzE, tzF]
        refine tkw 33 (.slice (some ⟨gC, 0, none⟩) 2 2) rfl (by kernel_rfl) (by kernel_rfl) (by kernel_rfl) (fun _ _ _ h => h) ⟨by kernel_rfl, ?_⟩ (by assumption) ?_
        ·intro w hSw; go_simp; (try with_reducible rfl)
        try simp only [Act.put, tzA, tzB, tzC, tzD, tzE, tzF]
        refine tkw 34 (.slice (some ⟨gF, 0, none⟩) 3 3) rfl (by kernel_rfl) (by kernel_rfl) (by kernel_rfl) (fun _ _ _ h => h) ⟨by kernel_rfl, ?_⟩ (by assumption) ?_
        ·intro w hSw; go_simp; (try with_reducible rfl)
        try simp only [Act.put, tzA, tzB, tzC, tzD, tzE, tzF]
        refine tkw 35 (.slice (some ⟨gR, 0, none⟩) 3 3) rfl (by kernel_rfl) (by kernel_rfl) (by kernel_rfl) (fun _ _ _ h => h) ⟨by kernel_rfl, ?_⟩ (by assumption) ?_
        ·intro w hSw; go_simp; (try with_reducible rfl)
        try simp only [Act.put, tzA, tzB, tzC, tzD, tzE, tzF]
        refine tkw 36 (.slice AB 3 cB) rfl (by kernel_rfl) (by kernel_rfl) (by kernel_rfl) (fun _ _ _ h => h) ⟨by kernel_rfl, ?_⟩ (by assumption) ?_
        ·intro w hSw; go_simp; (try with_reducible rfl)
        try simp only [Act.put, tzA, tzB, tzC, tzD, tzE, tzF]
        refine wpAnyH_ready (rs := [37]) (by kernel_rfl) (by simp) ?_
        refine AllReadyH.cons rfl (fun K hK => ?_) ?_
        ·go_simp
         go_at_call 21
         refine (HCK.out wd bz).mono ?_
         rintro e wd ⟨rfl, bb⟩
         try replace n4 := n4.below bb
         replace bz := below_on bz bb bz.size
         clear bb
         refine hK.out _ _ (HCX.out _ bz) (fun hHeld => ?_)
         clear hK K
         try simp only [Act.put]
         try simp only [tzD, tzE, tzF]
         refine tkw 38 (.bool true) rfl (by kernel_rfl) (by kernel_rfl) (by kernel_rfl) (fun _ _ _ h => h) ⟨by rfl, ?_⟩ (by assumption) ?_
         ·intro w hSw; go_simp; (try with_reducible rfl)
         try simp only [Act.put, tzA, tzB, tzC, tzD, tzE, tzF]
         refine wpAnyH_ready (rs := [39]) (by kernel_rfl) (by simp) ?_
         refine AllReadyH.cons rfl (fun K hK => ?_) ?_
         ·go_simp
          refine hK.out _ _ (HCX.out _ bz) (fun hHeld => ?_)
          clear hK K
          try simp only [Act.put]
          try simp only [tzD, tzE, tzF]
          refine wpAnyH_done (by kernel_rfl) ?_ _
          go_wp2_with fail
          go_ret
          exact ⟨rfl, below_on HBW.out bz HBW.out.size⟩
         exact AllReadyH.nil
        exact AllReadyH.nil
       exact AllReadyH.nil
      exact AllReadyH.nil
     exact AllReadyH.nil
    exact AllReadyH.nil
   exact AllReadyH.nil
  exact AllReadyH.nil
end Go.Proofs.Ythdfflbhogfejaa
