/- The walk of drydocklaw16.awake -/
import Derived.Test.YtkpfbekmaafehaaGreatSpB
import Derived.Test.YtkpfbekmaafehaaGreatSsJ
import Derived.Test.YtkpfbekmaafehaaGreatSrA
import Derived.Test.YtkpfbekmaafehaaGreatTk
import Derived.Test.YtkpfbekmaafehaaGreatSqK
namespace Go.Proofs.YtkpfbekmaafehaaGreat
set_option maxRecDepth 100000
open Go.RowKit
theorem solve_good (w : World) (p : Pg) (h : p.ok w) (sm : p.sm) (vd : p.vd) :
 Calls Tryz.prog 19 #[p.val] w fun e w' => ∃ s : Sn, e = .returned (.tuple #[s.val, .int .i64 0]) ∧ Good w' p s ∧ Below w.heap.size w w' := by
 refine (ssolve_ok w p h sm vd).mono ?_
 rintro e w' ⟨s, rfl, hs, bb⟩
 exact ⟨s, rfl, hs.good vd, bb⟩
theorem sz_m1 : Sz ((-1 : Int) : Rat) 128 128 := ⟨Nat.le_trans (lim_len2 (by decide)) (by omega), Nat.le_trans (lim_len2 (by decide)) (by omega)⟩
theorem sz_int1 {z : Int} (h : z.natAbs < 18446744073709551616) : Sz (z : Rat) 128 128 := ⟨Nat.le_trans (lim_len2 (by rw [Rat.num_intCast]; exact h)) (by omega), Nat.le_trans (lim_len2 (by rw [Rat.den_intCast]; omega)) (by omega)⟩
theorem El.int {w : World} {x : Fx} {z : Int} (h : El w x (z : Rat)) (hz : z.natAbs < 18446744073709551616) : Nm w x (z : Rat) := h.nm (sz_int1 hz)
theorem wg_int {x : Fx} {z : Int} (h : x.q = (z : Rat)) (hz : z.natAbs < 64) : wgB x.q ≤ 6 := by
 rw [h, wgB]
 split
 ·omega
 ·rw [Rat.num_intCast, Rat.den_intCast]
  have h1 := (bits2_le z.natAbs 6).2 (by omega)
  have h2 : ¬ 1 < bits2 1 := by decide
  rw [if_neg h2]
  omega
theorem awake_pg (w : World) (ga gb gc gr : Nat) (x1 x2 x3 x4 x5 : Fx) (h1 : El w x1 ((-1 : Int) : Rat)) (h2 : El w x2 ((0 : Int) : Rat)) (h3 : El w x3 ((1 : Int) : Rat)) (h4 : El w x4 ((1 : Int) : Rat)) (h5 : El w x5 ((1 : Int) : Rat))
 (ra : RdF w (some ⟨ga, 0, none⟩) [x1, x2]) (rb : RdF w (some ⟨gb, 0, none⟩) [x3, x4]) (rc : RdF w (some ⟨gc, 0, none⟩) [x5]) (rr : Rd Sl.val w (some ⟨gr, 0, none⟩) [⟨some ⟨gb, 0, none⟩, 2, [x3, x4]⟩]) :
 ∃ p : Pg, p.val = .agg #[.slice (some ⟨ga, 0, none⟩) 2 2, .slice (some ⟨gr, 0, none⟩) 1 1, .slice (some ⟨gc, 0, none⟩) 1 1] ∧ p.ok w ∧ p.sm ∧ p.vd ∧ ∀ s : Sn, ChkS p s → s.kind = 1 ∧ s.v.q = -1 := by
 have n1 := h1.int (by decide)
 have n2 := h2.int (by decide)
 have n3 := h3.int (by decide)
 have n4 := h4.int (by decide)
 have n5 := h5.int (by decide)
 have m2 : ∀ {P : Fx → Prop} {x y : Fx}, P x → P y → ∀ v ∈ [x, y], P v := fun hx hy v hv => by
  simp only [List.mem_cons, List.not_mem_nil, or_false] at hv
  rcases hv with rfl | rfl
  ·exact hx
  ·exact hy
 have m1 : ∀ {P : Fx → Prop} {x : Fx}, P x → ∀ v ∈ [x], P v := fun hx v hv => by
  obtain rfl := List.mem_singleton.1 hv
  exact hx
 have r1 : ∀ {P : Sl → Prop} {x : Sl}, P x → ∀ v ∈ [x], P v := fun hx v hv => by
  obtain rfl := List.mem_singleton.1 hv
  exact hx
 refine ⟨⟨⟨some ⟨ga, 0, none⟩, 2, [x1, x2]⟩, some ⟨gr, 0, none⟩, 1, [⟨some ⟨gb, 0, none⟩, 2, [x3, x4]⟩], ⟨some ⟨gc, 0, none⟩, 1, [x5]⟩⟩, rfl, ?_, ?_, ?_, ?_⟩
 ·exact ⟨⟨ra, m2 n1.ok n2.ok, Nat.le_refl _⟩, ⟨rc, m1 n5.ok, Nat.le_refl _⟩, rr, r1 ⟨rb, m2 n3.ok n4.ok, Nat.le_refl _⟩, Nat.le_refl _⟩
 ·exact ⟨(by show 2 ≤ 1000; omega), (by show 1 ≤ 1000; omega), (by show 1 ≤ 1000; omega), r1 (by show 2 ≤ 1000; omega), m2 ⟨n1.l, n1.m⟩ ⟨n2.l, n2.m⟩, m1 ⟨n5.l, n5.m⟩, r1 (m2 ⟨n3.l, n3.m⟩ ⟨n4.l, n4.m⟩)⟩
 ·refine ⟨(by show 1 ≤ 1; omega), (by show 1 ≤ 32; omega), (by show 1 ≤ 2; omega), (by show 2 ≤ 256; omega), rfl, r1 rfl, m2 n1.v n2.v, m1 n5.v, r1 (m2 n3.v n4.v), ?_⟩
  have g1 := wg_int n1.q (by decide)
  have g2 := wg_int n2.q (by decide)
  have g3 := wg_int n3.q (by decide)
  have g4 := wg_int n4.q (by decide)
  have g5 := wg_int n5.q (by decide)
  simp only [wlF, List.map_cons, List.map_nil, List.sum_cons, List.sum_nil]
  omega
 ·intro s hs
  have hP := hs.P
  have e1 : x1.q = -1 := n1.q.trans (by rfl)
  have e2 : x2.q = 0 := n2.q.trans (by rfl)
  have e3 : x3.q = 1 := n3.q.trans (by rfl)
  have e4 : x4.q = 1 := n4.q.trans (by rfl)
  have e5 : x5.q = 1 := n5.q.trans (by rfl)
  exact chk_awake e3 e4 e5 e1 e2 hP
theorem zero_pg (w : World) : ∃ p : Pg, p.val = .agg #[.slice none 0 0, .slice none 0 0, .slice none 0 0] ∧ p.ok w ∧ p.sm ∧ ¬ p.vd := by
 refine ⟨⟨slN, none, 0, [], slN⟩, rfl, ⟨⟨fun h => absurd h (Nat.not_lt_zero _), fun v hv => absurd hv List.not_mem_nil, Nat.le_refl _⟩, ⟨fun h => absurd h (Nat.not_lt_zero _), fun v hv => absurd hv List.not_mem_nil, Nat.le_refl _⟩, fun h => absurd h (Nat.not_lt_zero _), fun v hv => absurd hv List.not_mem_nil, Nat.le_refl _⟩, ⟨Nat.zero_le _, Nat.zero_le _, Nat.zero_le _, fun v hv => absurd hv List.not_mem_nil, fun v hv => absurd hv List.not_mem_nil, fun v hv => absurd hv List.not_mem_nil, fun v hv => absurd hv List.not_mem_nil⟩, fun v => absurd v.r1 (by show ¬ 1 ≤ 0; omega)⟩
set_option maxHeartbeats 4000000 in
theorem awake16_any (w : World) : Calls Tryz.prog 14 #[] w fun e w' => e = .returned (.bool true) ∧ Below w.heap.size w w' := by
 go_enter Tryz.func14, Tryz.ntmps14
 go_wp2_with fail
 refine (r2int_any w (-1) (by omega) (by omega)).mono ?_
 rintro _ w1 ⟨x1, rfl, h1, bw⟩
 have HBW := Lib.hid bw
 have H1 := Lib.hid h1
 clear h1 bw
 go_wp2_with fail
 refine (r2int_any w1 0 (by omega) (by omega)).mono ?_
 rintro _ w2 ⟨x2, rfl, h2, bb⟩
 have H2 := Lib.hid h2
 replace H1 := Lib.hid (H1.out.below bb)
 replace HBW := Lib.hid (below_on HBW.out bb HBW.out.size)
 clear h2 bb
 go_wp2_with fail
 have ra := rdf2 w2 x1 x2
 have bb := (Below.refl w2.heap.size w2).alloc (Nat.le_refl _) (.cells #[.bool x1.b, .slice x1.A x1.xs.length x1.c, .slice x1.D x1.ys.length x1.d, .bool x2.b, .slice x2.A x2.xs.length x2.c, .slice x2.D x2.ys.length x2.d] 29)
 generalize (w2.alloc (.cells #[.bool x1.b, .slice x1.A x1.xs.length x1.c, .slice x1.D x1.ys.length x1.d, .bool x2.b, .slice x2.A x2.xs.length x2.c, .slice x2.D x2.ys.length x2.d] 29)) = w3 at ra bb ⊢
 generalize w2.heap.size = ga at ra ⊢
 have HRA := Lib.hid ra
 replace H1 := Lib.hid (H1.out.below bb)
 replace H2 := Lib.hid (H2.out.below bb)
 replace HBW := Lib.hid (below_on HBW.out bb HBW.out.size)
 clear ra bb
 refine (r2int_any w3 1 (by omega) (by omega)).mono ?_
 rintro _ w4 ⟨x3, rfl, h3, bb⟩
 have H3 := Lib.hid h3
 replace H1 := Lib.hid (H1.out.below bb)
 replace H2 := Lib.hid (H2.out.below bb)
 replace HRA := Lib.hid (HRA.out.below bb)
 replace HBW := Lib.hid (below_on HBW.out bb HBW.out.size)
 clear h3 bb
 go_wp2_with fail
 refine (r2int_any w4 1 (by omega) (by omega)).mono ?_
 rintro _ w5 ⟨x4, rfl, h4, bb⟩
 have H4 := Lib.hid h4
 replace H1 := Lib.hid (H1.out.below bb)
 replace H2 := Lib.hid (H2.out.below bb)
 replace HRA := Lib.hid (HRA.out.below bb)
 replace HBW := Lib.hid (below_on HBW.out bb HBW.out.size)
 replace H3 := Lib.hid (H3.out.below bb)
 clear h4 bb
 go_wp2_with fail
 have rb := rdf2 w5 x3 x4
 have bb := (Below.refl w5.heap.size w5).alloc (Nat.le_refl _) (.cells #[.bool x3.b, .slice x3.A x3.xs.length x3.c, .slice x3.D x3.ys.length x3.d, .bool x4.b, .slice x4.A x4.xs.length x4.c, .slice x4.D x4.ys.length x4.d] 29)
 have hs5 : (w5.alloc (.cells #[.bool x3.b, .slice x3.A x3.xs.length x3.c, .slice x3.D x3.ys.length x3.d, .bool x4.b, .slice x4.A x4.xs.length x4.c, .slice x4.D x4.ys.length x4.d] 29)).heap.size = w5.heap.size + 1 := by simp
 generalize (w5.alloc (.cells #[.bool x3.b, .slice x3.A x3.xs.length x3.c, .slice x3.D x3.ys.length x3.d, .bool x4.b, .slice x4.A x4.xs.length x4.c, .slice x4.D x4.ys.length x4.d] 29)) = w6 at rb bb hs5 ⊢
 have B5 := Lib.hid bb
 have HS5 := Lib.hid hs5
 replace H1 := Lib.hid (H1.out.below bb)
 replace H2 := Lib.hid (H2.out.below bb)
 replace H3 := Lib.hid (H3.out.below bb)
 replace H4 := Lib.hid (H4.out.below bb)
 replace HRA := Lib.hid (HRA.out.below bb)
 replace HBW := Lib.hid (below_on HBW.out bb HBW.out.size)
 have HRB := Lib.hid rb
 clear rb bb B5 hs5
 obtain ⟨gb, hgb⟩ : ∃ g, w5.heap.size = g := ⟨_, rfl⟩
 rw [hgb] at HS5 HRB ⊢
 clear hgb
 have rr : Rd Sl.val (w6.alloc (.cells #[.slice (some ⟨gb, 0, none⟩) 2 2] 22)) (some ⟨w6.heap.size, 0, none⟩) [⟨some ⟨gb, 0, none⟩, 2, [x3, x4]⟩] := Rd.one_ w6 22 _ (.slice (some ⟨gb, 0, none⟩) 2 2) rfl
 rw [HS5.out] at rr
 have bb := (Below.refl w6.heap.size w6).alloc (Nat.le_refl _) (.cells #[.slice (some ⟨gb, 0, none⟩) 2 2] 22)
 generalize (w6.alloc (.cells #[.slice (some ⟨gb, 0, none⟩) 2 2] 22)) = w7 at rr bb ⊢
 obtain ⟨gr, hgr⟩ : ∃ g, gb + 1 = g := ⟨_, rfl⟩
 rw [hgr] at rr ⊢
 have HRR := Lib.hid rr
 replace H1 := Lib.hid (H1.out.below bb)
 replace H2 := Lib.hid (H2.out.below bb)
 replace HRA := Lib.hid (HRA.out.below bb)
 replace HBW := Lib.hid (below_on HBW.out bb HBW.out.size)
 replace H3 := Lib.hid (H3.out.below bb)
 replace H4 := Lib.hid (H4.out.below bb)
 replace HRB := Lib.hid (HRB.out.below bb)
 clear rr bb HS5 hgr
 refine (r2int_any w7 1 (by omega) (by omega)).mono ?_
 rintro _ w8 ⟨x5, rfl, h5, bb⟩
 have H5 := Lib.hid h5
 replace H1 := Lib.hid (H1.out.below bb)
 replace H2 := Lib.hid (H2.out.below bb)
 replace HRA := Lib.hid (HRA.out.below bb)
 replace HBW := Lib.hid (below_on HBW.out bb HBW.out.size)
 replace H3 := Lib.hid (H3.out.below bb)
 replace H4 := Lib.hid (H4.out.below bb)
 replace HRB := Lib.hid (HRB.out.below bb)
 replace HRR := Lib.hid (HRR.out.below bb rfl)
 clear h5 bb
 go_upto_region 2 with fail
 have rc := rdf1 w8 x5
 have bb := (Below.refl w8.heap.size w8).alloc (Nat.le_refl _) (.cells #[.bool x5.b, .slice x5.A x5.xs.length x5.c, .slice x5.D x5.ys.length x5.d] 29)
 have hs8 : (w8.alloc (.cells #[.bool x5.b, .slice x5.A x5.xs.length x5.c, .slice x5.D x5.ys.length x5.d] 29)).heap.size = w8.heap.size + 1 := by simp
 generalize (w8.alloc (.cells #[.bool x5.b, .slice x5.A x5.xs.length x5.c, .slice x5.D x5.ys.length x5.d] 29)) = w9 at rc bb hs8 ⊢
 replace H1 := Lib.hid (H1.out.below bb)
 replace H2 := Lib.hid (H2.out.below bb)
 replace HRA := Lib.hid (HRA.out.below bb)
 replace HBW := Lib.hid (below_on HBW.out bb HBW.out.size)
 replace H3 := Lib.hid (H3.out.below bb)
 replace H4 := Lib.hid (H4.out.below bb)
 replace HRB := Lib.hid (HRB.out.below bb)
 replace HRR := Lib.hid (HRR.out.below bb rfl)
 replace H5 := Lib.hid (H5.out.below bb)
 have HRC := Lib.hid rc
 have HS8 := Lib.hid hs8
 clear rc bb hs8
 obtain ⟨gc, hgc⟩ : ∃ g, w8.heap.size = g := ⟨_, rfl⟩
 rw [hgc] at HRC HS8 ⊢
 clear hgc
 have HCP : Hid ((w9.alloc (.cells #[.slice (some ⟨ga, 0, none⟩) 2 2, .slice (some ⟨gr, 0, none⟩) 1 1, .slice (some ⟨gc, 0, none⟩) 1 1] 25)).cell? ⟨w9.heap.size, 0, none⟩ = some (.slice (some ⟨ga, 0, none⟩) 2 2) ∧ (w9.alloc (.cells #[.slice (some ⟨ga, 0, none⟩) 2 2, .slice (some ⟨gr, 0, none⟩) 1 1, .slice (some ⟨gc, 0, none⟩) 1 1] 25)).cell? ⟨w9.heap.size, 1, none⟩ = some (.slice (some ⟨gr, 0, none⟩) 1 1) ∧ (w9.alloc (.cells #[.slice (some ⟨ga, 0, none⟩) 2 2, .slice (some ⟨gr, 0, none⟩) 1 1, .slice (some ⟨gc, 0, none⟩) 1 1] 25)).cell? ⟨w9.heap.size, 2, none⟩ = some (.slice (some ⟨gc, 0, none⟩) 1 1) ∧ w9.heap.size < (w9.alloc (.cells #[.slice (some ⟨ga, 0, none⟩) 2 2, .slice (some ⟨gr, 0, none⟩) 1 1, .slice (some ⟨gc, 0, none⟩) 1 1] 25)).heap.size) := Lib.hid ⟨by go_simp, by go_simp, by go_simp, by simp⟩
 have bb := (Below.refl w9.heap.size w9).alloc (Nat.le_refl _) (.cells #[.slice (some ⟨ga, 0, none⟩) 2 2, .slice (some ⟨gr, 0, none⟩) 1 1, .slice (some ⟨gc, 0, none⟩) 1 1] 25)
 generalize (w9.alloc (.cells #[.slice (some ⟨ga, 0, none⟩) 2 2, .slice (some ⟨gr, 0, none⟩) 1 1, .slice (some ⟨gc, 0, none⟩) 1 1] 25)) = wa at HCP bb ⊢
 replace H1 := Lib.hid (H1.out.below bb)
 replace H2 := Lib.hid (H2.out.below bb)
 replace HRA := Lib.hid (HRA.out.below bb)
 replace HBW := Lib.hid (below_on HBW.out bb HBW.out.size)
 replace H3 := Lib.hid (H3.out.below bb)
 replace H4 := Lib.hid (H4.out.below bb)
 replace HRB := Lib.hid (HRB.out.below bb)
 replace HRR := Lib.hid (HRR.out.below bb rfl)
 replace HRC := Lib.hid (HRC.out.below bb)
 replace H5 := Lib.hid (H5.out.below bb)
 obtain ⟨g1, hg1⟩ : ∃ g, w9.heap.size = g := ⟨_, rfl⟩
 rw [hg1] at HCP
 try rw [hg1]
 try rw [← HS8.out, hg1]
 clear bb hg1 HS8
 obtain ⟨p, ep, okp, smp, vdp, un⟩ := awake_pg wa ga gb gc gr x1 x2 x3 x4 x5 H1.out H2.out H3.out H4.out H5.out HRA.out HRB.out HRC.out HRR.out
 have HP := Lib.hid okp
 have HSMP := Lib.hid smp
 have HVP := Lib.hid vdp
 have HUN := Lib.hid un
 have HEP := Lib.hid ep
 clear H1 H2 H3 H4 H5 HRA HRB HRC HRR okp smp vdp un ep
 obtain ⟨c0, c1, c2, hlt⟩ := HCP.out
 have HG1 := Lib.hid hlt
 clear hlt HCP
 have HC : Hid (∀ w', Below wa.heap.size wa w' → w'.cell? ⟨g1, 0, none⟩ = some (.slice (some ⟨ga, 0, none⟩) 2 2) ∧ w'.cell? ⟨g1, 1, none⟩ = some (.slice (some ⟨gr, 0, none⟩) 1 1) ∧ w'.cell? ⟨g1, 2, none⟩ = some (.slice (some ⟨gc, 0, none⟩) 1 1)) := Lib.hid (fun w' hb => ⟨(hb.cell (p := ⟨g1, 0, none⟩) HG1.out).trans c0, (hb.cell (p := ⟨g1, 1, none⟩) HG1.out).trans c1, (hb.cell (p := ⟨g1, 2, none⟩) HG1.out).trans c2⟩)
 go_wp2_with fail
 have hcall := solve_good wa p HP.out HSMP.out HVP.out
 rw [HEP.out] at hcall
 refine hcall.mono ?_
 rintro _ wb ⟨s, rfl, good, bb⟩
 have HGD := Lib.hid good
 replace HP := Lib.hid (HP.out.below bb)
 replace HBW := Lib.hid (below_on HBW.out bb HBW.out.size)
 have HB1 := Lib.hid bb
 clear good bb hcall c0 c1 c2
 go_upto_region 3 with fail
 have sb := (sb_alloc wb s 31).1
 have bb := (sb_alloc wb s 31).2
 generalize (wb.alloc (.cells #[.int .i64 s.kind, .slice s.X.A s.X.vs.length s.X.c, .slice s.Y.A s.Y.vs.length s.Y.c, .slice s.R.A s.R.vs.length s.R.c, .bool s.v.b, .slice s.v.A s.v.xs.length s.v.c, .slice s.v.D s.v.ys.length s.v.d] 31)) = wc at sb bb ⊢
 generalize wb.heap.size = g2 at sb ⊢
 have HOK := Lib.hid (HGD.out.ok.below bb)
 replace HP := Lib.hid (HP.out.below bb)
 replace HBW := Lib.hid (below_on HBW.out bb HBW.out.size)
 replace HB1 := Lib.hid (below_on HB1.out bb HB1.out.size)
 have HSB := Lib.hid sb
 clear sb bb
 obtain ⟨pz, ez, okz, smz, nvz⟩ := zero_pg wc
 go_wp2_with fail
 have hcall := ssolve_bad wc pz okz smz nvz
 rw [ez] at hcall
 refine hcall.mono ?_
 rintro _ wd ⟨rfl, bb⟩
 replace HOK := Lib.hid (HOK.out.below bb)
 replace HP := Lib.hid (HP.out.below bb)
 replace HBW := Lib.hid (below_on HBW.out bb HBW.out.size)
 replace HB1 := Lib.hid (below_on HB1.out bb HB1.out.size)
 replace HSB := Lib.hid (HSB.out.below bb)
 clear bb hcall ez okz smz nvz
 go_upto_region 4 with fail
 have bb := (sb_alloc wd (⟨0, slN, slN, slN, Fx.nil⟩ : Sn) 31).2
 generalize (wd.alloc (.cells #[.int .i64 0, .slice none 0 0, .slice none 0 0, .slice none 0 0, .bool false, .slice none 0 0, .slice none 0 0] 31)) = wr at bb ⊢
 replace HOK := Lib.hid (HOK.out.below bb)
 replace HP := Lib.hid (HP.out.below bb)
 replace HBW := Lib.hid (below_on HBW.out bb HBW.out.size)
 replace HB1 := Lib.hid (below_on HB1.out bb HB1.out.size)
 replace HSB := Lib.hid (HSB.out.below bb)
 clear bb
 have hk := HUN.out s HGD.out.chk
 have HVN : Hid (∀ w', Below wr.heap.size wr w' → Nm w' s.v ((-1 : Int) : Rat)) := Lib.hid (fun w' hb => ⟨HOK.out.v.below hb, (HGD.out.chk.V.v 0 (by simp)).1, hk.2.trans (by rfl), HGD.out.sm.ev.1, HGD.out.sm.ev.2⟩)
 have HCE : Hid (∀ w', Below wr.heap.size wr w' → w'.cell? ⟨g1, 0, none⟩ = some (.slice (some ⟨ga, 0, none⟩) 2 2) ∧ w'.cell? ⟨g1, 1, none⟩ = some (.slice (some ⟨gr, 0, none⟩) 1 1) ∧ w'.cell? ⟨g1, 2, none⟩ = some (.slice (some ⟨gc, 0, none⟩) 1 1) ∧ w'.cell? ⟨g2, 0, none⟩ = some (.int .i64 1) ∧ w'.cell? ⟨g2, 1, none⟩ = some s.X.val ∧ w'.cell? ⟨g2, 2, none⟩ = some s.Y.val ∧ w'.cell? ⟨g2, 3, none⟩ = some s.R.val ∧ w'.cell? ⟨g2, 4, none⟩ = some (.bool s.v.b) ∧ w'.cell? ⟨g2, 5, none⟩ = some (.slice s.v.A s.v.xs.length s.v.c) ∧ w'.cell? ⟨g2, 6, none⟩ = some (.slice s.v.D s.v.ys.length s.v.d)) := Lib.hid (fun w' hb => by
  obtain ⟨k0, k1, k2⟩ := HC.out w' (below_on HB1.out hb HB1.out.size)
  have h := HSB.out.below hb
  exact ⟨k0, k1, k2, by rw [h.c0, hk.1], h.c1, h.c2, h.c3, h.c4, h.c5, h.c6⟩)
 have HCC : Hid (∀ wd, Below wr.heap.size wr wd → Calls Tryz.prog 17 #[.agg #[.slice (some ⟨ga, 0, none⟩) 2 2, .slice (some ⟨gr, 0, none⟩) 1 1, .slice (some ⟨gc, 0, none⟩) 1 1], .agg #[.int .i64 1, s.X.val, s.Y.val, s.R.val, .bool s.v.b, .slice s.v.A s.v.xs.length s.v.c, .slice s.v.D s.v.ys.length s.v.d]] wd fun e w' => e = .returned (.bool true) ∧ Below wd.heap.size wd w') := Lib.hid (fun wd hb => by
  have := scheck_any wd p s true (HP.out.below hb) HSMP.out (HOK.out.below hb) HGD.out.sm (Iff.intro (fun _ => HGD.out.chk) (fun _ => rfl))
  rw [HEP.out, Sn.val, Sn.cells, hk.1] at this
  exact this)
 clear hk
 have HSP : Hid (∀ w', Below wr.heap.size wr w' → (w'.cell? ⟨g1, 0, none⟩ = some (.slice (some ⟨ga, 0, none⟩) 2 2) ∧ w'.cell? ⟨g1, 1, none⟩ = some (.slice (some ⟨gr, 0, none⟩) 1 1) ∧ w'.cell? ⟨g1, 2, none⟩ = some (.slice (some ⟨gc, 0, none⟩) 1 1) ∧ w'.cell? ⟨g2, 0, none⟩ = some (.int .i64 1) ∧ w'.cell? ⟨g2, 1, none⟩ = some s.X.val ∧ w'.cell? ⟨g2, 2, none⟩ = some s.Y.val ∧ w'.cell? ⟨g2, 3, none⟩ = some s.R.val ∧ w'.cell? ⟨g2, 4, none⟩ = some (.bool s.v.b) ∧ w'.cell? ⟨g2, 5, none⟩ = some (.slice s.v.A s.v.xs.length s.v.c) ∧ w'.cell? ⟨g2, 6, none⟩ = some (.slice s.v.D s.v.ys.length s.v.d))) := Lib.hid (fun _ bz => (HCE.out _ bz))
 refine wprh HSP (by kernel_rfl) (fun hHeld => ?_)
 have bz := (Below.refl wr.heap.size wr).drew
 generalize wr.drew = wd at *
 refine tki [sE 26 [3] [],sE 27 [26] [0],sE 28 [27] [1],sG 29 [2,28] [2] 2 true,sG 30 [29,28] [3,2] 2 true,sG 31 [30,28] [4,2] 2 true,sE 32 [28,31] [2,5],sE 33 [32] [6,2],sG 34 [2,33] [7] 7 true,sG 35 [34,33] [8,7] 7 true,sG 36 [35,33] [9,7,7] 7 true,sE 37 [33,36] [7,10],sE 38 [37] [11,10],sG 39 [2,38] [12] 12 true,sG 40 [39,38] [13,12] 12 true,sG 41 [38] [12,12] 12 true,sG 42 [40,41,38] [14,15,15,12] 12 true,sE 43 [38,42] [12,16],sE 44 [43] [17,16],sG 45 [1,44] [18] 18 true,sG 46 [2,44] [18] 18 true,sG 47 [45,46,44] [19,20,18,18] 18 true,sE 48 [44,47] [18,21],sE 49 [48] [22,21],sG 50 [5,49] [23] 23 true,sG 51 [50,49] [24,23] 23 true,sE 52 [49,51] [23,25],sE 0 [52] [26,23,0,1,2,3,4,5,6,7,8,9,10,11,12,13,14,15,16,17,18,19,20,21,22,23,24,25,26]] [false, false, false, false, false, false, false, false, false, false, false, false, false, false, false, false, false, false, false, false, false, false, false, false, false, false, false, false] (by kernel_rfl) (by kernel_rfl) (by kernel_rfl) (fun HSU => ?_)
 refine tks HSU 0 (.int .i64 0) rfl ?_; simp only [tz]
 refine tks HSU 1 (.bool true) rfl ?_; simp only [tz]
 refine tks HSU 2 (.bool true) rfl ?_; simp only [tz]
 refine tks HSU 3 (.pointer (some ⟨g2, 0, none⟩)) rfl ?_; simp only [tz]
 refine tks HSU 4 (.int .i64 1) rfl ?_; simp only [tz]
 refine tks HSU 5 (.bool true) rfl ?_; simp only [tz]
 refine tkm HSU 2 [(6, 32, 1, some true)] rfl ?_
 simp only [exI, exD, updZ, updK, kV, rpS, rpZ, apC, apN]
 refine tks HSU 8 (.pointer (some ⟨g2, 4, none⟩)) rfl ?_; simp only [tz]
 refine tks HSU 9 (s.v.val) rfl ?_; simp only [tz]
 refine tk1 HSU 10 rfl (fun K hK => ?_)
 go_simp
 go_at_call 32
 refine (rfvalid_any wd s.v true (HVN.out wd bz).ok (HVN.out wd bz).l (HVN.out wd bz).m (decide_eq_true (HVN.out wd bz).v)).mono ?_
 rintro e wd ⟨rfl, bb⟩
 replace bz := below_on bz bb bz.size
 clear bb
 refine hK.out _ _ (HSP.out _ bz) (fun hHeld => ?_); clear hK K; try simp only [tz]
 refine tkm HSU 2 [(11, 37, 1, some true)] rfl ?_
 simp only [exI, exD, updZ, updK, kV, rpS, rpZ, apC, apN]
 refine tks HSU 13 (.pointer (some ⟨g2, 4, none⟩)) rfl ?_; simp only [tz]
 refine tks HSU 14 (s.v.val) rfl ?_; simp only [tz]
 refine tk1 HSU 15 rfl (fun K hK => ?_)
 go_simp
 go_at_call 26
 refine (r2int_any wd (-1) (by omega) (by omega)).mono ?_
 rintro e wd ⟨y, rfl, ey, bb⟩
 replace bz := below_on bz bb bz.size
 clear bb
 refine hK.out _ _ (HSP.out _ bz) (fun hHeld => ?_); clear hK K; try simp only [tz]
 refine tk1 HSU 16 rfl (fun K hK => ?_)
 go_simp
 go_at_call 24
 refine (r2same_any wd s.v y _ _ true (HVN.out wd bz) (ey.nm sz_m1) (decide_eq_true rfl)).mono ?_
 rintro e wd ⟨rfl, bb⟩
 clear ey
 replace bz := below_on bz bb bz.size
 clear bb
 refine hK.out _ _ (HSP.out _ bz) (fun hHeld => ?_); clear hK K; try simp only [tz]
 refine tkm HSU 2 [(17, 43, 1, some true)] rfl ?_
 simp only [exI, exD, updZ, updK, kV, rpS, rpZ, apC, apN]
 refine tks HSU 19 (.agg #[.slice (some ⟨ga, 0, none⟩) 2 2, .slice (some ⟨gr, 0, none⟩) 1 1, .slice (some ⟨gc, 0, none⟩) 1 1]) rfl ?_; simp only [tz]
 refine tks HSU 20 (.agg #[.int .i64 1, s.X.val, s.Y.val, s.R.val, .bool s.v.b, .slice s.v.A s.v.xs.length s.v.c, .slice s.v.D s.v.ys.length s.v.d]) rfl ?_; simp only [tz]
 refine tk1 HSU 21 rfl (fun K hK => ?_)
 go_simp
 go_at_call 17
 refine (HCC.out wd bz).mono ?_
 rintro e wd ⟨rfl, bb⟩
 replace bz := below_on bz bb bz.size
 clear bb
 refine hK.out _ _ (HSP.out _ bz) (fun hHeld => ?_); clear hK K; try simp only [tz]
 refine tkm HSU 2 [(22, 48, 1, some true)] rfl ?_
 simp only [exI, exD, updZ, updK, kV, rpS, rpZ, apC, apN]
 refine tks HSU 24 (.int .i64 1) rfl ?_; simp only [tz]
 refine tks HSU 25 (.bool true) rfl ?_; simp only [tz]
 refine tks HSU 26 (.bool true) rfl ?_; simp only [tz]
 refine tkm HSU 1 [(27, 0, 0, some true)] rfl ?_
 simp only [exI, exD, updZ, updK, kV, rpZ, apN]
 refine wpAnyH_done (tkn HSU (by kernel_rfl)) ?_ _
 go_wp2_with fail
 go_ret
 exact ⟨rfl, below_on HBW.out bz HBW.out.size⟩
set_option maxRecDepth 100000
open Go.RowKit
structure Rb (vs : List Fx) : Prop where
 l : vs.length ≤ 140737488355328
 e : ∀ v ∈ vs, v.xs.length ≤ 140737488355328 ∧ v.ys.length ≤ 140737488355328
def LbR (vs : List Fx) (n : Nat) : Prop := n ≤ 562949953421312 ∧ vs.length ≤ n ∧ (n < 400 → ∀ v ∈ vs, v.xs.length ≤ n ∧ v.ys.length ≤ n)
theorem take_all_p {P : Fx → Prop} {vs : List Fx} {k : Nat} (h : k < vs.length) (ha : ∀ v ∈ vs.take k, P v) (hk : P vs[k]) : ∀ v ∈ vs.take (k + 1), P v := by
 intro v hv
 rw [List.take_succ_eq_append_getElem h] at hv
 rcases List.mem_append.1 hv with h1 | h1
 ·exact ha v h1
 ·obtain rfl : v = vs[k] := by simpa using h1
  exact hk
set_option maxHeartbeats 1600000 in
theorem limbs_any (w : World) (s : Sl) (h : s.ok w) (rb : Rb s.vs) :
 Calls Tryz.prog 13 #[s.val] w fun e w' => ∃ n : Nat, e = .returned (.int .i64 (n : Int)) ∧ LbR s.vs n ∧ Below w.heap.size w w' := by
 have HS := Lib.hid h
 have HRB := Lib.hid rb
 obtain ⟨A, c, vs⟩ := s
 clear h
 have hl : vs.length ≤ 140737488355328 := rb.l
 clear rb
 show Calls Tryz.prog 13 #[.slice A vs.length c] w _
 replace HRB : Hid (Rb vs) := HRB
 obtain ⟨N, hN⟩ : ∃ N, vs.length = N := ⟨_, rfl⟩
 have HN := Lib.hid hN
 rw [hN] at hl ⊢
 clear hN
 go_enter Tryz.func13, Tryz.ntmps13
 go_wp2_with fail
 go_loopw [3, 4] (fun nv iv wr => ∃ k n : Nat, k ≤ N ∧ iv = .int .i64 k ∧ nv = .int .i64 n ∧ N ≤ n ∧ n ≤ 562949953421312 ∧ (∀ v ∈ vs.take k, v.xs.length ≤ n ∧ v.ys.length ≤ n) ∧ Below w.heap.size w wr) (fun _ iv _ => N - (intOf iv).toNat)
 case atStart => exact ⟨0, N, by omega, rfl, rfl, Nat.le_refl _, by omega, (fun v hv => by simp at hv), Below.refl _ _⟩
 case round =>
  obtain ⟨k, n, hk, rfl, rfl, hn, hn2, ha, bw⟩ := hrel
  have HA := Lib.hid ha
  have HBW := Lib.hid bw
  clear ha bw
  by_cases hlt : k < N
  ·by_cases h4 : n < 400
   ·have hkl : k < vs.length := by rw [HN.out]; exact hlt
    have hme := List.getElem_mem hkl
    have hle := HRB.out.e _ hme
    obtain ⟨ad, rfl, ef⟩ := (HS.out.below HBW.out).rd.at k hkl
    have HTK : Hid (∀ M : Nat, n ≤ M → vs[k].xs.length ≤ M → vs[k].ys.length ≤ M → ∀ v ∈ vs.take (k + 1), v.xs.length ≤ M ∧ v.ys.length ≤ M) := Lib.hid (fun M h1 h2 h3 => take_all_p hkl (fun v hv => ⟨Nat.le_trans (HA.out v hv).1 h1, Nat.le_trans (HA.out v hv).2 h1⟩) ⟨h2, h3⟩)
    obtain ⟨x, hx⟩ : ∃ x, vs[k] = x := ⟨_, rfl⟩
    have ef0 : Ef wr (ad.add (k * 3)) vs[k] := ef
    rw [hx] at ef0 hle HTK
    have d1 := ef0.c1
    have d2 := ef0.c2
    obtain ⟨a, ha⟩ : ∃ a, x.xs.length = a := ⟨_, rfl⟩
    obtain ⟨b, hb⟩ : ∃ b, x.ys.length = b := ⟨_, rfl⟩
    rw [ha] at d1 hle HTK
    rw [hb] at d2 hle HTK
    have hw1 : IntKind.i64.wrap ((n : Int) + (a : Int)) = (n : Int) + (a : Int) := IntWalk.i64_in _ (by omega)
    have hw2 : IntKind.i64.wrap ((n : Int) + (a : Int) + (b : Int)) = (n : Int) + (a : Int) + (b : Int) := IntWalk.i64_in _ (by omega)
    clear hx ef ef0 hme ha hb
    go_upto_region 5 with fail
    go_region
    have bd : Below wr.heap.size wr wr.drew := (Below.refl _ _).drew
    clear d1 d2
    generalize wr.drew = wd at *
    go_wp2_with fail
    go_roundw
    case rel => exact ⟨k + 1, n + a + b, by omega, by go_num, by go_num, by omega, by omega, HTK.out _ (by omega) (by omega) (by omega), below_on HBW.out bd HBW.out.size⟩
    case measure => simp [intOf]; omega
   ·go_wp2_with fail
    go_ret
    exact ⟨n, rfl, ⟨hn2, by show vs.length ≤ n; rw [HN.out]; exact hn, fun h => absurd h h4⟩, HBW.out⟩
  ·obtain rfl : N = k := by omega
   go_wp2_with fail
   go_ret
   exact ⟨n, rfl, ⟨hn2, by show vs.length ≤ n; rw [HN.out]; exact hn, fun _ => by have := HA.out; rw [List.take_of_length_le (by rw [HN.out]; exact Nat.le_refl _)] at this; exact this⟩, HBW.out⟩
structure Pg.rb (p : Pg) : Prop where
 cost : Rb p.cost.vs
 right : Rb p.right.vs
 rows : ∀ r ∈ p.rows, Rb r.vs
 l : p.rows.length ≤ 140737488355328
def HvR (p : Pg) (b : Bool) : Prop := b = false → p.sm
def HeavyR (w : World) (p : Pg) (e : Ending) (w' : World) : Prop := ∃ b : Bool, e = .returned (.bool b) ∧ HvR p b ∧ Below w.heap.size w w'
set_option maxHeartbeats 1600000 in
theorem heavy_any (w : World) (p : Pg) (h : p.ok w) (rb : p.rb) :
 Calls Tryz.prog 12 #[p.val] w (HeavyR w p) := by
 have HO := Lib.hid h
 have HRB := Lib.hid rb
 have hrl := rb.l
 clear h rb
 go_enter Tryz.func12, Tryz.ntmps12
 go_upto_region 1 with fail
 have pb := (pb_alloc w p 25).1
 have bw := (pb_alloc w p 25).2
 generalize (w.alloc (.cells #[.slice p.cost.A p.cost.vs.length p.cost.c, .slice p.rA p.rows.length p.rc, .slice p.right.A p.right.vs.length p.right.c] 25)) = wm at pb bw ⊢
 generalize hg1 : w.heap.size = g1 at pb ⊢
 have HPB := Lib.hid pb
 have HBW := Lib.hid bw
 clear pb bw hg1
 go_cut [3] (fun v wx => ∃ n1 n2 : Nat, v = .int .i64 ((n1 : Int) + (n2 : Int)) ∧ LbR p.cost.vs n1 ∧ LbR p.right.vs n2 ∧ Below wm.heap.size wm wx)
 case first =>
  have HSP : Hid (∀ w', Below wm.heap.size wm w' → (w'.cell? ⟨g1, 0, none⟩ = some (.slice p.cost.A p.cost.vs.length p.cost.c) ∧ w'.cell? ⟨g1, 2, none⟩ = some (.slice p.right.A p.right.vs.length p.right.c))) := Lib.hid (fun _ bz => ⟨(HPB.out.below bz).c0, (HPB.out.below bz).c2⟩)
  refine wprh HSP (by kernel_rfl) (fun hHeld => ?_)
  have bz := (Below.refl wm.heap.size wm).drew
  generalize wm.drew = wd at *
  refine tki [sE 5 [1] [],sE 6 [5] [0],sE 7 [6] [1],sE 8 [1] [],sE 9 [8] [3],sE 10 [9] [4,2],sE 11 [7,10] [2,5],sE 3 [11] [6,5,0,1,2,3,4,5,6]] [false, false, false, false, false, false, false, false] (by kernel_rfl) (by kernel_rfl) (by kernel_rfl) (fun HSU => ?_)
  refine tks HSU 0 (.pointer (some ⟨g1, 0, none⟩)) rfl ?_; simp only [tz]
  refine tks HSU 1 (.slice p.cost.A p.cost.vs.length p.cost.c) rfl ?_; simp only [tz]
  refine tks HSU 3 (.pointer (some ⟨g1, 2, none⟩)) rfl ?_; simp only [tz]
  refine tks HSU 4 (.slice p.right.A p.right.vs.length p.right.c) rfl ?_; simp only [tz]
  refine tk1 HSU 2 rfl (fun K hK => ?_)
  go_simp
  go_at_call 13
  refine (limbs_any wd p.cost ((HO.out.cost.below HBW.out).below (bz.mono (Nat.le_refl _))) HRB.out.cost).mono ?_
  rintro e wd ⟨n1, rfl, l1, bb⟩
  replace bz := below_on bz bb bz.size
  clear bb
  refine hK.out _ _ (HSP.out _ bz) (fun hHeld => ?_); clear hK K; try simp only [tz]
  refine tk1 HSU 5 rfl (fun K hK => ?_)
  go_simp
  go_at_call 13
  refine (limbs_any wd p.right ((HO.out.right.below HBW.out).below (bz.mono (Nat.le_refl _))) HRB.out.right).mono ?_
  rintro e wd ⟨n2, rfl, l2, bb⟩
  replace bz := below_on bz bb bz.size
  clear bb
  refine hK.out _ _ (HSP.out _ bz) (fun hHeld => ?_); clear hK K; try simp only [tz]
  refine tks HSU 6 (.int .i64 ((n1 : Int) + (n2 : Int))) rfl ?_ (hr := by intro w hSw; go_simp; (exact IntWalk.i64_in _ (by have := l1.1; have := l2.1; omega))); simp only [tz]
  refine tk1 HSU 7 rfl (fun K hK => ?_)
  go_simp
  refine hK.out _ _ (HSP.out _ bz) (fun hHeld => ?_); clear hK K; try simp only [tz]
  refine wpAnyH_done (tkn HSU (by kernel_rfl)) ?_ _
  go_wp2_with fail
  go_meet
  case rel => exact ⟨n1, n2, rfl, l1, l2, bz⟩
 case rest =>
  obtain ⟨n1, n2, rfl, l1, l2, bb⟩ := hcut
  have L1 := Lib.hid l1
  have L2 := Lib.hid l2
  have b1 := l1.1
  have b2 := l2.1
  obtain ⟨m, hm⟩ : ∃ m, p.rows.length = m := ⟨_, rfl⟩
  have HM := Lib.hid hm
  have c1 := (HPB.out.below bb).c1
  rw [hm] at c1 hrl
  have HB := Lib.hid bb
  clear l1 l2 hm bb
  by_cases h8 : 8 < m
  ·go_wp2_with fail
   go_ret
   exact ⟨true, rfl, (fun h => Bool.noConfusion h), below_on HBW.out HB.out HBW.out.size⟩
  ·by_cases h9 : 100 < n1 + n2
   ·have h9i : (100 : Int) < (n1 : Int) + (n2 : Int) := by omega
    go_wp2_with fail
    go_ret
    exact ⟨true, rfl, (fun h => Bool.noConfusion h), below_on HBW.out HB.out HBW.out.size⟩
   ·have h9i : ¬ (100 : Int) < (n1 : Int) + (n2 : Int) := by omega
    have c1' := c1
    go_wp2_with fail
    clear c1 c1'
    go_loopw [3, 4] (fun nv iv wr => ∃ k n : Nat, k ≤ m ∧ iv = .int .i64 k ∧ nv = .int .i64 n ∧ n ≤ 100 + k * 562949953421312 ∧ (n < 400 → ∀ r ∈ p.rows.take k, r.vs.length ≤ n ∧ ∀ v ∈ r.vs, v.xs.length ≤ n ∧ v.ys.length ≤ n) ∧ Below wm.heap.size wm wr) (fun _ iv _ => m - (intOf iv).toNat)
    case atStart => exact ⟨0, n1 + n2, by omega, rfl, by go_num, by omega, (fun _ r hr => by simp at hr), HB.out⟩
    case round =>
     obtain ⟨k, n, hk, rfl, rfl, hn, ha, bz⟩ := hrel
     have HA := Lib.hid ha
     have HBZ := Lib.hid bz
     have c1 := (HPB.out.below bz).c1
     rw [HM.out] at c1
     clear ha bz
     by_cases hlt : k < m
     ·have hkl : k < p.rows.length := by rw [HM.out]; exact hlt
      have hme := List.getElem_mem hkl
      have HTK := Lib.hid (List.take_succ_eq_append_getElem hkl)
      have okw := (HO.out.below HBW.out).below (HBZ.out.mono (Nat.le_refl _))
      obtain ⟨ad, hrA, _, hc⟩ := okw.rd (by omega)
      have hcj := hc k hkl
      have HCALL := Lib.hid (limbs_any wr p.rows[k] (okw.rows _ hme) (HRB.out.rows _ hme))
      obtain ⟨s, hs⟩ : ∃ s, p.rows[k] = s := ⟨_, rfl⟩
      rw [hs] at hcj HTK HCALL
      rw [hrA] at c1
      clear hc hs okw hme hrA
      go_wp2_with fail
      refine HCALL.out.mono ?_
      rintro e w5 ⟨n5, rfl, l5, bb⟩
      have L5 := Lib.hid l5
      have hn5 := l5.1
      have hn8 : k ≤ 8 := by omega
      clear l5 hcj c1 HCALL
      go_wp2_with fail
      go_roundw
      case rel => exact ⟨k + 1, n + n5, by omega, by go_num, by go_num, by omega, (fun h4 r hr => by
       rw [HTK.out] at hr
       rcases List.mem_append.1 hr with h | h
       ·have := HA.out (by omega) r h
        exact ⟨by omega, fun v hv => ⟨by have := (this.2 v hv).1; omega, by have := (this.2 v hv).2; omega⟩⟩
       ·obtain rfl : r = s := by simpa using h
        have h6 := L5.out.2.2 (by omega)
        have h7 := L5.out.2.1
        exact ⟨by omega, fun v hv => ⟨by have := (h6 v hv).1; omega, by have := (h6 v hv).2; omega⟩⟩), below_on HBZ.out bb HBZ.out.size⟩
      case measure => simp [intOf]; omega
     ·obtain rfl : m = k := by omega
      have HSM : Hid (¬ 300 < n → p.sm) := Lib.hid (fun h3 => by
       have hh := HA.out (by omega)
       rw [List.take_of_length_le (by rw [HM.out]; exact Nat.le_refl _)] at hh
       have k1 := L1.out.2.2 (by omega)
       have k2 := L2.out.2.2 (by omega)
       have k3 := L1.out.2.1
       have k4 := L2.out.2.1
       exact ⟨by omega, by omega, by rw [HM.out]; omega, fun r hr => by have := (hh r hr).1; omega, fun v hv => ⟨by have := (k1 v hv).1; omega, by have := (k1 v hv).2; omega⟩, fun v hv => ⟨by have := (k2 v hv).1; omega, by have := (k2 v hv).2; omega⟩, fun r hr v hv => ⟨by have := ((hh r hr).2 v hv).1; omega, by have := ((hh r hr).2 v hv).2; omega⟩⟩)
      clear c1
      have c1 : wr.cell? ⟨g1, 1, none⟩ = some (.slice p.rA m p.rc) := by rw [← HM.out]; exact (HPB.out.below HBZ.out).c1
      go_wp2_with fail
      go_ret
      exact ⟨decide (300 < n), ret_bool (decide_eq_decide.2 (by omega)), (fun h => HSM.out (of_decide_eq_false h)), below_on HBW.out HBZ.out HBW.out.size⟩
set_option maxRecDepth 100000
structure DotOk (u v : Nat → Rat) (n : Nat) : Prop where
 p : ∀ k, k < n → Sz (u k * v k) 128 128
 s : ∀ k, k ≤ n → Sz (sumTo (fun i => u i * v i) k) 128 128
theorem DotOk.symm {u v : Nat → Rat} {n : Nat} (h : DotOk u v n) : DotOk v u n :=
 ⟨fun k hk => by rw [Rat.mul_comm]; exact h.p k hk, fun k hk => by
  rw [show (fun i => v i * u i) = fun i => u i * v i from funext fun i => Rat.mul_comm _ _]
  exact h.s k hk⟩
def EW : Nat := 900
theorem EW_le : EW ≤ 900 := Nat.le_refl _
theorem tv_bd {t : Tv} {s : Rat} {E K : Nat} (h : TvOk t s E K) (hE : 0 < E) : BdR s (K * E) E := by
 have hd : ((t.D : Nat) : Int) ≠ 0 := by have := h.d0; omega
 have hv := h.val
 have e : (((t.D : Nat) : Int) : Rat) * s = (((t.P : Int) - (t.M : Int) : Int) : Rat) := by
  rw [Rat.intCast_sub]
  have c1 : (((t.D : Nat) : Int) : Rat) = ((t.D : Nat) : Rat) := rfl
  have c2 : (((t.P : Nat) : Int) : Rat) = ((t.P : Nat) : Rat) := rfl
  have c3 : (((t.M : Nat) : Int) : Rat) = ((t.M : Nat) : Rat) := rfl
  rw [c1, c2, c3, hv]
  exact Rat.mul_comm _ _
 have b := frac_bd hd e
 have hD : t.D ≤ E := Nat.le_of_dvd hE h.dv
 have h1 := h.p
 have h2 := h.m
 have h3 : K * t.D ≤ K * E := Nat.mul_le_mul_left _ hD
 exact ⟨Nat.le_trans b.1 (by omega), Nat.le_trans b.2 (by omega)⟩
theorem dot_ok {u v : Nat → Rat} {U V n E : Nat} (hU : ∀ k, k < n → (u k).den ∣ U) (hV : ∀ k, k < n → (v k).den ∣ V) (su : ∀ k, k < n → (u k).num.natAbs ≤ 2 ^ E) (sv : ∀ k, k < n → Sz (v k) 32 32)
 (lU : U ≤ 2 ^ E) (lV : (lim V).length ≤ 32) (hU0 : 0 < U) (hV0 : 0 < V) (hE : E ≤ 900) (hn : n ≤ 256) : DotOk u v n := by
 obtain ⟨F, hF⟩ : ∃ F : Nat, 32 * 32 = F := ⟨_, rfl⟩
 have eF : pw 32 = 2 ^ F := by rw [pw_two, hF]
 have kV : V ≤ 2 ^ F := by
  have := (lim_length_le V 32).1 lV
  rw [eF] at this
  omega
 have kv : ∀ k, k < n → (v k).num.natAbs ≤ 2 ^ F := fun k hk => by
  have := (lim_length_le _ 32).1 (sv k hk).1
  rw [eF] at this
  omega
 constructor
 ·intro k hk
  have hu : Sz (u k) 29 29 := ⟨len_pow2 (su k hk) (by omega), len_pow2 (Nat.le_trans (Nat.le_of_dvd hU0 (hU k hk)) lU) (by omega)⟩
  exact (hu.mul (sv k hk)).mono (by omega) (by omega)
 ·intro k hk
  have t := totT_ok hU hV (C := 2 ^ E * 2 ^ F) (fun k hk => Nat.mul_le_mul (su k hk) (kv k hk)) k hk
  have b := tv_bd t (Nat.mul_pos hU0 hV0)
  have h1 : U * V ≤ 2 ^ E * 2 ^ F := Nat.mul_le_mul lU kV
  have h2 : k * (2 ^ E * 2 ^ F) * (U * V) ≤ 2 ^ 8 * (2 ^ E * 2 ^ F) * (2 ^ E * 2 ^ F) := Nat.mul_le_mul (Nat.mul_le_mul_right _ (by omega)) h1
  have h3 : k * (2 ^ E * 2 ^ F) * (U * V) ≤ 2 ^ (8 + (E + F) + (E + F)) := by
   rw [Nat.pow_add 2 (8 + (E + F)), Nat.pow_add 2 8, Nat.pow_add 2 E]; exact h2
  rw [← Nat.pow_add] at h1
  exact ⟨len_pow2 (Nat.le_trans b.1 h3) (by omega), len_pow2 (Nat.le_trans b.2 h1) (by omega)⟩
structure Pw (n m : Nat) (a : Nat → Nat → Rat) (b c : Nat → Rat) (U E : Nat) : Prop where
 sa : ∀ i, i < m → ∀ j, j < n → (a i j).num.natAbs ≤ 2 ^ E ∧ (a i j).den ∣ U
 sb : ∀ i, i < m → (b i).num.natAbs ≤ 2 ^ E ∧ (b i).den ∣ U
 sc : ∀ j, j < n → (c j).num.natAbs ≤ 2 ^ E ∧ (c j).den ∣ U
 u0 : 0 < U
 ul : U ≤ 2 ^ E
 e : E ≤ 900
theorem num_le (q : Rat) {W : Nat} (h : wgB q ≤ W) : q.num.natAbs ≤ 2 ^ W := by
 have h1 := wtR_le q
 unfold wtR at h1
 have := Nat.pow_le_pow_right (n := 2) (by omega) h
 omega
theorem Pg.vd.pw {p : Pg} (v : p.vd) : Pw p.cost.vs.length p.rows.length p.a p.b p.c (dP p.cost.vs * dP p.right.vs * dR p.rows) EW := by
 have w := v.wt
 have eE := EW_le
 have z := v.pz
 refine ⟨fun i hi j hj => ⟨?_, (z.sa i hi j hj).2⟩, fun i hi => ⟨?_, (z.sb i hi).2⟩, fun j hj => ⟨?_, (z.sc j hj).2⟩, z.u0, ?_, eE⟩
 ·have hm := List.getElem_mem hi
  have hj2 : j < p.rows[i].vs.length := by rw [v.la _ hm]; exact hj
  have hm2 := List.getElem_mem hj2
  have e : p.a i j = p.rows[i].vs[j].q := by rw [Pg.a, getD_lt _ _ _ hi, getD_lt _ _ _ hj2]
  rw [e]
  have h1 := wgB_mem hm2
  have h2 := wlF_mem hm
  exact num_le _ (by unfold EW; omega)
 ·have hi2 : i < p.right.vs.length := by rw [v.lb]; exact hi
  have hm2 := List.getElem_mem hi2
  have e : p.b i = p.right.vs[i].q := by rw [Pg.b, getD_lt _ _ _ hi2]
  rw [e]
  have h1 := wgB_mem hm2
  exact num_le _ (by unfold EW; omega)
 ·have hm2 := List.getElem_mem hj
  have e : p.c j = p.cost.vs[j].q := by rw [Pg.c, getD_lt _ _ _ hj]
  rw [e]
  have h1 := wgB_mem hm2
  exact num_le _ (by unfold EW; omega)
 ·have h1 := dP_le p.cost.vs
  have h2 := dP_le p.right.vs
  have h3 := dR_le p.rows
  have h4 := Nat.mul_le_mul (Nat.mul_le_mul h1 h2) h3
  rw [← Nat.pow_add, ← Nat.pow_add] at h4
  exact Nat.le_trans h4 (Nat.pow_le_pow_right (by omega) (by unfold EW; omega))
section
variable {n m : Nat} {a : Nat → Nat → Rat} {b c : Nat → Rat} {U E V : Nat} {f : Nat → Rat}
theorem Pw.row (h : Pw n m a b c U E) (z : Mz n f V) (hn : n ≤ 256) {i : Nat} (hi : i < m) : DotOk (a i) f n :=
 dot_ok (fun k hk => (h.sa i hi k hk).2) (fun k hk => (z.s k hk).2) (fun k hk => (h.sa i hi k hk).1) (fun k hk => (z.s k hk).1) h.ul z.vl h.u0 z.v0 h.e hn
theorem Pw.col (h : Pw n m a b c U E) (z : Mz m f V) (hm : m ≤ 256) {j : Nat} (hj : j < n) : DotOk f (fun i => a i j) m :=
 (dot_ok (u := fun i => a i j) (fun k hk => (h.sa k hk j hj).2) (fun k hk => (z.s k hk).2) (fun k hk => (h.sa k hk j hj).1) (fun k hk => (z.s k hk).1) h.ul z.vl h.u0 z.v0 h.e hm).symm
theorem Pw.cst (h : Pw n m a b c U E) (z : Mz n f V) (hn : n ≤ 256) : DotOk c f n :=
 dot_ok (fun k hk => (h.sc k hk).2) (fun k hk => (z.s k hk).2) (fun k hk => (h.sc k hk).1) (fun k hk => (z.s k hk).1) h.ul z.vl h.u0 z.v0 h.e hn
theorem Pw.rgt (h : Pw n m a b c U E) (z : Mz m f V) (hm : m ≤ 256) : DotOk f b m :=
 (dot_ok (fun k hk => (h.sb k hk).2) (fun k hk => (z.s k hk).2) (fun k hk => (h.sb k hk).1) (fun k hk => (z.s k hk).1) h.ul z.vl h.u0 z.v0 h.e hm).symm
end
end Go.Proofs.YtkpfbekmaafehaaGreat
