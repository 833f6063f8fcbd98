/- The walk of drydocklaw16.SimplexRaw. -/
import Derived.Test.YtkpfbekmaafehaaGreatSrB
import Derived.Test.YtkpfbekmaafehaaGreatSrI
namespace Go.Proofs.YtkpfbekmaafehaaGreat
set_option maxRecDepth 100000
open Go.RowKit
set_option maxHeartbeats 4000000 in
theorem raw_law (w : World) (p : Pg) (h : p.ok w) (rb : p.rb) :
    Calls Tryz.prog 4 #[p.val] w fun e w' => e = .returned (.bool true) ∧ Below w.heap.size w w' := by
  have HO := Lib.hid h
  have HRB := Lib.hid rb
  clear h rb
  go_enter Tryz.func4, Tryz.ntmps4
  go_upto_region 1 with fail
  have pb := (pb_alloc w p 25).1
  have bw := (pb_alloc w p 25).2
  generalize (w.alloc (.cells #[.slice p.cost.A p.cost.vs.length p.cost.c, .slice p.rA p.rows.length p.rc, .slice p.right.A p.right.vs.length p.right.c] 25)) = wm at pb bw ⊢
  generalize hg1 : w.heap.size = g1 at pb ⊢
  have HPB := Lib.hid pb
  have HBW := Lib.hid bw
  have c0 := pb.c0
  have c1 := pb.c1
  have c2 := pb.c2
  clear pb bw hg1
  go_wp2_with fail
  refine (heavy_any wm p (HO.out.below HBW.out) HRB.out).mono ?_
  rintro e wa ⟨b, rfl, hv, bb⟩
  replace HPB := Lib.hid (HPB.out.below bb)
  replace HBW := Lib.hid (below_on HBW.out bb HBW.out.size)
  clear c0 c1 c2 bb
  have c0 := HPB.out.c0
  have c1 := HPB.out.c1
  have c2 := HPB.out.c2
  cases b with
  | true =>
    clear hv
    go_wp2_with fail
    refine (awake16_any wa).mono ?_
    rintro e wb ⟨rfl, bb⟩
    go_wp2_with fail
    go_ret
    exact ⟨rfl, below_on HBW.out bb HBW.out.size⟩
  | false =>
    have HSM : Hid p.sm := Lib.hid (hv rfl)
    clear hv
    by_cases vd : p.vd
    · have HVD := Lib.hid vd
      clear vd
      go_wp2_with fail
      refine (solve_good wa p (HO.out.below HBW.out) HSM.out HVD.out).mono ?_
      rintro e wb ⟨s, rfl, good, bb⟩
      have HGD := Lib.hid good
      replace HPB := Lib.hid (HPB.out.below bb)
      replace HBW := Lib.hid (below_on HBW.out bb HBW.out.size)
      clear good c0 c1 c2 bb
      go_upto_region 4 with fail
      have sb := (sb_alloc wb s 31).1
      have bb := (sb_alloc wb s 31).2
      generalize (wb.alloc (.cells #[.int .i64 s.kind, .slice s.X.A s.X.vs.length s.X.c, .slice s.Y.A s.Y.vs.length s.Y.c, .slice s.R.A s.R.vs.length s.R.c, .bool s.v.b, .slice s.v.A s.v.xs.length s.v.c, .slice s.v.D s.v.ys.length s.v.d] 31)) = wc at sb bb ⊢
      generalize wb.heap.size = g2 at sb ⊢
      have HOK := Lib.hid (HGD.out.ok.below bb)
      replace HPB := Lib.hid (HPB.out.below bb)
      replace HBW := Lib.hid (below_on HBW.out bb HBW.out.size)
      have HSB := Lib.hid sb
      clear sb bb
      have c0 := HPB.out.c0
      have c1 := HPB.out.c1
      have c2 := HPB.out.c2
      go_wp2_with fail
      refine (r16valid_any wc p true (HO.out.below HBW.out) HSM.out (Iff.intro (fun _ => HVD.out) (fun _ => rfl))).mono ?_
      rintro e wd ⟨rfl, bb⟩
      replace HOK := Lib.hid (HOK.out.below bb)
      replace HPB := Lib.hid (HPB.out.below bb)
      replace HSB := Lib.hid (HSB.out.below bb)
      replace HBW := Lib.hid (below_on HBW.out bb HBW.out.size)
      clear c0 c1 c2 bb
      have c0 := HPB.out.c0
      have c1 := HPB.out.c1
      have c2 := HPB.out.c2
      have s0 := HSB.out.c0
      have s1 := HSB.out.c1
      have s2 := HSB.out.c2
      have s3 := HSB.out.c3
      have s4 := HSB.out.c4
      have s5 := HSB.out.c5
      have s6 := HSB.out.c6
      go_wp2_with fail
      refine (r16check_any wd p s true (HO.out.below HBW.out) HSM.out HOK.out HGD.out.sm (Iff.intro (fun _ => HGD.out.chk) (fun _ => rfl))).mono ?_
      rintro e wf ⟨rfl, bb⟩
      replace HBW := Lib.hid (below_on HBW.out bb HBW.out.size)
      clear c0 c1 c2 s0 s1 s2 s3 s4 s5 s6 bb
      go_wp2_with fail
      refine (awake16_any wf).mono ?_
      rintro e wg ⟨rfl, bb⟩
      go_wp2_with fail
      go_ret
      exact ⟨rfl, below_on HBW.out bb HBW.out.size⟩
    · have HNV : Hid (¬ p.vd) := vd
      clear vd
      go_wp2_with fail
      refine (ssolve_bad wa p (HO.out.below HBW.out) HSM.out HNV.out).mono ?_
      rintro e wb ⟨rfl, bb⟩
      replace HPB := Lib.hid (HPB.out.below bb)
      replace HBW := Lib.hid (below_on HBW.out bb HBW.out.size)
      clear c0 c1 c2 bb
      go_upto_region 4 with fail
      have sb := (sb_alloc wb (⟨0, slN, slN, slN, Fx.nil⟩ : Sn) 31).1
      have bb := (sb_alloc wb (⟨0, slN, slN, slN, Fx.nil⟩ : Sn) 31).2
      generalize (wb.alloc (.cells #[.int .i64 0, .slice none 0 0, .slice none 0 0, .slice none 0 0, .bool false, .slice none 0 0, .slice none 0 0] 31)) = wc at sb bb ⊢
      generalize wb.heap.size = g2 at sb ⊢
      replace HPB := Lib.hid (HPB.out.below bb)
      replace HBW := Lib.hid (below_on HBW.out bb HBW.out.size)
      have HSB := Lib.hid sb
      clear sb bb
      have c0 := HPB.out.c0
      have c1 := HPB.out.c1
      have c2 := HPB.out.c2
      go_wp2_with fail
      refine (r16valid_any wc p false (HO.out.below HBW.out) HSM.out (Iff.intro (fun h => Bool.noConfusion h) (fun h => absurd h HNV.out))).mono ?_
      rintro e wd ⟨rfl, bb⟩
      replace HSB := Lib.hid (HSB.out.below bb)
      replace HBW := Lib.hid (below_on HBW.out bb HBW.out.size)
      clear c0 c1 c2 bb
      have s0 := HSB.out.c0
      go_wp2_with fail
      refine (awake16_any wd).mono ?_
      rintro e wf ⟨rfl, bb⟩
      go_wp2_with fail
      go_ret
      exact ⟨rfl, below_on HBW.out bb HBW.out.size⟩
end Go.Proofs.YtkpfbekmaafehaaGreat
