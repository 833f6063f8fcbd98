/- The walk of drydocklaw16.SimplexCheck. -/
import Derived.Test.YtkpfbekmaafehaaGreatSpB
import Derived.Test.YtkpfbekmaafehaaGreatSrB
import Derived.Test.YtkpfbekmaafehaaGreatSrI
namespace Go.Proofs.YtkpfbekmaafehaaGreat
set_option maxRecDepth 100000
open Go.RowKit
structure Sn.rb (s:Sn):Prop where
  X:Rb s.X.vs
  Y:Rb s.Y.vs
  R:Rb s.R.vs
  v:s.v.xs.length≤140737488355328∧s.v.ys.length≤140737488355328
theorem sn_small {s:Sn} {n1 n2 n3:Nat} (l1:LbR s.X.vs n1) (l2:LbR s.Y.vs n2) (l3:LbR s.R.vs n3) (h:n1+n2+n3≤300) (hv:s.v.xs.length+s.v.ys.length≤100):s.sm:=by
  have e1:=l1.2.2 (by omega)
  have e2:=l2.2.2 (by omega)
  have e3:=l3.2.2 (by omega)
  have k1:=l1.2.1;have k2:=l2.2.1;have k3:=l3.2.1;exact ⟨by omega,by omega,by omega,fun v hv=>⟨by have:=(e1 v hv).1;omega,by have:=(e1 v hv).2;omega⟩,fun v hv=>⟨by have:=(e2 v hv).1;omega,by have:=(e2 v hv).2;omega⟩,fun v hv=>⟨by have:=(e3 v hv).1;omega,by have:=(e3 v hv).2;omega⟩,by omega,by omega⟩
set_option maxHeartbeats 4000000 in
theorem check_law (w:World) (p:Pg) (s:Sn) (h:p.ok w) (rb:p.rb) (hs:s.ok w) (rs:s.rb) :
    Calls Tryz.prog 3 #[p.val,s.val] w fun e w'=>e = .returned (.bool true)∧Below w.heap.size w w':=by
  have HO:=Lib.hid h;have HRB:=Lib.hid rb;have HSO:=Lib.hid hs;have HSR:=Lib.hid rs;clear h rb hs rs;go_enter Tryz.func3,Tryz.ntmps3;go_upto_region 1 with fail;have pb:=(pb_alloc w p 25).1;have bw:=(pb_alloc w p 25).2;have hsz:=pb_size w p 25;generalize (w.alloc (.cells #[.slice p.cost.A p.cost.vs.length p.cost.c, .slice p.rA p.rows.length p.rc, .slice p.right.A p.right.vs.length p.right.c] 25))=wm at pb bw hsz⊢;have sb:=(sb_alloc wm s 31).1;have bb:=(sb_alloc wm s 31).2;rw [hsz] at sb;replace pb:=pb.below bb;replace bw:=below_on bw bb bw.size;clear bb hsz;generalize (wm.alloc (.cells #[.int .i64 s.kind, .slice s.X.A s.X.vs.length s.X.c, .slice s.Y.A s.Y.vs.length s.Y.c, .slice s.R.A s.R.vs.length s.R.c, .bool s.v.b, .slice s.v.A s.v.xs.length s.v.c, .slice s.v.D s.v.ys.length s.v.d] 31))=wr at *
  obtain ⟨g1,hg1⟩:∃g,w.heap.size=g:=⟨_,rfl⟩;obtain ⟨g2,hg2⟩:∃g,w.heap.size+1=g:=⟨_,rfl⟩;have pb1:Pb wr g1 p:=by rw [←hg1];exact pb
  rw [hg2] at sb;rw [hg2,hg1];have HPB:=Lib.hid pb1;have HSB:=Lib.hid sb;have HBW:=Lib.hid bw;clear hg1 hg2 pb pb1 sb bw
  go_cut [32] (fun v wx=>(v = .bool true∨(v = .bool false∧p.sm∧s.sm))∧Below wr.heap.size wr wx)
  case first=>
    have HSP:Hid (∀w',Below wr.heap.size wr w'→(w'.cell? ⟨g1,0,none⟩=some p.cost.val∧w'.cell? ⟨g1,1,none⟩=some (.slice p.rA p.rows.length p.rc)∧w'.cell? ⟨g1,2,none⟩=some p.right.val∧w'.cell? ⟨g2,1,none⟩=some s.X.val∧w'.cell? ⟨g2,2,none⟩=some s.Y.val∧w'.cell? ⟨g2,3,none⟩=some s.R.val∧w'.cell? ⟨g2,5,none⟩=some (.slice s.v.A s.v.xs.length s.v.c)∧w'.cell? ⟨g2,6,none⟩=some (.slice s.v.D s.v.ys.length s.v.d))):=Lib.hid (fun _ bz=>⟨(HPB.out.below bz).c0,(HPB.out.below bz).c1,(HPB.out.below bz).c2,(HSB.out.below bz).c1,(HSB.out.below bz).c2,(HSB.out.below bz).c3,(HSB.out.below bz).c5,(HSB.out.below bz).c6⟩)
    refine wprh HSP (by kernel_rfl) (fun hHeld=>?_)
    have bz:=(Below.refl wr.heap.size wr).drew;generalize wr.drew=wd at *;refine tki [sE 5 [2] [],sE 6 [5] [0],sE 7 [6] [1,1],sG 8 [3,7] [2] 2 false,sG 9 [8,7] [3,2] 2 false,sG 10 [9,7] [4,2,2] 2 false,sG 11 [3,7] [2] 2 false,sG 12 [11,7] [6,2] 2 false,sG 13 [12,7] [7,5,2] 2 false,sG 14 [10,13,7] [5,8,2] 2 false,sG 15 [3,7] [2] 2 false,sG 16 [15,7] [10,2] 2 false,sG 17 [16,7] [11,8,2] 2 false,sG 18 [14,17,7] [9,12,2] 2 false,sG 19 [18,7] [13,2] 2 false,sE 20 [7,19] [2,14],sE 21 [20] [15,12],sG 22 [3,21] [16] 16 false,sG 23 [22,21] [17,16] 16 false,sG 24 [23,21] [18,16] 16 false,sG 25 [24,21] [19,16] 16 false,sG 26 [3,21] [16] 16 false,sG 27 [26,21] [21,16] 16 false,sG 28 [27,21] [22,16] 16 false,sG 29 [28,21] [23,16] 16 false,sG 30 [25,29,21] [20,24,16] 16 false,sG 31 [30,21] [25,16] 16 false,sE 32 [21,31] [16,26]] [false,false,false,false,false,false,false,false,false,false,false,false,false,false,false,false,false,false,false,false,false,false,false,false,false,false,false,false] (by kernel_rfl) (by kernel_rfl) (by kernel_rfl) (fun HSU=>?_)
    refine tks HSU 0 (.agg #[p.cost.val, .slice p.rA p.rows.length p.rc,p.right.val]) rfl ?_;simp only [tz];refine tk1 HSU 1 rfl (fun K hK=>?_);go_simp;go_at_call 12;refine (heavy_any wd p (HO.out.below (below_on HBW.out bz HBW.out.size)) HRB.out).mono ?_;rintro e wd ⟨hb,rfl,hv,bb⟩;replace bz:=below_on bz bb bz.size;clear bb;refine hK.out _ _ (HSP.out _ bz) (fun hHeld=>?_);clear hK K;try simp only [tz]
    cases hb
    ·skip
     refine tks HSU 2 (.bool false) rfl ?_;simp only [tz];refine tks HSU 3 (.pointer (some ⟨g2,1,none⟩)) rfl ?_;simp only [tz];refine tks HSU 4 (s.X.val) rfl ?_;simp only [tz];refine tks HSU 6 (.pointer (some ⟨g2,2,none⟩)) rfl ?_;simp only [tz];refine tks HSU 7 (s.Y.val) rfl ?_;simp only [tz];refine tks HSU 10 (.pointer (some ⟨g2,3,none⟩)) rfl ?_;simp only [tz];refine tks HSU 11 (s.R.val) rfl ?_;simp only [tz];refine tk1 HSU 5 rfl (fun K hK=>?_);go_simp;go_at_call 13;refine (limbs_any wd s.X (HSO.out.X.below (below_on HBW.out bz HBW.out.size)) HSR.out.X).mono ?_;rintro e wd ⟨n1,rfl,l1,bb⟩;replace bz:=below_on bz bb bz.size
     clear bb;refine hK.out _ _ (HSP.out _ bz) (fun hHeld=>?_);clear hK K;try simp only [tz]
     refine tk1 HSU 8 rfl (fun K hK=>?_);go_simp;go_at_call 13;refine (limbs_any wd s.Y (HSO.out.Y.below (below_on HBW.out bz HBW.out.size)) HSR.out.Y).mono ?_;rintro e wd ⟨n2,rfl,l2,bb⟩;replace bz:=below_on bz bb bz.size;clear bb;refine hK.out _ _ (HSP.out _ bz) (fun hHeld=>?_);clear hK K;try simp only [tz]
     refine tks HSU 9 (.int .i64 ((n1:Int)+(n2:Int))) rfl ?_ (hr:=by intro w hSw;go_simp;(exact IntWalk.i64_in _ (by have:=l1.1;have:=l2.1;omega)));simp only [tz]
     refine tk1 HSU 12 rfl (fun K hK=>?_);go_simp;go_at_call 13;refine (limbs_any wd s.R (HSO.out.R.below (below_on HBW.out bz HBW.out.size)) HSR.out.R).mono ?_;rintro e wd ⟨n3,rfl,l3,bb⟩;replace bz:=below_on bz bb bz.size;clear bb;refine hK.out _ _ (HSP.out _ bz) (fun hHeld=>?_);clear hK K;try simp only [tz]
     by_cases h3:(300:Int)<(n1:Int)+(n2:Int)+(n3:Int)
     ·have hd3:decide ((300:Int)<(n1:Int)+(n2:Int)+(n3:Int))=true:=decide_eq_true h3;refine tks HSU 13 (.int .i64 ((n1:Int)+(n2:Int)+(n3:Int))) rfl ?_ (hr:=by intro w hSw;go_simp;(exact IntWalk.i64_in _ (by have:=l1.1;have:=l2.1;have:=l3.1;omega)));simp only [tz]
      refine tks HSU 14 (.bool true) rfl ?_;simp only [tz];refine tkm HSU 13 [(15,20,1,some true),(0,0,9,none),(0,0,0,some true)] rfl ?_;simp only [exI,exD,updZ,updK,kV,rpS,rpZ,apC,apN];refine wpAnyH_done (tkn HSU (by kernel_rfl)) ?_ _
      go_wp2_with fail;go_meet
      case rel=>exact ⟨Or.inl rfl,bz⟩
     ·have hd3:decide ((300:Int)<(n1:Int)+(n2:Int)+(n3:Int))=false:=decide_eq_false h3;refine tks HSU 13 (.int .i64 ((n1:Int)+(n2:Int)+(n3:Int))) rfl ?_ (hr:=by intro w hSw;go_simp;(exact IntWalk.i64_in _ (by have:=l1.1;have:=l2.1;have:=l3.1;omega)));simp only [tz]
      refine tks HSU 14 (.bool false) rfl ?_;simp only [tz];refine tkm HSU 2 [(15,20,1,some false)] rfl ?_;simp only [exI,exD,updZ,updK,kV,rpS,rpZ,apC,apN];refine tks HSU 17 (.pointer (some ⟨g2,4,none⟩)) rfl ?_;simp only [tz];refine tks HSU 18 (.pointer (some ⟨g2,5,none⟩)) rfl ?_;simp only [tz];refine tks HSU 19 (.slice s.v.A s.v.xs.length s.v.c) rfl ?_;simp only [tz];refine tks HSU 20 (.int .i64 (s.v.xs.length:Int)) rfl ?_;simp only [tz];refine tks HSU 21 (.pointer (some ⟨g2,4,none⟩)) rfl ?_;simp only [tz];refine tks HSU 22 (.pointer (some ⟨g2,6,none⟩)) rfl ?_;simp only [tz];refine tks HSU 23 (.slice s.v.D s.v.ys.length s.v.d) rfl ?_;simp only [tz]
      refine tks HSU 24 (.int .i64 (s.v.ys.length:Int)) rfl ?_;simp only [tz];refine tks HSU 25 (.int .i64 ((s.v.xs.length:Int)+(s.v.ys.length:Int))) rfl ?_ (hr:=by intro w hSw;go_simp;(exact IntWalk.i64_in _ (by have:=HSR.out.v.1;have:=HSR.out.v.2;omega)));simp only [tz]
      refine tks HSU 26 (.bool (decide ((100:Int)<(s.v.xs.length:Int)+(s.v.ys.length:Int)))) rfl ?_;simp only [tz];refine tks HSU 27 (.bool (decide ((100:Int)<(s.v.xs.length:Int)+(s.v.ys.length:Int)))) rfl ?_;simp only [tz];refine wpAnyH_done (tkn HSU (by kernel_rfl)) ?_ _
      go_wp2_with fail;go_meet
      case rel=>
       refine ⟨?_,bz⟩;by_cases h4:(100:Int)<(s.v.xs.length:Int)+(s.v.ys.length:Int)
       ·exact Or.inl (by rw [decide_eq_true h4])
       ·exact Or.inr ⟨by rw [decide_eq_false h4],hv rfl,sn_small l1 l2 l3 (by omega) (by omega)⟩
    ·skip
     refine tkm HSU 26 [(2,7,0,some true),(0,0,11,none),(0,0,1,some true),(0,0,9,none),(0,0,0,some true)] rfl ?_;simp only [exI,exD,updZ,updK,kV,rpS,rpZ,apC,apN];refine wpAnyH_done (tkn HSU (by kernel_rfl)) ?_ _
     go_wp2_with fail;go_meet
     case rel=>exact ⟨Or.inl rfl,bz⟩
  case rest=>
    obtain ⟨hv,bb⟩:=hcut;replace HPB:=Lib.hid (HPB.out.below bb);replace HSB:=Lib.hid (HSB.out.below bb);replace HBW:=Lib.hid (below_on HBW.out bb HBW.out.size);clear bb;rcases hv with rfl|⟨rfl,sm,ss⟩
    · go_wp2_with fail
      refine (awake16_any wc).mono ?_;rintro e wb ⟨rfl,bb⟩;go_wp2_with fail;go_ret;exact ⟨rfl,below_on HBW.out bb HBW.out.size⟩
    · have HSM:=Lib.hid sm
      have HSS:=Lib.hid ss;clear sm ss;obtain ⟨bv,hbv⟩:=bool_ex p.vd;obtain ⟨bc,hbc⟩:=bool_ex (ChkS p s);have HBV:=Lib.hid hbv;have HBC:=Lib.hid hbc;clear hbv hbc;go_upto_region 3 with fail;generalize wc=wr at *;have HSP:Hid (∀w',Below wr.heap.size wr w'→(w'.cell? ⟨g1,0,none⟩=some p.cost.val∧w'.cell? ⟨g1,1,none⟩=some (.slice p.rA p.rows.length p.rc)∧w'.cell? ⟨g1,2,none⟩=some p.right.val∧w'.cell? ⟨g2,0,none⟩=some (.int .i64 s.kind)∧w'.cell? ⟨g2,1,none⟩=some s.X.val∧w'.cell? ⟨g2,2,none⟩=some s.Y.val∧w'.cell? ⟨g2,3,none⟩=some s.R.val∧w'.cell? ⟨g2,4,none⟩=some (.bool s.v.b)∧w'.cell? ⟨g2,5,none⟩=some (.slice s.v.A s.v.xs.length s.v.c)∧w'.cell? ⟨g2,6,none⟩=some (.slice s.v.D s.v.ys.length s.v.d))):=Lib.hid (fun _ bz=>⟨(HPB.out.below bz).c0,(HPB.out.below bz).c1,(HPB.out.below bz).c2,(HSB.out.below bz).c0,(HSB.out.below bz).c1,(HSB.out.below bz).c2,(HSB.out.below bz).c3,(HSB.out.below bz).c4,(HSB.out.below bz).c5,(HSB.out.below bz).c6⟩)
      refine wprh HSP (by kernel_rfl) (fun hHeld=>?_)
      have bz:=(Below.refl wr.heap.size wr).drew;generalize wr.drew=wd at *;refine tki [sE 34 [2] [],sE 35 [34] [0],sE 36 [2] [],sE 37 [36] [2,1],sE 38 [35,37] [1,3],sE 39 [38] [4,3],sG 40 [2,39] [5] 5 true,sG 41 [3,39] [5] 5 true,sG 42 [40,41,39] [6,7,5,5] 5 true,sG 43 [2,39] [5] 5 true,sG 44 [3,39] [5] 5 true,sG 45 [43,44,39] [9,10,8,5] 5 true,sG 46 [42,45,39] [8,11,5] 5 true,sE 47 [39,46] [5,12],sE 48 [47] [13,11],sG 49 [48] [14,14] 14 true,sE 50 [48,49] [14,15],sE 4 [50] [16,15,0,1,2,3,4,5,6,7,8,9,10,11,12,13,14,15,16]] [false,false,false,false,false,false,false,false,false,false,false,false,false,false,false,false,false,false] (by kernel_rfl) (by kernel_rfl) (by kernel_rfl) (fun HSU=>?_)
      refine tks HSU 0 (.agg #[p.cost.val, .slice p.rA p.rows.length p.rc,p.right.val]) rfl ?_;simp only [tz];refine tks HSU 2 (.agg #[p.cost.val, .slice p.rA p.rows.length p.rc,p.right.val]) rfl ?_;simp only [tz];refine tk1 HSU 1 rfl (fun K hK=>?_);go_simp;go_at_call 15;refine (svalid_any wd p bv (HO.out.below (below_on HBW.out bz HBW.out.size)) HSM.out HBV.out).mono ?_;rintro e wd ⟨rfl,bb⟩;replace bz:=below_on bz bb bz.size;clear bb;refine hK.out _ _ (HSP.out _ bz) (fun hHeld=>?_);clear hK K;try simp only [tz]
      refine tk1 HSU 3 rfl (fun K hK=>?_);go_simp;go_at_call 16;refine (r16valid_any wd p bv (HO.out.below (below_on HBW.out bz HBW.out.size)) HSM.out HBV.out).mono ?_;rintro e wd ⟨rfl,bb⟩;replace bz:=below_on bz bb bz.size;clear bb;refine hK.out _ _ (HSP.out _ bz) (fun hHeld=>?_);clear hK K;try simp only [tz]
      refine tks HSU 4 (.bool true) rfl ?_;simp only [tz];refine tks HSU 5 (.bool true) rfl ?_;simp only [tz];refine tks HSU 6 (.agg #[p.cost.val, .slice p.rA p.rows.length p.rc,p.right.val]) rfl ?_;simp only [tz];refine tks HSU 7 (.agg #[.int .i64 s.kind,s.X.val,s.Y.val,s.R.val, .bool s.v.b, .slice s.v.A s.v.xs.length s.v.c, .slice s.v.D s.v.ys.length s.v.d]) rfl ?_;simp only [tz];refine tks HSU 9 (.agg #[p.cost.val, .slice p.rA p.rows.length p.rc,p.right.val]) rfl ?_;simp only [tz];refine tks HSU 10 (.agg #[.int .i64 s.kind,s.X.val,s.Y.val,s.R.val, .bool s.v.b, .slice s.v.A s.v.xs.length s.v.c, .slice s.v.D s.v.ys.length s.v.d]) rfl ?_;simp only [tz]
      refine tk1 HSU 8 rfl (fun K hK=>?_);go_simp;go_at_call 17;refine (scheck_any wd p s bc (HO.out.below (below_on HBW.out bz HBW.out.size)) HSM.out (HSO.out.below (below_on HBW.out bz HBW.out.size)) HSS.out HBC.out).mono ?_;rintro e wd ⟨rfl,bb⟩;replace bz:=below_on bz bb bz.size;clear bb;refine hK.out _ _ (HSP.out _ bz) (fun hHeld=>?_);clear hK K;try simp only [tz]
      refine tk1 HSU 11 rfl (fun K hK=>?_);go_simp;go_at_call 18;refine (r16check_any wd p s bc (HO.out.below (below_on HBW.out bz HBW.out.size)) HSM.out (HSO.out.below (below_on HBW.out bz HBW.out.size)) HSS.out HBC.out).mono ?_;rintro e wd ⟨rfl,bb⟩;replace bz:=below_on bz bb bz.size;clear bb;refine hK.out _ _ (HSP.out _ bz) (fun hHeld=>?_);clear hK K;try simp only [tz]
      refine tks HSU 12 (.bool true) rfl ?_;simp only [tz];refine tkm HSU 2 [(13,47,1,some true)] rfl ?_;simp only [exI,exD,updZ,updK,kV,rpS,rpZ,apC,apN];refine tk1 HSU 15 rfl (fun K hK=>?_);go_simp;go_at_call 14;refine (awake16_any wd).mono ?_;rintro e wd ⟨rfl,bb⟩;replace bz:=below_on bz bb bz.size;clear bb;refine hK.out _ _ (HSP.out _ bz) (fun hHeld=>?_);clear hK K;try simp only [tz]
      refine tks HSU 16 (.bool true) rfl ?_;simp only [tz];refine tkm HSU 1 [(17,4,0,some true)] rfl ?_;simp only [exI,exD,updZ,updK,kV,rpZ,apN];refine wpAnyH_done (tkn HSU (by kernel_rfl)) ?_ _
      go_wp2_with fail;go_ret;exact ⟨rfl,below_on HBW.out bz HBW.out.size⟩
end Go.Proofs.YtkpfbekmaafehaaGreat
