/- The walk of simplex.Check -/
import Derived.Test.YtkpfbekmaafehaaGreatSsK
import Derived.Test.YtkpfbekmaafehaaGreatSsM
import Derived.Test.YtkpfbekmaafehaaGreatSpB
import Derived.Test.YtkpfbekmaafehaaGreatSsJ
import Derived.Test.YtkpfbekmaafehaaGreatSrD
namespace Go.Proofs.YtkpfbekmaafehaaGreat
open _root_.Go.Proofs.Tryz
set_option maxHeartbeats 8000000
set_option maxRecDepth 100000
open Go.RowKit
theorem xz (w:World) (p:Pg) (s:Sn) (h:p.ok w) (sm:p.sm) (hs:s.ok w) (ss:s.sm) (hno:¬(p.vd/\Md s.X.vs/\Md s.Y.vs/\Md s.R.vs/\Md [s.v])) :
 Calls prog 17 #[p.val,s.val] w fun e w'=>e = .returned (.bool false)/\Below w.heap.size w w':=by
 have HO:=ag h;have bt:=ag sm;have iu:=ag hs;have fc:=ag ss;have rT:=ag hno;clear h sm hs ss hno;go_enter func17,ntmps17;go_upto_region 1 with fail;have pb:=(aY w p 25).1;have bw:=(aY w p 25).2;have hsz:=iV w p 25;generalize (w.alloc (.cells #[.slice p.cost.A p.cost.vs.length p.cost.c, .slice p.rA p.rows.length p.rc, .slice p.right.A p.right.vs.length p.right.c] 25))=wm at pb bw hsz|-;have sb:=(cY wm s 31).1;have bb:=(cY wm s 31).2;rw [hsz] at sb;replace pb:=pb.below bb;replace bw:=qd bw bb;clear bb hsz;generalize (wm.alloc (.cells #[.int .i64 s.kind, .slice s.X.A s.X.vs.length s.X.c, .slice s.Y.A s.Y.vs.length s.Y.c, .slice s.R.A s.R.vs.length s.R.c, .bool s.v.b, .slice s.v.A s.v.xs.length s.v.c, .slice s.v.D s.v.ys.length s.v.d] 31))=wb at *
 obtain ⟨g1,hg1⟩:∃g,w.heap.size=g:=⟨_,rfl⟩;obtain ⟨g2,hg2⟩:∃g,w.heap.size+1=g:=⟨_,rfl⟩;have pb1:Pb wb g1 p:=by rw [<-hg1];exact pb
 rw [hg2] at sb;rw [hg2,hg1];clear hg1 hg2 pb;have c0:=pb1.c0;have c1:=pb1.c1;have c2:=pb1.c2;by_cases hv:p.vd
 ·have bN:=ag hv;have bq:=ag pb1;have bO:=ag sb;have aw:=ag bw;go_wp2_with fail;refine (fE wb p true (HO.o.below bw) bt.o (Iff.intro (fun _=>bN.o) (fun _=>rfl))).mono ?_;rintro e wa ⟨rfl,bb⟩;replace bq:=ag (bq.o.below bb);replace bO:=ag (bO.o.below bb);replace aw:=ag (qd aw.o bb);clear bb c0 c1 c2 pb1 sb bw hv wb;have s1:=bO.o.c1;go_wp2_with fail;refine (cm wa s.X (iu.o.X.below aw.o) fc.o.lX fc.o.eX).mono ?_;rintro e wb ⟨A1,l1,c1,b1,rfl,hx,bb⟩;have HX:=ag hx;replace bq:=ag (bq.o.below bb);replace bO:=ag (bO.o.below bb);replace aw:=ag (qd aw.o bb)
  clear bb s1 hx wa;have s2:=bO.o.c2;go_wp2_with fail;refine (cm wb s.Y (iu.o.Y.below aw.o) fc.o.lY fc.o.eY).mono ?_;rintro e wa ⟨A2,l2,c2,b2,rfl,hx,bb⟩;replace HX:=ag (HX.o.below bb);have HY:=ag hx;replace bq:=ag (bq.o.below bb);replace bO:=ag (bO.o.below bb);replace aw:=ag (qd aw.o bb);clear bb s2 hx wb;have s3:=bO.o.c3;go_wp2_with fail;refine (cm wa s.R (iu.o.R.below aw.o) fc.o.lR fc.o.eR).mono ?_;rintro e wb ⟨A3,l3,c3,b3,rfl,hx,bb⟩;replace HX:=ag (HX.o.below bb);replace HY:=ag (HY.o.below bb);have HR:=ag hx;replace bq:=ag (bq.o.below bb)
  replace bO:=ag (bO.o.below bb);replace aw:=ag (qd aw.o bb);clear bb s3 hx wa;have s4:=bO.o.c4;have s5:=bO.o.c5;have s6:=bO.o.c6;go_wp2_with fail;have e6:(⟨some ⟨wb.heap.size,0,none⟩,1,[s.v]⟩:Sl).ok (wb.alloc (.cells s.v.cells 29)):=⟨j3 (iu.o.v.below aw.o),(fun v hv=>by
   obtain rfl:=List.mem_singleton.1 hv;exact (iu.o.v.below aw.o).below ((ah _ _).alloc (Nat.le_refl _) _)),Nat.le_refl _⟩
  have bb:=qc wb (.cells s.v.cells 29);refine (cm _ _ e6 (by simp) (by intro v hv;obtain rfl:=List.mem_singleton.1 hv;exact fc.o.ev)).mono ?_
  rintro e wa ⟨A4,l4,c4,b4,rfl,hx,b5⟩;replace bb:=qd bb b5;replace HX:=ag (HX.o.below bb);replace HY:=ag (HY.o.below bb);replace HR:=ag (HR.o.below bb);have HV:Hd (Sho wa A4 l4 b4 [s.v]):=ag hx;replace bq:=ag (bq.o.below bb);replace bO:=ag (bO.o.below bb);replace aw:=ag (qd aw.o bb);clear bb s4 s5 s6 hx e6 b5;generalize wb.heap.size=g40;clear wb;by_cases b1=true
  case neg h0=>
   obtain rfl:b1=false:=by simpa using h0
   go_wp2_with fail;go_ret;exact ⟨rfl,aw.o⟩
  case pos h0=>
   subst h0;by_cases b2=true
   case neg h0=>
    obtain rfl:b2=false:=by simpa using h0
    go_wp2_with fail;go_ret;exact ⟨rfl,aw.o⟩
   case pos h0=>
    subst h0;by_cases b3=true
    case neg h0=>
     obtain rfl:b3=false:=by simpa using h0
     go_wp2_with fail;go_ret;exact ⟨rfl,aw.o⟩
    case pos h0=>
     subst h0;by_cases b4=true
     case neg h0=>
      obtain rfl:b4=false:=by simpa using h0
      go_wp2_with fail;go_ret;exact ⟨rfl,aw.o⟩
     case pos h0=>
      subst h0;exact absurd ⟨bN.o,(HX.o.t rfl).1,(HY.o.t rfl).1,(HR.o.t rfl).1,(HV.o.t rfl).1⟩ rT.o
 ·have aw:=ag bw;go_wp2_with fail;refine (fE wb p false (HO.o.below bw) bt.o (Iff.intro (fun h=>Bool.noConfusion h) (fun h=>absurd h hv))).mono ?_;rintro e w1 ⟨rfl,bb⟩;clear c0 c1 c2 pb1 sb;go_wp2_with fail;go_ret;exact ⟨rfl,qd aw.o bb⟩
theorem uJ (w:World) (p:Pg) (s:Sn) (bo:Bool) (h:p.ok w) (sm:p.sm) (hs:s.ok w) (ss:s.sm) (hb:bo=true↔yo p s) :
 Calls prog 17 #[p.val,s.val] w fun e w'=>e = .returned (.bool bo)/\Below w.heap.size w w':=by
 by_cases h0:p.vd/\Md s.X.vs/\Md s.Y.vs/\Md s.R.vs/\Md [s.v]
 ·obtain ⟨vd,mx,my,mr,mv⟩:=h0;by_cases k:s.kind=2\/s.kind=3
  ·exact xA w p s bo h sm hs ss hb vd mx my mr mv k
  ·exact xB w p s bo h sm hs ss hb vd mx my mr mv ⟨fun e=>k (Or.inl e),fun e=>k (Or.inr e)⟩
 ·have hbf:bo=false:=by
   cases bo
   ·rfl
   ·have f:=hb.1 rfl;exact absurd ⟨f.vd,f.X,f.Y,f.R,f.V⟩ h0
  subst hbf;exact xz w p s h sm hs ss h0
theorem uC (w:World) (p:Pg) (h:p.ok w) (sm:p.sm) (vd:p.vd) :
 Calls prog 19 #[p.val] w fun e w'=>∃s:Sn,e = .returned (.tuple #[s.val, .int .i64 0])/\vA w' p s/\Below w.heap.size w w':=by
 refine (pX w p h sm vd).mono ?_;rintro e w' ⟨s,rfl,hs,bb⟩;exact ⟨s,rfl,hs.good vd,bb⟩
theorem sz_m1:Sz ((-1:Int):Rat) 128 128:=⟨Nat.le_trans (eM (by decide)) (by omega),Nat.le_trans (eM (by decide)) (by omega)⟩
theorem vI {z:Int} (h:z.natAbs<18446744073709551616):Sz (z:Rat) 128 128:=⟨Nat.le_trans (eM (by rw [Rat.num_intCast];exact h)) (by omega),Nat.le_trans (eM (by rw [Rat.den_intCast];omega)) (by omega)⟩
theorem El.int {w:World} {x:Fx} {z:Int} (h:El w x (z:Rat)) (hz:z.natAbs<18446744073709551616):Nm w x (z:Rat):=h.nm (vI hz)
theorem lO {x:Fx} {z:Int} (h:x.q=(z:Rat)) (hz:z.natAbs<64):wgB x.q<=6:=by
 rw [h,wgB]
 split
 ·omega
 ·rw [Rat.num_intCast,Rat.den_intCast];have h1:=(bP z.natAbs 6).2 (by omega)
  have h2:¬ 1<aI 1:=by decide
  rw [if_neg h2];omega
theorem AV (w:World) (ga gb gc gr:Nat) (x1 x2 x3 x4 x5:Fx) (h1:El w x1 ((-1:Int):Rat)) (h2:El w x2 ((0:Int):Rat)) (h3:El w x3 ((1:Int):Rat)) (h4:El w x4 ((1:Int):Rat)) (h5:El w x5 ((1:Int):Rat))
 (ra:RdF w (some ⟨ga,0,none⟩) [x1,x2]) (rb:RdF w (some ⟨gb,0,none⟩) [x3,x4]) (rc:RdF w (some ⟨gc,0,none⟩) [x5]) (rr:Rd Sl.val w (some ⟨gr,0,none⟩) [⟨some ⟨gb,0,none⟩,2,[x3,x4]⟩]) :
 ∃p:Pg,p.val = .agg #[.slice (some ⟨ga,0,none⟩) 2 2, .slice (some ⟨gr,0,none⟩) 1 1, .slice (some ⟨gc,0,none⟩) 1 1]/\p.ok w/\p.sm/\p.vd/\∀s:Sn,yo p s->s.kind=1/\s.v.q = -1:=by
 have n1:=h1.int (by decide)
 have n2:=h2.int (by decide)
 have n3:=h3.int (by decide)
 have n4:=h4.int (by decide)
 have n5:=h5.int (by decide)
 have m2:∀ {P:Fx->Prop} {x y:Fx},P x->P y->∀v ∈ [x,y],P v:=fun hx hy v hv=>by
  simp only [List.mem_cons,List.not_mem_nil,or_false] at hv;rcases hv with rfl|rfl
  ·exact hx
  ·exact hy
 have m1:∀ {P:Fx->Prop} {x:Fx},P x->∀v ∈ [x],P v:=fun hx v hv=>by
  obtain rfl:=List.mem_singleton.1 hv;exact hx
 have r1:∀ {P:Sl->Prop} {x:Sl},P x->∀v ∈ [x],P v:=fun hx v hv=>by
  obtain rfl:=List.mem_singleton.1 hv;exact hx
 refine ⟨⟨⟨some ⟨ga,0,none⟩,2,[x1,x2]⟩,some ⟨gr,0,none⟩,1,[⟨some ⟨gb,0,none⟩,2,[x3,x4]⟩],⟨some ⟨gc,0,none⟩,1,[x5]⟩⟩,rfl,?_,?_,?_,?_⟩
 ·exact ⟨⟨ra,m2 n1.ok n2.ok,Nat.le_refl _⟩,⟨rc,m1 n5.ok,Nat.le_refl _⟩,rr,r1 ⟨rb,m2 n3.ok n4.ok,Nat.le_refl _⟩,Nat.le_refl _⟩
 ·exact ⟨(by show 2<=1000;omega),(by show 1<=1000;omega),(by show 1<=1000;omega),r1 (by show 2<=1000;omega),m2 ⟨n1.l,n1.m⟩ ⟨n2.l,n2.m⟩,m1 ⟨n5.l,n5.m⟩,r1 (m2 ⟨n3.l,n3.m⟩ ⟨n4.l,n4.m⟩)⟩
 ·refine ⟨(by show 1<=1;omega),(by show 1<=32;omega),(by show 1<=2;omega),(by show 2<=256;omega),rfl,r1 rfl,m2 n1.v n2.v,m1 n5.v,r1 (m2 n3.v n4.v),?_⟩
  have g1:=lO n1.q (by decide)
  have g2:=lO n2.q (by decide)
  have g3:=lO n3.q (by decide)
  have g4:=lO n4.q (by decide)
  have g5:=lO n5.q (by decide)
  simp only [wlF,List.map_cons,List.map_nil,List.sum_cons,List.sum_nil];omega
 ·intro s hs;have hP:=hs.P;have e1:x1.q = -1:=n1.q.trans (by rfl)
  have e2:x2.q=0:=n2.q.trans (by rfl)
  have e3:x3.q=1:=n3.q.trans (by rfl)
  have e4:x4.q=1:=n4.q.trans (by rfl)
  have e5:x5.q=1:=n5.q.trans (by rfl)
  exact yh e3 e4 e5 e1 e2 hP
theorem Bc (w:World):∃p:Pg,p.val = .agg #[.slice none 0 0, .slice none 0 0, .slice none 0 0]/\p.ok w/\p.sm/\¬p.vd:=by
 refine ⟨⟨slN,none,0,[],slN⟩,rfl,⟨⟨fun h=>absurd h (Nat.not_lt_zero _),fun v hv=>absurd hv List.not_mem_nil,Nat.le_refl _⟩,⟨fun h=>absurd h (Nat.not_lt_zero _),fun v hv=>absurd hv List.not_mem_nil,Nat.le_refl _⟩,fun h=>absurd h (Nat.not_lt_zero _),fun v hv=>absurd hv List.not_mem_nil,Nat.le_refl _⟩,⟨Nat.zero_le _,Nat.zero_le _,Nat.zero_le _,fun v hv=>absurd hv List.not_mem_nil,fun v hv=>absurd hv List.not_mem_nil,fun v hv=>absurd hv List.not_mem_nil,fun v hv=>absurd hv List.not_mem_nil⟩,fun v=>absurd v.r1 (by show ¬ 1<=0;omega)⟩
theorem jH (w:World):Calls prog 14 #[] w fun e w'=>e = .returned (.bool true)/\Below w.heap.size w w':=by
 go_enter func14,ntmps14;go_wp2_with fail;refine (dS w (-1) (by omega) (by omega)).mono ?_
 rintro _ w1 ⟨x1,rfl,h1,bw⟩;have aw:=ag bw;have H1:=ag h1;clear h1 bw;go_wp2_with fail;refine (dS w1 0 (by omega) (by omega)).mono ?_
 rintro _ w2 ⟨x2,rfl,h2,bb⟩;have H2:=ag h2;replace H1:=ag (H1.o.below bb);replace aw:=ag (qd aw.o bb);clear h2 bb;go_wp2_with fail;have ra:=rdf2 w2 x1 x2;have bb:=qc w2 (.cells #[.bool x1.b, .slice x1.A x1.xs.length x1.c, .slice x1.D x1.ys.length x1.d, .bool x2.b, .slice x2.A x2.xs.length x2.c, .slice x2.D x2.ys.length x2.d] 29);generalize (w2.alloc (.cells #[.bool x1.b, .slice x1.A x1.xs.length x1.c, .slice x1.D x1.ys.length x1.d, .bool x2.b, .slice x2.A x2.xs.length x2.c, .slice x2.D x2.ys.length x2.d] 29))=w3 at ra bb|-;generalize w2.heap.size=ga at ra|-
 have gu:=ag ra;replace H1:=ag (H1.o.below bb);replace H2:=ag (H2.o.below bb);replace aw:=ag (qd aw.o bb);clear ra bb;refine (dS w3 1 (by omega) (by omega)).mono ?_
 rintro _ w4 ⟨x3,rfl,h3,bb⟩;have H3:=ag h3;replace H1:=ag (H1.o.below bb);replace H2:=ag (H2.o.below bb);replace gu:=ag (gu.o.below bb);replace aw:=ag (qd aw.o bb);clear h3 bb;go_wp2_with fail;refine (dS w4 1 (by omega) (by omega)).mono ?_
 rintro _ w5 ⟨x4,rfl,h4,bb⟩;have H4:=ag h4;replace H1:=ag (H1.o.below bb);replace H2:=ag (H2.o.below bb);replace gu:=ag (gu.o.below bb);replace aw:=ag (qd aw.o bb);replace H3:=ag (H3.o.below bb);clear h4 bb;go_wp2_with fail;have rb:=rdf2 w5 x3 x4;have bb:=qc w5 (.cells #[.bool x3.b, .slice x3.A x3.xs.length x3.c, .slice x3.D x3.ys.length x3.d, .bool x4.b, .slice x4.A x4.xs.length x4.c, .slice x4.D x4.ys.length x4.d] 29);have hs5:(w5.alloc (.cells #[.bool x3.b, .slice x3.A x3.xs.length x3.c, .slice x3.D x3.ys.length x3.d, .bool x4.b, .slice x4.A x4.xs.length x4.c, .slice x4.D x4.ys.length x4.d] 29)).heap.size=w5.heap.size+1:=by simp
 generalize (w5.alloc (.cells #[.bool x3.b, .slice x3.A x3.xs.length x3.c, .slice x3.D x3.ys.length x3.d, .bool x4.b, .slice x4.A x4.xs.length x4.c, .slice x4.D x4.ys.length x4.d] 29))=w6 at rb bb hs5|-;have B5:=ag bb;have DT:=ag hs5;replace H1:=ag (H1.o.below bb);replace H2:=ag (H2.o.below bb);replace H3:=ag (H3.o.below bb);replace H4:=ag (H4.o.below bb);replace gu:=ag (gu.o.below bb);replace aw:=ag (qd aw.o bb);have jp:=ag rb;clear rb bb B5 hs5;obtain ⟨gb,hgb⟩:∃g,w5.heap.size=g:=⟨_,rfl⟩;rw [hgb] at DT jp|-;clear hgb;have rr:Rd Sl.val (w6.alloc (.cells #[.slice (some ⟨gb,0,none⟩) 2 2] 22)) (some ⟨w6.heap.size,0,none⟩) [⟨some ⟨gb,0,none⟩,2,[x3,x4]⟩]:=Rd.one_ w6 22 _ (.slice (some ⟨gb,0,none⟩) 2 2) rfl
 rw [DT.o] at rr;have bb:=qc w6 (.cells #[.slice (some ⟨gb,0,none⟩) 2 2] 22);generalize (w6.alloc (.cells #[.slice (some ⟨gb,0,none⟩) 2 2] 22))=w7 at rr bb|-;obtain ⟨gr,hgr⟩:∃g,gb+1=g:=⟨_,rfl⟩;rw [hgr] at rr|-;have sA:=ag rr;replace H1:=ag (H1.o.below bb);replace H2:=ag (H2.o.below bb);replace gu:=ag (gu.o.below bb);replace aw:=ag (qd aw.o bb);replace H3:=ag (H3.o.below bb);replace H4:=ag (H4.o.below bb);replace jp:=ag (jp.o.below bb);clear rr bb DT hgr;refine (dS w7 1 (by omega) (by omega)).mono ?_
 rintro _ w8 ⟨x5,rfl,h5,bb⟩;have H5:=ag h5;replace H1:=ag (H1.o.below bb);replace H2:=ag (H2.o.below bb);replace gu:=ag (gu.o.below bb);replace aw:=ag (qd aw.o bb);replace H3:=ag (H3.o.below bb);replace H4:=ag (H4.o.below bb);replace jp:=ag (jp.o.below bb);replace sA:=ag (sA.o.below bb rfl);clear h5 bb;go_upto_region 2 with fail;have rc:=yP w8 x5;have bb:=qc w8 (.cells #[.bool x5.b, .slice x5.A x5.xs.length x5.c, .slice x5.D x5.ys.length x5.d] 29);have hs8:(w8.alloc (.cells #[.bool x5.b, .slice x5.A x5.xs.length x5.c, .slice x5.D x5.ys.length x5.d] 29)).heap.size=w8.heap.size+1:=by simp
 generalize (w8.alloc (.cells #[.bool x5.b, .slice x5.A x5.xs.length x5.c, .slice x5.D x5.ys.length x5.d] 29))=w9 at rc bb hs8|-;replace H1:=ag (H1.o.below bb);replace H2:=ag (H2.o.below bb);replace gu:=ag (gu.o.below bb);replace aw:=ag (qd aw.o bb);replace H3:=ag (H3.o.below bb);replace H4:=ag (H4.o.below bb);replace jp:=ag (jp.o.below bb);replace sA:=ag (sA.o.below bb rfl);replace H5:=ag (H5.o.below bb);have r8:=ag rc;have DU:=ag hs8;clear rc bb hs8;obtain ⟨gc,hgc⟩:∃g,w8.heap.size=g:=⟨_,rfl⟩;rw [hgc] at r8 DU|-;clear hgc;have BW:Hd ((w9.alloc (.cells #[.slice (some ⟨ga,0,none⟩) 2 2, .slice (some ⟨gr,0,none⟩) 1 1, .slice (some ⟨gc,0,none⟩) 1 1] 25)).cell? ⟨w9.heap.size,0,none⟩=some (.slice (some ⟨ga,0,none⟩) 2 2)/\(w9.alloc (.cells #[.slice (some ⟨ga,0,none⟩) 2 2, .slice (some ⟨gr,0,none⟩) 1 1, .slice (some ⟨gc,0,none⟩) 1 1] 25)).cell? ⟨w9.heap.size,1,none⟩=some (.slice (some ⟨gr,0,none⟩) 1 1)/\(w9.alloc (.cells #[.slice (some ⟨ga,0,none⟩) 2 2, .slice (some ⟨gr,0,none⟩) 1 1, .slice (some ⟨gc,0,none⟩) 1 1] 25)).cell? ⟨w9.heap.size,2,none⟩=some (.slice (some ⟨gc,0,none⟩) 1 1)/\w9.heap.size<(w9.alloc (.cells #[.slice (some ⟨ga,0,none⟩) 2 2, .slice (some ⟨gr,0,none⟩) 1 1, .slice (some ⟨gc,0,none⟩) 1 1] 25)).heap.size):=ag ⟨by go_simp,by go_simp,by go_simp,by simp⟩
 have bb:=qc w9 (.cells #[.slice (some ⟨ga,0,none⟩) 2 2, .slice (some ⟨gr,0,none⟩) 1 1, .slice (some ⟨gc,0,none⟩) 1 1] 25);generalize (w9.alloc (.cells #[.slice (some ⟨ga,0,none⟩) 2 2, .slice (some ⟨gr,0,none⟩) 1 1, .slice (some ⟨gc,0,none⟩) 1 1] 25))=wa at BW bb|-;replace H1:=ag (H1.o.below bb);replace H2:=ag (H2.o.below bb);replace gu:=ag (gu.o.below bb);replace aw:=ag (qd aw.o bb);replace H3:=ag (H3.o.below bb);replace H4:=ag (H4.o.below bb);replace jp:=ag (jp.o.below bb);replace sA:=ag (sA.o.below bb rfl);replace r8:=ag (r8.o.below bb)
 replace H5:=ag (H5.o.below bb);obtain ⟨g1,hg1⟩:∃g,w9.heap.size=g:=⟨_,rfl⟩;rw [hg1] at BW
 try rw [hg1]
 try rw [<-DU.o,hg1]
 clear bb hg1 DU;obtain ⟨p,ep,okp,smp,vdp,un⟩:=AV wa ga gb gc gr x1 x2 x3 x4 x5 H1.o H2.o H3.o H4.o H5.o gu.o jp.o r8.o sA.o;have HP:=ag okp;have EW:=ag smp;have B3:=ag vdp;have F6:=ag un;have EX:=ag ep;clear H1 H2 H3 H4 H5 gu jp r8 sA okp smp vdp un ep;obtain ⟨c0,c1,c2,hlt⟩:=BW.o;have fl:=ag hlt;clear hlt BW;have HC:Hd (∀w',Below wa.heap.size wa w'->w'.cell? ⟨g1,0,none⟩=some (.slice (some ⟨ga,0,none⟩) 2 2)/\w'.cell? ⟨g1,1,none⟩=some (.slice (some ⟨gr,0,none⟩) 1 1)/\w'.cell? ⟨g1,2,none⟩=some (.slice (some ⟨gc,0,none⟩) 1 1)):=ag (fun w' hb=>⟨(hb.cell (p:=⟨g1,0,none⟩) fl.o).trans c0,(hb.cell (p:=⟨g1,1,none⟩) fl.o).trans c1,(hb.cell (p:=⟨g1,2,none⟩) fl.o).trans c2⟩)
 go_wp2_with fail;have a8:=uC wa p HP.o EW.o B3.o;rw [EX.o] at a8;refine a8.mono ?_;rintro _ wb ⟨s,rfl,good,bb⟩;have kH:=ag good;replace HP:=ag (HP.o.below bb);replace aw:=ag (qd aw.o bb);have dK:=ag bb;clear good bb a8 c0 c1 c2;go_upto_region 3 with fail;have sb:=(cY wb s 31).1;have bb:=(cY wb s 31).2;generalize (wb.alloc (.cells #[.int .i64 s.kind, .slice s.X.A s.X.vs.length s.X.c, .slice s.Y.A s.Y.vs.length s.Y.c, .slice s.R.A s.R.vs.length s.R.c, .bool s.v.b, .slice s.v.A s.v.xs.length s.v.c, .slice s.v.D s.v.ys.length s.v.d] 31))=wc at sb bb|-;generalize wb.heap.size=g2 at sb|-
 have fd:=ag (kH.o.ok.below bb);replace HP:=ag (HP.o.below bb);replace aw:=ag (qd aw.o bb);replace dK:=ag (qd dK.o bb);have bO:=ag sb;clear sb bb;obtain ⟨pz,ez,okz,smz,nvz⟩:=Bc wc;go_wp2_with fail;have a8:=uv wc pz okz smz nvz;rw [ez] at a8;refine a8.mono ?_;rintro _ wd ⟨rfl,bb⟩;replace fd:=ag (fd.o.below bb);replace HP:=ag (HP.o.below bb);replace aw:=ag (qd aw.o bb);replace dK:=ag (qd dK.o bb);replace bO:=ag (bO.o.below bb);clear bb a8 ez okz smz nvz;go_upto_region 4 with fail;have bb:=(cY wd (⟨0,slN,slN,slN,Fx.nil⟩:Sn) 31).2
 generalize (wd.alloc (.cells #[.int .i64 0, .slice none 0 0, .slice none 0 0, .slice none 0 0, .bool false, .slice none 0 0, .slice none 0 0] 31))=wr at bb|-;replace fd:=ag (fd.o.below bb);replace HP:=ag (HP.o.below bb);replace aw:=ag (qd aw.o bb);replace dK:=ag (qd dK.o bb);replace bO:=ag (bO.o.below bb);clear bb;have hk:=F6.o s kH.o.chk;have zL:Hd (∀w',Below wr.heap.size wr w'->Nm w' s.v ((-1:Int):Rat)):=ag (fun w' hb=>⟨fd.o.v.below hb,(kH.o.chk.V.v 0 (by simp)).1,hk.2.trans (by rfl),kH.o.sm.ev.1,kH.o.sm.ev.2⟩)
 have F7:Hd (∀w',Below wr.heap.size wr w'->w'.cell? ⟨g1,0,none⟩=some (.slice (some ⟨ga,0,none⟩) 2 2)/\w'.cell? ⟨g1,1,none⟩=some (.slice (some ⟨gr,0,none⟩) 1 1)/\w'.cell? ⟨g1,2,none⟩=some (.slice (some ⟨gc,0,none⟩) 1 1)/\w'.cell? ⟨g2,0,none⟩=some (.int .i64 1)/\w'.cell? ⟨g2,1,none⟩=some s.X.val/\w'.cell? ⟨g2,2,none⟩=some s.Y.val/\w'.cell? ⟨g2,3,none⟩=some s.R.val/\w'.cell? ⟨g2,4,none⟩=some (.bool s.v.b)/\w'.cell? ⟨g2,5,none⟩=some (.slice s.v.A s.v.xs.length s.v.c)/\w'.cell? ⟨g2,6,none⟩=some (.slice s.v.D s.v.ys.length s.v.d)):=ag (fun w' hb=>by
  obtain ⟨k0,k1,k2⟩:=HC.o w' (qd dK.o hb);have h:=bO.o.below hb;exact ⟨k0,k1,k2,by rw [h.c0,hk.1],h.c1,h.c2,h.c3,h.c4,h.c5,h.c6⟩)
 have F8:Hd (∀wd,Below wr.heap.size wr wd->Calls prog 17 #[.agg #[.slice (some ⟨ga,0,none⟩) 2 2, .slice (some ⟨gr,0,none⟩) 1 1, .slice (some ⟨gc,0,none⟩) 1 1], .agg #[.int .i64 1,s.X.val,s.Y.val,s.R.val, .bool s.v.b, .slice s.v.A s.v.xs.length s.v.c, .slice s.v.D s.v.ys.length s.v.d]] wd fun e w'=>e = .returned (.bool true)/\Below wd.heap.size wd w'):=ag (fun wd hb=>by
  have:=uJ wd p s true (HP.o.below hb) EW.o (fd.o.below hb) kH.o.sm (Iff.intro (fun _=>kH.o.chk) (fun _=>rfl));rw [EX.o,Sn.val,Sn.cells,hk.1] at this;exact this)
 clear hk;have a7:Hd (∀w',Below wr.heap.size wr w'->(w'.cell? ⟨g1,0,none⟩=some (.slice (some ⟨ga,0,none⟩) 2 2)/\w'.cell? ⟨g1,1,none⟩=some (.slice (some ⟨gr,0,none⟩) 1 1)/\w'.cell? ⟨g1,2,none⟩=some (.slice (some ⟨gc,0,none⟩) 1 1)/\w'.cell? ⟨g2,0,none⟩=some (.int .i64 1)/\w'.cell? ⟨g2,1,none⟩=some s.X.val/\w'.cell? ⟨g2,2,none⟩=some s.Y.val/\w'.cell? ⟨g2,3,none⟩=some s.R.val/\w'.cell? ⟨g2,4,none⟩=some (.bool s.v.b)/\w'.cell? ⟨g2,5,none⟩=some (.slice s.v.A s.v.xs.length s.v.c)/\w'.cell? ⟨g2,6,none⟩=some (.slice s.v.D s.v.ys.length s.v.d))):=ag (fun _ bz=>(F7.o _ bz));refine fR a7 (by kernel_rfl) fun hH=>?_
 have bz:=(ah wr.heap.size wr).drew;generalize wr.drew=wd at *;refine qj 28 fun Ha=>?_
 refine qh Ha 0 (.int .i64 0) rfl ?_;refine qh Ha 1 (.bool true) rfl ?_;refine qh Ha 2 (.bool true) rfl ?_;refine qh Ha 3 (.pointer (some ⟨g2,0,none⟩)) rfl ?_;refine qh Ha 4 (.int .i64 1) rfl ?_;refine tks Ha 5 (.bool true) rfl ?_;simp only [tz];refine tkm Ha 2 [(6,32,1,some true)] rfl ?_;simp only [exI,exD,bI,kV,rpS,rpZ,apC,apN];refine qh Ha 8 (.pointer (some ⟨g2,4,none⟩)) rfl ?_;refine tks Ha 9 (s.v.val) rfl ?_;simp only [tz];refine tk1 Ha 10 rfl fun K hK=>?_;go_simp;go_at_call 32;refine (bF wd s.v true (zL.o wd bz).ok (zL.o wd bz).l (zL.o wd bz).m (decide_eq_true (zL.o wd bz).v)).mono ?_
 rintro e wd ⟨rfl,bb⟩;replace bz:=qd bz bb;clear bb;refine hK.out _ _ (a7.o _ bz) fun hH=>?_;clear hK K;try simp only [tz]
 refine tkm Ha 2 [(11,37,1,some true)] rfl ?_;simp only [exI,exD,bI,kV,rpS,rpZ,apC,apN];refine qh Ha 13 (.pointer (some ⟨g2,4,none⟩)) rfl ?_;refine tks Ha 14 (s.v.val) rfl ?_;simp only [tz];refine tk1 Ha 15 rfl fun K hK=>?_;go_simp;go_at_call 26;refine (dS wd (-1) (by omega) (by omega)).mono ?_
 rintro e wd ⟨y,rfl,ey,bb⟩;replace bz:=qd bz bb;clear bb;refine hK.out _ _ (a7.o _ bz) fun hH=>?_;clear hK K;try simp only [tz]
 refine tk1 Ha 16 rfl fun K hK=>?_;go_simp;go_at_call 24;refine (gA wd s.v y _ _ true (zL.o wd bz) (ey.nm sz_m1) (decide_eq_true rfl)).mono ?_;rintro e wd ⟨rfl,bb⟩;clear ey;replace bz:=qd bz bb;clear bb;refine hK.out _ _ (a7.o _ bz) fun hH=>?_;clear hK K;try simp only [tz]
 refine tkm Ha 2 [(17,43,1,some true)] rfl ?_;simp only [exI,exD,bI,kV,rpS,rpZ,apC,apN];refine qh Ha 19 (.agg #[.slice (some ⟨ga,0,none⟩) 2 2, .slice (some ⟨gr,0,none⟩) 1 1, .slice (some ⟨gc,0,none⟩) 1 1]) rfl ?_;refine tks Ha 20 (.agg #[.int .i64 1,s.X.val,s.Y.val,s.R.val, .bool s.v.b, .slice s.v.A s.v.xs.length s.v.c, .slice s.v.D s.v.ys.length s.v.d]) rfl ?_;simp only [tz];refine tk1 Ha 21 rfl fun K hK=>?_;go_simp;go_at_call 17;refine (F8.o wd bz).mono ?_;rintro e wd ⟨rfl,bb⟩;replace bz:=qd bz bb;clear bb;refine hK.out _ _ (a7.o _ bz) fun hH=>?_;clear hK K;try simp only [tz]
 refine tkm Ha 2 [(22,48,1,some true)] rfl ?_;simp only [exI,exD,bI,kV,rpS,rpZ,apC,apN];refine qh Ha 24 (.int .i64 1) rfl ?_;refine qh Ha 25 (.bool true) rfl ?_;refine tks Ha 26 (.bool true) rfl ?_;simp only [tz];refine tkm Ha 1 [(27,0,0,some true)] rfl ?_;simp only [exI,exD,bI,kV,rpZ,apN];refine qp Ha ?_
 go_wp2_with fail;go_ret;exact ⟨rfl,qd aw.o bz⟩
end Go.Proofs.YtkpfbekmaafehaaGreat
