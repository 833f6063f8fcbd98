/- The walk of drydockref16.Check. -/
import Derived.Test.YtkpfbekmaafehaaGreatSpB
import Derived.Test.YtkpfbekmaafehaaGreatSrH
import Derived.Test.YtkpfbekmaafehaaGreatSqN
namespace Go.Proofs.YtkpfbekmaafehaaGreat
open _root_.Go.Proofs.Tryz
set_option maxHeartbeats 8000000
set_option maxRecDepth 100000
open Go.RowKit
section
variable {w:World} {p:Pg} {s:Sl} {n m:Nat}
theorem tR (ok:p.ok w) (sm:p.sm) (vd:p.vd) (md:Md s.vs) {nx:Nat} (lo:Lo w s nx) (hn:p.cost.vs.length=n) (e:nx=n) :
 Calls prog 48 #[.slice p.cost.A n p.cost.c, .slice s.A nx s.c] w fun e w'=>∃z:Fx,e = .returned z.val/\Nm w' z (aj (fun j=>p.c j*fxV s.vs j) n)/\Below w.heap.size w w':=by
 subst e;have pw:=vd.pw;have mz:=md.mz;rw [hn] at pw;rw [lo.l] at mz;have d:=pw.cst mz (by rw [<-hn];exact vd.c2)
 refine (iD w p.cost.A s.A p.cost.c s.c nx p.cost.vs s.vs p.c (fxV s.vs) (ok.rcst sm vd) lo.r hn lo.l lo.n d).mono ?_;rintro e w' ⟨z,rfl,ez,bb⟩;exact ⟨z,rfl,ez.nm (d.s nx (Nat.le_refl _)),bb⟩
theorem xQ (ok:p.ok w) (sm:p.sm) (vd:p.vd) (md:Md s.vs) {ny:Nat} (lo:Lo w s ny) (hm:p.rows.length=m) (e:ny=m) :
 Calls prog 48 #[.slice s.A ny s.c, .slice p.right.A m p.right.c] w fun e w'=>∃z:Fx,e = .returned z.val/\Nm w' z (aj (fun i=>fxV s.vs i*p.b i) m)/\Below w.heap.size w w':=by
 subst e;have pw:=vd.pw;have mz:=md.mz;rw [hm] at pw;rw [lo.l] at mz;have d:=pw.rgt mz (by have:=vd.r2;omega)
 refine (iD w s.A p.right.A s.c p.right.c ny s.vs p.right.vs (fxV s.vs) p.b lo.r (ok.rrgt sm vd) lo.l (by rw [vd.lb,hm]) lo.n d).mono ?_
 rintro e w' ⟨z,rfl,ez,bb⟩;exact ⟨z,rfl,ez.nm (d.s ny (Nat.le_refl _)),bb⟩
theorem Cj (ok:p.ok w) (sm:p.sm) (vd:p.vd) (md:Md s.vs) {nr:Nat} (lo:Lo w s nr) (hn:p.cost.vs.length=n) (e:nr=n) {i:Nat} (hi:i<p.rows.length) {r:Sl} (hr:p.rows[i]=r) :
 Calls prog 48 #[.slice r.A n r.c, .slice s.A nr s.c] w fun e w'=>∃z:Fx,e = .returned z.val/\Nm w' z (aj (fun j=>p.a i j*fxV s.vs j) n)/\Below w.heap.size w w':=by
 subst e;have pw:=vd.pw;have mz:=md.mz;rw [hn] at pw;rw [lo.l] at mz;have d:=pw.row mz (by rw [<-hn];exact vd.c2) hi
 refine (iD w r.A s.A r.c s.c nr r.vs s.vs (p.a i) (fxV s.vs) (ok.rrow sm vd hi hr) lo.r (by rw [vd.la r (by rw [<-hr];exact List.getElem_mem hi),hn]) lo.l lo.n d).mono ?_
 rintro e w' ⟨z,rfl,ez,bb⟩;exact ⟨z,rfl,ez.nm (d.s nr (Nat.le_refl _)),bb⟩
end
theorem ow (P:Prop):∃b:Bool,b=true↔P:=by classical exact ⟨decide P,by simp⟩
theorem rC (w:World) (p:Pg) (s:Sn) (bo:Bool) (h:p.ok w) (sm:p.sm) (hs:s.ok w) (ss:s.sm) (hb:bo=true↔yo p s) :
 Calls prog 18 #[p.val,s.val] w fun e w'=>e = .returned (.bool bo)/\Below w.heap.size w w':=by
 have HO:=ag h;have br:=ag sm;have fs:=ag hs;have cB:=ag ss;have HB:=ag hb;clear h sm hs ss hb;go_enter func18,ntmps18;go_upto_region 1 with fail;have pb:=(aY w p 25).1;have bw:=(aY w p 25).2;have hsz:=iV w p 25;generalize (w.alloc (.cells #[.slice p.cost.A p.cost.vs.length p.cost.c, .slice p.rA p.rows.length p.rc, .slice p.right.A p.right.vs.length p.right.c] 25))=wm at pb bw hsz|-;have sb:=(cY wm s 31).1;have bb:=(cY wm s 31).2;rw [hsz] at sb;replace pb:=pb.below bb;replace bw:=qc bw bb;clear bb hsz;generalize (wm.alloc (.cells #[.int .i64 s.kind, .slice s.X.A s.X.vs.length s.X.c, .slice s.Y.A s.Y.vs.length s.Y.c, .slice s.R.A s.R.vs.length s.R.c, .bool s.v.b, .slice s.v.A s.v.xs.length s.v.c, .slice s.v.D s.v.ys.length s.v.d] 31))=wb at *
 obtain ⟨g1,hg1⟩:∃g,w.heap.size=g:=⟨_,rfl⟩;obtain ⟨g2,hg2⟩:∃g,w.heap.size+1=g:=⟨_,rfl⟩;have pb1:Pb wb g1 p:=by rw [<-hg1];exact pb
 rw [hg2] at sb;rw [hg2,hg1];clear hg1 hg2 pb;have c0:=pb1.c0;have c1:=pb1.c1;have c2:=pb1.c2;have bj:=ag pb1;have bX:=ag sb;have an:=ag bw;by_cases hv:p.vd
 ·have bK:=ag hv;go_wp2_with fail;refine (kD wb p true (HO.o.below bw) br.o (Iff.intro (fun _=>bK.o) (fun _=>rfl))).mono ?_;rintro e wa ⟨rfl,bb⟩;replace bj:=ag (bj.o.below bb);replace bX:=ag (bX.o.below bb);replace an:=ag (qc an.o bb);clear bb c0 c1 c2 pb1 sb bw hv wb;have s1:=bX.o.c1;by_cases h0:Md s.X.vs
  case neg=>
   have HX:Hd (¬Md s.X.vs):=h0;clear h0;have hbf:bo=false:=by
    cases bo
    ·rfl
    ·exact absurd (HB.o.1 rfl) (fun f=>HX.o f.X)
   subst hbf;go_wp2_with fail;refine (cJ wa s.X false (fs.o.X.below an.o) cB.o.lX cB.o.eX (Iff.intro (fun h=>Bool.noConfusion h) (fun h=>absurd h HX.o))).mono ?_;rintro e wz ⟨rfl,bb⟩;clear s1;go_wp2_with fail;go_ret;exact ⟨rfl,qc an.o bb⟩
  case pos=>
   have HX:=ag h0;clear h0;go_wp2_with fail;refine (cJ wa s.X true (fs.o.X.below an.o) cB.o.lX cB.o.eX (Iff.intro (fun _=>HX.o) (fun _=>rfl))).mono ?_;rintro e wb ⟨rfl,bb⟩;replace bj:=ag (bj.o.below bb);replace bX:=ag (bX.o.below bb);replace an:=ag (qc an.o bb);clear bb s1;have s1:=bX.o.c2;by_cases h0:Md s.Y.vs
   case neg=>
    have HY:Hd (¬Md s.Y.vs):=h0;clear h0;have hbf:bo=false:=by
     cases bo
     ·rfl
     ·exact absurd (HB.o.1 rfl) (fun f=>HY.o f.Y)
    subst hbf;go_wp2_with fail;refine (cJ wb s.Y false (fs.o.Y.below an.o) cB.o.lY cB.o.eY (Iff.intro (fun h=>Bool.noConfusion h) (fun h=>absurd h HY.o))).mono ?_;rintro e wz ⟨rfl,bb⟩;clear s1;go_wp2_with fail;go_ret;exact ⟨rfl,qc an.o bb⟩
   case pos=>
    have HY:=ag h0;clear h0;go_wp2_with fail;refine (cJ wb s.Y true (fs.o.Y.below an.o) cB.o.lY cB.o.eY (Iff.intro (fun _=>HY.o) (fun _=>rfl))).mono ?_;rintro e wc ⟨rfl,bb⟩;replace bj:=ag (bj.o.below bb);replace bX:=ag (bX.o.below bb);replace an:=ag (qc an.o bb);clear bb s1;have s1:=bX.o.c3;by_cases h0:Md s.R.vs
    case neg=>
     have HR:Hd (¬Md s.R.vs):=h0;clear h0;have hbf:bo=false:=by
      cases bo
      ·rfl
      ·exact absurd (HB.o.1 rfl) (fun f=>HR.o f.R)
     subst hbf;go_wp2_with fail;refine (cJ wc s.R false (fs.o.R.below an.o) cB.o.lR cB.o.eR (Iff.intro (fun h=>Bool.noConfusion h) (fun h=>absurd h HR.o))).mono ?_;rintro e wz ⟨rfl,bb⟩;clear s1;go_wp2_with fail;go_ret;exact ⟨rfl,qc an.o bb⟩
    case pos=>
     have HR:=ag h0;clear h0;go_wp2_with fail;refine (cJ wc s.R true (fs.o.R.below an.o) cB.o.lR cB.o.eR (Iff.intro (fun _=>HR.o) (fun _=>rfl))).mono ?_;rintro e wd ⟨rfl,bb⟩;replace bj:=ag (bj.o.below bb);replace bX:=ag (bX.o.below bb);replace an:=ag (qc an.o bb);clear bb s1;have s4:=bX.o.c4;have s5:=bX.o.c5;have s6:=bX.o.c6;have e6:(⟨some ⟨wd.heap.size,0,none⟩,1,[s.v]⟩:Sl).ok (wd.alloc (.cells s.v.cells 29)):=⟨j3 (fs.o.v.below an.o),(fun v hv=>by
      obtain rfl:=List.mem_singleton.1 hv;exact (fs.o.v.below an.o).below ((ah _ _).alloc (Nat.le_refl _) _)),Nat.le_refl _⟩
     have E6:=ag e6;have b6:=qb wd (.cells s.v.cells 29);have B6:=ag b6;clear e6 b6;by_cases h0:Md [s.v]
     case neg=>
      have HV:Hd (¬Md [s.v]):=h0;clear h0;have hbf:bo=false:=by
       cases bo
       ·rfl
       ·exact absurd (HB.o.1 rfl) (fun f=>HV.o f.V)
      subst hbf;go_wp2_with fail;refine (cJ _ _ false E6.o (by simp) (by intro v hv;obtain rfl:=List.mem_singleton.1 hv;exact cB.o.ev) (Iff.intro (fun h=>Bool.noConfusion h) (fun h=>absurd h HV.o))).mono ?_
      rintro e wz ⟨rfl,bb⟩;clear s4 s5 s6;go_wp2_with fail;go_ret;exact ⟨rfl,ai an.o (qc B6.o bb) an.o.size⟩
     case pos=>
      have HV:=ag h0;clear h0;go_wp2_with fail;refine (cJ _ _ true E6.o (by simp) (by intro v hv;obtain rfl:=List.mem_singleton.1 hv;exact cB.o.ev) (Iff.intro (fun _=>HV.o) (fun _=>rfl))).mono ?_
      rintro e wr ⟨rfl,b7⟩;have bb:=qc B6.o b7;replace bj:=ag (bj.o.below bb);replace bX:=ag (bX.o.below bb);replace an:=ag (qc an.o bb);clear bb b7 s4 s5 s6 E6 B6;obtain ⟨n,hn⟩:∃n,p.cost.vs.length=n:=⟨_,rfl⟩;obtain ⟨m,hm⟩:∃m,p.rows.length=m:=⟨_,rfl⟩;obtain ⟨nx,hx⟩:∃n,s.X.vs.length=n:=⟨_,rfl⟩;obtain ⟨ny,hy⟩:∃n,s.Y.vs.length=n:=⟨_,rfl⟩;obtain ⟨nr,hr⟩:∃n,s.R.vs.length=n:=⟨_,rfl⟩;have hxl:nx<=1000:=by rw [<-hx];exact cB.o.lX
      have hyl:ny<=1000:=by rw [<-hy];exact cB.o.lY
      have hrl:nr<=1000:=by rw [<-hr];exact cB.o.lR
      have hnl:n<=256:=by rw [<-hn];exact bK.o.c2
      have hml:m<=32:=by rw [<-hm];exact bK.o.r2
      have hrm:p.right.vs.length=m:=bK.o.lb.trans hm;have BL:Hd (∀w',Below wr.heap.size wr w'->p.ok w'):=ag (fun w' hb=>(HO.o.below an.o).below (hb.mono (Nat.le_refl _)));have GI:Hd (∀w',Below wr.heap.size wr w'->Lo w' s.X nx):=ag (fun w' hb=>HX.o.lo ((fs.o.X.below an.o).below hb) hx (by omega) cB.o.eX)
      have GJ:Hd (∀w',Below wr.heap.size wr w'->Lo w' s.Y ny):=ag (fun w' hb=>HY.o.lo ((fs.o.Y.below an.o).below hb) hy (by omega) cB.o.eY)
      have sL:Hd (∀w',Below wr.heap.size wr w'->Lo w' s.R nr):=ag (fun w' hb=>HR.o.lo ((fs.o.R.below an.o).below hb) hr (by omega) cB.o.eR)
      have tE:Hd (∀w',Below wr.heap.size wr w'->Nm w' s.v s.v.q):=ag (fun w' hb=>⟨(fs.o.v.below an.o).below hb,(HV.o.v 0 (by simp)).1,rfl,cB.o.ev.1,cB.o.ev.2⟩)
      have sD:Hd (∀w',Below wr.heap.size wr w'->w'.cell? ⟨g1,0,none⟩=some (.slice p.cost.A n p.cost.c)/\w'.cell? ⟨g1,1,none⟩=some (.slice p.rA m p.rc)/\w'.cell? ⟨g1,2,none⟩=some (.slice p.right.A m p.right.c)/\w'.cell? ⟨g2,1,none⟩=some (.slice s.X.A nx s.X.c)/\w'.cell? ⟨g2,2,none⟩=some (.slice s.Y.A ny s.Y.c)/\w'.cell? ⟨g2,3,none⟩=some (.slice s.R.A nr s.R.c)/\w'.cell? ⟨g2,4,none⟩=some (.bool s.v.b)/\w'.cell? ⟨g2,5,none⟩=some (.slice s.v.A s.v.xs.length s.v.c)/\w'.cell? ⟨g2,6,none⟩=some (.slice s.v.D s.v.ys.length s.v.d)):=ag (fun w' hb=>by
       have k1:=bj.o.below hb;have k2:=bX.o.below hb;rw [<-hn,<-hm,<-hx,<-hy,<-hr];exact ⟨k1.c0,k1.c1,by rw [hm,<-hrm];exact k1.c2,k2.c1,k2.c2,k2.c3,k2.c4,k2.c5,k2.c6⟩)
      have y7:Hd (∀f:Bool,(f=true↔dX n m nx p.a (fxV s.X.vs) p.b)->∀wd,Below wr.heap.size wr wd->Calls prog 46 #[.agg #[.slice p.cost.A n p.cost.c, .slice p.rA m p.rc, .slice p.right.A m p.right.c], .slice s.X.A nx s.X.c] wd fun e w'=>e = .returned (.bool f)/\Below wd.heap.size wd w'):=ag (fun f hf wd hb=>by
       have:=rB wd p s.X nx f (BL.o wd hb) br.o bK.o (GI.o wd hb) HX.o (by rw [hn,hm];exact hf)
       rw [show p.val = .agg #[.slice p.cost.A n p.cost.c, .slice p.rA m p.rc, .slice p.right.A m p.right.c] from by rw [Pg.val,Sl.val,Sl.val,hn,hm,hrm]] at this
       exact this)
      have HBEg:Hd (∀(cb f:Bool) (uc:Nat->Rat),(uc=fun j=>if cb then p.c j else 0)->(f=true↔dU n m ny p.a (fxV s.Y.vs) uc)->∀wd,Below wr.heap.size wr wd->Calls prog 47 #[.agg #[.slice p.cost.A n p.cost.c, .slice p.rA m p.rc, .slice p.right.A m p.right.c], .slice s.Y.A ny s.Y.c, .bool cb] wd fun e w'=>e = .returned (.bool f)/\Below wd.heap.size wd w'):=ag (fun cb f uc huc hf wd hb=>by
       have:=rE wd p s.Y ny cb f uc huc (BL.o wd hb) br.o bK.o (GJ.o wd hb) HY.o (by rw [hn,hm];exact hf)
       rw [show p.val = .agg #[.slice p.cost.A n p.cost.c, .slice p.rA m p.rc, .slice p.right.A m p.right.c] from by rw [Pg.val,Sl.val,Sl.val,hn,hm,hrm]] at this
       exact this)
      have C6:Hd (∀f:Bool,(f=true↔dU n m ny p.a (fxV s.Y.vs) p.c)->∀wd,Below wr.heap.size wr wd->Calls prog 47 #[.agg #[.slice p.cost.A n p.cost.c, .slice p.rA m p.rc, .slice p.right.A m p.right.c], .slice s.Y.A ny s.Y.c, .bool true] wd fun e w'=>e = .returned (.bool f)/\Below wd.heap.size wd w'):=ag (fun f hf=>HBEg.o true f p.c rfl hf);have cF:Hd (∀f:Bool,(f=true↔dU n m ny p.a (fxV s.Y.vs) (fun _=>0))->∀wd,Below wr.heap.size wr wd->Calls prog 47 #[.agg #[.slice p.cost.A n p.cost.c, .slice p.rA m p.rc, .slice p.right.A m p.right.c], .slice s.Y.A ny s.Y.c, .bool false] wd fun e w'=>e = .returned (.bool f)/\Below wd.heap.size wd w'):=ag (fun f hf=>HBEg.o false f _ rfl hf)
      have Iv:Hd (nx=n->∀wd,Below wr.heap.size wr wd->Calls prog 48 #[.slice p.cost.A n p.cost.c, .slice s.X.A nx s.X.c] wd fun e w'=>∃z:Fx,e = .returned z.val/\Nm w' z (aj (fun j=>p.c j*fxV s.X.vs j) n)/\Below wd.heap.size wd w'):=ag (fun e wd hb=>tR (BL.o wd hb) br.o bK.o HX.o (GI.o wd hb) hn e);have Fh:Hd (nr=n->∀wd,Below wr.heap.size wr wd->Calls prog 48 #[.slice p.cost.A n p.cost.c, .slice s.R.A nr s.R.c] wd fun e w'=>∃z:Fx,e = .returned z.val/\Nm w' z (aj (fun j=>p.c j*fxV s.R.vs j) n)/\Below wd.heap.size wd w'):=ag (fun e wd hb=>tR (BL.o wd hb) br.o bK.o HR.o (sL.o wd hb) hn e)
      have GK:Hd (ny=m->∀wd,Below wr.heap.size wr wd->Calls prog 48 #[.slice s.Y.A ny s.Y.c, .slice p.right.A m p.right.c] wd fun e w'=>∃z:Fx,e = .returned z.val/\Nm w' z (aj (fun i=>fxV s.Y.vs i*p.b i) m)/\Below wd.heap.size wd w'):=ag (fun e wd hb=>xQ (BL.o wd hb) br.o bK.o HY.o (GJ.o wd hb) hm e);have ft:=ag hn;have y8:=ag hm;have tv:=ag hr;have s0:=bX.o.c0;have l9:Hd (bo=true↔dN s.kind n m nx ny nr p.a p.b p.c (fxV s.X.vs) (fxV s.Y.vs) (fxV s.R.vs) s.v.q):=ag (by
       rw [<-hn,<-hm,<-hx,<-hy,<-hr];exact HB.o.trans ⟨fun f=>f.P,fun f=>⟨bK.o,HX.o,HY.o,HR.o,HV.o,f⟩⟩)
      obtain ⟨kd,hkd⟩:∃k,s.kind=k:=⟨_,rfl⟩;rw [hkd] at s0 l9;obtain ⟨c0,c1,c2,s1,s2,s3,s4,s5,s6⟩:=sD.o wr (ah _ _);clear hkd hn hm hx hy hr hrm HBEg bj bX HB;by_cases hk1:kd=1
      ·subst hk1;have HB:Hd (bo=true↔_):=ag (l9.o.trans dN.one);clear l9;go_upto_region 5 with fail;clear s0 c0 c1 c2 s1 s2 s3 s4 s5 s6;obtain ⟨f1,hf1⟩:=ow (dX n m nx p.a (fxV s.X.vs) p.b);obtain ⟨f2,hf2⟩:=ow (dU n m ny p.a (fxV s.Y.vs) p.c);obtain ⟨u1,hu1⟩:∃u,decide (s.v.q=aj (fun i=>p.c i*fxV s.X.vs i) n)=u:=⟨_,rfl⟩;obtain ⟨u2,hu2⟩:∃u,decide (s.v.q=aj (fun i=>fxV s.Y.vs i*p.b i) m)=u:=⟨_,rfl⟩;have Hf1:=ag hf1;have Hf2:=ag hf2;have Hu1:=ag hu1;have Hu2:=ag hu2;clear hf1 hf2 hu1 hu2;by_cases h0:nr=0
       ·have yC:=ag h0;have hr0:((nr:Int) == 0)=true:=by simpa using h0
        clear h0;have aH:Hd (∀w',Below wr.heap.size wr w'->(w'.cell? ⟨g1,0,none⟩=some (.slice p.cost.A n p.cost.c)/\w'.cell? ⟨g1,1,none⟩=some (.slice p.rA m p.rc)/\w'.cell? ⟨g1,2,none⟩=some (.slice p.right.A m p.right.c)/\w'.cell? ⟨g2,1,none⟩=some (.slice s.X.A nx s.X.c)/\w'.cell? ⟨g2,2,none⟩=some (.slice s.Y.A ny s.Y.c)/\w'.cell? ⟨g2,3,none⟩=some (.slice s.R.A nr s.R.c)/\w'.cell? ⟨g2,4,none⟩=some (.bool s.v.b)/\w'.cell? ⟨g2,5,none⟩=some (.slice s.v.A s.v.xs.length s.v.c)/\w'.cell? ⟨g2,6,none⟩=some (.slice s.v.D s.v.ys.length s.v.d))):=ag (fun _ bz=>(sD.o _ bz));refine fR aH (by kernel_rfl) fun hH=>?_
        have bz:=(ah wr.heap.size wr).drew;generalize wr.drew=wd at *;refine qh 37 fun Ha=>?_
        refine qe Ha 0 (.pointer (some ⟨g2,3,none⟩)) rfl ?_;refine qe Ha 1 (.slice s.R.A nr s.R.c) rfl ?_;refine qe Ha 2 (.int .i64 (nr:Int)) rfl ?_;refine qe Ha 3 (.bool true) rfl ?_;refine qe Ha 4 (.bool true) rfl ?_;refine qe Ha 5 (.agg #[.slice p.cost.A n p.cost.c, .slice p.rA m p.rc, .slice p.right.A m p.right.c]) rfl ?_;refine qe Ha 6 (.pointer (some ⟨g2,1,none⟩)) rfl ?_;refine tks Ha 7 (.slice s.X.A nx s.X.c) rfl ?_;simp only [tz];refine tk1 Ha 8 rfl fun K hK=>?_;go_simp
        go_at_call 46;refine (y7.o f1 Hf1.o wd bz).mono ?_;rintro e wd ⟨rfl,bb⟩;replace bz:=qc bz bb;clear bb;refine hK.out _ _ (aH.o _ bz) fun hH=>?_;clear hK K;try simp only [tz]
        cases f1
        ·skip
         refine tkm Ha 27 [(9,48,1,some false),(0,0,3,none),(0,0,1,some false),(0,0,7,none),(0,0,1,some false),(0,0,7,none),(0,0,0,some false)] rfl ?_;simp only [exI,exD,bI,kV,rpS,rpZ,apC,apN];refine tkm Ha 1 [(36,4,0,some false)] rfl ?_;simp only [exI,exD,bI,kV,rpZ,apN];refine qp Ha ?_
         have hbf:bo=false:=by
          cases bo
          ·rfl
          ·exact absurd (HB.o.1 rfl) (fun f=>Bool.noConfusion (Hf1.o.2 f.2.1))
         subst hbf;go_wp2_with fail;go_ret;exact ⟨rfl,qc an.o bz⟩
        ·have Iw:=ag (Hf1.o.1 rfl).1;refine tkm Ha 2 [(9,48,1,some true)] rfl ?_;simp only [exI,exD,bI,kV,rpS,rpZ,apC,apN];refine qe Ha 11 (.agg #[.slice p.cost.A n p.cost.c, .slice p.rA m p.rc, .slice p.right.A m p.right.c]) rfl ?_;refine qe Ha 12 (.pointer (some ⟨g2,2,none⟩)) rfl ?_;refine tks Ha 13 (.slice s.Y.A ny s.Y.c) rfl ?_;simp only [tz];refine tk1 Ha 14 rfl fun K hK=>?_;go_simp;go_at_call 47;refine (C6.o f2 Hf2.o wd bz).mono ?_;rintro e wd ⟨rfl,bb⟩;replace bz:=qc bz bb;clear bb;refine hK.out _ _ (aH.o _ bz) fun hH=>?_;clear hK K;try simp only [tz]
         cases f2
         ·skip
          refine tkm Ha 21 [(15,54,1,some false),(0,0,7,none),(0,0,1,some false),(0,0,7,none),(0,0,0,some false)] rfl ?_;simp only [exI,exD,bI,kV,rpS,rpZ,apC,apN];refine tkm Ha 1 [(36,4,0,some false)] rfl ?_;simp only [exI,exD,bI,kV,rpZ,apN];refine qp Ha ?_
          have hbf:bo=false:=by
           cases bo
           ·rfl
           ·exact absurd (HB.o.1 rfl) (fun f=>Bool.noConfusion (Hf2.o.2 f.2.2.1))
          subst hbf;go_wp2_with fail;go_ret;exact ⟨rfl,qc an.o bz⟩
         ·have FG:=ag (Hf2.o.1 rfl).1;refine tkm Ha 2 [(15,54,1,some true)] rfl ?_;simp only [exI,exD,bI,kV,rpS,rpZ,apC,apN];refine qe Ha 17 (.pointer (some ⟨g2,4,none⟩)) rfl ?_;refine qe Ha 18 (s.v.val) rfl ?_;refine qe Ha 19 (.pointer (some ⟨g1,0,none⟩)) rfl ?_;refine qe Ha 20 (.slice p.cost.A n p.cost.c) rfl ?_;refine qe Ha 21 (.pointer (some ⟨g2,1,none⟩)) rfl ?_;refine tks Ha 22 (.slice s.X.A nx s.X.c) rfl ?_;simp only [tz];refine tk1 Ha 23 rfl fun K hK=>?_;go_simp;go_at_call 48;refine (Iv.o Iw.o wd bz).mono ?_
          rintro e wd ⟨z,rfl,nz,bb⟩;replace bz:=qc bz bb;clear bb;refine hK.out _ _ (aH.o _ bz) fun hH=>?_;clear hK K;try simp only [tz]
          refine tk1 Ha 24 rfl fun K hK=>?_;go_simp;go_at_call 24;refine (gA wd s.v z _ _ u1 (tE.o wd bz) nz Hu1.o).mono ?_;rintro e wd ⟨rfl,bb⟩;clear nz;replace bz:=qc bz bb;clear bb;refine hK.out _ _ (aH.o _ bz) fun hH=>?_;clear hK K;try simp only [tz]
          cases u1
          ·skip
           refine tkm Ha 11 [(25,64,1,some false),(0,0,7,none),(0,0,0,some false)] rfl ?_;simp only [exI,exD,bI,kV,rpS,rpZ,apC,apN];refine tkm Ha 1 [(36,4,0,some false)] rfl ?_;simp only [exI,exD,bI,kV,rpZ,apN];refine qp Ha ?_
           have hbf:bo=false:=by
            cases bo
            ·rfl
            ·exact absurd (HB.o.1 rfl) (fun f=>of_decide_eq_false Hu1.o f.2.2.2.1.symm)
           subst hbf;go_wp2_with fail;go_ret;exact ⟨rfl,qc an.o bz⟩
          ·skip
           refine tkm Ha 2 [(25,64,1,some true)] rfl ?_;simp only [exI,exD,bI,kV,rpS,rpZ,apC,apN];refine qe Ha 27 (.pointer (some ⟨g2,4,none⟩)) rfl ?_;refine qe Ha 28 (s.v.val) rfl ?_;refine qe Ha 29 (.pointer (some ⟨g2,2,none⟩)) rfl ?_;refine qe Ha 30 (.slice s.Y.A ny s.Y.c) rfl ?_;refine qe Ha 31 (.pointer (some ⟨g1,2,none⟩)) rfl ?_;refine tks Ha 32 (.slice p.right.A m p.right.c) rfl ?_;simp only [tz];refine tk1 Ha 33 rfl fun K hK=>?_;go_simp;go_at_call 48;refine (GK.o FG.o wd bz).mono ?_;rintro e wd ⟨z,rfl,nz,bb⟩
           replace bz:=qc bz bb;clear bb;refine hK.out _ _ (aH.o _ bz) fun hH=>?_;clear hK K;try simp only [tz]
           refine tk1 Ha 34 rfl fun K hK=>?_;go_simp;go_at_call 24;refine (gA wd s.v z _ _ u2 (tE.o wd bz) nz Hu2.o).mono ?_;rintro e wd ⟨rfl,bb⟩;clear nz;replace bz:=qc bz bb;clear bb;refine hK.out _ _ (aH.o _ bz) fun hH=>?_;clear hK K;try simp only [tz]
           cases u2
           ·skip
            refine tks Ha 35 (.bool false) rfl ?_;simp only [tz];refine tkm Ha 1 [(36,4,0,some false)] rfl ?_;simp only [exI,exD,bI,kV,rpZ,apN];refine qp Ha ?_
            have hbf:bo=false:=by
             cases bo
             ·rfl
             ·exact absurd (HB.o.1 rfl) (fun f=>of_decide_eq_false Hu2.o f.2.2.2.2.symm)
            subst hbf;go_wp2_with fail;go_ret;exact ⟨rfl,qc an.o bz⟩
           ·skip
            refine tks Ha 35 (.bool true) rfl ?_;simp only [tz];refine tkm Ha 1 [(36,4,0,some true)] rfl ?_;simp only [exI,exD,bI,kV,rpZ,apN];refine qp Ha ?_
            have hbt:bo=true:=HB.o.2 ⟨yC.o,Hf1.o.1 rfl,Hf2.o.1 rfl,(of_decide_eq_true Hu1.o).symm,(of_decide_eq_true Hu2.o).symm⟩;subst hbt;go_wp2_with fail;go_ret;exact ⟨rfl,qc an.o bz⟩
       ·have hr0:((nr:Int) == 0)=false:=by simpa using h0
        have aH:Hd (∀w',Below wr.heap.size wr w'->(w'.cell? ⟨g1,0,none⟩=some (.slice p.cost.A n p.cost.c)/\w'.cell? ⟨g1,1,none⟩=some (.slice p.rA m p.rc)/\w'.cell? ⟨g1,2,none⟩=some (.slice p.right.A m p.right.c)/\w'.cell? ⟨g2,1,none⟩=some (.slice s.X.A nx s.X.c)/\w'.cell? ⟨g2,2,none⟩=some (.slice s.Y.A ny s.Y.c)/\w'.cell? ⟨g2,3,none⟩=some (.slice s.R.A nr s.R.c)/\w'.cell? ⟨g2,4,none⟩=some (.bool s.v.b)/\w'.cell? ⟨g2,5,none⟩=some (.slice s.v.A s.v.xs.length s.v.c)/\w'.cell? ⟨g2,6,none⟩=some (.slice s.v.D s.v.ys.length s.v.d))):=ag (fun _ bz=>(sD.o _ bz));refine fR aH (by kernel_rfl) fun hH=>?_
        have bz:=(ah wr.heap.size wr).drew;generalize wr.drew=wd at *;refine qh 37 fun Ha=>?_
        refine qe Ha 0 (.pointer (some ⟨g2,3,none⟩)) rfl ?_;refine qe Ha 1 (.slice s.R.A nr s.R.c) rfl ?_;refine qe Ha 2 (.int .i64 (nr:Int)) rfl ?_;refine tks Ha 3 (.bool false) rfl ?_;simp only [tz];refine tkm Ha 32 [(4,43,0,some false),(0,0,3,none),(0,0,1,some false),(0,0,3,none),(0,0,1,some false),(0,0,7,none),(0,0,1,some false),(0,0,7,none),(0,0,0,some false)] rfl ?_;simp only [exI,exD,bI,kV,rpS,rpZ,apC,apN];refine tkm Ha 1 [(36,4,0,some false)] rfl ?_;simp only [exI,exD,bI,kV,rpZ,apN];refine qp Ha ?_
        have hbf:bo=false:=by
         cases bo
         ·rfl
         ·exact absurd (HB.o.1 rfl) (fun f=>h0 f.1)
        subst hbf;go_wp2_with fail;go_ret;exact ⟨rfl,qc an.o bz⟩
      ·have kd1:(kd == 1)=false:=by simpa using hk1
       by_cases hk2:kd=2
       ·subst hk2;have HB:Hd (bo=true↔_):=ag (l9.o.trans dN.two);clear l9
--D{
        by_cases h0:nx=0
        case neg=>
         have hx0:((nx:Int) == 0)=false:=by simpa using h0
         have hbf:bo=false:=by
          cases bo
          ·rfl
          ·exact absurd (HB.o.1 rfl) (fun f=>h0 f.1)
         subst hbf;go_wp2_with fail;go_ret;exact ⟨rfl,an.o⟩
        case pos=>
         have kq:=ag h0;have hx0:((nx:Int) == 0)=true:=by simpa using h0
         clear h0;by_cases h0:nr=0
         case neg=>
          have hr0:((nr:Int) == 0)=false:=by simpa using h0
          have hbf:bo=false:=by
           cases bo
           ·rfl
           ·exact absurd (HB.o.1 rfl) (fun f=>h0 f.2.1)
          subst hbf;go_wp2_with fail;go_ret;exact ⟨rfl,an.o⟩
         case pos=>
          have yC:=ag h0;have hr0:((nr:Int) == 0)=true:=by simpa using h0
          clear h0;obtain ⟨f2,hf2⟩:=ow (dU n m ny p.a (fxV s.Y.vs) (fun _=>0));have Hf2:=ag hf2;clear hf2;go_wp2_with fail;refine (cF.o f2 Hf2.o wr (ah _ _)).mono ?_;rintro e w5 ⟨rfl,b5⟩;have Ix:=ag (qc an.o b5);have vS:=ag b5;clear s0 c0 c1 c2 s1 s2 s3 s4 s5 s6 b5;obtain ⟨c0,c1,c2,s1,s2,s3,s4,s5,s6⟩:=sD.o w5 vS.o
          cases f2 with
          | false=>
            have hbf:bo=false:=by
             cases bo
             ·rfl
             ·exact absurd (HB.o.1 rfl) (fun f=>Bool.noConfusion (Hf2.o.2 f.2.2.1))
            subst hbf;go_wp2_with fail;go_ret;exact ⟨rfl,Ix.o⟩
          | true=>
            have FG:=ag (Hf2.o.1 rfl).1;obtain ⟨z1,hz1⟩:∃z,bA (aj (fun i=>fxV s.Y.vs i*p.b i) m) 0=z:=⟨_,rfl⟩;obtain ⟨z2,hz2⟩:∃z,bA s.v.q 0=z:=⟨_,rfl⟩;have Hz1:=ag hz1;have Hz2:=ag hz2;clear hz1 hz2;go_wp2_with fail;refine (GK.o FG.o w5 vS.o).mono ?_;rintro e w6 ⟨z,rfl,nz,b6⟩;have NZ:=ag nz;have Bx:=ag (qc vS.o b6);clear s1 s2 s3 s4 s5 s6 c0 c1 c2 b6 nz;go_wp2_with fail;refine (dp w6 z _ z1 NZ.o Hz1.o).mono ?_;rintro e w7 ⟨rfl,b7⟩;have BB:=ag (qc Bx.o b7);clear b7 NZ Bx;obtain ⟨_,_,_,_,_,_,s4,s5,s6⟩:=sD.o w7 BB.o;by_cases hp:0<z1
            ·have hd1:decide (0<z1)=true:=by simpa using hp
             have Iy:Hd (0<aj (fun i=>fxV s.Y.vs i*p.b i) m):=ag (Rat.not_le.1 (fun e=>absurd hp (Int.not_lt.2 (by rw [<-Hz1.o];exact (ot _).2 e))))
             go_wp2_with fail;refine (dp w7 s.v _ z2 (tE.o w7 BB.o) Hz2.o).mono ?_;rintro e w8 ⟨rfl,b8⟩;have yF:=ag (ai an.o (qc BB.o b8) an.o.size);clear b8 s4 s5 s6;by_cases hz:z2=0
             ·have hbt:bo=true:=HB.o.2 ⟨kq.o,yC.o,Hf2.o.1 (by trivial),Iy.o,(aZ _).1 (Hz2.o.trans hz)⟩
              subst hbt hz;go_wp2_with fail;go_ret;exact ⟨rfl,yF.o⟩
             ·have hd2:(z2 == 0)=false:=by simpa using hz
              have hbf:bo=false:=by
               cases bo
               ·rfl
               ·exact absurd (HB.o.1 rfl) (fun f=>hz (Hz2.o.symm.trans ((aZ _).2 f.2.2.2.2)))
              subst hbf;go_wp2_with fail;go_ret;exact ⟨rfl,yF.o⟩
            ·have hd1:decide (0<z1)=false:=by simpa using hp
             have hbf:bo=false:=by
              cases bo
              ·rfl
              ·exact absurd (HB.o.1 rfl) (fun f=>hp (Int.not_le.1 (fun e=>absurd f.2.2.2.1 (Rat.not_lt.2 ((ot _).1 (by rw [Hz1.o];exact e))))))
             subst hbf;go_wp2_with fail;go_ret;exact ⟨rfl,qc an.o BB.o⟩
--D}
       ·have kd2:(kd == 2)=false:=by simpa using hk2
        by_cases hk3:kd=3
        ·subst hk3;have HB:Hd (bo=true↔_):=ag (l9.o.trans dN.three);clear l9;by_cases h0:ny=0
         case neg=>
          have hy0:((ny:Int) != 0)=true:=by simpa using h0
          have hbf:bo=false:=by
           cases bo
           ·rfl
           ·exact absurd (HB.o.1 rfl) (fun f=>h0 f.1)
          subst hbf;go_wp2_with fail;go_ret;exact ⟨rfl,an.o⟩
         case pos=>
          have BW:=ag h0;have hy0:((ny:Int) != 0)=false:=by simpa using h0
          clear h0;obtain ⟨f1,hf1⟩:=ow (dX n m nx p.a (fxV s.X.vs) p.b);have Hf1:=ag hf1;clear hf1
          cases f1 with
          | false=>
            have hbf:bo=false:=by
             cases bo
             ·rfl
             ·exact absurd (HB.o.1 rfl) (fun f=>Bool.noConfusion (Hf1.o.2 f.2.1))
            subst hbf;go_wp2_with fail;refine (y7.o false Hf1.o wr (ah _ _)).mono ?_;rintro e w5 ⟨rfl,b5⟩;clear s0 c0 c1 c2 s1 s2 s3 s4 s5 s6;go_wp2_with fail;go_ret;exact ⟨rfl,qc an.o b5⟩
          | true=>
            by_cases h1:nr=n
            case neg=>
             have hr1:((nr:Int) != (n:Int))=true:=by simp;omega
             have fn:Hd (¬nr=n):=h1;clear h1;have hbf:bo=false:=by
              cases bo
              ·rfl
              ·exact absurd (HB.o.1 rfl) (fun f=>fn.o f.2.2.1.1)
             subst hbf;go_wp2_with fail;refine (y7.o true (by simpa using Hf1.o) wr (ah _ _)).mono ?_
             rintro e w5 ⟨rfl,b5⟩;clear s0 c0 c1 c2 s1 s2 s3 s4 s5 s6;obtain ⟨c0,c1,c2,s1,s2,s3,s4,s5,s6⟩:=sD.o w5 b5;go_wp2_with fail;go_ret;exact ⟨rfl,qc an.o b5⟩
            case pos=>
             subst h1;obtain ⟨z2,hz2⟩:∃z,bA s.v.q 0=z:=⟨_,rfl⟩;have Hz2:=ag hz2;clear hz2;go_wp2_with fail;refine (y7.o true (by simpa using Hf1.o) wr (ah _ _)).mono ?_
             rintro e w5 ⟨rfl,b5⟩;have vS:=ag b5;clear s0 c0 c1 c2 s1 s2 s3 s4 s5 s6 b5;obtain ⟨c0,c1,c2,s1,s2,s3,s4,s5,s6⟩:=sD.o w5 vS.o;by_cases hz:z2=0
             case neg=>
              have hd2:(z2 != 0)=true:=by simpa using hz
              have sV:Hd (¬z2=0):=hz;clear hz;have hbf:bo=false:=by
               cases bo
               ·rfl
               ·exact absurd (HB.o.1 rfl) (fun f=>sV.o (Hz2.o.symm.trans ((aZ _).2 f.2.2.2.2)))
              subst hbf;go_wp2_with fail;refine (dp w5 s.v _ z2 (tE.o w5 vS.o) Hz2.o).mono ?_;rintro e w6 ⟨rfl,b6⟩;clear c0 c1 c2 s1 s2 s3 s4 s5 s6;go_wp2_with fail;go_ret;exact ⟨rfl,ai an.o (qc vS.o b6) an.o.size⟩
             case pos=>
              subst hz;go_wp2_with fail;refine (dp w5 s.v _ 0 (tE.o w5 vS.o) Hz2.o).mono ?_;rintro e w6 ⟨rfl,b6⟩;have b66:=qc vS.o b6;clear c0 c1 c2 s1 s2 s3 s4 s5 s6 b6 vS;go_wp2_with fail;generalize wr=wo at *;go_loopw [5] (fun iv wr=>∃j:Nat,j<=nr/\iv = .int .i64 j/\(∀k,k<j->0<=fxV s.R.vs k)/\Below wo.heap.size wo wr) (fun iv _=>nr-(intOf iv).toNat)
              case atStart=>exact ⟨0,by omega,rfl,(fun k h=>absurd h (Nat.not_lt_zero _)),b66⟩
              case round=>
               clear b66;obtain ⟨j,hj,rfl,hnn,bz⟩:=hrel;have GL:=ag hnn;have wu:=ag bz;obtain ⟨c0,c1,c2,s1,s2,s3,s4,s5,s6⟩:=sD.o wr bz;by_cases hlt:j<nr
               ·obtain ⟨ad,hA,x,ef,nm⟩:=(sL.o wr bz).r.at (k:=j) (by rw [(sL.o wr bz).l];exact hlt)
                have NM:=ag nm;have d0:=ef.c0;have d1:=ef.c1;have d2:=ef.c2;rw [hA] at s3;obtain ⟨z,hz⟩:∃z,bA (fxV s.R.vs j) 0=z:=⟨_,rfl⟩;have HZ:=ag hz;clear ef nm bz hnn hz hA c0 c1 c2 s1 s2 s4 s5 s6;by_cases h0:z<0
                ·have zu:Hd (fxV s.R.vs j<0):=ag ((eC _).1 (by rw [HZ.o];exact h0))
                 have hbf:bo=false:=by
                  cases bo
                  ·rfl
                  ·exact absurd (HB.o.1 rfl) (fun f=>absurd zu.o (Rat.not_lt.2 (f.2.2.1.2.1 j hlt)))
                 subst hbf;go_wp2_with fail;refine (dp wr x _ z NM.o HZ.o).mono ?_;rintro e wn ⟨rfl,bb⟩;clear d0 d1 d2 s3;go_wp2_with fail;go_ret;exact ⟨rfl,ai an.o (qc wu.o bb) an.o.size⟩
                ·have l8:Hd (0<=fxV s.R.vs j):=ag (Rat.not_lt.1 (fun e=>h0 (by rw [<-HZ.o];exact (eC _).2 e)))
                 go_wp2_with fail;refine (dp wr x _ z NM.o HZ.o).mono ?_;rintro e wn ⟨rfl,bb⟩;clear d0 d1 d2 s3;go_wp2_with fail;go_roundw
                 case rel=>exact ⟨j+1,by omega,by go_num,(fun k hk=>by
                  rcases Nat.lt_or_ge k j with h2|h2
                  ·exact GL.o k h2
                  ·obtain rfl:k=j:=by omega
                   exact l8.o),qc wu.o bb⟩
                 case measure=>simp [intOf];omega
               ·obtain rfl:nr=j:=by omega
                clear hnn bz;go_wp2_with fail;clear c0 c1 c2 s1 s2 s3 s4 s5 s6;go_loopw [6] (fun iv wr=>∃i:Nat,i<=m/\iv = .int .i64 i/\(∀k,k<i->aj (fun j=>p.a k j*fxV s.R.vs j) nr=0)/\Below wo.heap.size wo wr) (fun iv _=>m-(intOf iv).toNat)
                case atStart=>exact ⟨0,by omega,rfl,(fun k h=>absurd h (Nat.not_lt_zero _)),wu.o⟩
                case round=>
                 clear wu;obtain ⟨i,hi,rfl,heq,bz⟩:=hrel;have np:=ag heq;have wu:=ag bz;obtain ⟨c0,c1,c2,s1,s2,s3,s4,s5,s6⟩:=sD.o wr bz;by_cases hlt:i<m
                 ·have hil:i<p.rows.length:=by rw [y8.o];exact hlt
                  obtain ⟨r,hr⟩:∃r,p.rows[i]=r:=⟨_,rfl⟩;obtain ⟨ar,har,harl,hc⟩:=(BL.o wr bz).rd (by omega)
                  have hcj:=hc i hil;rw [hr] at hcj;have hrl2:r.vs.length=nr:=by rw [<-ft.o];exact bK.o.la r (by rw [<-hr];exact List.getElem_mem hil)
                  obtain ⟨z0,hz0⟩:∃z,bA (aj (fun j=>p.a i j*fxV s.R.vs j) nr) 0=z:=⟨_,rfl⟩;have HZ:=ag hz0;have Iz:Hd (∀wd,Below wr.heap.size wr wd->Calls prog 48 #[.slice r.A nr r.c, .slice s.R.A nr s.R.c] wd fun e w'=>∃z:Fx,e = .returned z.val/\Nm w' z (aj (fun j=>p.a i j*fxV s.R.vs j) nr)/\Below wd.heap.size wd w'):=ag (fun wd hb=>Cj (BL.o wd (qc bz hb)) br.o bK.o HR.o (sL.o wd (qc bz hb)) ft.o rfl hil hr);have IA:Hd (∀w',Below wr.heap.size wr w'->w'.cell? ⟨g1,1,none⟩=some (.slice (some ar) m p.rc)/\w'.cell? ⟨g2,3,none⟩=some (.slice s.R.A nr s.R.c)/\w'.cell? (ar.add i)=some (.slice r.A nr r.c)):=ag (fun w' hb=>by
                   obtain ⟨_,k1,_,_,_,k3,_,_,_⟩:=sD.o w' (qc bz hb);rw [har] at k1;refine ⟨k1,k3,?_⟩;rw [<-hrl2];exact (hb.cell (p:=ar.add i) (by rw [aM];exact harl)).trans hcj)
                  rw [har] at c1;clear heq bz hr har harl hc hcj hrl2 hz0 c0 c2 s1 s2 s3 s4 s5 s6;go_upto_region 19 with fail
                  go_cut [166] (fun v wx=>v = .bool (z0 != 0)/\Below wr.heap.size wr wx)
                  case first=>
                   have aH:Hd (∀w',Below wr.heap.size wr w'->(w'.cell? ⟨g1,1,none⟩=some (.slice (some ar) m p.rc)/\w'.cell? ⟨g2,3,none⟩=some (.slice s.R.A nr s.R.c)/\w'.cell? (ar.add i)=some (.slice r.A nr r.c))):=ag (fun _ bz=>(IA.o _ bz));refine fR aH (by kernel_rfl) fun hH=>?_
                   have bz:=(ah wr.heap.size wr).drew;generalize wr.drew=wd at *;refine qh 10 fun Ha=>?_
                   refine qe Ha 0 (.pointer (some ⟨g1,1,none⟩)) rfl ?_;refine qe Ha 1 (.slice (some ar) m p.rc) rfl ?_;refine qe Ha 2 (.int .i64 (i:Int)) rfl ?_;refine qe Ha 3 (.pointer (some (ar.add i))) rfl ?_;refine qe Ha 4 (.slice r.A nr r.c) rfl ?_;refine qe Ha 5 (.pointer (some ⟨g2,3,none⟩)) rfl ?_;refine tks Ha 6 (.slice s.R.A nr s.R.c) rfl ?_;simp only [tz];refine tk1 Ha 7 rfl fun K hK=>?_;go_simp;go_at_call 48;refine (Iz.o wd bz).mono ?_;rintro e wd ⟨z,rfl,nz,bb⟩;replace bz:=qc bz bb
                   clear bb;refine hK.out _ _ (aH.o _ bz) fun hH=>?_;clear hK K;try simp only [tz]
                   refine tk1 Ha 8 rfl fun K hK=>?_;go_simp;go_at_call 49;refine (dp wd z _ z0 nz HZ.o).mono ?_;rintro e wd ⟨rfl,bb⟩;clear nz;replace bz:=qc bz bb;clear bb;refine hK.out _ _ (aH.o _ bz) fun hH=>?_;clear hK K;try simp only [tz]
                   refine tks Ha 9 (.bool (z0 != 0)) rfl ?_;simp only [tz];refine qp Ha ?_
                   go_wp2_with fail;go_meet
                   case rel=>exact ⟨rfl,bz⟩
                  case rest=>
                   obtain ⟨rfl,bb⟩:=hcut;clear c1;by_cases hz:z0=0
                   ·have HE:=ag ((aZ _).1 (HZ.o.trans hz));have hd0:(z0 != 0)=false:=by simpa using hz
                    go_wp2_with fail;go_roundw
                    case rel=>exact ⟨i+1,by omega,by go_num,(fun k hk=>by
                     rcases Nat.lt_or_ge k i with h2|h2
                     ·exact np.o k h2
                     ·obtain rfl:k=i:=by omega
                      exact HE.o),qc wu.o bb⟩
                    case measure=>simp [intOf];omega
                   ·have HE:Hd (¬aj (fun j=>p.a i j*fxV s.R.vs j) nr=0):=fun e=>hz (HZ.o.symm.trans ((aZ _).2 e));have hd0:(z0 != 0)=true:=by simpa using hz
                    have hbf:bo=false:=by
                     cases bo
                     ·rfl
                     ·exact absurd (HB.o.1 rfl) (fun f=>HE.o (f.2.2.1.2.2 i hlt))
                    subst hbf;go_wp2_with fail;go_ret;exact ⟨rfl,ai an.o (qc wu.o bb) an.o.size⟩
                 ·obtain rfl:m=i:=by omega
                  obtain ⟨z1,hz1⟩:∃z,bA (aj (fun i=>p.c i*fxV s.R.vs i) nr) 0=z:=⟨_,rfl⟩;have Hz1:=ag hz1;have IB:Hd (dX nr m nr p.a (fxV s.R.vs) (fun _=>0)):=ag ⟨rfl,GL.o,heq⟩;clear heq bz hz1;go_wp2_with fail;refine (Fh.o (by trivial) wr wu.o).mono ?_
                  rintro e w6 ⟨z,rfl,nz,b6⟩;clear c0 c1 c2 s1 s2 s3 s4 s5 s6;go_wp2_with fail;refine (dp w6 z _ z1 nz Hz1.o).mono ?_;rintro e w7 ⟨rfl,b7⟩;have hbe:bo=decide (z1<0):=by
                   rw [Bool.eq_iff_iff,HB.o,decide_eq_true_iff,<-Hz1.o];constructor
                   ·intro f;exact (eC _).2 f.2.2.2.1
                   ·intro f;exact ⟨BW.o,Hf1.o.1 (by trivial),IB.o,(eC _).1 f,(aZ _).1 Hz2.o⟩
                  go_wp2_with fail;go_ret;exact ⟨dz hbe.symm,ai an.o (ai (qc wu.o b6) b7 (Nat.le_trans wu.o.size b6.size)) an.o.size⟩
        ·have kd3:(kd == 3)=false:=by simpa using hk3
         have hbf:bo=false:=by
          cases bo
          ·rfl
          ·exact absurd (l9.o.1 rfl).kind (by omega)
         subst hbf;go_wp2_with fail;go_ret;exact ⟨rfl,an.o⟩
 ·skip
  have hbf:bo=false:=by
   cases bo
   ·rfl
   ·exact absurd (HB.o.1 rfl) (fun f=>hv f.vd)
  subst hbf;go_wp2_with fail;refine (kD wb p false (HO.o.below bw) br.o (Iff.intro (fun h=>Bool.noConfusion h) (fun h=>absurd h hv))).mono ?_;rintro e w1 ⟨rfl,bb⟩;clear c0 c1 c2 pb1 sb;go_wp2_with fail;go_ret;exact ⟨rfl,qc an.o bb⟩
end Go.Proofs.YtkpfbekmaafehaaGreat
