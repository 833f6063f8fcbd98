/- The walk of drydocklaw16.SimplexSpoilt. -/
import Derived.Test.YtkpfbekmaafehaaGreatSpB
import Derived.Test.YtkpfbekmaafehaaGreatSxG
import Derived.Test.YtkpfbekmaafehaaGreatSxK
import Derived.Test.YtkpfbekmaafehaaGreatSvJ
namespace Go.Proofs.YtkpfbekmaafehaaGreat
open _root_.Go.Proofs.Tryz
set_option maxHeartbeats 40000000
set_option maxRecDepth 100000
open Go.RowKit
theorem r2make_sg (w:World) (n d:Int) (n0 : -1000<=n) (n1:n<=1000) (d0:0<d) (d1:d<=1000) :
 Calls prog 25 #[.int .i64 n, .int .i64 d] w fun e w'=>∃x:Fx,e = .returned (.tuple #[x.val, .int .i64 0])/\x.ok w'/\(x.xs.length<=10000/\x.ys.length<=10000)/\Below w.heap.size w w':=by
 have hs:Sz (Rat.divInt n d) 2 2:=by
  rw [<-mA (show d≠0 by omega)]
  exact Sz.of_qv (by omega) (eM (by omega)) (eM (by omega))
 refine (uN w n d (okS (Rat.divInt n d)) (by omega) (by omega) (by omega) (by omega) (by rw [ke,if_neg (by omega)];exact pl (hs.mono (by omega) (by omega)))).mono ?_
 rintro e w' ⟨x,rfl,h,ok,bb⟩;have el:El w' x (Rat.divInt n d):=⟨ok,Rp.of h⟩;have nm:=el.nm (hs.mono (by omega) (by omega))
 exact ⟨x,rfl,ok,⟨nm.l,nm.m⟩,bb⟩
theorem spoilt_law (w:World) (A:Option Addr) (c:Nat) (bs:List Nat) (a b d:Int) (h:Rd u8b w A bs) (hc:bs.length<=c) (hm:c<=9223372036854775807) (hb:∀b∈bs,b<256) (ha8:(Lit.int .u8 a).wf=true) (hb8:(Lit.int .u8 b).wf=true) (hd8:(Lit.int .u8 d).wf=true) :
 Calls prog 6 #[.slice A bs.length c, .int .u8 a, .int .u8 b, .int .u8 d] w fun e w'=>e = .returned (.bool true)/\Below w.heap.size w w':=by
 have ID:=ag (Cz ha8);have yF:=ag (Cz hb8);have IE:=ag (Cz hd8);have HR:=ag h;have HB:=ag hb;clear h hb ha8 hb8 hd8;go_enter func6,ntmps6;go_wp2_with fail;refine (sn w A c bs HR.o hc hm HB.o).mono ?_;rintro e wa ⟨G1,A1,k1,rfl,tp,hge,bb⟩;have dn:=ag hge.1;have ix:=ag tp;have an:=ag bb;clear tp hge bb;go_wp2_with fail;refine (wV wa G1 k1 0 A1 _ ix.o).mono ?_;rintro e wb ⟨p,_,rfl,ip,-,kp⟩;replace an:=ag (an.o.trans (kp.below (B:=w.heap.size) (fun a e=>by rw [e];exact dn.o) an.o.size))
 have mo:=ag ip;clear ix dn ip kp;go_upto_region 2 with fail;have q0:=Q3.new wb p.cost.val (.slice p.rA p.rows.length p.rc) p.right.val 25 rfl rfl rfl;have bb:=qb wb (.cells #[.slice p.cost.A p.cost.vs.length p.cost.c, .slice p.rA p.rows.length p.rc, .slice p.right.A p.right.vs.length p.right.c] 25);generalize (wb.alloc (.cells #[.slice p.cost.A p.cost.vs.length p.cost.c, .slice p.rA p.rows.length p.rc, .slice p.right.A p.right.vs.length p.right.c] 25))=w0 at q0 bb|-;generalize wb.heap.size=g4 at q0|-;replace mo:=ag (mo.o.below bb);replace an:=ag (qc an.o bb)
 have bj:=ag q0;have c0:=q0.c0;have c1:=q0.c1;have c2:=q0.c2;clear q0 bb;go_wp2_with fail;refine (r16solve_any w0 p mo.o.ok mo.o.small.1 mo.o.small.2).mono ?_;rintro e wd ⟨s,rfl,sol,ap,bb⟩;have gF:=ag bb;have iu:=ag sol;clear sol c0 c1 c2 bb;go_upto_region 3 with fail;have sg:=sg_alloc mo.o.small.2 iu.o ap;have bb:=(cY wd s 31).2;generalize (wd.alloc (.cells #[.int .i64 s.kind, .slice s.X.A s.X.vs.length s.X.c, .slice s.Y.A s.Y.vs.length s.Y.c, .slice s.R.A s.R.vs.length s.R.c, .bool s.v.b, .slice s.v.A s.v.xs.length s.v.c, .slice s.v.D s.v.ys.length s.v.d] 31))=we at sg bb|-;have x8:Hd (w0.heap.size<=wd.heap.size):=ag gF.o.size
 generalize wd.heap.size=g5 at sg x8|-;replace gF:=ag (qc gF.o bb);have cP:=ag sg;clear sg bb iu ap;have ha:=ID.o;have hb:=yF.o;have hd:=IE.o;have hw1:IntKind.i64.wrap (d-128)=d-128:=IntWalk.i64_in _ (by omega)
 go_wp2_with fail;obtain ⟨nb,hnb⟩:∃n:Int,1+b % 3=n:=⟨_,rfl⟩;obtain ⟨nd,hnd⟩:∃n:Int,d-128=n:=⟨_,rfl⟩;have hn1:1<=nb/\nb<=3 /\ -128<=nd/\nd<=127:=by omega
 try rw [hnb]
 try rw [hnd]
 clear hw1 hnb hnd;refine (r2make_sg we nd nb (by omega) (by omega) (by omega) (by omega)).mono ?_
 rintro e wf ⟨x,rfl,ox,hxl,bb⟩;replace cP:=ag (cP.o.below bb);replace gF:=ag (qc gF.o bb);have fc:=ag hxl;clear bb hn1 hxl;go_upto_region 4 with fail;have v12:=(au ox).1;have bb:=(au ox).2;generalize (wf.alloc (.cells #[.bool x.b, .slice x.A x.xs.length x.c, .slice x.D x.ys.length x.d] 29))=wg at v12 bb|-;have r5:Hd (g5<wf.heap.size):=ag cP.o.sb.lt;generalize wf.heap.size=g12 at v12 r5|-;replace cP:=ag (cP.o.below bb);replace gF:=ag (qc gF.o bb);have bO:=ag v12;clear bb ox v12;obtain ⟨r,hr⟩:∃r:Int,a % 5=r:=⟨_,rfl⟩;have hrr:0<=r/\r<=4:=by omega
 obtain ⟨bN,hbN⟩:∃bN:Nat,(bN:Int)=b:=⟨b.toNat,by omega⟩
 subst hbN
 go_upto_block 0 with fail
 go_cut [] (fun wx=>∃u:Sn,Sz3 wx g5 u/\Below w0.heap.size w0 wx)
 case first=>
  rcases (show r=0\/r=1\/r=2\/r=3\/r=4 by omega) with h|h|h|h|h
  ·subst h;have k0:=cP.o.sb.c0;have kf:=cP.o.fz 0;go_wp2_with fail;go_meet
   case rel=>exact ⟨_,(cP.o.kind _).1,gF.o.trans ((cP.o.kind _).2.below (B:=w0.heap.size) (fun a e=>by rw [e];exact x8.o) gF.o.size)⟩
  ·subst h;have k4:=cP.o.sb.c4;have k5:=cP.o.sb.c5;have k6:=cP.o.sb.c6;have kf4:=cP.o.fz 4;have kf5:=cP.o.fz 5;have kf6:=cP.o.fz 6;have x0:=bO.o.c0;have x1:=bO.o.c1;have x2:=bO.o.c2;go_wp2_with fail;go_meet
   case rel=>exact ⟨_,(cP.o.val bO.o.ok fc.o).1,gF.o.trans ((cP.o.val bO.o.ok fc.o).2.below (B:=w0.heap.size) (fun a e=>by rw [e];exact x8.o) gF.o.size)⟩
  ·subst h;by_cases h0:0<s.X.vs.length
   ·have hA:=cP.o.X.adr h0;obtain ⟨gX,hA⟩:=hA;have own:=(cP.o.X.own hA).1;obtain ⟨nX,hnX⟩:∃n,s.X.vs.length=n:=⟨_,rfl⟩;obtain ⟨k,hk⟩:∃k,bN % nX=k:=⟨_,rfl⟩;have hkl:k<s.X.vs.length:=by rw [hnX,<-hk];exact Nat.mod_lt _ (by omega)
    have hnb:nX<=1000:=by rw [<-hnX];exact cP.o.sm.lX
    have hq1:(bN:Int) % (nX:Int)=(k:Int):=by rw [<-hk];rfl
    have hq2:(bN:Int).tmod (nX:Int)=(k:Int):=by rw [<-hq1];exact Int.tmod_eq_emod_of_nonneg (by omega)
    obtain ⟨j0,j1,j2⟩:=own.cells k hkl;have jf0:=own.free (k*3);have jf1:=own.free (k*3+1);have jf2:=own.free (k*3+2);have ck:wg.cell? ⟨g5,1,none⟩=some (.slice (some ⟨gX,0,none⟩) nX s.X.c):=by rw [<-hnX,<-hA];exact cP.o.sb.c1
    have x0:=bO.o.c0;have x1:=bO.o.c1;have x2:=bO.o.c2;have hn0:¬nX=0:=by omega
    have hkn:k<nX:=by omega
    have hg0:decide ((0:Int)<(nX:Int))=true:=decide_eq_true (by omega)
    have de:Hd (s.X.vs.length=nX):=ag hnX;have Er:Hd (s.X.A=some ⟨gX,0,none⟩):=ag hA;have Es:Hd (w0.heap.size<=gX):=ag own.lt.1;clear hA own hnX hk h0;go_upto_region 14 with fail;go_region;have t6:=cP.o.putX Er.o bO.o.ok fc.o k;have bd:=gF.o.trans (t6.2.below (B:=w0.heap.size) (fun a e=>by rw [e];exact Es.o) gF.o.size)
    generalize (((wg.setCell ⟨gX,k*3,none⟩ (.bool x.b)).setCell ⟨gX,k*3+1,none⟩ (.slice x.A x.xs.length x.c)).setCell ⟨gX,k*3+2,none⟩ (.slice x.D x.ys.length x.d))=ws at t6 bd|-;have bb:Below ws.heap.size ws ws.drew:=(ah _ _).drew;go_wp2_with fail;go_meet
    case rel=>exact ⟨_,t6.1.below bb,qc bd bb⟩
   ·have hz:s.X.vs.length=0:=by omega
    have ck:=cP.o.sb.c1;have hg0:decide ((0:Int)<(s.X.vs.length:Int))=false:=decide_eq_false (by omega)
    go_wp2_with fail;go_meet
    case rel=>exact ⟨s,cP.o.z3,gF.o⟩
  ·subst h;by_cases h0:0<s.Y.vs.length
   ·have hA:=cP.o.Y.adr h0;obtain ⟨gX,hA⟩:=hA;have own:=(cP.o.Y.own hA).1;obtain ⟨nX,hnX⟩:∃n,s.Y.vs.length=n:=⟨_,rfl⟩;obtain ⟨k,hk⟩:∃k,bN % nX=k:=⟨_,rfl⟩;have hkl:k<s.Y.vs.length:=by rw [hnX,<-hk];exact Nat.mod_lt _ (by omega)
    have hnb:nX<=1000:=by rw [<-hnX];exact cP.o.sm.lY
    have hq1:(bN:Int) % (nX:Int)=(k:Int):=by rw [<-hk];rfl
    have hq2:(bN:Int).tmod (nX:Int)=(k:Int):=by rw [<-hq1];exact Int.tmod_eq_emod_of_nonneg (by omega)
    obtain ⟨j0,j1,j2⟩:=own.cells k hkl;have jf0:=own.free (k*3);have jf1:=own.free (k*3+1);have jf2:=own.free (k*3+2);have ck:wg.cell? ⟨g5,2,none⟩=some (.slice (some ⟨gX,0,none⟩) nX s.Y.c):=by rw [<-hnX,<-hA];exact cP.o.sb.c2
    have x0:=bO.o.c0;have x1:=bO.o.c1;have x2:=bO.o.c2;have hn0:¬nX=0:=by omega
    have hkn:k<nX:=by omega
    have hg0:decide ((0:Int)<(nX:Int))=true:=decide_eq_true (by omega)
    have de:Hd (s.Y.vs.length=nX):=ag hnX;have Er:Hd (s.Y.A=some ⟨gX,0,none⟩):=ag hA;have Es:Hd (w0.heap.size<=gX):=ag own.lt.1;clear hA own hnX hk h0;go_upto_region 17 with fail;go_region;have t6:=cP.o.putY Er.o bO.o.ok fc.o k;have bd:=gF.o.trans (t6.2.below (B:=w0.heap.size) (fun a e=>by rw [e];exact Es.o) gF.o.size)
    generalize (((wg.setCell ⟨gX,k*3,none⟩ (.bool x.b)).setCell ⟨gX,k*3+1,none⟩ (.slice x.A x.xs.length x.c)).setCell ⟨gX,k*3+2,none⟩ (.slice x.D x.ys.length x.d))=ws at t6 bd|-;have bb:Below ws.heap.size ws ws.drew:=(ah _ _).drew;go_wp2_with fail;go_meet
    case rel=>exact ⟨_,t6.1.below bb,qc bd bb⟩
   ·have hz:s.Y.vs.length=0:=by omega
    have ck:=cP.o.sb.c2;have hg0:decide ((0:Int)<(s.Y.vs.length:Int))=false:=decide_eq_false (by omega)
    go_wp2_with fail;go_meet
    case rel=>exact ⟨s,cP.o.z3,gF.o⟩
  ·subst h;by_cases h0:0<s.R.vs.length
   ·have hA:=cP.o.R.adr h0;obtain ⟨gX,hA⟩:=hA;have own:=(cP.o.R.own hA).1;obtain ⟨nX,hnX⟩:∃n,s.R.vs.length=n:=⟨_,rfl⟩;obtain ⟨k,hk⟩:∃k,bN % nX=k:=⟨_,rfl⟩;have hkl:k<s.R.vs.length:=by rw [hnX,<-hk];exact Nat.mod_lt _ (by omega)
    have hnb:nX<=1000:=by rw [<-hnX];exact cP.o.sm.lR
    have hq1:(bN:Int) % (nX:Int)=(k:Int):=by rw [<-hk];rfl
    have hq2:(bN:Int).tmod (nX:Int)=(k:Int):=by rw [<-hq1];exact Int.tmod_eq_emod_of_nonneg (by omega)
    obtain ⟨j0,j1,j2⟩:=own.cells k hkl;have jf0:=own.free (k*3);have jf1:=own.free (k*3+1);have jf2:=own.free (k*3+2);have ck:wg.cell? ⟨g5,3,none⟩=some (.slice (some ⟨gX,0,none⟩) nX s.R.c):=by rw [<-hnX,<-hA];exact cP.o.sb.c3
    have x0:=bO.o.c0;have x1:=bO.o.c1;have x2:=bO.o.c2;have hn0:¬nX=0:=by omega
    have hkn:k<nX:=by omega
    have hg0:decide ((0:Int)<(nX:Int))=true:=decide_eq_true (by omega)
    have de:Hd (s.R.vs.length=nX):=ag hnX;have Er:Hd (s.R.A=some ⟨gX,0,none⟩):=ag hA;have Es:Hd (w0.heap.size<=gX):=ag own.lt.1;clear hA own hnX hk h0;go_upto_region 6 with fail;go_region;have t6:=cP.o.putR Er.o bO.o.ok fc.o k;have bd:=gF.o.trans (t6.2.below (B:=w0.heap.size) (fun a e=>by rw [e];exact Es.o) gF.o.size)
    generalize (((wg.setCell ⟨gX,k*3,none⟩ (.bool x.b)).setCell ⟨gX,k*3+1,none⟩ (.slice x.A x.xs.length x.c)).setCell ⟨gX,k*3+2,none⟩ (.slice x.D x.ys.length x.d))=ws at t6 bd|-;have bb:Below ws.heap.size ws ws.drew:=(ah _ _).drew;go_wp2_with fail;go_meet
    case rel=>exact ⟨_,t6.1.below bb,qc bd bb⟩
   ·have hz:s.R.vs.length=0:=by omega
    have ck:=cP.o.sb.c3;have kf:=cP.o.fz 3;have hg0:decide ((0:Int)<(s.R.vs.length:Int))=false:=decide_eq_false (by omega)
    have x0:=bO.o.c0;have x1:=bO.o.c1;have x2:=bO.o.c2;have lit:=j3 bO.o.ok;have bb:=(au bO.o.ok).2;have sg2:=cP.o.below bb;have lo:=cP.o.sb.lt;have st:=sg2.ray lit (bO.o.ok.below bb) fc.o (by omega)
    have b2:=qc gF.o bb;have b3:=b2.trans (st.2.below (B:=w0.heap.size) (fun a e=>by rw [e];exact x8.o) b2.size)
    have hcm:(wg.alloc (.cells x.cells 29)).setCell ⟨g5,3,none⟩ (.slice (some ⟨wg.heap.size,0,none⟩) 1 1)=(wg.setCell ⟨g5,3,none⟩ (.slice (some ⟨wg.heap.size,0,none⟩) 1 1)).alloc (.cells x.cells 29):=by go_simp
    have st1:=st.1;rw [hcm] at st1 b3;have l6:=ag st1;have yA:=ag b3;clear lit sg2 st st1 b2 b3 bb hcm;go_wp2_with fail;go_meet
    case rel=>exact ⟨_,l6.o,yA.o⟩
 case rest=>
  obtain ⟨u,z3,b0⟩:=hcut;have EA:=ag z3;replace gF:=ag b0;obtain ⟨bo,hbo⟩:∃bo:Bool,bo=true↔yo p u:=by
   haveI:=Classical.propDecidable (yo p u)
   exact ⟨decide (yo p u),decide_eq_true_iff⟩
  have GO:=ag hbo;clear z3 b0 hbo cP bO;generalize wc=wr at *;go_upto_region 18 with fail;have z3:=EA.o.below (ah wr.heap.size wr).drew;have b0:=ai gF.o ((ah wr.heap.size wr).drew) gF.o.size;refine wp_region_held_drew (S:=fun w'=>w'.cell? ⟨g4,0,none⟩=some p.cost.val/\w'.cell? ⟨g4,1,none⟩=some (.slice p.rA p.rows.length p.rc)/\w'.cell? ⟨g4,2,none⟩=some p.right.val/\w'.cell? ⟨g5,0,none⟩=some (.int .i64 u.kind)/\w'.cell? ⟨g5,1,none⟩=some u.X.val/\w'.cell? ⟨g5,2,none⟩=some u.Y.val/\w'.cell? ⟨g5,3,none⟩=some u.R.val/\w'.cell? ⟨g5,4,none⟩=some (.bool u.v.b)/\w'.cell? ⟨g5,5,none⟩=some (.slice u.v.A u.v.xs.length u.v.c)/\w'.cell? ⟨g5,6,none⟩=some (.slice u.v.D u.v.ys.length u.v.d)) (by kernel_rfl) ⟨(bj.o.below b0).c0,(bj.o.below b0).c1,(bj.o.below b0).c2,z3.sb.c0,z3.sb.c1,z3.sb.c2,z3.sb.c3,z3.sb.c4,z3.sb.c5,z3.sb.c6⟩ fun hH=>?_
  have bz:=(ah wr.heap.size wr).drew;generalize wr.drew=wd at *;refine qh 11 fun Ha=>?_
  refine qe Ha 0 (.agg #[p.cost.val, .slice p.rA p.rows.length p.rc,p.right.val]) rfl ?_;refine qe Ha 1 (.agg #[.int .i64 u.kind,u.X.val,u.Y.val,u.R.val, .bool u.v.b, .slice u.v.A u.v.xs.length u.v.c, .slice u.v.D u.v.ys.length u.v.d]) rfl ?_;refine qe Ha 3 (.agg #[p.cost.val, .slice p.rA p.rows.length p.rc,p.right.val]) rfl ?_;refine tks Ha 4 (.agg #[.int .i64 u.kind,u.X.val,u.Y.val,u.R.val, .bool u.v.b, .slice u.v.A u.v.xs.length u.v.c, .slice u.v.D u.v.ys.length u.v.d]) rfl ?_;simp only [tz];refine tk1 Ha 2 rfl fun K hK=>?_;go_simp;go_at_call 17
  refine (uJ wd p u bo (mo.o.below b0).ok mo.o.small.1 z3.ok z3.sm GO.o).mono ?_;rintro e we ⟨rfl,bb⟩;replace z3:=z3.below bb;replace b0:=qc b0 bb;clear bb hH;generalize we=wd at *;refine hK.out _ _ ⟨(bj.o.below b0).c0,(bj.o.below b0).c1,(bj.o.below b0).c2,z3.sb.c0,z3.sb.c1,z3.sb.c2,z3.sb.c3,z3.sb.c4,z3.sb.c5,z3.sb.c6⟩ fun hH=>?_;clear hK K;try simp only [tz]
  refine tk1 Ha 5 rfl fun K hK=>?_;go_simp;go_at_call 18;refine (rC wd p u bo (mo.o.below b0).ok mo.o.small.1 z3.ok z3.sm GO.o).mono ?_;rintro e we ⟨rfl,bb⟩;replace z3:=z3.below bb;replace b0:=qc b0 bb;clear bb hH;generalize we=wd at *;refine hK.out _ _ ⟨(bj.o.below b0).c0,(bj.o.below b0).c1,(bj.o.below b0).c2,z3.sb.c0,z3.sb.c1,z3.sb.c2,z3.sb.c3,z3.sb.c4,z3.sb.c5,z3.sb.c6⟩ fun hH=>?_;clear hK K;try simp only [tz]
  refine qe Ha 6 (.bool true) rfl ?_;refine tks Ha 7 (.bool true) rfl ?_;simp only [tz];refine tk1 Ha 8 rfl fun K hK=>?_;go_simp;go_at_call 14;refine (jH wd).mono ?_;rintro e we ⟨rfl,bb⟩;replace z3:=z3.below bb;replace b0:=qc b0 bb;clear bb hH;generalize we=wd at *;refine hK.out _ _ ⟨(bj.o.below b0).c0,(bj.o.below b0).c1,(bj.o.below b0).c2,z3.sb.c0,z3.sb.c1,z3.sb.c2,z3.sb.c3,z3.sb.c4,z3.sb.c5,z3.sb.c6⟩ fun hH=>?_;clear hK K;try simp only [tz]
  refine tks Ha 9 (.bool true) rfl ?_;simp only [tz];refine tkm Ha 1 [(10,8,0,some true)] rfl ?_;simp only [exI,exD,bI,kV,rpZ,apN];refine qp Ha ?_
  go_wp2_with fail;go_ret;exact ⟨rfl,qc an.o b0⟩
end Go.Proofs.YtkpfbekmaafehaaGreat
