/- The walk of simplex.Solve. -/
import Derived.Test.YtkpfbekmaafehaaGreatSqM
namespace Go.Proofs.YtkpfbekmaafehaaGreat
open _root_.Go.Proofs.Tryz
set_option maxHeartbeats 8000000
set_option maxRecDepth 100000
open Go.RowKit
theorem Ou.cl {w:World} {B g N:Nat} {D:Nat->Prop} {f:Nat->Rat} (h:Ou w B g N D f) (hD:∀k,k<N->D k):∃vs:List Fx,vs.length=N/\Cl w (some ⟨g,0,none⟩) vs f:=by
 obtain ⟨vs,a,b,c⟩:=h.ex;exact ⟨vs,b,a.fr.rd,fun k hk=>⟨a.ok _ (List.getElem_mem hk),c k hk (hD k (by omega))⟩⟩
theorem BJ {m n most:Nat} {c:Nat->Rat} {x:St} {s:Nat} (he:fG m c x.T x.B most 0=some s) (h:gZ m n most c x=none):dw x.T x.B (n+m) s m=none:=by
 rw [gZ,he] at h
 cases hl:dw x.T x.B (n+m) s m with
 | none=>rfl
 | some i=>simp only [hl] at h;exact absurd h (by simp)
theorem iV (w:World) (p:Pg) (e:TypeId):(w.alloc (.cells p.cells e)).heap.size=w.heap.size+1:=by simp
theorem uv (w:World) (p:Pg) (h:p.ok w) (sm:p.sm) (nv:¬p.vd) :
 Calls prog 19 #[p.val] w fun e w'=>e = .returned (.tuple #[(⟨0,slN,slN,slN,Fx.nil⟩:Sn).val, .int .i64 1])/\Below w.heap.size w w':=by
 have HO:=ag h;have bt:=ag sm;have cq:Hd (¬p.vd):=nv;clear h sm nv;go_enter func19,ntmps19;go_upto_region 1 with fail;have pb:=(aY w p 25).1;have bw:=(aY w p 25).2;have hsz:=iV w p 25;generalize (w.alloc (.cells #[.slice p.cost.A p.cost.vs.length p.cost.c, .slice p.rA p.rows.length p.rc, .slice p.right.A p.right.vs.length p.right.c] 25))=wm at pb bw hsz|-;have zs:=oC wm 31;have bb:=qc wm (.cells #[.int .i64 0, .slice none 0 0, .slice none 0 0, .slice none 0 0, .bool false, .slice none 0 0, .slice none 0 0] 31);rw [hsz] at zs;replace pb:=pb.below bb
 replace bw:=qd bw bb;clear bb hsz;generalize (wm.alloc (.cells #[.int .i64 0, .slice none 0 0, .slice none 0 0, .slice none 0 0, .bool false, .slice none 0 0, .slice none 0 0] 31))=wb at *;have c0:=pb.c0;have c1:=pb.c1;have c2:=pb.c2;go_wp2_with fail;refine (fE wb p false (HO.o.below bw) bt.o (Iff.intro (fun h=>Bool.noConfusion h) (fun h=>absurd h cq.o))).mono ?_;rintro e w1 ⟨rfl,bb⟩;replace zs:=zs.below bb;replace bw:=qd bw bb;clear bb c0 c1 c2 pb;obtain ⟨z0,z1,z2,z3,z4,z5,z6,zf,zl,_⟩:=zs;have f0:=zf 0;have f1:=zf 1;have f2:=zf 2;have f3:=zf 3;have f4:=zf 4;have f5:=zf 5
 have f6:=zf 6;go_wp2_with fail;refine bodyPost_ret (v := .tuple #[(⟨0,slN,slN,slN,Fx.nil⟩:Sn).val, .int .i64 1]) (by simp [results,Tryz.results19,go_sem,z0,z1,z2,z3,z4,z5,z6]) rfl ?_
 exact ⟨rfl,(Kp.set7 (S:=fun a=>a=w.heap.size+1) (Kp.refl _ _) rfl _ _ _ _ _ _ _).below (B:=w.heap.size) (fun a e=>by omega) bw.size |> bw.trans⟩
theorem pX (w:World) (p:Pg) (h:p.ok w) (sm:p.sm) (vd:p.vd) :
 Calls prog 19 #[p.val] w fun e w'=>∃s:Sn,e = .returned (.tuple #[s.val, .int .i64 0])/\SolS w' w.heap.size p.rows.length p.cost.vs.length p.a p.b p.c s/\Below w.heap.size w w':=by
 have HO:=ag h;have bt:=ag sm;have bN:=ag vd;have HW:=ag vd.wgt;obtain ⟨n,hn⟩:∃n,p.cost.vs.length=n:=⟨_,rfl⟩;obtain ⟨m,hm⟩:∃m,p.rows.length=m:=⟨_,rfl⟩;have hnl:n<=256:=by rw [<-hn];exact vd.c2
 have hml:m<=32:=by rw [<-hm];exact vd.r2
 have HN:=ag hn;have HM:=ag hm;have rz:Hd (1<=m):=ag (by rw [<-hm];exact vd.r1)
 rw [hm,hn] at HW|-;clear h sm vd hn hm;go_enter func19,ntmps19;go_upto_region 1 with fail;have pb:=(aY w p 25).1;have bw:=(aY w p 25).2;have hsz:=iV w p 25;generalize (w.alloc (.cells #[.slice p.cost.A p.cost.vs.length p.cost.c, .slice p.rA p.rows.length p.rc, .slice p.right.A p.right.vs.length p.right.c] 25))=wm at pb bw hsz|-;have zs:=oC wm 31;have bb:=qc wm (.cells #[.int .i64 0, .slice none 0 0, .slice none 0 0, .slice none 0 0, .bool false, .slice none 0 0, .slice none 0 0] 31);rw [hsz] at zs;replace pb:=pb.below bb;replace bw:=qd bw bb
 clear bb hsz;generalize (wm.alloc (.cells #[.int .i64 0, .slice none 0 0, .slice none 0 0, .slice none 0 0, .bool false, .slice none 0 0, .slice none 0 0] 31))=wb at *;obtain ⟨g1,hg1⟩:∃g,w.heap.size=g:=⟨_,rfl⟩;obtain ⟨G,hG⟩:∃g,w.heap.size+1=g:=⟨_,rfl⟩;have pb1:Pb wb g1 p:=by rw [<-hg1];exact pb
 rw [hG] at zs;have fl:Hd (w.heap.size<=g1):=ag (Nat.le_of_eq hg1);have ip:Hd (w.heap.size<=G):=ag (by omega)
 have FK:Hd (¬g1=G):=ag (by omega)
 rw [hG,hg1];clear hG hg1 pb;have c0:=pb1.c0;have c1:=pb1.c1;have c2:=pb1.c2;go_wp2_with fail;refine (fE wb p true (HO.o.below bw) bt.o (Iff.intro (fun _=>bN.o) (fun _=>rfl))).mono ?_;rintro e w1 ⟨rfl,bb⟩;replace zs:=zs.below bb;replace pb1:=pb1.below bb;replace bw:=qd bw bb;clear bb c0 c1 c2;have c0:=pb1.c0;have c1:=pb1.c1;have c2:=pb1.c2;go_wp2_with fail;have a8:=uK w1 p (HO.o.below bw) bt.o bN.o;rw [HM.o,HN.o] at a8;refine a8.mono ?_;rintro e w2 ⟨L,rfl,tw,hLn,hLm,hLt,bb⟩;have rB:Hd (∀a,L.S a->w.heap.size<=a/\¬a=G/\¬a=g1):=ag (fun a ha=>by
  have h1:=tw.q.ge a ha;have h2:=bw.size;have h3:=zs.lt;have h4:=pb1.lt;exact ⟨by omega,by omega,by omega⟩)
 replace zs:=zs.below bb;replace pb1:=pb1.below bb;replace bw:=qd bw bb;clear bb c0 c1 c2;have cJ:=ag hLn;have dF:=ag hLm;have dy:=ag hLt;have r6:Hd (L.N<=1000):=ag (by show L.n+L.gs.length+1<=1000;omega)
 clear hLn hLm hLt;obtain ⟨N,hN⟩:∃N,n+m=N:=⟨_,rfl⟩;have fx:=ag hN;have hNl:N<=288:=by omega
 have d0:w2.cell? ⟨L.G,0,none⟩=some (.slice (some ⟨L.go,0,none⟩) m L.co):=by rw [<-dF.o];exact tw.c0
 have d2:w2.cell? ⟨L.G,2,none⟩=some (.int .i64 (n:Int)):=by rw [<-cJ.o];exact tw.c2
 have hNw:(n:Int)+(m:Int)=(N:Int):=by omega
 clear hN;go_upto_region 4 with fail;go_region;have bd:Below w2.heap.size w2 w2.drew:=(ah _ _).drew;replace zs:=zs.below bd;replace pb1:=pb1.below bd;replace tw:=tw.below bd;replace bw:=qd bw bd;clear bd d0 d2 hNw;generalize w2.drew=w2 at *;go_upto_region 5 with fail
 go_cut [6,7] (fun s6 s7 w'=>∃g6 g7:Nat,s6 = .slice (some ⟨g6,0,none⟩) N N/\s7 = .slice (some ⟨g7,0,none⟩) N N/\g6≠g7/\w2.heap.size<=g6/\w2.heap.size<=g7/\Ou w' w2.heap.size g6 N (fun a=>a<0) (bZ n)/\Ou w' w2.heap.size g7 N (fun a=>a<0) (cV n p.c)/\Below w2.heap.size w2 w')
 case first=>
  have hmk1:=oP N (by omega)
  have e0:w2.drew.heap.size=w2.heap.size:=rfl;have q1:=Ou.new w2.drew N w2.heap.size (bZ n) (by omega) (Nat.le_refl _)
  have b1:=(dd (ah w2.heap.size w2)).alloc (Nat.le_refl _) (.cells (madeCells Fx.nil.val.cells (N*3)) 29);have z1:=uE w2.drew (.cells (madeCells Fx.nil.val.cells (N*3)) 29);have q2:=Ou.new (w2.drew.alloc (.cells (madeCells Fx.nil.val.cells (N*3)) 29)) N w2.heap.size (cV n p.c) (by omega) (by omega)
  have b2:=(ah (w2.drew.alloc (.cells (madeCells Fx.nil.val.cells (N*3)) 29)).heap.size (w2.drew.alloc (.cells (madeCells Fx.nil.val.cells (N*3)) 29))).alloc (Nat.le_refl _) (.cells (madeCells Fx.nil.val.cells (N*3)) 29);have q3:=Ou.new w2.drew N w2.heap.size (cV n p.c) (by omega) (Nat.le_refl _)
  have q4:=Ou.new (w2.drew.alloc (.cells (madeCells Fx.nil.val.cells (N*3)) 29)) N w2.heap.size (bZ n) (by omega) (by omega)
  rw [z1,e0] at q2 q4;rw [e0] at q1 q3;have y9:=ag (q1.below b2);have FL:=ag q2;have FM:=ag (q3.below b2);have FN:=ag q4;have EC:=ag (qd b1 b2);clear q1 q2 q3 q4 b1 b2 z1;go_region
  ·go_wp2_with fail;go_meet
   case rel=>exact ⟨w2.heap.size,w2.heap.size+1,rfl,rfl,by omega,Nat.le_refl _,by omega,y9.o.mono (fun a _ h=>absurd h (Nat.not_lt_zero a)) (fun _ _ _=>rfl),FL.o.mono (fun a _ h=>absurd h (Nat.not_lt_zero a)) (fun _ _ _=>rfl),EC.o⟩
  ·go_wp2_with fail;go_meet
   case rel=>exact ⟨w2.heap.size+1,w2.heap.size,rfl,rfl,by omega,by omega,Nat.le_refl _,FN.o.mono (fun a _ h=>absurd h (Nat.not_lt_zero a)) (fun _ _ _=>rfl),FM.o.mono (fun a _ h=>absurd h (Nat.not_lt_zero a)) (fun _ _ _=>rfl),EC.o⟩
 case rest=>
  obtain ⟨g6,g7,rfl,rfl,n67,d6,d7,o6,o7,bb⟩:=hcut;have n76:¬g7=g6:=fun e=>n67 e.symm;have r5:Hd (∀a,L.S a->¬a=g6/\¬a=g7):=ag (fun a ha=>by have:=tw.q.lts a ha;exact ⟨by omega,by omega⟩)
  have mn:Hd (¬(L.G=g6\/L.G=g7)/\¬(L.go=g6\/L.go=g7)/\¬(L.gt=g6\/L.gt=g7)/\¬(G=g6\/G=g7)/\¬(g1=g6\/g1=g7)):=ag (by
   have h1:=tw.lt;have h2:=tw.q.ol;have h3:=tw.gl;have h4:=zs.lt;have h5:=pb1.lt;exact ⟨by omega,by omega,by omega,by omega,by omega⟩)
  have ED:Hd (w.heap.size<=g6/\w.heap.size<=g7):=ag (by have:=bw.size;exact ⟨by omega,by omega⟩)
  have aq:=ag (tw.below bb);have cU:=ag (zs.below bb);have bq:=ag (pb1.below bb);have aw:=ag (qd bw bb);have cK:Hd (∀a,a=g6\/a=g7->NL wc a):=ag (fun a e=>by
   rcases e with rfl|rfl
   ·exact o6.nl
   ·exact o7.nl)
  have jn:Hd (w.heap.size<=w2.heap.size):=ag bw.size;clear tw zs pb1 bw bb d6 d7;generalize w2.heap.size=b2 at *;generalize wc=w5 at *;go_wp2_with fail;go_loopw [32] (fun iv wr=>∃k:Nat,k<=N/\iv = .int .i64 k/\Ou wr b2 g6 N (fun a=>a<k) (bZ n)/\Ou wr b2 g7 N (fun a=>a<k) (cV n p.c)/\Kp (fun a=>a=g6\/a=g7) w5 wr) (fun iv _=>N-(intOf iv).toNat)
  case atStart=>exact ⟨0,by omega,rfl,o6,o7,Kp.refl _ _⟩
  case round=>
   clear o6 o7;obtain ⟨k,hk,rfl,o6,o7,kp⟩:=hrel;by_cases hlt:k<N
   ·--D{
    have kz:=ag o6;have lZ:=ag o7;have ax:=ag kp;clear o6 o7 kp;go_wp2_with fail;refine (dO wr).mono ?_;rintro e w6 ⟨x1,rfl,e1,bb⟩;replace kz:=ag (kz.o.below bb);replace lZ:=ag (lZ.o.below bb);replace ax:=ag (ax.o.then bb)
    have AL:=ag e1;clear bb e1;go_wp2_with fail;refine (dO w6).mono ?_;rintro e w7 ⟨x2,rfl,e2,bb⟩;replace kz:=ag (kz.o.below bb);replace lZ:=ag (lZ.o.below bb);replace ax:=ag (ax.o.then bb)
    replace AL:=ag (AL.o.below bb);have CP:=ag e2;clear bb e2;obtain ⟨va,k0,k1,k2,aF,aG,aH⟩:=kz.o.slot hlt;obtain ⟨vb,m0,m1,m2,mf0,mf1,mf2⟩:=lZ.o.slot hlt;go_upto_region 10 with fail;clear k0 k1 k2 aF aG aH m0 m1 m2 mf0 mf1 mf2 va vb;obtain ⟨p6,kk6⟩:=kz.o.put (i:=k) AL.o;have p7:=lZ.o.kp kk6 (fun a e=>by rw [e];exact kz.o.nl) n76
    have e2:El _ x2 0:=⟨kk6.ok CP.o.ok (fun a e=>by rw [e];exact kz.o.nl),CP.o.rp⟩
    replace ax:=ag (ax.o.trans (kk6.mono (fun a e => .inl e)));clear kz lZ AL CP kk6;generalize (((w7.setCell ⟨g6,k*3,none⟩ (.bool x1.b)).setCell ⟨g6,k*3+1,none⟩ (.slice x1.A x1.xs.length x1.c)).setCell ⟨g6,k*3+2,none⟩ (.slice x1.D x1.ys.length x1.d))=w8 at *;obtain ⟨q7,kk7⟩:=p7.put (i:=k) e2;have q6:=p6.kp kk7 (fun a e=>by rw [e];exact p7.nl) n67
    have r7:=ag (ax.o.trans (kk7.mono (fun a e => .inr e)));clear p6 p7 e2 kk7 ax;generalize (((w8.setCell ⟨g7,k*3,none⟩ (.bool x2.b)).setCell ⟨g7,k*3+1,none⟩ (.slice x2.A x2.xs.length x2.c)).setCell ⟨g7,k*3+2,none⟩ (.slice x2.D x2.ys.length x2.d))=w9 at *;have kz:=ag q6;have lZ:=ag q7;have FO:=ag (aq.o.kp r7.o cK.o mn.o.1 mn.o.2.1 mn.o.2.2.1 (fun a ha e=>by have:=r5.o a ha;omega))
    clear q6 q7;have d2:w9.cell? ⟨L.G,2,none⟩=some (.int .i64 (n:Int)):=by rw [<-cJ.o];exact FO.o.c2
    by_cases hkn:n<=k
    ·have iB:Hd (bZ n k=1):=ag (by rw [bZ,if_neg (by omega)])
     have fm:Hd (cV n p.c k=0):=ag (by rw [cV,if_neg (by omega)])
     go_wp2_with fail;refine (mi w9).mono ?_;rintro e w10 ⟨x3,rfl,e3,bb⟩;replace kz:=ag (kz.o.below bb);replace lZ:=ag (lZ.o.below bb);replace r7:=ag (r7.o.then bb)
     clear bb d2;obtain ⟨va,k0,k1,k2,aF,aG,aH⟩:=kz.o.slot hlt;go_wp2_with fail;obtain ⟨p6,kk6⟩:=kz.o.put (i:=k) e3;have p7:=lZ.o.kp kk6 (fun a e=>by rw [e];exact kz.o.nl) n76
     have kp9:=r7.o.trans (kk6.mono (fun a e => .inl e));go_roundw
     case rel=>exact ⟨k+1,by omega,by go_num,p6.mono (fun a _ ha=>by omega) (fun a _ ha=>by by_cases e:a=k <;> simp [e,iB.o]),p7.mono (fun a _ ha=>by omega) (fun a _ ha=>by by_cases e:a=k <;> simp [e,fm.o]),kp9⟩
     case measure=>simp [intOf];omega
    ·have hkl:k<p.cost.vs.length:=by rw [HN.o];omega
     have iB:Hd (bZ n k=0):=ag (by rw [bZ,if_pos (by omega)])
     have hbr:Below w.heap.size w w9:=aw.o.trans (r7.o.below (fun a e=>by have:=ED.o;omega) aw.o.size)
     obtain ⟨ad,hca,ef⟩:=(HO.o.cost.below hbr).rd.at k hkl;have hme:=List.getElem_mem hkl;have EE:=ag ((HO.o.cost.below hbr).el _ hme);have i5:=ag (bt.o.ec _ hme);have Ac:Hd (gz p.cost.vs[k]=okS p.cost.vs[k].q):=ag (gp (bN.o.vc _ hme));have fm:Hd (cV n p.c k=p.cost.vs[k].q):=ag (by rw [cV,if_pos (by omega),Pg.c,bC _ _ _ hkl])
     obtain ⟨x,hx⟩:∃x,p.cost.vs[k]=x:=⟨_,rfl⟩;have ef0:Ef w9 (ad.add (k*3)) p.cost.vs[k]:=ef;rw [hx] at ef0 EE i5 Ac fm;have c0:w9.cell? ⟨g1,0,none⟩=some (.slice (some ad) n p.cost.c):=by
      have:=(bq.o.kp r7.o mn.o.2.2.2.2).c0;rw [show p.cost.val = .slice p.cost.A p.cost.vs.length p.cost.c from rfl,hca,HN.o] at this;exact this
     have f0:=ef0.c0;have f1:=ef0.c1;have f2:=ef0.c2;have hkI:¬n<=k:=hkn;clear hx ef ef0 hca hme hbr;go_wp2_with fail;refine (dZ w9 x _ EE.o i5.o.1 i5.o.2 Ac.o).mono ?_;rintro e w10 ⟨y,rfl,hs1,ok1,bb⟩;have RP:=ag (Rp.of hs1);replace kz:=ag (kz.o.below bb);replace lZ:=ag (lZ.o.below bb);replace r7:=ag (r7.o.then bb)
     clear bb d2 c0 f0 f1 f2 hs1;obtain ⟨va,k0,k1,k2,aF,aG,aH⟩:=lZ.o.slot hlt;go_wp2_with fail;obtain ⟨p7,kk7⟩:=lZ.o.put (i:=k) (⟨ok1,RP.o⟩:El w10 y _);have p6:=kz.o.kp kk7 (fun a e=>by rw [e];exact lZ.o.nl) n67
     have kp9:=r7.o.trans (kk7.mono (fun a e => .inr e));go_roundw
     case rel=>exact ⟨k+1,by omega,by go_num,p6.mono (fun a _ ha=>by omega) (fun a _ ha=>by by_cases e:a=k <;> simp [e,iB.o]),p7.mono (fun a _ ha=>by omega) (fun a _ ha=>by by_cases e:a=k <;> simp [e,fm.o]),kp9⟩
     case measure=>simp [intOf];omega
--D}
   ·obtain rfl:N=k:=by omega
    obtain ⟨v6,hv6,cl6⟩:=o6.cl (fun k hk=>hk);obtain ⟨v7,hv7,cl7⟩:=o7.cl (fun k hk=>hk);have vt:=ag hv6;have vL:=ag hv7;replace aq:=ag (aq.o.kp kp cK.o mn.o.1 mn.o.2.1 mn.o.2.2.1 (fun a ha e=>by have:=r5.o a ha;omega))
    replace cU:=ag (cU.o.kp kp mn.o.2.2.2.1);replace aw:=ag (aw.o.trans (kp.below (fun a e=>by have:=ED.o;omega) aw.o.size))
    have fs:=ag cl6;have ft:=ag cl7;have AU:Hd (0<v6.length->∀ad:Addr,(some ⟨g6,0,none⟩:Option Addr)=some ad->¬L.S ad.block):=ag (fun _ ad e hs=>by injection e with e;subst e;exact (r5.o _ hs).1 rfl)
    have AY:Hd (0<v7.length->∀ad:Addr,(some ⟨g7,0,none⟩:Option Addr)=some ad->¬L.S ad.block):=ag (fun _ ad e hs=>by injection e with e;subst e;exact (r5.o _ hs).2 rfl)
    clear o6 o7 kp cl6 cl7 hv6 hv7 bq cK;obtain ⟨x0,hx0⟩:∃x0,DM m n p.a p.b=x0:=⟨_,rfl⟩;have lH:Hd (Okx m n (dG m n p.a p.b) x0):=ag (by rw [<-hx0];exact DL)
    rw [hx0] at aq;clear hx0;obtain ⟨K,hK⟩:=tN (most:=n) (c:=bZ n) lH.o (Nat.le_refl n);have a8:=ky wr _ L x0 (some ⟨g6,0,none⟩) N v6 (bZ n) n K aq.o fs.o AU.o (by rw [vt.o,cJ.o,dF.o];exact fx.o.symm) (by rw [cJ.o];exact Nat.le_refl _) r6.o
     (by rw [cJ.o,dF.o];exact fun t _ i hi=>(lH.o.it (Nat.le_refl n) t).tab.lt i hi) (by rw [cJ.o,dF.o];exact fun t _=>DA (lH.o.it (Nat.le_refl n) t) HW.o) (by rw [cJ.o,dF.o];exact hK)
    rw [cJ.o,dF.o,vt.o] at a8;have bK:=ag a8;have d2:wr.cell? ⟨L.G,2,none⟩=some (.int .i64 (n:Int)):=by rw [<-cJ.o];exact aq.o.c2
    clear a8 hK;go_wp2_with fail;refine bK.o.mono ?_;rintro e w6 ⟨t,_,rfl,hnx,tw6,kk⟩;clear d2 bK;have hnl:=aq.o.q.nl;replace fs:=ag (fs.o.kp kk hnl AU.o);replace ft:=ag (ft.o.kp kk hnl AY.o);replace cU:=ag (cU.o.kp kk (fun hs=>(rB.o _ hs).2.1 rfl));replace aw:=ag (aw.o.trans (kk.below (fun a ha=>(rB.o a ha).1) aw.o.size));clear hnl;replace aq:=ag tw6;clear tw6 kk;obtain ⟨y1,hy1⟩:∃y,itP m n n (bZ n) x0 t=y:=⟨_,rfl⟩;have nE:Hd (Okx m n (dG m n p.a p.b) y1):=ag (by rw [<-hy1];exact lH.o.it (Nat.le_refl n) t)
    rw [hy1] at aq hnx|-;have zb:=ag hnx;clear hy1 hnx;have A7:=ag (DA nE.o HW.o);have a8:=ju w6 _ L y1 (some ⟨g6,0,none⟩) N v6 (bZ n) N aq.o fs.o (by rw [vt.o,cJ.o,dF.o];exact fx.o.symm) (by rw [cJ.o,dF.o];exact Nat.le_of_eq fx.o.symm) (by rw [cJ.o,dF.o];exact fun i hi=>nE.o.tab.lt i hi) r6.o (by rw [cJ.o,dF.o];exact A7.o)
    rw [dF.o,vt.o] at a8;have bK:=ag a8;clear a8;obtain ⟨q1,hq1⟩:∃q,bV m (bZ n) y1.T y1.B N=q:=⟨_,rfl⟩;rw [hq1] at bK;have y9:Hd (bV m (bZ n) y1.T y1.B (n+m)=q1):=ag (by rw [fx.o];exact hq1)
    have c7:Hd (Sz q1 128 128):=ag (by rw [<-hq1];exact (A7.o.dt N (Nat.le_of_eq fx.o.symm) m (Nat.le_refl _)).up)
    obtain ⟨z,hz⟩:∃z,bA q1 0=z:=⟨_,rfl⟩;have HZ:=ag hz;have h5:=du q1 0;rw [hz] at h5;have H5:=ag h5;clear hq1 hz h5;go_wp2_with fail;refine bK.o.mono ?_;rintro e w7 ⟨yd,rfl,ed,bb⟩;have EF:=ag ed;replace aq:=ag (aq.o.below bb);replace fs:=ag (fs.o.below bb);replace ft:=ag (ft.o.below bb);replace cU:=ag (cU.o.below bb);replace aw:=ag (qd aw.o bb);clear bb;clear ed bK;go_wp2_with fail;refine (aU w7 yd q1 z EF.o c7.o HZ.o).mono ?_;rintro e w8 ⟨rfl,bb⟩;replace aq:=ag (aq.o.below bb);replace fs:=ag (fs.o.below bb);replace ft:=ag (ft.o.below bb)
    replace cU:=ag (cU.o.below bb);replace aw:=ag (qd aw.o bb);clear bb;by_cases hpos:0<z
    ·have lw:Hd (0<bV m (bZ n) y1.T y1.B (n+m)):=ag (by
      rw [y9.o];rcases H5.o with ⟨k1,k2⟩|⟨k1,k2⟩|⟨k1,k2⟩
      ·omega
      ·omega
      ·exact k1)
     have a8:=mP w8 _ L y1 (some ⟨g6,0,none⟩) N v6 (bZ n) aq.o fs.o (by rw [vt.o,cJ.o,dF.o];exact fx.o.symm) (by rw [cJ.o,dF.o];exact fun i hi=>nE.o.tab.lt i hi) r6.o (by rw [cJ.o,dF.o];exact A7.o)
     rw [dF.o,cJ.o,vt.o] at a8;have bK:=ag a8;clear a8;go_wp2_with fail;refine bK.o.mono ?_;rintro e w9 ⟨gY,rfl,oY,bb⟩;have p8:Hd (Ou w9 w8.heap.size gY m (fun _=>True) (kr m n p.b (bZ n) y1)):=ag (oY.mono (fun _ _ h=>h) (fun k hk _=>by rw [kr,nf,dy.o k hk]))
     have ps:Hd (¬gY=G):=ag (by have:=cU.o.lt;have:=oY.lt;omega)
     have CQ:Hd (w.heap.size<=w8.heap.size):=ag aw.o.size;clear oY bK;replace aq:=ag (aq.o.below bb);replace fs:=ag (fs.o.below bb);replace ft:=ag (ft.o.below bb);replace cU:=ag (cU.o.below bb);replace aw:=ag (qd aw.o bb);clear bb;go_wp2_with fail;refine (dO w9).mono ?_;rintro e w10 ⟨x9,rfl,e9,bb⟩;replace p8:=ag (p8.o.below bb);replace aq:=ag (aq.o.below bb);replace fs:=ag (fs.o.below bb);replace ft:=ag (ft.o.below bb);replace cU:=ag (cU.o.below bb);replace aw:=ag (qd aw.o bb);clear bb;obtain ⟨vY,hvY,os⟩:=p8.o.os;have SOL:Hd (SolS w10 w.heap.size m n p.a p.b p.c ⟨2,slN,⟨some ⟨gY,0,none⟩,m,vY⟩,slN,x9⟩):=ag (.inf y1 nE.o zb.o lw.o rfl rfl rfl (os.mono CQ.o) e9)
     obtain ⟨z0,z1,z2,z3,z4,z5,z6,zf,zl,zn⟩:=cU.o;have f0:=zf 0;have f1:=zf 1;have f2:=zf 2;have f3:=zf 3;have f4:=zf 4;have f5:=zf 5;have f6:=zf 6;have ZN:=ag zn;clear os e9 zn zl;go_wp2_with fail;refine bodyPost_ret (v := .tuple #[(⟨2,slN,⟨some ⟨gY,0,none⟩,m,vY⟩,slN,x9⟩:Sn).val, .int .i64 0]) (by simp [results,Tryz.results19,go_sem,z0,z1,z2,z3,z4,z5,z6,hvY]) rfl ?_
     have k7:=Kp.set7 (S:=fun a=>a=G) (Kp.refl _ w10) rfl (.int .i64 2) (.slice none 0 0) (.slice (some ⟨gY,0,none⟩) m m) (.slice none 0 0) (.bool x9.b) (.slice x9.A x9.xs.length x9.c) (.slice x9.D x9.ys.length x9.d);clear z0 z1 z2 z3 z4 z5 z6 f0 f1 f2 f3 f4 f5 f6 zf;generalize (((((((w10.setCell ⟨G,0,none⟩ (.int .i64 2)).setCell ⟨G,1,none⟩ (.slice none 0 0)).setCell ⟨G,2,none⟩ (.slice (some ⟨gY,0,none⟩) m m)).setCell ⟨G,3,none⟩ (.slice none 0 0)).setCell ⟨G,4,none⟩ (.bool x9.b)).setCell ⟨G,5,none⟩ (.slice x9.A x9.xs.length x9.c)).setCell ⟨G,6,none⟩ (.slice x9.D x9.ys.length x9.d))=wf at k7|-;exact ⟨_,rfl,SOL.o.kp k7 (fun a e=>by rw [e];exact ZN.o) (fun ad e=>by cases e) (fun ad e=>by injection e with e;subst e;exact ps.o) (fun ad e=>by cases e),aw.o.trans (k7.below (fun a e=>by rw [e];exact ip.o) aw.o.size)⟩
    ·have zc:Hd (¬ 0<bV m (bZ n) y1.T y1.B (n+m)):=by
      intro hh;rw [y9.o] at hh;rcases H5.o with ⟨k1,k2⟩|⟨k1,k2⟩|⟨k1,k2⟩
      ·exact absurd hh (Rat.not_lt.2 (Rat.le_of_lt k1))
      ·rw [k1] at hh;exact absurd hh (Rat.not_lt.2 (Rat.le_refl))
      ·omega
     have hz1:=zw nE.o zc.o;have hall:=Cv nE.o hz1;have gK:Hd (Okx m n (dG m n p.a p.b) (j5 n y1 m)/\Art m n m (j5 n y1 m)):=ag (hall m (Nat.le_refl _));have a8:=uI w8 _ L y1 aq.o r6.o (by rw [cJ.o,dF.o];exact fun t ht i hi=>by have:=(hall t ht).1.tab.lt i hi;omega) (by rw [cJ.o,dF.o];exact fun t ht=>(DA (hall t ht).1 HW.o).el)
     rw [cJ.o,dF.o] at a8;have bK:=ag a8;clear a8 hz1 hall A7 zb y9 c7 HZ EF;go_wp2_with fail;refine bK.o.mono ?_;rintro e w9 ⟨rfl,tw9,kk⟩;clear bK;have hnl:=aq.o.q.nl;replace fs:=ag (fs.o.kp kk hnl AU.o);replace ft:=ag (ft.o.kp kk hnl AY.o);replace cU:=ag (cU.o.kp kk (fun hs=>(rB.o _ hs).2.1 rfl));replace aw:=ag (aw.o.trans (kk.below (fun a ha=>(rB.o a ha).1) aw.o.size));clear hnl;replace aq:=ag tw9;clear tw9 kk;obtain ⟨y2,hy2⟩:∃y,j5 n y1 m=y:=⟨_,rfl⟩;rw [hy2] at aq gK;clear hy2 zc nE;obtain ⟨K2,hK⟩:=tN (most:=n) (c:=cV n p.c) gK.o.1 (Nat.le_refl n)
     have a8:=ky w9 _ L y2 (some ⟨g7,0,none⟩) N v7 (cV n p.c) n K2 aq.o ft.o AY.o (by rw [vL.o,cJ.o,dF.o];exact fx.o.symm) (by rw [cJ.o];exact Nat.le_refl _) r6.o
      (by rw [cJ.o,dF.o];exact fun t _ i hi=>(gK.o.1.it (Nat.le_refl n) t).tab.lt i hi) (by rw [cJ.o,dF.o];exact fun t _=>fit2 (gK.o.1.it (Nat.le_refl n) t) HW.o) (by rw [cJ.o,dF.o];exact hK)
     rw [cJ.o,dF.o,vL.o] at a8;have bK:=ag a8;have d2:w9.cell? ⟨L.G,2,none⟩=some (.int .i64 (n:Int)):=by rw [<-cJ.o];exact aq.o.c2
     clear a8 hK;go_wp2_with fail;refine bK.o.mono ?_;rintro e w10 ⟨t2,_,rfl,hnx,tw10,kk⟩;clear d2 bK;have hnl:=aq.o.q.nl;replace fs:=ag (fs.o.kp kk hnl AU.o);replace ft:=ag (ft.o.kp kk hnl AY.o);replace cU:=ag (cU.o.kp kk (fun hs=>(rB.o _ hs).2.1 rfl));replace aw:=ag (aw.o.trans (kk.below (fun a ha=>(rB.o a ha).1) aw.o.size));clear hnl;replace aq:=ag tw10;clear tw10 kk;obtain ⟨y3,hy3⟩:∃y,itP m n n (cV n p.c) y2 t2=y:=⟨_,rfl⟩;have p9:Hd (Okx m n (dG m n p.a p.b) y3):=ag (by rw [<-hy3];exact gK.o.1.it (Nat.le_refl n) t2)
     have xj:Hd (Art m n m y3):=ag (by rw [<-hy3];exact DO gK.o.2 t2)
     rw [hy3] at aq hnx|-;have CS:=ag hnx;clear hy3 hnx gK;have CX:=ag (fit2 p9.o HW.o);have hpt:=uz w10 _ L y3 aq.o (by rw [cJ.o,dF.o];exact fun i hi=>p9.o.tab.lt i hi) r6.o (by rw [dF.o];exact fun i hi r hr e=>i9 p9.o.tab hi hr e)
     rw [dF.o,cJ.o] at hpt;have Bx:=ag hpt;clear hpt
     cases hen:fG m (cV n p.c) y3.T y3.B n 0 with
     | some s0=>
       obtain ⟨_,s1,s2,_⟩:=iH _ _ _ hen;have hZ:=ag (BJ hen CS.o);have ub:=ag hen;have sV:Hd (s0<n):=ag (by omega)
       have bO:Hd (∀i,i<m->y3.B i≠s0):=ag (fun i hi e=>by
        have:=jQ (c:=cV n p.c) p9.o.tab hi;rw [e] at this;rw [this] at s2;exact absurd s2 (Rat.not_lt.2 (Rat.le_refl)))
       rw [show rK (some s0)=(s0:Int) from rfl];have hs0:(0:Int)<=(s0:Int):=by omega
       clear hen s1 s2;go_wp2_with fail;refine Bx.o.mono ?_;rintro e w11 ⟨gX,rfl,oX,bb⟩;have lJ:=ag oX;have CY:Hd (¬gX=G):=ag (by have:=cU.o.lt;have:=oX.lt;omega)
       have C0:Hd (w.heap.size<=w10.heap.size):=ag aw.o.size;clear oX Bx;replace aq:=ag (aq.o.below bb);replace fs:=ag (fs.o.below bb);replace ft:=ag (ft.o.below bb);replace cU:=ag (cU.o.below bb);replace aw:=ag (qd aw.o bb);clear bb;have a8:=yG w11 _ L y3 s0 aq.o (by rw [cJ.o];exact sV.o) (by rw [cJ.o,dF.o];exact fun i hi=>p9.o.tab.lt i hi) r6.o (by rw [dF.o];exact fun i hi r hr e=>i9 p9.o.tab hi hr e) (by rw [dF.o];exact bO.o) (by rw [cJ.o,dF.o];exact CX.o.el)
       rw [dF.o,cJ.o] at a8;have bK:=ag a8;clear a8;go_wp2_with fail;refine bK.o.mono ?_;rintro e w12 ⟨gR,rfl,oR,bb⟩;have C3:=ag oR;have FP:Hd (¬gR=G):=ag (by have:=cU.o.lt;have:=oR.lt;omega)
       have C4:Hd (w.heap.size<=w11.heap.size):=ag aw.o.size;replace lJ:=ag (lJ.o.below bb);clear oR bK;replace aq:=ag (aq.o.below bb);replace fs:=ag (fs.o.below bb);replace ft:=ag (ft.o.below bb);replace cU:=ag (cU.o.below bb);replace aw:=ag (qd aw.o bb);clear bb;go_wp2_with fail;refine (dO w12).mono ?_;rintro e w13 ⟨x9,rfl,e9,bb⟩;replace lJ:=ag (lJ.o.below bb);replace C3:=ag (C3.o.below bb);replace aq:=ag (aq.o.below bb);replace fs:=ag (fs.o.below bb);replace ft:=ag (ft.o.below bb);replace cU:=ag (cU.o.below bb);replace aw:=ag (qd aw.o bb)
       clear bb;obtain ⟨vX,hvX,os⟩:=lJ.o.os;obtain ⟨vR,hvR,os2⟩:=C3.o.os;have SOL:Hd (SolS w13 w.heap.size m n p.a p.b p.c ⟨3,⟨some ⟨gX,0,none⟩,n,vX⟩,slN,⟨some ⟨gR,0,none⟩,n,vR⟩,x9⟩):=ag (.unb y3 p9.o xj.o s0 ub.o hZ.o rfl rfl (os.mono C0.o) (os2.mono C4.o) e9);obtain ⟨z0,z1,z2,z3,z4,z5,z6,zf,zl,zn⟩:=cU.o;have f0:=zf 0;have f1:=zf 1;have f2:=zf 2;have f3:=zf 3;have f4:=zf 4;have f5:=zf 5;have f6:=zf 6;have ZN:=ag zn;clear os os2 e9 zn zl;go_wp2_with fail;refine bodyPost_ret (v := .tuple #[(⟨3,⟨some ⟨gX,0,none⟩,n,vX⟩,slN,⟨some ⟨gR,0,none⟩,n,vR⟩,x9⟩:Sn).val, .int .i64 0]) (by simp [results,Tryz.results19,go_sem,z0,z1,z2,z3,z4,z5,z6,hvX,hvR]) rfl ?_
       have k7:=Kp.set7 (S:=fun a=>a=G) (Kp.refl _ w13) rfl (.int .i64 3) (.slice (some ⟨gX,0,none⟩) n n) (.slice none 0 0) (.slice (some ⟨gR,0,none⟩) n n) (.bool x9.b) (.slice x9.A x9.xs.length x9.c) (.slice x9.D x9.ys.length x9.d);clear z0 z1 z2 z3 z4 z5 z6 f0 f1 f2 f3 f4 f5 f6 zf;generalize (((((((w13.setCell ⟨G,0,none⟩ (.int .i64 3)).setCell ⟨G,1,none⟩ (.slice (some ⟨gX,0,none⟩) n n)).setCell ⟨G,2,none⟩ (.slice none 0 0)).setCell ⟨G,3,none⟩ (.slice (some ⟨gR,0,none⟩) n n)).setCell ⟨G,4,none⟩ (.bool x9.b)).setCell ⟨G,5,none⟩ (.slice x9.A x9.xs.length x9.c)).setCell ⟨G,6,none⟩ (.slice x9.D x9.ys.length x9.d))=wf at k7|-
       exact ⟨_,rfl,SOL.o.kp k7 (fun a e=>by rw [e];exact ZN.o) (fun ad e=>by injection e with e;subst e;exact CY.o) (fun ad e=>by cases e) (fun ad e=>by injection e with e;subst e;exact FP.o),aw.o.trans (k7.below (fun a e=>by rw [e];exact ip.o) aw.o.size)⟩
     | none=>
       have ub:=ag hen;rw [show rK none = -1 from rfl];clear hen;go_wp2_with fail;refine Bx.o.mono ?_;rintro e w11 ⟨gX,rfl,oX,bb⟩;have lJ:=ag oX;have CY:Hd (¬gX=G):=ag (by have:=cU.o.lt;have:=oX.lt;omega)
       have C0:Hd (w.heap.size<=w10.heap.size):=ag aw.o.size;clear oX Bx;replace aq:=ag (aq.o.below bb);replace fs:=ag (fs.o.below bb);replace ft:=ag (ft.o.below bb);replace cU:=ag (cU.o.below bb);replace aw:=ag (qd aw.o bb);clear bb;have a8:=mP w11 _ L y3 (some ⟨g7,0,none⟩) N v7 (cV n p.c) aq.o ft.o (by rw [vL.o,cJ.o,dF.o];exact fx.o.symm) (by rw [cJ.o,dF.o];exact fun i hi=>p9.o.tab.lt i hi) r6.o (by rw [cJ.o,dF.o];exact CX.o)
       rw [dF.o,cJ.o,vL.o] at a8;have bK:=ag a8;clear a8;go_wp2_with fail;refine bK.o.mono ?_;rintro e w12 ⟨gY,rfl,oY,bb⟩;have p8:Hd (Ou w12 w11.heap.size gY m (fun _=>True) (kr m n p.b (cV n p.c) y3)):=ag (oY.mono (fun _ _ h=>h) (fun k hk _=>by rw [kr,nf,dy.o k hk]))
       have ps:Hd (¬gY=G):=ag (by have:=cU.o.lt;have:=oY.lt;omega)
       have C4:Hd (w.heap.size<=w11.heap.size):=ag aw.o.size;replace lJ:=ag (lJ.o.below bb);clear oY bK;replace aq:=ag (aq.o.below bb);replace fs:=ag (fs.o.below bb);replace ft:=ag (ft.o.below bb);replace cU:=ag (cU.o.below bb);replace aw:=ag (qd aw.o bb);clear bb;have a8:=ju w12 _ L y3 (some ⟨g7,0,none⟩) N v7 (cV n p.c) N aq.o ft.o (by rw [vL.o,cJ.o,dF.o];exact fx.o.symm) (by rw [cJ.o,dF.o];exact Nat.le_of_eq fx.o.symm) (by rw [cJ.o,dF.o];exact fun i hi=>p9.o.tab.lt i hi) r6.o (by rw [cJ.o,dF.o];exact CX.o)
       rw [dF.o,vL.o] at a8;have bK:=ag a8;clear a8;go_wp2_with fail;refine bK.o.mono ?_;rintro e w13 ⟨x9,rfl,e9,bb⟩;rw [<-fx.o] at e9;replace lJ:=ag (lJ.o.below bb);replace p8:=ag (p8.o.below bb);replace aq:=ag (aq.o.below bb);replace fs:=ag (fs.o.below bb);replace ft:=ag (ft.o.below bb);replace cU:=ag (cU.o.below bb);replace aw:=ag (qd aw.o bb);clear bb;obtain ⟨vX,hvX,os⟩:=lJ.o.os;obtain ⟨vY,hvY,os2⟩:=p8.o.os;have SOL:Hd (SolS w13 w.heap.size m n p.a p.b p.c ⟨1,⟨some ⟨gX,0,none⟩,n,vX⟩,⟨some ⟨gY,0,none⟩,m,vY⟩,slN,x9⟩):=ag (.opt y3 p9.o xj.o ub.o rfl rfl (os.mono C0.o) (os2.mono C4.o) e9)
       obtain ⟨z0,z1,z2,z3,z4,z5,z6,zf,zl,zn⟩:=cU.o;have f0:=zf 0;have f1:=zf 1;have f2:=zf 2;have f3:=zf 3;have f4:=zf 4;have f5:=zf 5;have f6:=zf 6;have ZN:=ag zn;clear os os2 e9 zn zl;go_wp2_with fail;refine bodyPost_ret (v := .tuple #[(⟨1,⟨some ⟨gX,0,none⟩,n,vX⟩,⟨some ⟨gY,0,none⟩,m,vY⟩,slN,x9⟩:Sn).val, .int .i64 0]) (by simp [results,Tryz.results19,go_sem,z0,z1,z2,z3,z4,z5,z6,hvX,hvY]) rfl ?_
       have k7:=Kp.set7 (S:=fun a=>a=G) (Kp.refl _ w13) rfl (.int .i64 1) (.slice (some ⟨gX,0,none⟩) n n) (.slice (some ⟨gY,0,none⟩) m m) (.slice none 0 0) (.bool x9.b) (.slice x9.A x9.xs.length x9.c) (.slice x9.D x9.ys.length x9.d);clear z0 z1 z2 z3 z4 z5 z6 f0 f1 f2 f3 f4 f5 f6 zf;generalize (((((((w13.setCell ⟨G,0,none⟩ (.int .i64 1)).setCell ⟨G,1,none⟩ (.slice (some ⟨gX,0,none⟩) n n)).setCell ⟨G,2,none⟩ (.slice (some ⟨gY,0,none⟩) m m)).setCell ⟨G,3,none⟩ (.slice none 0 0)).setCell ⟨G,4,none⟩ (.bool x9.b)).setCell ⟨G,5,none⟩ (.slice x9.A x9.xs.length x9.c)).setCell ⟨G,6,none⟩ (.slice x9.D x9.ys.length x9.d))=wf at k7|-
       exact ⟨_,rfl,SOL.o.kp k7 (fun a e=>by rw [e];exact ZN.o) (fun ad e=>by injection e with e;subst e;exact CY.o) (fun ad e=>by injection e with e;subst e;exact ps.o) (fun ad e=>by cases e),aw.o.trans (k7.below (fun a e=>by rw [e];exact ip.o) aw.o.size)⟩
end Go.Proofs.YtkpfbekmaafehaaGreat
