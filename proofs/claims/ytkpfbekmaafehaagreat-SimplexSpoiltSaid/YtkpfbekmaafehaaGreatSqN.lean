/- The walk of simplex.Solve. -/
import Derived.Test.YtkpfbekmaafehaaGreatSqM
namespace Go.Proofs.YtkpfbekmaafehaaGreat
open _root_.Go.Proofs.Tryz
set_option maxHeartbeats 8000000
set_option maxRecDepth 100000
open Go.RowKit
theorem Ou.cl {w:World} {B g N:Nat} {D:Nat->Prop} {f:Nat->Rat} (h:Ou w B g N D f) (hD:∀k,k<N->D k):∃vs:List Fx,vs.length=N/\Cl w (some ⟨g,0,none⟩) vs f:=by
 obtain ⟨vs,a,b,c⟩:=h.ex;exact ⟨vs,b,a.fr.rd,fun k hk=>⟨a.ok _ (List.getElem_mem hk),c k hk (hD k (by omega))⟩⟩
theorem BJ {m n most:Nat} {c:Nat->Rat} {x:St} {s:Nat} (he:fG m c x.T x.B most 0=some s) (h:gZ m n most c x=none):dw x.T x.B (n+m) s m=none:=by
 rw [gZ,he] at h
 cases hl:dw x.T x.B (n+m) s m with
 | none=>rfl
 | some i=>simp only [hl] at h;exact absurd h (by simp)
theorem iV (w:World) (p:Pg) (e:TypeId):(w.alloc (.cells p.cells e)).heap.size=w.heap.size+1:=by simp
theorem uv (w:World) (p:Pg) (h:p.ok w) (sm:p.sm) (nv:¬p.vd) :
 Calls prog 19 #[p.val] w fun e w'=>e = .returned (.tuple #[(⟨0,slN,slN,slN,Fx.nil⟩:Sn).val, .int .i64 1])/\Below w.heap.size w w':=by
 have HO:=ag h;have br:=ag sm;have c7:Hd (¬p.vd):=nv;clear h sm nv;go_enter func19,ntmps19;go_upto_region 1 with fail;have pb:=(aY w p 25).1;have bw:=(aY w p 25).2;have hsz:=iV w p 25;generalize (w.alloc (.cells #[.slice p.cost.A p.cost.vs.length p.cost.c, .slice p.rA p.rows.length p.rc, .slice p.right.A p.right.vs.length p.right.c] 25))=wm at pb bw hsz|-;have zs:=oC wm 31;have bb:=qb wm (.cells #[.int .i64 0, .slice none 0 0, .slice none 0 0, .slice none 0 0, .bool false, .slice none 0 0, .slice none 0 0] 31);rw [hsz] at zs;replace pb:=pb.below bb
 replace bw:=qc bw bb;clear bb hsz;generalize (wm.alloc (.cells #[.int .i64 0, .slice none 0 0, .slice none 0 0, .slice none 0 0, .bool false, .slice none 0 0, .slice none 0 0] 31))=wb at *;have c0:=pb.c0;have c1:=pb.c1;have c2:=pb.c2;go_wp2_with fail;refine (fE wb p false (HO.o.below bw) br.o (Iff.intro (fun h=>Bool.noConfusion h) (fun h=>absurd h c7.o))).mono ?_;rintro e w1 ⟨rfl,bb⟩;replace zs:=zs.below bb;replace bw:=qc bw bb;clear bb c0 c1 c2 pb;obtain ⟨z0,z1,z2,z3,z4,z5,z6,zf,zl,_⟩:=zs;have f0:=zf 0;have f1:=zf 1;have f2:=zf 2;have f3:=zf 3;have f4:=zf 4;have f5:=zf 5
 have f6:=zf 6;go_wp2_with fail;refine bodyPost_ret (v := .tuple #[(⟨0,slN,slN,slN,Fx.nil⟩:Sn).val, .int .i64 1]) (by simp [results,Tryz.results19,go_sem,z0,z1,z2,z3,z4,z5,z6]) rfl ?_
 exact ⟨rfl,(Kp.set7 (S:=fun a=>a=w.heap.size+1) (Kp.refl _ _) rfl _ _ _ _ _ _ _).below (B:=w.heap.size) (fun a e=>by omega) bw.size |> bw.trans⟩
theorem pX (w:World) (p:Pg) (h:p.ok w) (sm:p.sm) (vd:p.vd) :
 Calls prog 19 #[p.val] w fun e w'=>∃s:Sn,e = .returned (.tuple #[s.val, .int .i64 0])/\SolS w' w.heap.size p.rows.length p.cost.vs.length p.a p.b p.c s/\Below w.heap.size w w':=by
 have HO:=ag h;have br:=ag sm;have bK:=ag vd;have HW:=ag vd.wgt;obtain ⟨n,hn⟩:∃n,p.cost.vs.length=n:=⟨_,rfl⟩;obtain ⟨m,hm⟩:∃m,p.rows.length=m:=⟨_,rfl⟩;have hnl:n<=256:=by rw [<-hn];exact vd.c2
 have hml:m<=32:=by rw [<-hm];exact vd.r2
 have HN:=ag hn;have HM:=ag hm;have r6:Hd (1<=m):=ag (by rw [<-hm];exact vd.r1)
 rw [hm,hn] at HW|-;clear h sm vd hn hm;go_enter func19,ntmps19;go_upto_region 1 with fail;have pb:=(aY w p 25).1;have bw:=(aY w p 25).2;have hsz:=iV w p 25;generalize (w.alloc (.cells #[.slice p.cost.A p.cost.vs.length p.cost.c, .slice p.rA p.rows.length p.rc, .slice p.right.A p.right.vs.length p.right.c] 25))=wm at pb bw hsz|-;have zs:=oC wm 31;have bb:=qb wm (.cells #[.int .i64 0, .slice none 0 0, .slice none 0 0, .slice none 0 0, .bool false, .slice none 0 0, .slice none 0 0] 31);rw [hsz] at zs;replace pb:=pb.below bb;replace bw:=qc bw bb
 clear bb hsz;generalize (wm.alloc (.cells #[.int .i64 0, .slice none 0 0, .slice none 0 0, .slice none 0 0, .bool false, .slice none 0 0, .slice none 0 0] 31))=wb at *;obtain ⟨g1,hg1⟩:∃g,w.heap.size=g:=⟨_,rfl⟩;obtain ⟨G,hG⟩:∃g,w.heap.size+1=g:=⟨_,rfl⟩;have pb1:Pb wb g1 p:=by rw [<-hg1];exact pb
 rw [hG] at zs;have f8:Hd (w.heap.size<=g1):=ag (Nat.le_of_eq hg1);have lT:Hd (w.heap.size<=G):=ag (by omega)
 have H9:Hd (¬g1=G):=ag (by omega)
 rw [hG,hg1];clear hG hg1 pb;have c0:=pb1.c0;have c1:=pb1.c1;have c2:=pb1.c2;go_wp2_with fail;refine (fE wb p true (HO.o.below bw) br.o (Iff.intro (fun _=>bK.o) (fun _=>rfl))).mono ?_;rintro e w1 ⟨rfl,bb⟩;replace zs:=zs.below bb;replace pb1:=pb1.below bb;replace bw:=qc bw bb;clear bb c0 c1 c2;have c0:=pb1.c0;have c1:=pb1.c1;have c2:=pb1.c2;go_wp2_with fail;have a7:=uK w1 p (HO.o.below bw) br.o bK.o;rw [HM.o,HN.o] at a7;refine a7.mono ?_;rintro e w2 ⟨L,rfl,tw,hLn,hLm,hLt,bb⟩;have wC:Hd (∀a,L.S a->w.heap.size<=a/\¬a=G/\¬a=g1):=ag (fun a ha=>by
  have h1:=tw.q.ge a ha;have h2:=bw.size;have h3:=zs.lt;have h4:=pb1.lt;exact ⟨by omega,by omega,by omega⟩)
 replace zs:=zs.below bb;replace pb1:=pb1.below bb;replace bw:=qc bw bb;clear bb c0 c1 c2;have dB:=ag hLn;have fd:=ag hLm;have eA:=ag hLt;have yD:Hd (L.N<=1000):=ag (by show L.n+L.gs.length+1<=1000;omega)
 clear hLn hLm hLt;obtain ⟨N,hN⟩:∃N,n+m=N:=⟨_,rfl⟩;have ft:=ag hN;have hNl:N<=288:=by omega
 have d0:w2.cell? ⟨L.G,0,none⟩=some (.slice (some ⟨L.go,0,none⟩) m L.co):=by rw [<-fd.o];exact tw.c0
 have d2:w2.cell? ⟨L.G,2,none⟩=some (.int .i64 (n:Int)):=by rw [<-dB.o];exact tw.c2
 have hNw:(n:Int)+(m:Int)=(N:Int):=by omega
 clear hN;go_upto_region 4 with fail;go_region;have bd:Below w2.heap.size w2 w2.drew:=(ah _ _).drew;replace zs:=zs.below bd;replace pb1:=pb1.below bd;replace tw:=tw.below bd;replace bw:=qc bw bd;clear bd d0 d2 hNw;generalize w2.drew=w2 at *;go_upto_region 5 with fail
 go_cut [6,7] (fun s6 s7 w'=>∃g6 g7:Nat,s6 = .slice (some ⟨g6,0,none⟩) N N/\s7 = .slice (some ⟨g7,0,none⟩) N N/\g6≠g7/\w2.heap.size<=g6/\w2.heap.size<=g7/\Ou w' w2.heap.size g6 N (fun a=>a<0) (bZ n)/\Ou w' w2.heap.size g7 N (fun a=>a<0) (cV n p.c)/\Below w2.heap.size w2 w')
 case first=>
  have hmk1:=oP N (by omega)
  have e0:w2.drew.heap.size=w2.heap.size:=rfl;have q1:=Ou.new w2.drew N w2.heap.size (bZ n) (by omega) (Nat.le_refl _)
  have b1:=(dd (ah w2.heap.size w2)).alloc (Nat.le_refl _) (.cells (madeCells Fx.nil.val.cells (N*3)) 29);have z1:=uE w2.drew (.cells (madeCells Fx.nil.val.cells (N*3)) 29);have q2:=Ou.new (w2.drew.alloc (.cells (madeCells Fx.nil.val.cells (N*3)) 29)) N w2.heap.size (cV n p.c) (by omega) (by omega)
  have b2:=(ah (w2.drew.alloc (.cells (madeCells Fx.nil.val.cells (N*3)) 29)).heap.size (w2.drew.alloc (.cells (madeCells Fx.nil.val.cells (N*3)) 29))).alloc (Nat.le_refl _) (.cells (madeCells Fx.nil.val.cells (N*3)) 29);have q3:=Ou.new w2.drew N w2.heap.size (cV n p.c) (by omega) (Nat.le_refl _)
  have q4:=Ou.new (w2.drew.alloc (.cells (madeCells Fx.nil.val.cells (N*3)) 29)) N w2.heap.size (bZ n) (by omega) (by omega)
  rw [z1,e0] at q2 q4;rw [e0] at q1 q3;have D7:=ag (q1.below b2);have Ia:=ag q2;have Ib:=ag (q3.below b2);have Ic:=ag q4;have Gl:=ag (qc b1 b2);clear q1 q2 q3 q4 b1 b2 z1;go_region
  ·go_wp2_with fail;go_meet
   case rel=>exact ⟨w2.heap.size,w2.heap.size+1,rfl,rfl,by omega,Nat.le_refl _,by omega,D7.o.mono (fun a _ h=>absurd h (Nat.not_lt_zero a)) (fun _ _ _=>rfl),Ia.o.mono (fun a _ h=>absurd h (Nat.not_lt_zero a)) (fun _ _ _=>rfl),Gl.o⟩
  ·go_wp2_with fail;go_meet
   case rel=>exact ⟨w2.heap.size+1,w2.heap.size,rfl,rfl,by omega,by omega,Nat.le_refl _,Ic.o.mono (fun a _ h=>absurd h (Nat.not_lt_zero a)) (fun _ _ _=>rfl),Ib.o.mono (fun a _ h=>absurd h (Nat.not_lt_zero a)) (fun _ _ _=>rfl),Gl.o⟩
 case rest=>
  obtain ⟨g6,g7,rfl,rfl,n67,d6,d7,o6,o7,bb⟩:=hcut;have n76:¬g7=g6:=fun e=>n67 e.symm;have yq:Hd (∀a,L.S a->¬a=g6/\¬a=g7):=ag (fun a ha=>by have:=tw.q.lts a ha;exact ⟨by omega,by omega⟩)
  have pa:Hd (¬(L.G=g6\/L.G=g7)/\¬(L.go=g6\/L.go=g7)/\¬(L.gt=g6\/L.gt=g7)/\¬(G=g6\/G=g7)/\¬(g1=g6\/g1=g7)):=ag (by
   have h1:=tw.lt;have h2:=tw.q.ol;have h3:=tw.gl;have h4:=zs.lt;have h5:=pb1.lt;exact ⟨by omega,by omega,by omega,by omega,by omega⟩)
  have Gm:Hd (w.heap.size<=g6/\w.heap.size<=g7):=ag (by have:=bw.size;exact ⟨by omega,by omega⟩)
  have aq:=ag (tw.below bb);have cK:=ag (zs.below bb);have bj:=ag (pb1.below bb);have an:=ag (qc bw bb);have de:Hd (∀a,a=g6\/a=g7->NL wc a):=ag (fun a e=>by
   rcases e with rfl|rfl
   ·exact o6.nl
   ·exact o7.nl)
  have ms:Hd (w.heap.size<=w2.heap.size):=ag bw.size;clear tw zs pb1 bw bb d6 d7;generalize w2.heap.size=b2 at *;generalize wc=w5 at *;go_wp2_with fail;go_loopw [32] (fun iv wr=>∃k:Nat,k<=N/\iv = .int .i64 k/\Ou wr b2 g6 N (fun a=>a<k) (bZ n)/\Ou wr b2 g7 N (fun a=>a<k) (cV n p.c)/\Kp (fun a=>a=g6\/a=g7) w5 wr) (fun iv _=>N-(intOf iv).toNat)
  case atStart=>exact ⟨0,by omega,rfl,o6,o7,Kp.refl _ _⟩
  case round=>
   clear o6 o7;obtain ⟨k,hk,rfl,o6,o7,kp⟩:=hrel;by_cases hlt:k<N
   ·--D{
    have m8:=ag o6;have nH:=ag o7;have aw:=ag kp;clear o6 o7 kp;go_wp2_with fail;refine (dO wr).mono ?_;rintro e w6 ⟨x1,rfl,e1,bb⟩;replace m8:=ag (m8.o.below bb);replace nH:=ag (nH.o.below bb);replace aw:=ag (aw.o.then bb)
    have gD:=ag e1;clear bb e1;go_wp2_with fail;refine (dO w6).mono ?_;rintro e w7 ⟨x2,rfl,e2,bb⟩;replace m8:=ag (m8.o.below bb);replace nH:=ag (nH.o.below bb);replace aw:=ag (aw.o.then bb)
    replace gD:=ag (gD.o.below bb);have gK:=ag e2;clear bb e2;obtain ⟨va,k0,k1,k2,ax,aF,aG⟩:=m8.o.slot hlt;obtain ⟨vb,m0,m1,m2,mf0,mf1,mf2⟩:=nH.o.slot hlt;go_upto_region 10 with fail;clear k0 k1 k2 ax aF aG m0 m1 m2 mf0 mf1 mf2 va vb;obtain ⟨p6,kk6⟩:=m8.o.put (i:=k) gD.o;have p7:=nH.o.kp kk6 (fun a e=>by rw [e];exact m8.o.nl) n76
    have e2:El _ x2 0:=⟨kk6.ok gK.o.ok (fun a e=>by rw [e];exact m8.o.nl),gK.o.rp⟩
    replace aw:=ag (aw.o.trans (kk6.mono (fun a e => .inl e)));clear m8 nH gD gK kk6;generalize (((w7.setCell ⟨g6,k*3,none⟩ (.bool x1.b)).setCell ⟨g6,k*3+1,none⟩ (.slice x1.A x1.xs.length x1.c)).setCell ⟨g6,k*3+2,none⟩ (.slice x1.D x1.ys.length x1.d))=w8 at *;obtain ⟨q7,kk7⟩:=p7.put (i:=k) e2;have q6:=p6.kp kk7 (fun a e=>by rw [e];exact p7.nl) n67
    have yE:=ag (aw.o.trans (kk7.mono (fun a e => .inr e)));clear p6 p7 e2 kk7 aw;generalize (((w8.setCell ⟨g7,k*3,none⟩ (.bool x2.b)).setCell ⟨g7,k*3+1,none⟩ (.slice x2.A x2.xs.length x2.c)).setCell ⟨g7,k*3+2,none⟩ (.slice x2.D x2.ys.length x2.d))=w9 at *;have m8:=ag q6;have nH:=ag q7;have Id:=ag (aq.o.kp yE.o de.o pa.o.1 pa.o.2.1 pa.o.2.2.1 (fun a ha e=>by have:=yq.o a ha;omega))
    clear q6 q7;have d2:w9.cell? ⟨L.G,2,none⟩=some (.int .i64 (n:Int)):=by rw [<-dB.o];exact Id.o.c2
    by_cases hkn:n<=k
    ·have mb:Hd (bZ n k=1):=ag (by rw [bZ,if_neg (by omega)])
     have gW:Hd (cV n p.c k=0):=ag (by rw [cV,if_neg (by omega)])
     go_wp2_with fail;refine (mi w9).mono ?_;rintro e w10 ⟨x3,rfl,e3,bb⟩;replace m8:=ag (m8.o.below bb);replace nH:=ag (nH.o.below bb);replace yE:=ag (yE.o.then bb)
     clear bb d2;obtain ⟨va,k0,k1,k2,ax,aF,aG⟩:=m8.o.slot hlt;go_wp2_with fail;obtain ⟨p6,kk6⟩:=m8.o.put (i:=k) e3;have p7:=nH.o.kp kk6 (fun a e=>by rw [e];exact m8.o.nl) n76
     have kp9:=yE.o.trans (kk6.mono (fun a e => .inl e));go_roundw
     case rel=>exact ⟨k+1,by omega,by go_num,p6.mono (fun a _ ha=>by omega) (fun a _ ha=>by by_cases e:a=k <;> simp [e,mb.o]),p7.mono (fun a _ ha=>by omega) (fun a _ ha=>by by_cases e:a=k <;> simp [e,gW.o]),kp9⟩
     case measure=>simp [intOf];omega
    ·have hkl:k<p.cost.vs.length:=by rw [HN.o];omega
     have mb:Hd (bZ n k=0):=ag (by rw [bZ,if_pos (by omega)])
     have hbr:Below w.heap.size w w9:=an.o.trans (yE.o.below (fun a e=>by have:=Gm.o;omega) an.o.size)
     obtain ⟨ad,hca,ef⟩:=(HO.o.cost.below hbr).rd.at k hkl;have hme:=List.getElem_mem hkl;have Gn:=ag ((HO.o.cost.below hbr).el _ hme);have fc:=ag (br.o.ec _ hme);have Ez:Hd (gz p.cost.vs[k]=okS p.cost.vs[k].q):=ag (gp (bK.o.vc _ hme));have gW:Hd (cV n p.c k=p.cost.vs[k].q):=ag (by rw [cV,if_pos (by omega),Pg.c,bC _ _ _ hkl])
     obtain ⟨x,hx⟩:∃x,p.cost.vs[k]=x:=⟨_,rfl⟩;have ef0:Ef w9 (ad.add (k*3)) p.cost.vs[k]:=ef;rw [hx] at ef0 Gn fc Ez gW;have c0:w9.cell? ⟨g1,0,none⟩=some (.slice (some ad) n p.cost.c):=by
      have:=(bj.o.kp yE.o pa.o.2.2.2.2).c0;rw [show p.cost.val = .slice p.cost.A p.cost.vs.length p.cost.c from rfl,hca,HN.o] at this;exact this
     have f0:=ef0.c0;have f1:=ef0.c1;have f2:=ef0.c2;have hkI:¬n<=k:=hkn;clear hx ef ef0 hca hme hbr;go_wp2_with fail;refine (dZ w9 x _ Gn.o fc.o.1 fc.o.2 Ez.o).mono ?_;rintro e w10 ⟨y,rfl,hs1,ok1,bb⟩;have RP:=ag (Rp.of hs1);replace m8:=ag (m8.o.below bb);replace nH:=ag (nH.o.below bb);replace yE:=ag (yE.o.then bb)
     clear bb d2 c0 f0 f1 f2 hs1;obtain ⟨va,k0,k1,k2,ax,aF,aG⟩:=nH.o.slot hlt;go_wp2_with fail;obtain ⟨p7,kk7⟩:=nH.o.put (i:=k) (⟨ok1,RP.o⟩:El w10 y _);have p6:=m8.o.kp kk7 (fun a e=>by rw [e];exact nH.o.nl) n67
     have kp9:=yE.o.trans (kk7.mono (fun a e => .inr e));go_roundw
     case rel=>exact ⟨k+1,by omega,by go_num,p6.mono (fun a _ ha=>by omega) (fun a _ ha=>by by_cases e:a=k <;> simp [e,mb.o]),p7.mono (fun a _ ha=>by omega) (fun a _ ha=>by by_cases e:a=k <;> simp [e,gW.o]),kp9⟩
     case measure=>simp [intOf];omega
--D}
   ·obtain rfl:N=k:=by omega
    obtain ⟨v6,hv6,cl6⟩:=o6.cl (fun k hk=>hk);obtain ⟨v7,hv7,cl7⟩:=o7.cl (fun k hk=>hk);have CL:=ag hv6;have CN:=ag hv7;replace aq:=ag (aq.o.kp kp de.o pa.o.1 pa.o.2.1 pa.o.2.2.1 (fun a ha e=>by have:=yq.o a ha;omega))
    replace cK:=ag (cK.o.kp kp pa.o.2.2.2.1);replace an:=ag (an.o.trans (kp.below (fun a e=>by have:=Gm.o;omega) an.o.size))
    have hJ:=ag cl6;have hZ:=ag cl7;have EJ:Hd (0<v6.length->∀ad:Addr,(some ⟨g6,0,none⟩:Option Addr)=some ad->¬L.S ad.block):=ag (fun _ ad e hs=>by injection e with e;subst e;exact (yq.o _ hs).1 rfl)
    have EK:Hd (0<v7.length->∀ad:Addr,(some ⟨g7,0,none⟩:Option Addr)=some ad->¬L.S ad.block):=ag (fun _ ad e hs=>by injection e with e;subst e;exact (yq.o _ hs).2 rfl)
    clear o6 o7 kp cl6 cl7 hv6 hv7 bj de;obtain ⟨x0,hx0⟩:∃x0,DM m n p.a p.b=x0:=⟨_,rfl⟩;have kq:Hd (Okx m n (dG m n p.a p.b) x0):=ag (by rw [<-hx0];exact DL)
    rw [hx0] at aq;clear hx0;obtain ⟨K,hK⟩:=tN (most:=n) (c:=bZ n) kq.o (Nat.le_refl n);have a7:=ky wr _ L x0 (some ⟨g6,0,none⟩) N v6 (bZ n) n K aq.o hJ.o EJ.o (by rw [CL.o,dB.o,fd.o];exact ft.o.symm) (by rw [dB.o];exact Nat.le_refl _) yD.o
     (by rw [dB.o,fd.o];exact fun t _ i hi=>(kq.o.it (Nat.le_refl n) t).tab.lt i hi) (by rw [dB.o,fd.o];exact fun t _=>DA (kq.o.it (Nat.le_refl n) t) HW.o) (by rw [dB.o,fd.o];exact hK)
    rw [dB.o,fd.o,CL.o] at a7;have bU:=ag a7;have d2:wr.cell? ⟨L.G,2,none⟩=some (.int .i64 (n:Int)):=by rw [<-dB.o];exact aq.o.c2
    clear a7 hK;go_wp2_with fail;refine bU.o.mono ?_;rintro e w6 ⟨t,_,rfl,hnx,tw6,kk⟩;clear d2 bU;have hnl:=aq.o.q.nl;replace hJ:=ag (hJ.o.kp kk hnl EJ.o);replace hZ:=ag (hZ.o.kp kk hnl EK.o);replace cK:=ag (cK.o.kp kk (fun hs=>(wC.o _ hs).2.1 rfl));replace an:=ag (an.o.trans (kk.below (fun a ha=>(wC.o a ha).1) an.o.size));clear hnl;replace aq:=ag tw6;clear tw6 kk;obtain ⟨y1,hy1⟩:∃y,itP m n n (bZ n) x0 t=y:=⟨_,rfl⟩;have o9:Hd (Okx m n (dG m n p.a p.b) y1):=ag (by rw [<-hy1];exact kq.o.it (Nat.le_refl n) t)
    rw [hy1] at aq hnx|-;have D8:=ag hnx;clear hy1 hnx;have EL:=ag (DA o9.o HW.o);have a7:=ju w6 _ L y1 (some ⟨g6,0,none⟩) N v6 (bZ n) N aq.o hJ.o (by rw [CL.o,dB.o,fd.o];exact ft.o.symm) (by rw [dB.o,fd.o];exact Nat.le_of_eq ft.o.symm) (by rw [dB.o,fd.o];exact fun i hi=>o9.o.tab.lt i hi) yD.o (by rw [dB.o,fd.o];exact EL.o)
    rw [fd.o,CL.o] at a7;have bU:=ag a7;clear a7;obtain ⟨q1,hq1⟩:∃q,bV m (bZ n) y1.T y1.B N=q:=⟨_,rfl⟩;rw [hq1] at bU;have D7:Hd (bV m (bZ n) y1.T y1.B (n+m)=q1):=ag (by rw [ft.o];exact hq1)
    have dK:Hd (Sz q1 128 128):=ag (by rw [<-hq1];exact (EL.o.dt N (Nat.le_of_eq ft.o.symm) m (Nat.le_refl _)).up)
    obtain ⟨z,hz⟩:∃z,bA q1 0=z:=⟨_,rfl⟩;have HZ:=ag hz;have h5:=du q1 0;rw [hz] at h5;have H5:=ag h5;clear hq1 hz h5;go_wp2_with fail;refine bU.o.mono ?_;rintro e w7 ⟨yd,rfl,ed,bb⟩;have Gp:=ag ed;replace aq:=ag (aq.o.below bb);replace hJ:=ag (hJ.o.below bb);replace hZ:=ag (hZ.o.below bb);replace cK:=ag (cK.o.below bb);replace an:=ag (qc an.o bb);clear bb;clear ed bU;go_wp2_with fail;refine (aU w7 yd q1 z Gp.o dK.o HZ.o).mono ?_;rintro e w8 ⟨rfl,bb⟩;replace aq:=ag (aq.o.below bb);replace hJ:=ag (hJ.o.below bb);replace hZ:=ag (hZ.o.below bb)
    replace cK:=ag (cK.o.below bb);replace an:=ag (qc an.o bb);clear bb;by_cases hpos:0<z
    ·have l8:Hd (0<bV m (bZ n) y1.T y1.B (n+m)):=ag (by
      rw [D7.o];rcases H5.o with ⟨k1,k2⟩|⟨k1,k2⟩|⟨k1,k2⟩
      ·omega
      ·omega
      ·exact k1)
     have a7:=mP w8 _ L y1 (some ⟨g6,0,none⟩) N v6 (bZ n) aq.o hJ.o (by rw [CL.o,dB.o,fd.o];exact ft.o.symm) (by rw [dB.o,fd.o];exact fun i hi=>o9.o.tab.lt i hi) yD.o (by rw [dB.o,fd.o];exact EL.o)
     rw [fd.o,dB.o,CL.o] at a7;have bU:=ag a7;clear a7;go_wp2_with fail;refine bU.o.mono ?_;rintro e w9 ⟨gY,rfl,oY,bb⟩;have u7:Hd (Ou w9 w8.heap.size gY m (fun _=>True) (kr m n p.b (bZ n) y1)):=ag (oY.mono (fun _ _ h=>h) (fun k hk _=>by rw [kr,nf,eA.o k hk]))
     have t8:Hd (¬gY=G):=ag (by have:=cK.o.lt;have:=oY.lt;omega)
     have yF:Hd (w.heap.size<=w8.heap.size):=ag an.o.size;clear oY bU;replace aq:=ag (aq.o.below bb);replace hJ:=ag (hJ.o.below bb);replace hZ:=ag (hZ.o.below bb);replace cK:=ag (cK.o.below bb);replace an:=ag (qc an.o bb);clear bb;go_wp2_with fail;refine (dO w9).mono ?_;rintro e w10 ⟨x9,rfl,e9,bb⟩;replace u7:=ag (u7.o.below bb);replace aq:=ag (aq.o.below bb);replace hJ:=ag (hJ.o.below bb);replace hZ:=ag (hZ.o.below bb);replace cK:=ag (cK.o.below bb);replace an:=ag (qc an.o bb);clear bb;obtain ⟨vY,hvY,os⟩:=u7.o.os;have SOL:Hd (SolS w10 w.heap.size m n p.a p.b p.c ⟨2,slN,⟨some ⟨gY,0,none⟩,m,vY⟩,slN,x9⟩):=ag (.inf y1 o9.o D8.o l8.o rfl rfl rfl (os.mono yF.o) e9)
     obtain ⟨z0,z1,z2,z3,z4,z5,z6,zf,zl,zn⟩:=cK.o;have f0:=zf 0;have f1:=zf 1;have f2:=zf 2;have f3:=zf 3;have f4:=zf 4;have f5:=zf 5;have f6:=zf 6;have ZN:=ag zn;clear os e9 zn zl;go_wp2_with fail;refine bodyPost_ret (v := .tuple #[(⟨2,slN,⟨some ⟨gY,0,none⟩,m,vY⟩,slN,x9⟩:Sn).val, .int .i64 0]) (by simp [results,Tryz.results19,go_sem,z0,z1,z2,z3,z4,z5,z6,hvY]) rfl ?_
     have k7:=Kp.set7 (S:=fun a=>a=G) (Kp.refl _ w10) rfl (.int .i64 2) (.slice none 0 0) (.slice (some ⟨gY,0,none⟩) m m) (.slice none 0 0) (.bool x9.b) (.slice x9.A x9.xs.length x9.c) (.slice x9.D x9.ys.length x9.d);clear z0 z1 z2 z3 z4 z5 z6 f0 f1 f2 f3 f4 f5 f6 zf;generalize (((((((w10.setCell ⟨G,0,none⟩ (.int .i64 2)).setCell ⟨G,1,none⟩ (.slice none 0 0)).setCell ⟨G,2,none⟩ (.slice (some ⟨gY,0,none⟩) m m)).setCell ⟨G,3,none⟩ (.slice none 0 0)).setCell ⟨G,4,none⟩ (.bool x9.b)).setCell ⟨G,5,none⟩ (.slice x9.A x9.xs.length x9.c)).setCell ⟨G,6,none⟩ (.slice x9.D x9.ys.length x9.d))=wf at k7|-;exact ⟨_,rfl,SOL.o.kp k7 (fun a e=>by rw [e];exact ZN.o) (fun ad e=>by cases e) (fun ad e=>by injection e with e;subst e;exact t8.o) (fun ad e=>by cases e),an.o.trans (k7.below (fun a e=>by rw [e];exact lT.o) an.o.size)⟩
    ·have D9:Hd (¬ 0<bV m (bZ n) y1.T y1.B (n+m)):=by
      intro hh;rw [D7.o] at hh;rcases H5.o with ⟨k1,k2⟩|⟨k1,k2⟩|⟨k1,k2⟩
      ·exact absurd hh (Rat.not_lt.2 (Rat.le_of_lt k1))
      ·rw [k1] at hh;exact absurd hh (Rat.not_lt.2 (Rat.le_refl))
      ·omega
     have hz1:=zw o9.o D9.o;have hall:=Cv o9.o hz1;have ii:Hd (Okx m n (dG m n p.a p.b) (j5 n y1 m)/\Art m n m (j5 n y1 m)):=ag (hall m (Nat.le_refl _));have a7:=uI w8 _ L y1 aq.o yD.o (by rw [dB.o,fd.o];exact fun t ht i hi=>by have:=(hall t ht).1.tab.lt i hi;omega) (by rw [dB.o,fd.o];exact fun t ht=>(DA (hall t ht).1 HW.o).el)
     rw [dB.o,fd.o] at a7;have bU:=ag a7;clear a7 hz1 hall EL D8 D7 dK HZ Gp;go_wp2_with fail;refine bU.o.mono ?_;rintro e w9 ⟨rfl,tw9,kk⟩;clear bU;have hnl:=aq.o.q.nl;replace hJ:=ag (hJ.o.kp kk hnl EJ.o);replace hZ:=ag (hZ.o.kp kk hnl EK.o);replace cK:=ag (cK.o.kp kk (fun hs=>(wC.o _ hs).2.1 rfl));replace an:=ag (an.o.trans (kk.below (fun a ha=>(wC.o a ha).1) an.o.size));clear hnl;replace aq:=ag tw9;clear tw9 kk;obtain ⟨y2,hy2⟩:∃y,j5 n y1 m=y:=⟨_,rfl⟩;rw [hy2] at aq ii;clear hy2 D9 o9;obtain ⟨K2,hK⟩:=tN (most:=n) (c:=cV n p.c) ii.o.1 (Nat.le_refl n)
     have a7:=ky w9 _ L y2 (some ⟨g7,0,none⟩) N v7 (cV n p.c) n K2 aq.o hZ.o EK.o (by rw [CN.o,dB.o,fd.o];exact ft.o.symm) (by rw [dB.o];exact Nat.le_refl _) yD.o
      (by rw [dB.o,fd.o];exact fun t _ i hi=>(ii.o.1.it (Nat.le_refl n) t).tab.lt i hi) (by rw [dB.o,fd.o];exact fun t _=>fit2 (ii.o.1.it (Nat.le_refl n) t) HW.o) (by rw [dB.o,fd.o];exact hK)
     rw [dB.o,fd.o,CN.o] at a7;have bU:=ag a7;have d2:w9.cell? ⟨L.G,2,none⟩=some (.int .i64 (n:Int)):=by rw [<-dB.o];exact aq.o.c2
     clear a7 hK;go_wp2_with fail;refine bU.o.mono ?_;rintro e w10 ⟨t2,_,rfl,hnx,tw10,kk⟩;clear d2 bU;have hnl:=aq.o.q.nl;replace hJ:=ag (hJ.o.kp kk hnl EJ.o);replace hZ:=ag (hZ.o.kp kk hnl EK.o);replace cK:=ag (cK.o.kp kk (fun hs=>(wC.o _ hs).2.1 rfl));replace an:=ag (an.o.trans (kk.below (fun a ha=>(wC.o a ha).1) an.o.size));clear hnl;replace aq:=ag tw10;clear tw10 kk;obtain ⟨y3,hy3⟩:∃y,itP m n n (cV n p.c) y2 t2=y:=⟨_,rfl⟩;have vp:Hd (Okx m n (dG m n p.a p.b) y3):=ag (by rw [<-hy3];exact ii.o.1.it (Nat.le_refl n) t2)
     have Dn:Hd (Art m n m y3):=ag (by rw [<-hy3];exact DO ii.o.2 t2)
     rw [hy3] at aq hnx|-;have Fi:=ag hnx;clear hy3 hnx ii;have Fj:=ag (fit2 vp.o HW.o);have hpt:=uz w10 _ L y3 aq.o (by rw [dB.o,fd.o];exact fun i hi=>vp.o.tab.lt i hi) yD.o (by rw [fd.o];exact fun i hi r hr e=>i9 vp.o.tab hi hr e)
     rw [fd.o,dB.o] at hpt;have y7:=ag hpt;clear hpt
     cases hen:fG m (cV n p.c) y3.T y3.B n 0 with
     | some s0=>
       obtain ⟨_,s1,s2,_⟩:=iH _ _ _ hen;have ja:=ag (BJ hen Fi.o);have A7:=ag hen;have Ac:Hd (s0<n):=ag (by omega)
       have bX:Hd (∀i,i<m->y3.B i≠s0):=ag (fun i hi e=>by
        have:=jQ (c:=cV n p.c) vp.o.tab hi;rw [e] at this;rw [this] at s2;exact absurd s2 (Rat.not_lt.2 (Rat.le_refl)))
       rw [show rK (some s0)=(s0:Int) from rfl];have hs0:(0:Int)<=(s0:Int):=by omega
       clear hen s1 s2;go_wp2_with fail;refine y7.o.mono ?_;rintro e w11 ⟨gX,rfl,oX,bb⟩;have pA:=ag oX;have Fk:Hd (¬gX=G):=ag (by have:=cK.o.lt;have:=oX.lt;omega)
       have Fl:Hd (w.heap.size<=w10.heap.size):=ag an.o.size;clear oX y7;replace aq:=ag (aq.o.below bb);replace hJ:=ag (hJ.o.below bb);replace hZ:=ag (hZ.o.below bb);replace cK:=ag (cK.o.below bb);replace an:=ag (qc an.o bb);clear bb;have a7:=yG w11 _ L y3 s0 aq.o (by rw [dB.o];exact Ac.o) (by rw [dB.o,fd.o];exact fun i hi=>vp.o.tab.lt i hi) yD.o (by rw [fd.o];exact fun i hi r hr e=>i9 vp.o.tab hi hr e) (by rw [fd.o];exact bX.o) (by rw [dB.o,fd.o];exact Fj.o.el)
       rw [fd.o,dB.o] at a7;have bU:=ag a7;clear a7;go_wp2_with fail;refine bU.o.mono ?_;rintro e w12 ⟨gR,rfl,oR,bb⟩;have Fm:=ag oR;have Ie:Hd (¬gR=G):=ag (by have:=cK.o.lt;have:=oR.lt;omega)
       have Fn:Hd (w.heap.size<=w11.heap.size):=ag an.o.size;replace pA:=ag (pA.o.below bb);clear oR bU;replace aq:=ag (aq.o.below bb);replace hJ:=ag (hJ.o.below bb);replace hZ:=ag (hZ.o.below bb);replace cK:=ag (cK.o.below bb);replace an:=ag (qc an.o bb);clear bb;go_wp2_with fail;refine (dO w12).mono ?_;rintro e w13 ⟨x9,rfl,e9,bb⟩;replace pA:=ag (pA.o.below bb);replace Fm:=ag (Fm.o.below bb);replace aq:=ag (aq.o.below bb);replace hJ:=ag (hJ.o.below bb);replace hZ:=ag (hZ.o.below bb);replace cK:=ag (cK.o.below bb);replace an:=ag (qc an.o bb)
       clear bb;obtain ⟨vX,hvX,os⟩:=pA.o.os;obtain ⟨vR,hvR,os2⟩:=Fm.o.os;have SOL:Hd (SolS w13 w.heap.size m n p.a p.b p.c ⟨3,⟨some ⟨gX,0,none⟩,n,vX⟩,slN,⟨some ⟨gR,0,none⟩,n,vR⟩,x9⟩):=ag (.unb y3 vp.o Dn.o s0 A7.o ja.o rfl rfl (os.mono Fl.o) (os2.mono Fn.o) e9);obtain ⟨z0,z1,z2,z3,z4,z5,z6,zf,zl,zn⟩:=cK.o;have f0:=zf 0;have f1:=zf 1;have f2:=zf 2;have f3:=zf 3;have f4:=zf 4;have f5:=zf 5;have f6:=zf 6;have ZN:=ag zn;clear os os2 e9 zn zl;go_wp2_with fail;refine bodyPost_ret (v := .tuple #[(⟨3,⟨some ⟨gX,0,none⟩,n,vX⟩,slN,⟨some ⟨gR,0,none⟩,n,vR⟩,x9⟩:Sn).val, .int .i64 0]) (by simp [results,Tryz.results19,go_sem,z0,z1,z2,z3,z4,z5,z6,hvX,hvR]) rfl ?_
       have k7:=Kp.set7 (S:=fun a=>a=G) (Kp.refl _ w13) rfl (.int .i64 3) (.slice (some ⟨gX,0,none⟩) n n) (.slice none 0 0) (.slice (some ⟨gR,0,none⟩) n n) (.bool x9.b) (.slice x9.A x9.xs.length x9.c) (.slice x9.D x9.ys.length x9.d);clear z0 z1 z2 z3 z4 z5 z6 f0 f1 f2 f3 f4 f5 f6 zf;generalize (((((((w13.setCell ⟨G,0,none⟩ (.int .i64 3)).setCell ⟨G,1,none⟩ (.slice (some ⟨gX,0,none⟩) n n)).setCell ⟨G,2,none⟩ (.slice none 0 0)).setCell ⟨G,3,none⟩ (.slice (some ⟨gR,0,none⟩) n n)).setCell ⟨G,4,none⟩ (.bool x9.b)).setCell ⟨G,5,none⟩ (.slice x9.A x9.xs.length x9.c)).setCell ⟨G,6,none⟩ (.slice x9.D x9.ys.length x9.d))=wf at k7|-
       exact ⟨_,rfl,SOL.o.kp k7 (fun a e=>by rw [e];exact ZN.o) (fun ad e=>by injection e with e;subst e;exact Fk.o) (fun ad e=>by cases e) (fun ad e=>by injection e with e;subst e;exact Ie.o),an.o.trans (k7.below (fun a e=>by rw [e];exact lT.o) an.o.size)⟩
     | none=>
       have A7:=ag hen;rw [show rK none = -1 from rfl];clear hen;go_wp2_with fail;refine y7.o.mono ?_;rintro e w11 ⟨gX,rfl,oX,bb⟩;have pA:=ag oX;have Fk:Hd (¬gX=G):=ag (by have:=cK.o.lt;have:=oX.lt;omega)
       have Fl:Hd (w.heap.size<=w10.heap.size):=ag an.o.size;clear oX y7;replace aq:=ag (aq.o.below bb);replace hJ:=ag (hJ.o.below bb);replace hZ:=ag (hZ.o.below bb);replace cK:=ag (cK.o.below bb);replace an:=ag (qc an.o bb);clear bb;have a7:=mP w11 _ L y3 (some ⟨g7,0,none⟩) N v7 (cV n p.c) aq.o hZ.o (by rw [CN.o,dB.o,fd.o];exact ft.o.symm) (by rw [dB.o,fd.o];exact fun i hi=>vp.o.tab.lt i hi) yD.o (by rw [dB.o,fd.o];exact Fj.o)
       rw [fd.o,dB.o,CN.o] at a7;have bU:=ag a7;clear a7;go_wp2_with fail;refine bU.o.mono ?_;rintro e w12 ⟨gY,rfl,oY,bb⟩;have u7:Hd (Ou w12 w11.heap.size gY m (fun _=>True) (kr m n p.b (cV n p.c) y3)):=ag (oY.mono (fun _ _ h=>h) (fun k hk _=>by rw [kr,nf,eA.o k hk]))
       have t8:Hd (¬gY=G):=ag (by have:=cK.o.lt;have:=oY.lt;omega)
       have Fn:Hd (w.heap.size<=w11.heap.size):=ag an.o.size;replace pA:=ag (pA.o.below bb);clear oY bU;replace aq:=ag (aq.o.below bb);replace hJ:=ag (hJ.o.below bb);replace hZ:=ag (hZ.o.below bb);replace cK:=ag (cK.o.below bb);replace an:=ag (qc an.o bb);clear bb;have a7:=ju w12 _ L y3 (some ⟨g7,0,none⟩) N v7 (cV n p.c) N aq.o hZ.o (by rw [CN.o,dB.o,fd.o];exact ft.o.symm) (by rw [dB.o,fd.o];exact Nat.le_of_eq ft.o.symm) (by rw [dB.o,fd.o];exact fun i hi=>vp.o.tab.lt i hi) yD.o (by rw [dB.o,fd.o];exact Fj.o)
       rw [fd.o,CN.o] at a7;have bU:=ag a7;clear a7;go_wp2_with fail;refine bU.o.mono ?_;rintro e w13 ⟨x9,rfl,e9,bb⟩;rw [<-ft.o] at e9;replace pA:=ag (pA.o.below bb);replace u7:=ag (u7.o.below bb);replace aq:=ag (aq.o.below bb);replace hJ:=ag (hJ.o.below bb);replace hZ:=ag (hZ.o.below bb);replace cK:=ag (cK.o.below bb);replace an:=ag (qc an.o bb);clear bb;obtain ⟨vX,hvX,os⟩:=pA.o.os;obtain ⟨vY,hvY,os2⟩:=u7.o.os;have SOL:Hd (SolS w13 w.heap.size m n p.a p.b p.c ⟨1,⟨some ⟨gX,0,none⟩,n,vX⟩,⟨some ⟨gY,0,none⟩,m,vY⟩,slN,x9⟩):=ag (.opt y3 vp.o Dn.o A7.o rfl rfl (os.mono Fl.o) (os2.mono Fn.o) e9)
       obtain ⟨z0,z1,z2,z3,z4,z5,z6,zf,zl,zn⟩:=cK.o;have f0:=zf 0;have f1:=zf 1;have f2:=zf 2;have f3:=zf 3;have f4:=zf 4;have f5:=zf 5;have f6:=zf 6;have ZN:=ag zn;clear os os2 e9 zn zl;go_wp2_with fail;refine bodyPost_ret (v := .tuple #[(⟨1,⟨some ⟨gX,0,none⟩,n,vX⟩,⟨some ⟨gY,0,none⟩,m,vY⟩,slN,x9⟩:Sn).val, .int .i64 0]) (by simp [results,Tryz.results19,go_sem,z0,z1,z2,z3,z4,z5,z6,hvX,hvY]) rfl ?_
       have k7:=Kp.set7 (S:=fun a=>a=G) (Kp.refl _ w13) rfl (.int .i64 1) (.slice (some ⟨gX,0,none⟩) n n) (.slice (some ⟨gY,0,none⟩) m m) (.slice none 0 0) (.bool x9.b) (.slice x9.A x9.xs.length x9.c) (.slice x9.D x9.ys.length x9.d);clear z0 z1 z2 z3 z4 z5 z6 f0 f1 f2 f3 f4 f5 f6 zf;generalize (((((((w13.setCell ⟨G,0,none⟩ (.int .i64 1)).setCell ⟨G,1,none⟩ (.slice (some ⟨gX,0,none⟩) n n)).setCell ⟨G,2,none⟩ (.slice (some ⟨gY,0,none⟩) m m)).setCell ⟨G,3,none⟩ (.slice none 0 0)).setCell ⟨G,4,none⟩ (.bool x9.b)).setCell ⟨G,5,none⟩ (.slice x9.A x9.xs.length x9.c)).setCell ⟨G,6,none⟩ (.slice x9.D x9.ys.length x9.d))=wf at k7|-
       exact ⟨_,rfl,SOL.o.kp k7 (fun a e=>by rw [e];exact ZN.o) (fun ad e=>by injection e with e;subst e;exact Fk.o) (fun ad e=>by injection e with e;subst e;exact t8.o) (fun ad e=>by cases e),an.o.trans (k7.below (fun a e=>by rw [e];exact lT.o) an.o.size)⟩
end Go.Proofs.YtkpfbekmaafehaaGreat
