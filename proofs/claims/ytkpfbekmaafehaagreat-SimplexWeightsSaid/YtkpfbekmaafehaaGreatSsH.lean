/- The walks of simplex.lowest, zeros and of a checker's column -/
import Derived.Test.YtkpfbekmaafehaaGreatSsE
import Derived.Test.YtkpfbekmaafehaaGreatSpB
namespace Go.Proofs.YtkpfbekmaafehaaGreat
open _root_.Go.Proofs.Tryz
set_option maxHeartbeats 8000000
set_option maxRecDepth 100000
open Go.RowKit
theorem oH (w:World) (N:Nat) (hN:N<=1000) :
 Calls prog 42 #[.int .i64 (N:Int)] w fun e w'=>∃(g:Nat) (vs:List Fx),vs.length=N/\e = .returned (.slice (some ⟨g,0,none⟩) N N)/\Os w' w.heap.size ⟨some ⟨g,0,none⟩,N,vs⟩ N (fun _=>0)/\Below w.heap.size w w':=by
 have r9:Hd (∀w2,Below w.heap.size w w2->True):=ag (fun _ _=>trivial);obtain ⟨i1,hi,hi0,hi1,hi2⟩:=info_parts dr;go_enter func42,ntmps42;go_upto_region 2 with (refine wpList_make_full w rfl _ _ 22 rfl w.heap.size 29 i1 Fx.nil.val 3 underlying22 hi hi0 hi1 .i64 .i64 _ _ N rfl rfl (by omega) (by omega) (by rw [hi2];omega) (by simp only [maxLen];omega) (Nat.le_refl _) ?_;intro w2 hg2 hb2)
 have b12:Below w.heap.size w w2:=(ah _ _).grown hb2 (Nat.le_refl _) (by intro k hk;cases hk)
 have ou:Ou w2 w.heap.size w.heap.size N (fun a=>a<0) (fun _=>0):=by
  refine ⟨List.replicate N Fx.nil,⟨?_,fun v hv=>by rw [List.eq_of_mem_replicate hv];exact Fx.nil_ok _⟩,by simp,fun _ _ h=>absurd h (Nat.not_lt_zero _)⟩
  unfold Fr;rw [List.length_replicate,<-dm];exact hg2
 have eP:Hd (w.heap.size<=w2.heap.size):=ag b12.size;have rE:=ag (r9.o w2 b12);have kh:Hd (NL w2 w.heap.size):=ag ou.nl;have ko:=ag b12;clear hg2 hb2 b12 hi hi0 hi1 hi2;generalize hg:w.heap.size=g at *;have dn:Hd (w.heap.size<=g):=ag (Nat.le_of_eq hg);have f9:=ag hg;clear hg;go_wp2_with fail;go_loopw [9] (fun iv wr=>∃k:Nat,k<=N/\iv = .int .i64 k/\Ou wr g g N (fun a=>a<k) (fun _=>0)/\Kp (fun a=>a=g) w2 wr) (fun iv _=>N-(intOf iv).toNat)
 case atStart=>exact ⟨0,by omega,rfl,ou,Kp.refl _ _⟩
 case round=>
  clear ou;obtain ⟨k,hk,rfl,ou,kp⟩:=hrel;by_cases hlt:k<N
  ·have bj:=ag ou;have ax:=ag kp;clear ou kp;go_wp2_with fail;refine (dO wr).mono ?_;rintro e w5 ⟨y,rfl,el,bb⟩;obtain ⟨v,k0,k1,k2,aF,aG,aH⟩:=(bj.o.below bb).slot hlt;go_wp2_with fail;have t6:=(bj.o.below bb).put (i:=k) el;go_roundw
   case rel=>exact ⟨k+1,by omega,by go_num,t6.1.mono (fun a _ ha=>by omega) (fun a _ _=>by by_cases hak:a=k <;> simp [hak]),(ax.o.then bb).trans t6.2⟩
   case measure=>simp [intOf];omega
  ·obtain rfl:N=k:=by omega
   obtain ⟨vs,hvl,os⟩:=(ou.mono (D':=fun _=>True) (fun a ha _=>ha) (fun _ _ _=>rfl)).os;go_wp2_with fail;go_ret;exact ⟨g,vs,hvl,rfl,by rw [f9.o];exact os,by rw [f9.o];exact kp.up' ko.o (Nat.le_refl _) eP.o⟩
theorem dD (w:World) (s:Sl) (N:Nat) (h:s.ok w) (hN:s.vs.length=N) (hl:N<=1000) (hs:∀v∈s.vs,v.xs.length<=10000/\v.ys.length<=10000) (hv:∀v∈s.vs,v.v) :
 Calls prog 38 #[.slice s.A N s.c] w fun e w'=>∃(g:Nat) (vs:List Fx),vs.length=N/\e = .returned (.slice (some ⟨g,0,none⟩) N N)/\Os w' w.heap.size ⟨some ⟨g,0,none⟩,N,vs⟩ N (fxV s.vs)/\Below w.heap.size w w':=by
 have HS:=ag h;have bt:=ag hs;have CK:=ag hv;obtain ⟨A,c,us⟩:=s;have HN:Hd (us.length=N):=ag hN;clear h hs hv hN
 show Calls prog 38 #[.slice A N c] w _
 have r9:Hd (∀w2,Below w.heap.size w w2->RdF w2 A us/\∀v∈us,v.ok w2):=ag (fun w2 b=>⟨HS.o.rd.below b,fun v hv=>(HS.o.el v hv).below b⟩);obtain ⟨i1,hi,hi0,hi1,hi2⟩:=info_parts dr;go_enter func38,ntmps38;go_upto_region 2 with (refine wpList_make_full w rfl _ _ 22 rfl w.heap.size 29 i1 Fx.nil.val 3 underlying22 hi hi0 hi1 .i64 .i64 _ _ N rfl rfl (by omega) (by omega) (by rw [hi2];omega) (by simp only [maxLen];omega) (Nat.le_refl _) ?_;intro w2 hg2 hb2)
 have b12:Below w.heap.size w w2:=(ah _ _).grown hb2 (Nat.le_refl _) (by intro k hk;cases hk)
 have ou:Ou w2 w.heap.size w.heap.size N (fun a=>a<0) (fxV us):=by
  refine ⟨List.replicate N Fx.nil,⟨?_,fun v hv=>by rw [List.eq_of_mem_replicate hv];exact Fx.nil_ok _⟩,by simp,fun _ _ h=>absurd h (Nat.not_lt_zero _)⟩
  unfold Fr;rw [List.length_replicate,<-dm];exact hg2
 have eP:Hd (w.heap.size<=w2.heap.size):=ag b12.size;have rE:=ag (r9.o w2 b12);have kh:Hd (NL w2 w.heap.size):=ag ou.nl;have ko:=ag b12;clear hg2 hb2 b12 hi hi0 hi1 hi2;generalize hg:w.heap.size=g at *;have dn:Hd (w.heap.size<=g):=ag (Nat.le_of_eq hg);have f9:=ag hg;clear hg;have HA:Hd (0<us.length->∀ad,A=some ad->¬ad.block=g):=ag (fun hn ad e=>by
  obtain ⟨ad',e',hl,_⟩:=HS.o.rd hn;rw [show (Sl.mk A c us).A=A from rfl,e] at e';injection e' with e';subst e';have:=dn.o;omega)
 go_wp2_with fail;go_loopw [11] (fun iv wr=>∃k:Nat,k<=N/\iv = .int .i64 k/\Ou wr g g N (fun a=>a<k) (fxV us)/\Kp (fun a=>a=g) w2 wr) (fun iv _=>N-(intOf iv).toNat)
 case atStart=>exact ⟨0,by omega,rfl,ou,Kp.refl _ _⟩
 case round=>
  clear ou;obtain ⟨k,hk,rfl,ou,kp⟩:=hrel;by_cases hlt:k<N
  ·have hkl:k<us.length:=by rw [HN.o];exact hlt
   have hnl:∀a,a=g->NL w2 a:=fun a e=>by rw [e];exact kh.o
   obtain ⟨ad,rfl,ef⟩:=(kp.rdf rE.o.1 HA.o).at k hkl;have hme:=List.getElem_mem hkl;have ok:=kp.ok (rE.o.2 _ hme) hnl;have HL:=ag (bt.o _ hme);have kf:Hd (gz us[k]=okS us[k].q):=ag (gp (CK.o _ hme));have u7:Hd (fxV us k=us[k].q):=ag (ku hkl);obtain ⟨x,hx⟩:∃x,us[k]=x:=⟨_,rfl⟩;have ef0:Ef wr (ad.add (k*3)) us[k]:=ef;rw [hx] at ef0 ok HL kf u7;have d0:=ef0.c0;have d1:=ef0.c1;have d2:=ef0.c2;have bj:=ag ou;have ax:=ag kp;clear hx ef ef0 ou kp hme hnl;go_upto_region 5 with fail;have a1:=(au ok).1;have bb:=(au ok).2;replace bj:=ag (bj.o.below bb);replace ax:=ag (ax.o.then bb)
   clear d0 d1 d2 ok bb;generalize (wr.alloc (.cells #[.bool x.b, .slice x.A x.xs.length x.c, .slice x.D x.ys.length x.d] 29))=wm at a1 bj ax|-;generalize wr.heap.size=g5 at a1|-;have d0:=a1.c0;have d1:=a1.c1;have d2:=a1.c2;have OK:=ag a1.ok;clear a1;go_wp2_with fail;refine (dZ wm x _ OK.o HL.o.1 HL.o.2 kf.o).mono ?_;rintro e wn ⟨y,rfl,hs1,ok1,bb⟩;replace bj:=ag (bj.o.below bb);replace ax:=ag (ax.o.then bb)
   have pv:Hd (El wn y (fxV us k)):=ag ⟨ok1,by rw [u7.o];exact Rp.of hs1⟩
   obtain ⟨v,k0,k1,k2,aF,aG,aH⟩:=bj.o.slot hlt;clear d0 d1 d2 bb hs1 ok1;go_wp2_with fail;have t6:=bj.o.put (i:=k) pv.o;go_roundw
   case rel=>exact ⟨k+1,by omega,by go_num,t6.1.mono (fun a _ ha=>by omega) (fun a _ _=>by by_cases hak:a=k <;> simp [hak]),ax.o.trans t6.2⟩
   case measure=>simp [intOf];omega
  ·obtain rfl:N=k:=by omega
   obtain ⟨vs,hvl,os⟩:=(ou.mono (D':=fun _=>True) (fun a ha _=>ha) (fun _ _ _=>rfl)).os;go_wp2_with fail;go_ret;exact ⟨g,vs,hvl,rfl,by rw [f9.o];exact os,by rw [f9.o];exact kp.up' ko.o (Nat.le_refl _) eP.o⟩
structure Ck (w:World) (G n m:Nat) (a:Nat->Nat->Rat) (b c:Nat->Rat) (cs rs:Sl) (A:Option Addr) (ca:Nat) (rows:List Sl):Prop where
 c0:w.cell? ⟨G,0,none⟩=some (.slice cs.A n cs.c)
 c1:w.cell? ⟨G,1,none⟩=some (.slice rs.A m rs.c)
 c2:w.cell? ⟨G,2,none⟩=some (.slice A m ca)
 lt:G<w.heap.size
 cc:Cl w cs.A cs.vs c
 cb:Cl w rs.A rs.vs b
 lc:cs.vs.length=n
 lb:rs.vs.length=m
 rd:Rd Sl.val w A rows
 lr:rows.length=m
 row:∀i (h:i<rows.length),Cl w rows[i].A rows[i].vs (a i)/\rows[i].vs.length=n
theorem Ck.below {w w':World} {G n m:Nat} {a:Nat->Nat->Rat} {b c:Nat->Rat} {cs rs:Sl} {A:Option Addr} {ca:Nat} {rows:List Sl} (h:Ck w G n m a b c cs rs A ca rows) (hb:Below w.heap.size w w'):Ck w' G n m a b c cs rs A ca rows:=
 ⟨(hb.cell (p:=⟨G,0,none⟩) h.lt).trans h.c0,(hb.cell (p:=⟨G,1,none⟩) h.lt).trans h.c1,(hb.cell (p:=⟨G,2,none⟩) h.lt).trans h.c2,Nat.lt_of_lt_of_le h.lt hb.size,h.cc.below hb,h.cb.below hb,h.lc,h.lb,h.rd.below hb rfl,h.lr,fun i hi=>⟨(h.row i hi).1.below hb,(h.row i hi).2⟩⟩
theorem sT (w:World) (G n m j:Nat) (a:Nat->Nat->Rat) (b c:Nat->Rat) (cs rs:Sl) (A:Option Addr) (ca:Nat) (rows:List Sl) (h:Ck w G n m a b c cs rs A ca rows) (hj:j<n) (_:n<=1000) (hm:m<=1000) :
 Calls prog 80 #[.pointer (some ⟨G,0,none⟩), .int .i64 (j:Int)] w fun e w'=>∃(g:Nat) (vs:List Fx),vs.length=m/\e = .returned (.slice (some ⟨g,0,none⟩) m m)/\Os w' w.heap.size ⟨some ⟨g,0,none⟩,m,vs⟩ m (fun i=>a i j)/\Below w.heap.size w w':=by
 have HK:=ag h;have c2:=h.c2;have uB:=ag h.lr;have fy:=ag h.lt;clear h;have r9:Hd (∀w2,Below w.heap.size w w2->Ck w2 G n m a b c cs rs A ca rows):=ag (fun w2 b=>HK.o.below b);obtain ⟨i1,hi,hi0,hi1,hi2⟩:=info_parts dr;go_enter func80,ntmps80;go_upto_region 2 with (refine wpList_make_full w rfl _ _ 22 rfl w.heap.size 29 i1 Fx.nil.val 3 underlying22 hi hi0 hi1 .i64 .i64 _ _ m rfl rfl (by omega) (by omega) (by rw [hi2];omega) (by simp only [maxLen];omega) (Nat.le_refl _) ?_;intro w2 hg2 hb2)
 have b12:Below w.heap.size w w2:=(ah _ _).grown hb2 (Nat.le_refl _) (by intro k hk;cases hk)
 have ou:Ou w2 w.heap.size w.heap.size m (fun a=>a<0) (fun i=>a i j):=by
  refine ⟨List.replicate m Fx.nil,⟨?_,fun v hv=>by rw [List.eq_of_mem_replicate hv];exact Fx.nil_ok _⟩,by simp,fun _ _ h=>absurd h (Nat.not_lt_zero _)⟩
  unfold Fr;rw [List.length_replicate,<-dm];exact hg2
 have eP:Hd (w.heap.size<=w2.heap.size):=ag b12.size;have rE:=ag (r9.o w2 b12);have kh:Hd (NL w2 w.heap.size):=ag ou.nl;have ko:=ag b12;clear hg2 hb2 b12 hi hi0 hi1 hi2;generalize hg:w.heap.size=g at *;have dn:Hd (w.heap.size<=g):=ag (Nat.le_of_eq hg);have f9:=ag hg;clear hg;clear c2;have c2:=rE.o.c2;have gu:Hd (0<rows.length->∀ad,A=some ad->¬ad.block=g):=ag (fun hn ad e=>by
  obtain ⟨ad',e',hl,_⟩:=HK.o.rd hn;rw [e] at e';injection e' with e';subst e';have:=dn.o;omega)
 have FF:Hd (∀i (h:i<rows.length),0<rows[i].vs.length->∀ad,rows[i].A=some ad->¬ad.block=g):=ag (fun i hi hn ad e=>by
  obtain ⟨ad',e',hl,_⟩:=(HK.o.row i hi).1.rd hn;rw [e] at e';injection e' with e';subst e';have:=dn.o;omega)
 go_wp2_with fail;clear c2;go_loopw [19] (fun iv wr=>∃k:Nat,k<=m/\iv = .int .i64 k/\Ou wr g g m (fun a=>a<k) (fun i=>a i j)/\Kp (fun a=>a=g) w2 wr) (fun iv _=>m-(intOf iv).toNat)
 case atStart=>exact ⟨0,by omega,rfl,ou,Kp.refl _ _⟩
 case round=>
  clear ou;obtain ⟨k,hk,rfl,ou,kp⟩:=hrel;by_cases hlt:k<m
  ·have hkl:k<rows.length:=by rw [uB.o];exact hlt
   have hnl:∀a,a=g->NL w2 a:=fun a e=>by rw [e];exact kh.o
   obtain ⟨ad0,rfl,_,hc⟩:=(kp.rd rE.o.rd gu.o) (by omega)
   have hcj:=hc k hkl;have hrow:=rE.o.row k hkl;have hcl:=hrow.1.kp kp hnl (FF.o k hkl);have hlen:=hrow.2;obtain ⟨s,hs⟩:∃s,rows[k]=s:=⟨_,rfl⟩;rw [hs] at hcj hcl hlen;have hcs:wr.cell? (ad0.add k)=some (.slice s.A n s.c):=by rw [<-hlen];exact hcj
   obtain ⟨ad,hsa,x,ef,el⟩:=hcl.at (k:=j) (by rw [hlen];exact hj)
   rw [hsa] at hcs;have d0:=ef.c0;have d1:=ef.c1;have d2:=ef.c2;have pv:=ag el;have bj:=ag ou;have ax:=ag kp;obtain ⟨v,k0,k1,k2,aF,aG,aH⟩:=ou.slot hlt;clear hc hcj hrow hcl hlen hs hsa ef el ou kp hnl;go_wp2_with fail;have t6:=bj.o.put (i:=k) pv.o;go_roundw
   case rel=>exact ⟨k+1,by omega,by go_num,t6.1.mono (fun a _ ha=>by omega) (fun a _ _=>by by_cases hak:a=k <;> simp [hak]),ax.o.trans t6.2⟩
   case measure=>simp [intOf];omega
  ·obtain rfl:m=k:=by omega
   obtain ⟨vs,hvl,os⟩:=(ou.mono (D':=fun _=>True) (fun a ha _=>ha) (fun _ _ _=>rfl)).os;go_wp2_with fail;go_ret;exact ⟨g,vs,hvl,rfl,by rw [f9.o];exact os,by rw [f9.o];exact kp.up' ko.o (Nat.le_refl _) eP.o⟩
structure Pz (n m:Nat) (a:Nat->Nat->Rat) (b c:Nat->Rat) (U:Nat):Prop where
 sa:∀i,i<m->∀j,j<n->Sz (a i j) 32 32/\(a i j).den∣U
 sb:∀i,i<m->Sz (b i) 32 32/\(b i).den∣U
 sc:∀j,j<n->Sz (c j) 32 32/\(c j).den∣U
 u0:0<U
 ul:(lim U).length<=32
structure Mz (N:Nat) (f:Nat->Rat) (V:Nat):Prop where
 s:∀k,k<N->Sz (f k) 32 32/\(f k).den∣V
 v0:0<V
 vl:(lim V).length<=32
theorem Md.mz {vs:List Fx} (h:Md vs):Mz vs.length (fxV vs) (eV (fxV vs) vs.length):=
 ⟨fun k hk=>⟨by rw [ku hk];exact (h.v k hk).2,zM _ _ k hk⟩,jD _ _,h.d⟩
theorem Os.cl {w:World} {B:Nat} {s:Sl} {N:Nat} {f:Nat->Rat} (h:Os w B s N f):Cl w s.A s.vs f:=⟨h.qr.fr.rd,fun k hk=>⟨h.qr.ok _ (List.getElem_mem hk),h.rp k hk⟩⟩
theorem iI (p q:Rat):bA (p-q) 0=0↔p=q:=by
 rw [aZ];constructor
 ·intro h;have:p-q+q=q:=by rw [h];grind
  grind
 ·rintro rfl;grind
theorem kT (p q:Rat):0<bA (p-q) 0↔q<p:=by
 rcases du (p-q) 0 with ⟨h,e⟩|⟨h,e⟩|⟨h,e⟩
 ·rw [e];exact ⟨fun k=>by omega,fun k=>by exfalso;grind⟩
 ·rw [e];exact ⟨fun k=>by omega,fun k=>by exfalso;grind⟩
 ·rw [e];exact ⟨fun _=>by grind,fun _=>by omega⟩
theorem eC (p:Rat):bA p 0<0↔p<0:=by
 rcases du p 0 with ⟨h,e⟩|⟨h,e⟩|⟨h,e⟩
 ·rw [e];exact ⟨fun _=>h,fun _=>by omega⟩
 ·rw [e];exact ⟨fun k=>by omega,fun k=>by exfalso;grind⟩
 ·rw [e];exact ⟨fun k=>by omega,fun k=>by exfalso;grind⟩
def dX (n m nx:Nat) (a:Nat->Nat->Rat) (ux ur:Nat->Rat):Prop:=nx=n/\(∀j,j<n->0<=ux j)/\∀i,i<m->aj (fun j=>a i j*ux j) n=ur i
def dU (n m ny:Nat) (a:Nat->Nat->Rat) (uy uc:Nat->Rat):Prop:=ny=m/\∀j,j<n->aj (fun i=>uy i*a i j) m<=uc j
theorem ml (w:World) (G n m nx:Nat) (a:Nat->Nat->Rat) (b c:Nat->Rat) (cs rs:Sl) (A:Option Addr) (ca:Nat) (rows:List Sl) (h:Ck w G n m a b c cs rs A ca rows) (hn:n<=1000) (hm:m<=1000)
 (A1 A2:Option Addr) (c1 c2:Nat) (xs ts:List Fx) (ux ur:Nat->Rat) (U V:Nat) (bo:Bool) (hx:Cl w A1 xs ux) (hr:Cl w A2 ts ur) (hxl:xs.length=nx) (hxn:nx<=1000) (hrl:ts.length=m) (pz:Pz n m a b c U) (mz:Mz nx ux V) (sr:∀i,i<m->Sz (ur i) 60 60) (hb:bo=true↔dX n m nx a ux ur) :
 Calls prog 39 #[.pointer (some ⟨G,0,none⟩), .slice A1 nx c1, .slice A2 m c2] w fun e w'=>e = .returned (.bool bo)/\Below w.heap.size w w':=by
 have AK:=ag h;have lH:=ag hx;have y6:=ag hr;have i5:=ag hxl;have bU:=ag hrl;have eh:=ag pz;have y7:=ag mz;have m4:=ag sr;have HB:=ag hb;have uB:=ag h.lr;have c0:=h.c0;have c2':=h.c2;clear h hx hr hxl hrl pz mz sr hb;go_enter func39,ntmps39;by_cases h1:nx=n
 ·subst h1;go_wp2_with fail;clear c0;go_loopw [21] (fun iv wr=>∃k:Nat,k<=nx/\iv = .int .i64 k/\(∀j,j<k->0<=ux j)/\Below w.heap.size w wr) (fun iv _=>nx-(intOf iv).toNat)
  case atStart=>exact ⟨0,by omega,rfl,(fun j h=>absurd h (Nat.not_lt_zero _)),ah _ _⟩
  case round=>
   obtain ⟨k,hk,rfl,hnn,bw⟩:=hrel;have fx:=ag hnn;have aw:=ag bw;by_cases hlt:k<nx
   ·obtain ⟨ad,rfl,x,ef,el⟩:=(lH.o.below bw).at (k:=k) (by rw [i5.o];exact hlt)
    have d0:=ef.c0;have d1:=ef.c1;have d2:=ef.c2;have r5:Hd (Sz (ux k) 128 128):=ag ((y7.o.s k hlt).1.mono (by omega) (by omega))
    have cw:Hd (dX nx m nx a ux ur->0<=ux k):=ag (fun f=>f.2.1 k hlt);clear ef hnn bw;go_upto_region 6 with fail;have v1:Vl (wr.alloc (.cells x.cells 29)) wr.heap.size x (ux k):=⟨(au el.ok).1,el.rp⟩;have bb:=(au el.ok).2;replace aw:=ag (qd aw.o bb);clear d0 d1 d2 el bb;generalize (wr.alloc (.cells #[.bool x.b, .slice x.A x.xs.length x.c, .slice x.D x.ys.length x.d] 29))=wm at v1 aw|-;generalize wr.heap.size=g8 at v1|-;have d0:=v1.c0;have d1:=v1.c1;have d2:=v1.c2;have HV:=ag v1;obtain ⟨z,hz⟩:∃z,bA (ux k) 0=z:=⟨_,rfl⟩;have HZ:=ag hz;clear v1;by_cases h0:z<0
    ·have hlt0:ux k<0:=(eC _).1 (by rw [hz];exact h0)
     have hbf:bo=false:=by
      cases bo
      ·rfl
      ·exact absurd (HB.o.1 rfl) (fun f=>absurd (cw.o f) (Rat.not_le.2 hlt0))
     subst hbf;clear hz hlt0;go_wp2_with fail;refine (aU wm x _ z HV.o.el r5.o HZ.o).mono ?_;rintro e w5 ⟨rfl,bb⟩;go_wp2_with fail;go_ret;exact ⟨rfl,qd aw.o bb⟩
    ·have dn:Hd (0<=ux k):=ag (Rat.not_lt.1 (fun e=>h0 (by rw [<-hz];exact (eC _).2 e)))
     clear hz;go_wp2_with fail;refine (aU wm x _ z HV.o.el r5.o HZ.o).mono ?_;rintro e w5 ⟨rfl,bb⟩;go_wp2_with fail;go_roundw
     case rel=>exact ⟨k+1,by omega,by go_num,(fun j hj=>by
      rcases Nat.lt_or_ge j k with h2|h2
      ·exact fx.o j h2
      ·obtain rfl:j=k:=by omega
       exact dn.o),qd aw.o bb⟩
     case measure=>simp [intOf];omega
   ·obtain rfl:nx=k:=by omega
    replace c2':wr.cell? ⟨G,2,none⟩=some (.slice A m ca):=(AK.o.below bw).c2;clear bw hnn;go_wp2_with fail;clear c2';go_loopw [34] (fun iv wr=>∃i:Nat,i<=m/\iv = .int .i64 i/\(∀r,r<i->aj (fun j=>a r j*ux j) nx=ur r)/\Below w.heap.size w wr) (fun iv _=>m-(intOf iv).toNat)
    case atStart=>exact ⟨0,by omega,rfl,(fun j h=>absurd h (Nat.not_lt_zero _)),aw.o⟩
    case round=>
     clear aw;obtain ⟨i,hi,rfl,heq,bw⟩:=hrel;have nu:=ag heq;have aw:=ag bw;by_cases hlt:i<m
     ·have hil:i<rows.length:=by rw [uB.o];exact hlt
      have cL:=ag (AK.o.below bw);obtain ⟨ad0,rfl,_,hc⟩:=cL.o.rd (by omega)
      have hcj:=hc i hil;have hrow:=cL.o.row i hil;obtain ⟨s,hs⟩:∃s,rows[i]=s:=⟨_,rfl⟩;rw [hs] at hcj hrow;have hcs:wr.cell? (ad0.add i)=some (.slice s.A nx s.c):=by rw [<-hrow.2];exact hcj
      obtain ⟨ad2,rfl,y,ef,el⟩:=(y6.o.below bw).at (k:=i) (by rw [bU.o];exact hlt)
      have d0:=ef.c0;have d1:=ef.c1;have d2:=ef.c2;have Gd:=ag el;obtain ⟨z,hz⟩:∃z,bA (aj (fun j=>a i j*ux j) nx-ur i) 0=z:=⟨_,rfl⟩;have a8:=jr wr s.A A1 s.c c1 s.vs xs y (a i) ux (ur i) z U V nx hrow.1 (lH.o.below bw) el hrow.2 i5.o hxn (fun k hk=>(eh.o.sa i hlt k hk).1) (fun k hk=>(y7.o.s k hk).1) (m4.o i hlt) (fun k hk=>(eh.o.sa i hlt k hk).2) (fun k hk=>(y7.o.s k hk).2) eh.o.ul y7.o.vl eh.o.u0 y7.o.v0 hz;have bK:=ag a8;have cw:Hd (dX nx m nx a ux ur->aj (fun j=>a i j*ux j) nx=ur i):=ag (fun f=>f.2.2 i hlt);clear hc hcj hrow hs ef el heq bw a8;by_cases h0:z=0
      ·subst h0;have CL:=ag ((iI _ _).1 hz);clear hz;go_wp2_with fail;refine bK.o.mono ?_;rintro e w5 ⟨rfl,bb⟩;go_wp2_with fail;go_roundw
       case rel=>exact ⟨i+1,by omega,by go_num,(fun r hr=>by
        rcases Nat.lt_or_ge r i with h2|h2
        ·exact nu.o r h2
        ·obtain rfl:r=i:=by omega
         exact CL.o),qd aw.o bb⟩
       case measure=>simp [intOf];omega
      ·have hne:¬aj (fun j=>a i j*ux j) nx=ur i:=fun e=>h0 (by rw [<-hz];exact (iI _ _).2 e)
       have hbf:bo=false:=by
        cases bo
        ·rfl
        ·exact absurd (HB.o.1 rfl) (fun f=>hne (cw.o f))
       subst hbf;have hb2:(z != 0)=true:=by simpa using h0
       clear hz hne;go_wp2_with fail;refine bK.o.mono ?_;rintro e w5 ⟨rfl,bb⟩;go_wp2_with fail;go_ret;exact ⟨rfl,qd aw.o bb⟩
     ·obtain rfl:m=i:=by omega
      have CM:Hd (bo=true):=ag (HB.o.2 ⟨rfl,fx.o,nu.o⟩);go_wp2_with fail;go_ret;exact ⟨by rw [CM.o];rfl,bw⟩
 ·have hb1:((nx:Int) != (n:Int))=true:=by simp;omega
  have hbf:bo=false:=by
   cases bo
   ·rfl
   ·exact absurd (HB.o.1 rfl) (fun f=>h1 f.1)
  subst hbf;go_wp2_with fail;go_ret;exact ⟨rfl,ah _ _⟩
theorem oO (w:World) (G n m ny:Nat) (a:Nat->Nat->Rat) (b c:Nat->Rat) (cs rs:Sl) (A:Option Addr) (ca:Nat) (rows:List Sl) (h:Ck w G n m a b c cs rs A ca rows) (hn:n<=1000) (hm:m<=1000)
 (A1 A2:Option Addr) (c1 c2:Nat) (ys ts:List Fx) (uy uc:Nat->Rat) (U V:Nat) (bo:Bool) (hy:Cl w A1 ys uy) (hc:Cl w A2 ts uc) (hyl:ys.length=ny) (hcl:ts.length=n) (pz:Pz n m a b c U) (mz:Mz ny uy V) (sc:∀j,j<n->Sz (uc j) 60 60) (hb:bo=true↔dU n m ny a uy uc) :
 Calls prog 40 #[.pointer (some ⟨G,0,none⟩), .slice A1 ny c1, .slice A2 n c2] w fun e w'=>e = .returned (.bool bo)/\Below w.heap.size w w':=by
 have AK:=ag h;have Aa:=ag hy;have t8:=ag hc;have EA:=ag hyl;have gD:=ag hcl;have eh:=ag pz;have EB:=ag mz;have FG:=ag sc;have HB:=ag hb;have uB:=ag h.lr;have c2':=h.c2;clear h hy hc hyl hcl pz mz sc hb;go_enter func40,ntmps40;by_cases h1:ny=m
 ·subst h1;have ii:=EA;have sk:=EB;clear EA EB;go_wp2_with fail;clear c2';go_loopw [18] (fun iv wr=>∃j:Nat,j<=n/\iv = .int .i64 j/\(∀k,k<j->aj (fun i=>uy i*a i k) ny<=uc k)/\Below w.heap.size w wr) (fun iv _=>n-(intOf iv).toNat)
  case atStart=>exact ⟨0,by omega,rfl,(fun j h=>absurd h (Nat.not_lt_zero _)),ah _ _⟩
  case round=>
   obtain ⟨j,hj,rfl,hle,bw⟩:=hrel;have hZ:=ag hle;have aw:=ag bw;by_cases hlt:j<n
   ·obtain ⟨ad2,rfl,xc,ef,el⟩:=(t8.o.below bw).at (k:=j) (by rw [gD.o];exact hlt)
    have CN:=ag ef;have eZ:=ag el;have cL:=ag (AK.o.below bw);have HY:=ag (Aa.o.below bw);have fn:=ag (FG.o j hlt);have cw:Hd (dU n ny ny a uy uc->aj (fun i=>uy i*a i j) ny<=uc j):=ag (fun f=>f.2 j hlt);obtain ⟨z,hz⟩:∃z,bA (aj (fun i=>uy i*a i j) ny-uc j) 0=z:=⟨_,rfl⟩;have HZ:=ag hz;clear ef el hle bw hz;go_upto_region 6 with fail
    go_cut [30] (fun v wx=>v = .bool (decide (0<z))/\Below wr.heap.size wr wx)
    case first=>
     have a7:Hd (∀w',Below wr.heap.size wr w'->(w'.cell? (ad2.add (j*3))=some (.bool xc.b)/\w'.cell? ⟨(ad2.add (j*3)).block,(ad2.add (j*3)).off+1,none⟩=some (.slice xc.A xc.xs.length xc.c)/\w'.cell? ⟨(ad2.add (j*3)).block,(ad2.add (j*3)).off+2,none⟩=some (.slice xc.D xc.ys.length xc.d))):=ag (fun _ bz=>⟨(CN.o.below bz).c0,(CN.o.below bz).c1,(CN.o.below bz).c2⟩);refine fR a7 (by kernel_rfl) fun hH=>?_
     have bz:=(ah wr.heap.size wr).drew;generalize wr.drew=wd at *;refine qj 10 fun Ha=>?_
     refine qh Ha 0 (.slice A1 ny c1) rfl ?_;refine qh Ha 1 (.pointer (some ⟨G,0,none⟩)) rfl ?_;refine qh Ha 2 (.int .i64 (j:Int)) rfl ?_;refine qh Ha 4 (.slice (some ad2) n c2) rfl ?_;refine qh Ha 5 (.int .i64 (j:Int)) rfl ?_;refine qh Ha 6 (.pointer (some (ad2.add (j*3)))) rfl ?_;refine tks Ha 7 (xc.val) rfl ?_;simp only [tz];refine tk1 Ha 3 rfl fun K hK=>?_;go_simp;go_at_call 80;refine (sT wd G n ny j a b c cs rs A ca rows (cL.o.below bz) hlt hn hm).mono ?_;rintro e wd ⟨gc,vc,hvc,rfl,oc,bb⟩
     have cc:Cl wd (some ⟨gc,0,none⟩) vc (fun i=>a i j):=oc.cl;clear oc;replace bz:=qd bz bb;clear bb;refine hK.out _ _ (a7.o _ bz) fun hH=>?_;clear hK K;try simp only [tz]
     refine tk1 Ha 8 rfl fun K hK=>?_;go_simp;go_at_call 41;refine (jr wd A1 (some ⟨gc,0,none⟩) c1 ny ys vc xc uy (fun i=>a i j) (uc j) z V U ny (HY.o.below bz) cc (eZ.o.below bz) ii.o hvc hm (fun k hk=>(sk.o.s k hk).1) (fun k hk=>(eh.o.sa k hk j hlt).1) fn.o (fun k hk=>(sk.o.s k hk).2) (fun k hk=>(eh.o.sa k hk j hlt).2) sk.o.vl eh.o.ul sk.o.v0 eh.o.u0 HZ.o).mono ?_;rintro e wd ⟨rfl,bb⟩;clear cc;replace bz:=qd bz bb;clear bb;refine hK.out _ _ (a7.o _ bz) fun hH=>?_;clear hK K;try simp only [tz]
     refine tks Ha 9 (.bool (decide (0<z))) rfl ?_;simp only [tz];refine qp Ha ?_
     go_wp2_with fail;go_meet
     case rel=>exact ⟨rfl,bz⟩
    case rest=>
     obtain ⟨rfl,bb⟩:=hcut;replace aw:=ag (qd aw.o bb);clear bb;by_cases h0:0<z
     ·have hgt:¬aj (fun i=>uy i*a i j) ny<=uc j:=Rat.not_le.2 ((kT _ _).1 (by rw [HZ.o];exact h0))
      have hbf:bo=false:=by
       cases bo
       ·rfl
       ·exact absurd (HB.o.1 rfl) (fun f=>hgt (cw.o f))
      subst hbf;have hd:decide (0<z)=true:=by simpa using h0
      clear hgt;go_wp2_with fail;go_ret;exact ⟨rfl,aw.o⟩
     ·have CL:Hd (aj (fun i=>uy i*a i j) ny<=uc j):=ag (Rat.not_lt.1 (fun e=>h0 (by rw [<-HZ.o];exact (kT _ _).2 e)))
      have hd:decide (0<z)=false:=by simpa using h0
      go_wp2_with fail;go_roundw
      case rel=>exact ⟨j+1,by omega,by go_num,(fun k hk=>by
       rcases Nat.lt_or_ge k j with h2|h2
       ·exact hZ.o k h2
       ·obtain rfl:k=j:=by omega
        exact CL.o),aw.o⟩
      case measure=>simp [intOf];omega
   ·obtain rfl:n=j:=by omega
    have CM:Hd (bo=true):=ag (HB.o.2 ⟨rfl,hZ.o⟩);go_wp2_with fail;go_ret;exact ⟨by rw [CM.o];rfl,bw⟩
 ·have hb1:((ny:Int) != (m:Int))=true:=by simp;omega
  have hbf:bo=false:=by
   cases bo
   ·rfl
   ·exact absurd (HB.o.1 rfl) (fun f=>h1 f.1)
  subst hbf;go_wp2_with fail;go_ret;exact ⟨rfl,ah _ _⟩
end Go.Proofs.YtkpfbekmaafehaaGreat
