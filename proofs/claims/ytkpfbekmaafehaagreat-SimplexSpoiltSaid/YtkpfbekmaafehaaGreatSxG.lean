/- The walk of drydockref16.Solve (in work). -/
import Derived.Test.YtkpfbekmaafehaaGreatSxD
import Derived.Test.YtkpfbekmaafehaaGreatSxF
import Derived.Test.YtkpfbekmaafehaaGreatSxM
import Derived.Test.YtkpfbekmaafehaaGreatSqN
import Derived.Test.YtkpfbekmaafehaaGreatSxA
namespace Go.Proofs.YtkpfbekmaafehaaGreat
open _root_.Go.Proofs.Tryz
set_option maxHeartbeats 40000000
set_option maxRecDepth 100000
open Go.RowKit
theorem r16solve_any (w:World) (p:Pg) (h:p.ok w) (sm:p.sm) (vd:p.vd) :
 Calls prog 23 #[p.val] w fun e w'=>∃s:Sn,e = .returned (.tuple #[s.val, .int .i64 0])/\SolS w' w.heap.size p.rows.length p.cost.vs.length p.a p.b p.c s/\SolA s/\Below w.heap.size w w':=by
 have HO:=ag h;have br:=ag sm;have bK:=ag vd;have HW:=ag vd.wgt;obtain ⟨n,hn⟩:∃n,p.cost.vs.length=n:=⟨_,rfl⟩;obtain ⟨m,hm⟩:∃m,p.rows.length=m:=⟨_,rfl⟩;have hnl:n<=256:=by rw [<-hn];exact vd.c2
 have hml:m<=32:=by rw [<-hm];exact vd.r2
 have HN:=ag hn;have HM:=ag hm;have r6:Hd (1<=m):=ag (by rw [<-hm];exact vd.r1)
 obtain ⟨i1,hi,hi0,hi1,hi2⟩:=info_parts tM;obtain ⟨i2,ji,ji0,ji1,ji2⟩:=info_parts yi;rw [hm,hn] at HW|-;clear h sm vd hn hm;go_enter func23,ntmps23;go_upto_region 1 with fail;have pb:=(aY w p 25).1;have bw:=(aY w p 25).2;have hsz:=iV w p 25;generalize (w.alloc (.cells #[.slice p.cost.A p.cost.vs.length p.cost.c, .slice p.rA p.rows.length p.rc, .slice p.right.A p.right.vs.length p.right.c] 25))=wm at pb bw hsz|-;have zs:=oC wm 31;have bb:=qb wm (.cells #[.int .i64 0, .slice none 0 0, .slice none 0 0, .slice none 0 0, .bool false, .slice none 0 0, .slice none 0 0] 31)
 rw [hsz] at zs;replace pb:=pb.below bb;replace bw:=qc bw bb;clear bb hsz;generalize (wm.alloc (.cells #[.int .i64 0, .slice none 0 0, .slice none 0 0, .slice none 0 0, .bool false, .slice none 0 0, .slice none 0 0] 31))=wb at *;obtain ⟨g1,hg1⟩:∃g,w.heap.size=g:=⟨_,rfl⟩;obtain ⟨g2,hG⟩:∃g,w.heap.size+1=g:=⟨_,rfl⟩;have pb1:Pb wb g1 p:=by rw [<-hg1];exact pb
 rw [hG] at zs;have f8:Hd (w.heap.size<=g1):=ag (Nat.le_of_eq hg1);have lT:Hd (w.heap.size<=g2):=ag (by omega)
 have H9:Hd (¬g1=g2):=ag (by omega)
 rw [hG,hg1];clear hG hg1 pb;have c0:=pb1.c0;have c1:=pb1.c1;have c2:=pb1.c2;go_wp2_with fail;refine (kD wb p true (HO.o.below bw) br.o (Iff.intro (fun _=>bK.o) (fun _=>rfl))).mono ?_;rintro e w1 ⟨rfl,bb⟩;replace zs:=zs.below bb;replace pb1:=pb1.below bb;replace bw:=qc bw bb;clear bb c0 c1 c2;have c0:w1.cell? ⟨g1,0,none⟩=some (.slice p.cost.A n p.cost.c):=by rw [<-HN.o];exact pb1.c0
 have c1:w1.cell? ⟨g1,1,none⟩=some (.slice p.rA m p.rc):=by rw [<-HM.o];exact pb1.c1
 go_upto_region 3 with fail;go_region;have bd:Below w1.heap.size w1 w1.drew:=(ah _ _).drew;replace zs:=zs.below bd;replace pb1:=pb1.below bd;replace bw:=qc bw bd;clear bd c0 c1;generalize w1.drew=wr at *;have sh:Hd (g1<wr.heap.size/\g2<wr.heap.size):=ag ⟨pb1.lt,zs.lt⟩;go_upto_region 4 with fail;go_upto_region 5 with (refine bp wr (mk:=iv) 0 rfl _ _ 82 rfl 3 i1 8 underlying82 hi hi0 hi1 hi2 rfl .i64 .i64 _ _ m rfl rfl (by omega) (by omega) (by omega) (by simp only [maxLen];omega) ?_;intro w2 hg2 hb2 hs2)
 have pr:=ag (zs.below hb2);have CP:=ag (pb1.below hb2);have ms:=ag (qc bw hb2);have hs1:=ms.o.size;have ma:=ag hg2;have q3:=q4_alloc w2 (.slice none 0 0) (.slice none 0 0) (.slice (some ⟨wr.heap.size,0,none⟩) m m) (.int .i64 (n:Int)) 94 rfl rfl rfl rfl;have bb:=qb w2 (.cells #[.slice none 0 0, .slice none 0 0, .slice (some ⟨wr.heap.size,0,none⟩) m m, .int .i64 (n:Int)] 94);replace pr:=ag (pr.o.below bb);replace CP:=ag (CP.o.below bb);replace ms:=ag (qc ms.o bb);replace ma:=ag (ma.o.below bb);clear hg2 hb2 bb zs pb1 bw hs1
 generalize (w2.alloc (.cells #[.slice none 0 0, .slice none 0 0, .slice (some ⟨wr.heap.size,0,none⟩) m m, .int .i64 (n:Int)] 94))=w3 at *;obtain ⟨gb,hgb⟩:∃g,wr.heap.size=g:=⟨_,rfl⟩;obtain ⟨G,hGG⟩:∃g,w2.heap.size=g:=⟨_,rfl⟩;rw [hgb] at q3 ma sh hs2;rw [hgb,hGG];rw [hGG] at q3 hs2;have EM:Hd (gb<G):=ag hs2;have dn:Hd (w.heap.size<=gb):=ag (by have:=sh.o;have:=f8.o;omega)
 clear hgb hGG hs2;go_upto_region 6 with (refine bp w3 (mk:=Value.bool) false rfl _ _ 83 rfl 4 i2 1 underlying83 ji ji0 ji1 ji2 rfl .i64 .i64 _ _ m rfl rfl (by omega) (by omega) (by omega) (by simp only [maxLen];omega) ?_;intro w4 hg4 hb4 hs4)
 obtain ⟨gt,hgt⟩:∃g,w3.heap.size=g:=⟨_,rfl⟩;have C3:Hd (G<gt/\gt<w4.heap.size):=ag ⟨by rw [<-hgt];exact q3.lt,by rw [<-hgt];exact hs4⟩
 rw [hgt] at hg4;rw [hgt];replace pr:=ag (pr.o.below hb4);replace CP:=ag (CP.o.below hb4);replace ms:=ag (qc ms.o hb4);replace ma:=ag (ma.o.below hb4);have q4:=q3.below hb4;have gN:=ag hg4;have AP:Hd (G<w4.heap.size):=ag q4.lt;clear hgt hg4 hb4 hs4 q3;obtain ⟨N,hNV⟩:∃N,N=n+m+1:=⟨_,rfl⟩;have c7:=ag hNV;have hNl:N<=1000:=by omega
 have hNw:((n:Int)+(m:Int))+1=(N:Int):=by omega
 clear hNV;go_wp2_with fail;go_loopw [8] (fun iv wr=>∃(k:Nat) (A:Option Addr) (c:Nat) (vs:List Fx),k<=N/\iv = .int .i64 k/\vs.length=k/\(∀v∈vs,Rp v 0)/\Xr wr w4.heap.size A c vs/\Q4 wr G (.slice none 0 0) (.slice A k c) (.slice (some ⟨gb,0,none⟩) m m) (.int .i64 (n:Int))/\Kp (fun a=>a=G) w4 wr) (fun iv _=>N-(intOf iv).toNat)
 case atStart=>exact ⟨0,none,0,[],by omega,rfl,rfl,(fun v h=>absurd h (by simp)),Xr.nil _ _,q4,Kp.refl _ _⟩
 case round=>
  clear q4;obtain ⟨k,A,c,vs,hk,rfl,hvl,hrp,xr,q,kp⟩:=hrel;by_cases hlt:k<N
  ·
--D{
   have cw:=ag hvl;have nC:=ag hrp;have l7:=ag xr;have HQ:=ag q;have aw:=ag kp;clear hvl hrp xr q kp;go_upto_region 9 with fail;have q:=HQ.o.below (ah wr.heap.size wr).drew;have xr:=l7.o.below (ah wr.heap.size wr).drew;have kp:=aw.o.then (ah wr.heap.size wr).drew
   refine qj (S:=fun w'=>w'.cell? ⟨G,1,none⟩=some (.slice A k c)) 10 11 q.c1 fun Ha hH=>?_
   generalize wr.drew=wd at *;refine mY Ha 0 (.pointer (some ⟨G,0,none⟩)) rfl ?_;simp only [tz];refine mY Ha 1 (.pointer (some ⟨G,0,none⟩)) rfl ?_;simp only [tz];refine mY Ha 2 (.pointer (some ⟨G,0,none⟩)) rfl ?_;simp only [tz];refine mY Ha 3 (.pointer (some ⟨G,1,none⟩)) rfl ?_;simp only [tz];refine mY Ha 4 (.slice A k c) rfl ?_;simp only [tz];refine qW Ha 5 rfl fun K hK=>?_;go_simp;go_at_call 26;refine (iT wd).mono ?_;rintro e we ⟨y,rfl,ey,bb⟩;replace q:=q.below bb;replace xr:=xr.below bb;replace kp:=kp.then bb
   clear bb hH;generalize we=wd at *;refine hK.out _ _ q.c1 fun hH=>?_;clear hK K;try simp only [tz]
   refine qW Ha 6 rfl fun K hK=>?_;go_simp;have lit:=j3 ey.ok;have bb:=(au ey.ok).2;replace ey:=ey.below bb;replace q:=q.below bb;replace xr:=xr.below bb;replace kp:=kp.then bb
   clear bb hH;generalize wd.heap.size=g59 at lit|-;generalize (wd.alloc (.cells #[.bool y.b, .slice y.A y.xs.length y.c, .slice y.D y.ys.length y.d] 29))=wd at *;refine hK.out _ _ q.c1 fun hH=>?_;clear hK K;try simp only [tz]
   refine qW Ha 7 rfl fun K hK=>?_;have hsz:=kp.size;refine step_append_xr wd rfl _ _ rfl rfl rfl cw.o.symm xr ⟨g59,0,none⟩ 1 y rfl lit ey.ok (by omega) hsz ?_
   intro A4 c4 we x4 kk hat;have hl:∀g,A.map (·.block)=some g->w4.heap.size<=g:=fun g e=>(xr.lt e).1;have hG:=AP.o;replace q:=q.kp kk (fun e=>by have:=hl _ e;omega)
   replace kp:=kp.newer kk (fun a e=>hl a e);have ry:=ey.rp;clear xr kk hat lit ey hH hsz;generalize we=wd at *;refine hK.out _ _ q.c1 fun hH=>?_;clear hK K;try simp only [tz]
   refine mY Ha 8 (.pointer (some ⟨G,0,none⟩)) rfl ?_;simp only [tz];refine mY Ha 9 (.pointer (some ⟨G,1,none⟩)) rfl ?_;simp only [tz];refine Bh Ha 10 rfl fun K hK=>?_;have k0:=q.c1;have ax:=q.fz 1;go_simp;clear k0 ax;have hG:=AP.o;have kG:=rM wd G 1 (.slice A4 (k+1) c4);have nG:∀a,a=G->NL wd a:=fun a e=>by rw [e];exact q.nl
   replace x4:=x4.kp kG nG (fun g hg e=>by have:=(x4.lt hg).1;omega)
   replace kp:=kp.trans kG;have q2:=q.set1 (u := .slice A4 (k+1) c4) rfl;clear q kG nG hH;generalize (wd.setCell ⟨G,1,none⟩ (.slice A4 (k+1) c4))=wd at *;refine hK.out _ _ ?_;clear hK K;try simp only [tz]
   refine q5 Ha ?_
   go_wp2_with fail;go_roundw
   case rel=>exact ⟨k+1,A4,c4,vs ++ [y],by omega,by go_num,by rw [List.length_append,cw.o,List.length_singleton],(fun v hv=>by
    rcases List.mem_append.1 hv with h|h
    ·exact nC.o v h
    ·rw [List.mem_singleton] at h;rw [h];exact ry),x4,q2,kp⟩
   case measure=>simp [intOf];omega
--D}
  ·obtain rfl:N=k:=by omega
   have hA:=xr.fr.adr0 (by have:=c7.o;omega)
   obtain ⟨gc,rfl⟩:=hA;have hgc:w4.heap.size<=gc:=(xr.lt rfl).1;have hk2:=C3.o;have hk1:=EM.o;have hk3:=sh.o;have hB4:=ms.o.size;have hst:Sr2 w wr p g1 g2 G N n m gb gt 0 (fun k=>decide (p.b k<0)) (dG m n p.a p.b):=by
    have hB:Below w.heap.size w wr:=ms.o.trans (kp.below (B:=w.heap.size) (fun a e=>by have:=dn.o;omega) hB4)
    have i4:=(ma.o.more (B':=w.heap.size) (fun ad e=>by injection e with e;subst e;exact dn.o))
    have t4:=(gN.o.more (B':=w.heap.size) (fun ad e=>by injection e with e;subst e;show w.heap.size<=gt;have:=dn.o;omega))
    have ni:=(gr_nl (fun _=>rfl) i4 (by simp)).kp kp (by omega)
    have nt:=(gr_nl (fun _=>rfl) t4 (by simp)).kp kp (by omega)
    exact ⟨_,_,_,_,Rg.start q (xr.more (by omega)) hvl hrp (kp.gr i4 (fun ad e=>by injection e with e;subst e;show ¬gb=G;omega)) (by simp) (kp.gr t4 (fun ad e=>by injection e with e;subst e;show ¬gt=G;omega)) (by simp) ni nt ⟨by omega,by omega,by omega⟩,pr.o.kp kp (by omega),CP.o.kp kp (by omega),hB⟩
   clear hvl hrp xr q kp hk1 hk2 hk3 hB4 hgc pr CP ms ma gN AP;go_wp2_with fail;go_loopw [9] (fun iv wr=>∃i:Nat,i<=m/\iv = .int .i64 i/\Sr2 w wr p g1 g2 G N n m gb gt i (fun k=>decide (p.b k<0)) (dG m n p.a p.b)) (fun iv _=>m-(intOf iv).toNat)
   case atStart=>exact ⟨0,by omega,rfl,hst⟩
   case round=>
    clear hst;obtain ⟨i,him,rfl,hst⟩:=hrel;obtain ⟨g,c,A1,c1,rg,zs,pb,bw⟩:=hst;by_cases hlt:i<m
    ·
--D{
     have hib:i<p.right.vs.length:=by rw [bK.o.lb,HM.o];exact hlt
     have pv:=ag rg;have cK:=ag zs;have bj:=ag pb;have an:=ag bw;obtain ⟨ad,hra,ef⟩:=(HO.o.right.below bw).rd.at i hib;have hI:Hd (p.b i=p.right.vs[i].q):=ag (by rw [Pg.b,bC _ _ _ hib])
     have hmr:=List.getElem_mem hib;obtain ⟨xr,hxr⟩:∃x,p.right.vs[i]=x:=⟨_,rfl⟩;rw [hxr] at hI hmr;have ef0:Ef wr (ad.add (i*3)) xr:=by rw [<-hxr];exact ef
     have B4:Hd xr.v:=ag (bK.o.vb xr hmr);have fc:=ag (br.o.eb xr hmr);have Au:=ag ((HO.o.right.below bw).el xr hmr);have gW:Hd (∀w',Below wr.heap.size wr w'->w'.cell? ⟨g1,2,none⟩=some (.slice (some ad) m p.right.c)):=ag (fun w' hb=>by
      have:=(bj.o.below hb).c2;rw [show p.right.val = .slice p.right.A p.right.vs.length p.right.c from rfl,hra,bK.o.lb,HM.o] at this;exact this)
     have js:=ag ef0;have cc2:=gW.o wr (ah _ _);have e0:=ef0.c0;have e1:=ef0.c1;have e2:=ef0.c2;clear rg zs pb bw hra ef hmr hxr ef0;obtain ⟨z,hz⟩:∃z,bA xr.q 0=z:=⟨_,rfl⟩;have HZ:=ag hz;have B7:Hd (decide (p.b i<0)=decide (z<0)):=ag (by rw [hI.o,<-hz,xY])
     clear hz;go_wp2_with fail;refine (uM wr xr z Au.o B4.o fc.o.1 fc.o.2 HZ.o).mono ?_;rintro e w5 ⟨rfl,bb⟩;replace pv:=ag (pv.o.below bb);replace cK:=ag (cK.o.below bb);replace bj:=ag (bj.o.below bb);replace an:=ag (qc an.o bb);clear cc2 e0 e1 e2 bb;have hct:=pv.o.tu;obtain ⟨ts,t1,t2,t3⟩:=hct;have ct:=t1.cell i (by omega)
     have cf:=t1.free i;go_upto_region 14 with fail;have k6:=pv.o.turn B7.o;have hd:=sh.o;have hd2:=C3.o;have hd3:=EM.o;have Ed:=ag k6.1;have Gw:=ag (cK.o.kp k6.2 (by omega))
     have EO:=ag (bj.o.kp k6.2 (by omega))
     have Bx:=ag (an.o.trans (k6.2.below (B:=w.heap.size) (fun a e=>by have:=dn.o;omega) an.o.size))
     clear k6 hd hd2 hd3 ct cf t1 t2 t3 pv cK bj an;generalize (w5.setCell ⟨gt,i,none⟩ (.bool (decide (z<0))))=w6 at *;rw [<-B7.o] at *;go_wp2_with fail;go_loopw [10,11] (fun sv jv wr=>∃(j:Nat) (A:Option Addr) (c:Nat) (vs:List Fx),j<=N/\jv = .int .i64 j/\sv = .slice A j c/\vs.length=j/\(∀k (h:k<vs.length),Rp vs[k] (dG m n p.a p.b i k))/\Xr wr w6.heap.size A c vs/\Below w6.heap.size w6 wr) (fun _ jv _=>N-(intOf jv).toNat)
     case atStart=>exact ⟨0,none,0,[],by omega,rfl,rfl,rfl,(fun k h=>absurd h (by simp)),Xr.nil _ _,ah _ _⟩
     case round=>
      obtain ⟨j,A,c3,vs,hj,rfl,rfl,hvl,hrp,xr3,bz⟩:=hrel;by_cases hjN:j<N
      ·
--D{
       have cw:=ag hvl;have nC:=ag hrp;have l7:=ag xr3;have cF:=ag bz;clear hvl hrp xr3 bz;go_wp2_with fail;refine (iT wr).mono ?_;rintro e wk ⟨y,rfl,ey,bb⟩;replace l7:=ag (l7.o.below bb);replace cF:=ag (qc cF.o bb);clear bb;go_upto_region 19 with fail;have a12:=(au ey.ok).1;have bw:=(au ey.ok).2;have hy0:=ey.rp;clear ey;generalize (wk.alloc (.cells #[.bool y.b, .slice y.A y.xs.length y.c, .slice y.D y.ys.length y.d] 29))=wl at a12 bw|-;have Fs:Hd (Below w.heap.size w wk):=ag (qc Bx.o cF.o);have IH:Hd (w.heap.size<=wk.heap.size):=ag Fs.o.size;obtain ⟨gk,hgk⟩:∃g,wk.heap.size=g:=⟨_,rfl⟩
       have nj:=ag hgk;have Ft:Hd (Vl wl gk y 0):=ag ⟨by rw [<-hgk];exact a12,hy0⟩
       have Ee:=ag bw;rw [hgk];clear a12 hgk hy0 bw
       go_upto_if 89 with fail
       go_cut [12] (fun s12 w'=>s12 = .pointer (some ⟨gk,0,none⟩)/\(∃y,Vl w' gk y (if j<n then p.a i j else 0))/\Below wk.heap.size wk w')
       case first=>
        by_cases hjn:j<n
        ·have bwl:Below w.heap.size w wl:=qc Fs.o Ee.o;have okl:=HO.o.below bwl;have hir:i<p.rows.length:=by rw [HM.o];exact hlt
         obtain ⟨ad0,hra0,_,hc0⟩:=okl.rd (by omega)
         have hcj:=hc0 i hir;obtain ⟨s,hs⟩:∃s,p.rows[i]=s:=⟨_,rfl⟩;have hme:s∈p.rows:=by rw [<-hs];exact List.getElem_mem hir
         have hsl:s.vs.length=n:=by rw [<-HN.o];exact bK.o.la s hme
         rw [hs] at hcj;have hjs:j<s.vs.length:=by omega
         obtain ⟨ad2,had2,ef⟩:=(okl.rows s hme).rd.at j hjs;have hm2:=List.getElem_mem hjs;obtain ⟨xe,hxe⟩:∃x,s.vs[j]=x:=⟨_,rfl⟩;rw [hxe] at hm2;have ef0:Ef wl (ad2.add (j*3)) xe:=by rw [<-hxe];exact ef
         have HQ:Hd (p.a i j=xe.q):=ag (by rw [Pg.a,bC _ _ _ hir,hs,bC _ _ _ hjs,hxe])
         have gL:=ag ((okl.rows s hme).el xe hm2);have HV:=ag (bK.o.va s hme xe hm2);have HL:=ag (br.o.ea s hme xe hm2);have cc1:wl.cell? ⟨g1,1,none⟩=some (.slice (some ad0) m p.rc):=by
          have:=((EO.o.below cF.o).below Ee.o).c1;rw [hra0,HM.o] at this;exact this
         have cc2:wl.cell? (ad0.add i)=some (.slice (some ad2) n s.c):=by rw [<-had2,<-hsl];exact hcj
         have e0:=ef0.c0;have e1:=ef0.c1;have e2:=ef0.c2;clear hcj hc0 hra0 hs hme hsl hjs had2 ef hm2 hxe ef0 okl bwl;go_wp2_with fail;refine (r2red_el wl xe gL.o HV.o HL.o.1 HL.o.2).mono ?_;rintro e w9 ⟨y2,rfl,ey2,bb⟩;have hfa:=Ft.o.fa.below bb;have t:=hfa.bk;obtain ⟨k0,k1,k2,ax,aF,aG,_,_⟩:=t;have b9:=qc Ee.o bb;clear cc1 cc2 e0 e1 e2 bb;go_wp2_with fail;go_meet
         case rel=>exact ⟨rfl,⟨y2,hfa.put ey2.ok,by rw [if_pos hjn,HQ.o];exact ey2.rp⟩,aR b9 (Nat.le_of_eq nj.o)⟩
        ·go_wp2_with fail;go_meet
         case rel=>exact ⟨rfl,⟨y,by rw [if_neg hjn];exact Ft.o⟩,Ee.o⟩
       case rest=>
        obtain ⟨rfl,⟨y1,v1⟩,bb⟩:=hcut;have j9:=ag v1;have ff:=ag bb;have Gx:Hd (i<p.rows.length):=ag (by rw [HM.o];exact hlt)
        clear v1 bb Ft Ee
        go_upto_if 106 with fail
        go_cut [12] (fun s12 w'=>s12 = .pointer (some ⟨gk,0,none⟩)/\(∃y,Vl w' gk y (if j<n then p.a i j else if j=n+m then p.b i else 0))/\Below wk.heap.size wk w')
        case first=>
         by_cases hje:j=n+m
         ·have bwl:Below w.heap.size w wc:=qc Fs.o ff.o;obtain ⟨ad3,hra,ef⟩:=(HO.o.right.below bwl).rd.at i hib;obtain ⟨xe,hxe⟩:∃x,p.right.vs[i]=x:=⟨_,rfl⟩;have hm2:=List.getElem_mem hib;rw [hxe] at hm2;have ef0:Ef wc (ad3.add (i*3)) xe:=by rw [<-hxe];exact ef
          have HQ:Hd (p.b i=xe.q):=ag (by rw [Pg.b,bC _ _ _ hib,hxe])
          have gL:=ag ((HO.o.right.below bwl).el xe hm2);have HV:=ag (bK.o.vb xe hm2);have HL:=ag (br.o.eb xe hm2);have cc1:wc.cell? ⟨g1,2,none⟩=some (.slice (some ad3) m p.right.c):=by
           have:=((EO.o.below cF.o).below ff.o).c2;rw [show p.right.val = .slice p.right.A p.right.vs.length p.right.c from rfl,hra,bK.o.lb,HM.o] at this;exact this
          have e0:=ef0.c0;have e1:=ef0.c1;have e2:=ef0.c2;have hji:(j:Int)=(n:Int)+(m:Int):=by omega
          have hjb:((j:Int) == (n:Int)+(m:Int))=true:=by simpa using hji
          have EP:=ag hje;clear hra ef hxe hm2 ef0 bwl hji hje;go_wp2_with fail;refine (r2red_el wc xe gL.o HV.o HL.o.1 HL.o.2).mono ?_;rintro e w9 ⟨y2,rfl,ey2,bb⟩;have hfa:=j9.o.fa.below bb;have t:=hfa.bk;obtain ⟨k0,k1,k2,ax,aF,aG,_,_⟩:=t;have b9:=qc ff.o bb;clear cc1 e0 e1 e2 bb;go_wp2_with fail;go_meet
          case rel=>exact ⟨rfl,⟨y2,hfa.put ey2.ok,by have:=EP.o;rw [if_neg (by omega),if_pos EP.o,HQ.o];exact ey2.rp⟩,aR b9 (Nat.le_of_eq nj.o)⟩
         ·have hji:¬(j:Int)=(n:Int)+(m:Int):=by omega
          have hjb:((j:Int) == (n:Int)+(m:Int))=false:=by simpa using hji
          clear hji;go_wp2_with fail;go_meet
          case rel=>exact ⟨rfl,⟨y1,by rw [if_neg hje];exact j9.o⟩,ff.o⟩
        case rest=>
         obtain ⟨rfl,⟨y2,v2⟩,bb⟩:=hcut;clear j9 ff;have j9:=ag v2;have ff:=ag bb;obtain ⟨v,hv⟩:∃v,(if j<n then p.a i j else if j=n+m then p.b i else 0)=v:=⟨_,rfl⟩
         have Fb:=ag hv;rw [hv] at j9;have yc:Hd (Sz v 128 128):=ag (by
          rw [<-hv]
          split
          ·rename_i h;exact bK.o.sza Gx.o (by rw [HN.o];exact h)
          ·split
           ·exact bK.o.szb Gx.o
           ·exact Sz.zero 128 (by omega))
         obtain ⟨tb,htb⟩:∃t,decide (p.b i<0)=t:=⟨_,rfl⟩;have C8:=ag htb;have ct:wc.cell? ⟨gt,i,none⟩=some (.bool tb):=by
          obtain ⟨ts2,t1,t2,t3⟩:=((Ed.o.below cF.o).below ff.o).tu;have:=t1.cell i (by omega)
          rw [t3 i (by omega) (by omega)] at this
          rw [<-htb];exact this
         clear v2 bb hv htb
         go_upto_if 119 with fail
         go_cut [12] (fun s12 w'=>s12 = .pointer (some ⟨gk,0,none⟩)/\(∃y,Vl w' gk y (sgT tb*v))/\Below wk.heap.size wk w')
         case first=>
          clear ct;have e0:=j9.o.c0;have e1:=j9.o.c1;have e2:=j9.o.c2
          cases tb with
          | true=>
            go_wp2_with fail;refine (r2opp_el wc y2 v j9.o.el yc.o).mono ?_;rintro e w9 ⟨y3,rfl,ey2,bb⟩;have hfa:=j9.o.fa.below bb;have t:=hfa.bk;obtain ⟨k0,k1,k2,ax,aF,aG,_,_⟩:=t;have b9:=qc ff.o bb;clear e0 e1 e2 bb;go_wp2_with fail;go_meet
            case rel=>exact ⟨rfl,⟨y3,hfa.put ey2.ok,by rw [sgT_neg];exact ey2.rp⟩,aR b9 (Nat.le_of_eq nj.o)⟩
          | false=>
            go_wp2_with fail;go_meet
            case rel=>exact ⟨rfl,⟨y2,by rw [yK];exact j9.o⟩,ff.o⟩
         case rest=>
          obtain ⟨rfl,⟨y3,v3⟩,bb⟩:=hcut;clear j9 ff ct;have C5:=ag v3;have yA:=ag bb;clear v3 bb
          go_upto_if 126 with fail
          go_cut [12] (fun s12 w'=>s12 = .pointer (some ⟨gk,0,none⟩)/\(∃y,Vl w' gk y (dG m n p.a p.b i j))/\Below wk.heap.size wk w')
          case first=>
           by_cases hje:j=n+i
           ·have hji:(j:Int)=(n:Int)+(i:Int):=by omega
            have hjb:((j:Int) == (n:Int)+(i:Int))=true:=by simpa using hji
            have EP:=ag hje;clear hji hje;go_wp2_with fail;refine (dS wc 1 (by omega) (by omega)).mono ?_
            rintro e w9 ⟨y4,rfl,ey2,bb⟩;have hfa:=C5.o.fa.below bb;have t:=hfa.bk;obtain ⟨k0,k1,k2,ax,aF,aG,_,_⟩:=t;have b9:=qc yA.o bb;clear bb;go_wp2_with fail;go_meet
            case rel=>exact ⟨rfl,⟨y4,hfa.put ey2.ok,by rw [org_one hlt EP.o];exact ey2.rp⟩,aR b9 (Nat.le_of_eq nj.o)⟩
           ·have hji:¬(j:Int)=(n:Int)+(i:Int):=by omega
            have hjb:((j:Int) == (n:Int)+(i:Int))=false:=by simpa using hji
            clear hji;go_wp2_with fail;go_meet
            case rel=>exact ⟨rfl,⟨y3,by rw [org_other (by have:=c7.o;omega) hje,C8.o,Fb.o];exact C5.o⟩,yA.o⟩
          case rest=>
           obtain ⟨rfl,⟨y4,v4⟩,bb⟩:=hcut;clear C5 yA;have xr5:=l7.o.below bb;have b6:Below w6.heap.size w6 wc:=qc cF.o bb;have Io:Hd (∀g,A.map (·.block)=some g->w6.heap.size<=g):=ag (fun g e=>(xr5.lt e).1);have Gy:=ag v4.el;have h6:=b6.size;have k0:=v4.c0;have k1:=v4.c1;have k2:=v4.c2;clear bb v4;go_wp2_with (at_builtin;refine wpList_append_xr _ rfl _ _ rfl rfl (A:=A) (c:=c3) (n:=j) (vs:=vs) rfl cw.o.symm (xr5.below ((ah _ _).alloc (Nat.le_refl _) _)) _ 1 y4 rfl (yP _ y4) (Gy.o.ok.below ((ah _ _).alloc (Nat.le_refl _) _)) (by omega) (by simp;omega) ?_;intro A4 c4 wz xr6 kk hat)
           have blit:=qb wc (.cells #[.bool y4.b, .slice y4.A y4.xs.length y4.c, .slice y4.D y4.ys.length y4.d] 29);have b7:=qc b6 blit;go_roundw
           case rel=>exact ⟨j+1,A4,c4,vs ++ [y4],by omega,by go_num,by simp,by rw [List.length_append,cw.o,List.length_singleton],(fun k hk=>by
            rcases Nat.lt_or_ge k vs.length with h|h
            ·rw [List.getElem_append_left h];exact nC.o k h
            ·have hk2:k=vs.length:=by rw [List.length_append,List.length_singleton] at hk;omega
             subst hk2;rw [List.getElem_append_right (Nat.le_refl _)];simp only [Nat.sub_self,List.getElem_cons_zero];rw [cw.o];exact Gy.o.rp),xr6,b7.trans (kk.below (B:=w6.heap.size) Io.o b7.size)⟩
           case measure=>simp [intOf];omega
--D}
      ·obtain rfl:N=j:=by omega
       obtain ⟨i3,si,si0,si1,si2⟩:=info_parts jt;have hgn:=xr3.fr.adr0 (by have:=c7.o;omega)
       obtain ⟨gn,rfl⟩:=hgn;have cw:=ag hvl;have Fu:Hd (∀k (hk:k<vs.length),Rp vs[k] (tabT m n (dG m n p.a p.b) i i k)):=ag (fun k hk=>by rw [tabT,if_neg (by omega)];exact hrp k hk)
       have r5:Hd (g m<gn):=ag (by
        have h1:=Ed.o.bd (a:=g m) (.inr (.inr (.inr (.inr ⟨m, .inr rfl,rfl⟩))));have h2:w6.heap.size<=gn:=(xr3.lt rfl).1;omega)
       have Fv:Hd (¬Rgo G m i g A1 gb gt gn):=ag (fun hh=>by
        have h1:=Ed.o.bd hh;have h2:w6.heap.size<=gn:=(xr3.lt rfl).1;omega)
       have l7:=ag (xr3.more Bx.o.size);have pv:=ag (Ed.o.below bz);have cK:=ag (Gw.o.below bz);have bj:=ag (EO.o.below bz);have an:=ag (qc Bx.o bz);have ic:Hd (i<m):=ag hlt;obtain ⟨nb,hnb⟩:∃nb,n+i=nb:=⟨_,rfl⟩;have D6:=ag hnb;have hni:(n:Int)+(i:Int)=(nb:Int):=by omega
       have hwb:IntKind.i64.wrap (nb:Int)=(nb:Int):=IntWalk.i64_in _ (by omega)
       clear hvl hrp xr3 bz Ed Gw EO Bx hnb gW js hI B4 fc Au HZ B7;go_upto_region 28 with fail
       go_cut [] (fun wx=>∃(A4:Option Addr) (c4:Nat),Rg wx w.heap.size G N n m (i+1) (i+1) (i+1) (fun r=>if r=i then gn else g r) (fun r=>if r=i then c3 else c r) A4 c4 gb gt (tabT m n (dG m n p.a p.b) i) (fun k=>decide (p.b k<0))/\Zs wx g2/\Pb wx g1 p/\Below w.heap.size w wx)
       case first=>
        have rg:=pv.o.below (ah wr.heap.size wr).drew;have xr:=l7.o.below (ah wr.heap.size wr).drew;have zs:=cK.o.below (ah wr.heap.size wr).drew;have pb:=bj.o.below (ah wr.heap.size wr).drew;have bw:=ai an.o ((ah wr.heap.size wr).drew) an.o.size;have q:=rg.q;refine wp_region_held_drew (S:=fun w'=>w'.cell? ⟨G,2,none⟩=some (.slice (some ⟨gb,0,none⟩) m m)) (by kernel_rfl) q.c2 fun hH=>?_
        have bz:=(ah wr.heap.size wr).drew;generalize wr.drew=wd at *;refine qh 21 fun Ha=>?_
        refine qe Ha 0 (.pointer (some ⟨G,0,none⟩)) rfl ?_;refine qe Ha 1 (.pointer (some ⟨G,0,none⟩)) rfl ?_;refine qe Ha 2 (.pointer (some ⟨G,0,none⟩)) rfl ?_;refine qe Ha 3 (.pointer (some ⟨G,2,none⟩)) rfl ?_;simp only [tz];refine qe Ha 4 (.slice (some ⟨gb,0,none⟩) m m) rfl ?_;refine qe Ha 5 (.int .i64 (i:Int)) rfl ?_;refine qe Ha 6 (.pointer (some ⟨G,0,none⟩)) rfl ?_;refine qe Ha 7 (.pointer (some ⟨G,0,none⟩)) rfl ?_;simp only [tz];refine qe Ha 8 (.pointer (some ⟨G,0,none⟩)) rfl ?_
        refine qe Ha 10 (.slice (some ⟨gn,0,none⟩) N c3) rfl ?_;refine qe Ha 13 (.int .i64 (n:Int)) rfl ?_;refine qe Ha 14 (.int .i64 (i:Int)) rfl ?_;simp only [tz];refine tks Ha 15 (.int .i64 (nb:Int)) rfl ?_;simp only [tz];refine wpAnyH_ready (rs := [9,11]) (tkn Ha (by kernel_rfl)) (by simp) ?_
        refine AllReadyH.cons rfl (fun K hK=>?_) ?_
        ·have k0:=q.c0;go_simp;clear k0;refine hK.out _ _ q.c2 fun hH=>?_;clear hK K;try simp only [tz]
         refine tk1 Ha 11 rfl fun K hK=>?_;go_simp;have lit:Rd (rowP N) _ (some ⟨wd.heap.size,0,none⟩) [(gn,c3)]:=Rd.one_ wd 22 (gn,c3) (.slice (some ⟨gn,0,none⟩) N c3) rfl;have bb:=qb wd (.cells #[.slice (some ⟨gn,0,none⟩) N c3] 22);replace rg:=rg.below bb;replace xr:=xr.below bb;replace zs:=zs.below bb;replace pb:=pb.below bb;replace bw:=qc bw bb;replace q:=rg.q;clear bb hH;generalize wd.heap.size=g143 at lit|-;generalize (wd.alloc (.cells #[.slice (some ⟨gn,0,none⟩) N c3] 22))=wd at *;refine hK.out _ _ q.c2 fun hH=>?_;clear hK K;try simp only [tz]
         refine tk1 Ha 12 rfl fun K hK=>?_;have ho:=rg.out;obtain ⟨rs,gr0,hrs,hre⟩:=ho;refine bE wd (mk:=rowP N) (fun _=>rfl) (fun _=>rfl) rfl _ _ 23 rfl 22 i3 (.slice none 0 0) 24 underlying23 si si0 si1 si2 rfl (by intro u hu;simp [Value.cells] at hu;subst hu;rfl) rfl hrs.symm gr0 rg.n1 ⟨g143,0,none⟩ 1 1 [(gn,c3)] rfl rfl lit (by simp) (by simp only [maxLen];omega) (by omega) bw.size ?_
         intro A4 c4 we h1 h2 h3 h4 h5;have kk:Kp (fun a=>A1.map (·.block)=some a) wd we:=ci h3 (fun k e=>e);have rg2:=rg.row (T':=tabT m n (dG m n p.a p.b) i) ic.o xr cw.o Fu.o (fun _ _ _ _=>rfl) r5.o Fv.o hrs hre h1 h2 kk h5;have d0:∀a,A1.map (·.block)=some a->g m<a:=fun a e=>(rg.o3 a e).1;have o1:=rg.o1;have hd:=sh.o;replace q:=q.kp kk (fun e=>by have:=d0 _ e;omega)
         replace zs:=zs.kp kk (fun e=>by have:=d0 _ e;omega)
         replace pb:=pb.kp kk (fun e=>by have:=d0 _ e;omega)
         replace bw:=bw.trans h4;clear rg xr lit h1 h2 h3 h4 h5 kk d0 gr0 hrs hre rs o1 hd hH;generalize we=wd at *;refine hK.out _ _ q.c2 fun hH=>?_;clear hK K;try simp only [tz]
         refine qe Ha 16 (.pointer (some ⟨G,0,none⟩)) rfl ?_;refine tks Ha 17 (.pointer (some ⟨G,0,none⟩)) rfl ?_;simp only [tz];refine tk1 Ha 18 rfl fun K hK=>?_;have k0:=q.c0;have ax:=q.fz 0;go_simp;clear k0 ax hH;have kG:=rM wd G 0 (.slice A4 (i+1) c4);have o1:=rg2.o1;have hd:=sh.o;replace zs:=zs.kp kG (by omega)
         replace pb:=pb.kp kG (by omega)
         replace bw:=bw.trans (kG.below (B:=w.heap.size) (fun a e=>by have:=dn.o;omega) bw.size)
         clear q kG o1 hd;generalize (wd.setCell ⟨G,0,none⟩ (.slice A4 (i+1) c4))=wd at *;have q:=rg2.q;refine hK.out _ _ q.c2 fun hH=>?_;clear hK K;try simp only [tz]
         refine tk1 Ha 19 rfl fun K hK=>?_;go_simp;refine hK.out _ _ q.c2 fun hH=>?_;clear hK K;try simp only [tz]
         refine tk1 Ha 20 rfl fun K hK=>?_;have hb:=rg2.ba;obtain ⟨bs,b1,b2,b3⟩:=hb;have k0:=b1.cell i (by omega)
         have ax:=b1.free i;go_simp;clear k0 ax b1 b2 b3;have rg3:=rg2.bas;rw [D6.o] at rg3;have o1:=rg2.o1;have hd:=sh.o;replace zs:=zs.kp rg3.2 (by omega)
         replace pb:=pb.kp rg3.2 (by omega)
         replace bw:=bw.trans (rg3.2.below (B:=w.heap.size) (fun a e=>by have:=dn.o;omega) bw.size)
         have rg4:=rg3.1;clear rg2 rg3 o1 hd q hH;generalize (wd.setCell ⟨gb,i,none⟩ (.int .i64 (nb:Int)))=wd at *;have q:=rg4.q;refine hK.out _ _ q.c2 fun hH=>?_;clear hK K;try simp only [tz]
         refine qp Ha ?_
         go_wp2_with fail;go_meet
         case rel=>exact ⟨A4,c4,rg4,zs,pb,bw⟩
        refine AllReadyH.cons rfl (fun K hK=>?_) ?_
        ·go_simp;have lit:Rd (rowP N) _ (some ⟨wd.heap.size,0,none⟩) [(gn,c3)]:=Rd.one_ wd 22 (gn,c3) (.slice (some ⟨gn,0,none⟩) N c3) rfl;have bb:=qb wd (.cells #[.slice (some ⟨gn,0,none⟩) N c3] 22);replace rg:=rg.below bb;replace xr:=xr.below bb;replace zs:=zs.below bb;replace pb:=pb.below bb;replace bw:=qc bw bb;replace q:=rg.q;clear bb hH;generalize wd.heap.size=g143 at lit|-;generalize (wd.alloc (.cells #[.slice (some ⟨gn,0,none⟩) N c3] 22))=wd at *;refine hK.out _ _ q.c2 fun hH=>?_;clear hK K;try simp only [tz]
         refine tk1 Ha 9 rfl fun K hK=>?_;have k0:=q.c0;go_simp;clear k0;refine hK.out _ _ q.c2 fun hH=>?_;clear hK K;try simp only [tz]
         refine tk1 Ha 12 rfl fun K hK=>?_;have ho:=rg.out;obtain ⟨rs,gr0,hrs,hre⟩:=ho;refine bE wd (mk:=rowP N) (fun _=>rfl) (fun _=>rfl) rfl _ _ 23 rfl 22 i3 (.slice none 0 0) 24 underlying23 si si0 si1 si2 rfl (by intro u hu;simp [Value.cells] at hu;subst hu;rfl) rfl hrs.symm gr0 rg.n1 ⟨g143,0,none⟩ 1 1 [(gn,c3)] rfl rfl lit (by simp) (by simp only [maxLen];omega) (by omega) bw.size ?_
         intro A4 c4 we h1 h2 h3 h4 h5;have kk:Kp (fun a=>A1.map (·.block)=some a) wd we:=ci h3 (fun k e=>e);have rg2:=rg.row (T':=tabT m n (dG m n p.a p.b) i) ic.o xr cw.o Fu.o (fun _ _ _ _=>rfl) r5.o Fv.o hrs hre h1 h2 kk h5;have d0:∀a,A1.map (·.block)=some a->g m<a:=fun a e=>(rg.o3 a e).1;have o1:=rg.o1;have hd:=sh.o;replace q:=q.kp kk (fun e=>by have:=d0 _ e;omega)
         replace zs:=zs.kp kk (fun e=>by have:=d0 _ e;omega)
         replace pb:=pb.kp kk (fun e=>by have:=d0 _ e;omega)
         replace bw:=bw.trans h4;clear rg xr lit h1 h2 h3 h4 h5 kk d0 gr0 hrs hre rs o1 hd hH;generalize we=wd at *;refine hK.out _ _ q.c2 fun hH=>?_;clear hK K;try simp only [tz]
         refine qe Ha 16 (.pointer (some ⟨G,0,none⟩)) rfl ?_;refine tks Ha 17 (.pointer (some ⟨G,0,none⟩)) rfl ?_;simp only [tz];refine tk1 Ha 18 rfl fun K hK=>?_;have k0:=q.c0;have ax:=q.fz 0;go_simp;clear k0 ax hH;have kG:=rM wd G 0 (.slice A4 (i+1) c4);have o1:=rg2.o1;have hd:=sh.o;replace zs:=zs.kp kG (by omega)
         replace pb:=pb.kp kG (by omega)
         replace bw:=bw.trans (kG.below (B:=w.heap.size) (fun a e=>by have:=dn.o;omega) bw.size)
         clear q kG o1 hd;generalize (wd.setCell ⟨G,0,none⟩ (.slice A4 (i+1) c4))=wd at *;have q:=rg2.q;refine hK.out _ _ q.c2 fun hH=>?_;clear hK K;try simp only [tz]
         refine tk1 Ha 19 rfl fun K hK=>?_;go_simp;refine hK.out _ _ q.c2 fun hH=>?_;clear hK K;try simp only [tz]
         refine tk1 Ha 20 rfl fun K hK=>?_;have hb:=rg2.ba;obtain ⟨bs,b1,b2,b3⟩:=hb;have k0:=b1.cell i (by omega)
         have ax:=b1.free i;go_simp;clear k0 ax b1 b2 b3;have rg3:=rg2.bas;rw [D6.o] at rg3;have o1:=rg2.o1;have hd:=sh.o;replace zs:=zs.kp rg3.2 (by omega)
         replace pb:=pb.kp rg3.2 (by omega)
         replace bw:=bw.trans (rg3.2.below (B:=w.heap.size) (fun a e=>by have:=dn.o;omega) bw.size)
         have rg4:=rg3.1;clear rg2 rg3 o1 hd q hH;generalize (wd.setCell ⟨gb,i,none⟩ (.int .i64 (nb:Int)))=wd at *;have q:=rg4.q;refine hK.out _ _ q.c2 fun hH=>?_;clear hK K;try simp only [tz]
         refine qp Ha ?_
         go_wp2_with fail;go_meet
         case rel=>exact ⟨A4,c4,rg4,zs,pb,bw⟩
        exact AllReadyH.nil
       case rest=>
        obtain ⟨A4,c4,rg4,zs,pb,bw⟩:=hcut;generalize wc=wd at *;go_wp2_with fail;obtain ⟨gx,hgx⟩:∃gx,(fun r=>if r=i then gn else g r)=gx:=⟨_,rfl⟩
        obtain ⟨cx,hcx⟩:∃cx,(fun r=>if r=i then c3 else c r)=cx:=⟨_,rfl⟩
        have cu:Hd (gx i=gn):=ag (by rw [<-hgx];exact if_pos rfl)
        have zU:Hd (¬gx m=gn):=ag (by rw [<-hgx];show ¬(if m=i then gn else g m)=gn;rw [if_neg (by have:=ic.o;omega)];have:=r5.o;omega)
        rw [hgx,hcx] at rg4;have Gz:Hd (Rg wd w.heap.size G N n m (i+1) (i+1) (i+1) gx cx A4 c4 gb gt (lpT m n (dG m n p.a p.b) i 0) (fun k=>decide (p.b k<0))):=ag (by rw [lp_zero];exact rg4)
        have GA:=ag zs;have GB:=ag pb;have BB:=ag bw;clear rg4 zs pb bw hgx hcx hni hwb D6 cw Fu r5 Fv l7 pv cK bj an;go_loopw [13] (fun jv wr=>∃j:Nat,j<=N/\jv = .int .i64 j/\Rg wr w.heap.size G N n m (i+1) (i+1) (i+1) gx cx A4 c4 gb gt (lpT m n (dG m n p.a p.b) i j) (fun k=>decide (p.b k<0))/\Zs wr g2/\Pb wr g1 p/\Below w.heap.size w wr) (fun jv _=>N-(intOf jv).toNat)
        case atStart=>exact ⟨0,by omega,rfl,Gz.o,GA.o,GB.o,BB.o⟩
        case round=>
         clear Gz GA GB BB;obtain ⟨j,hj,rfl,rg,zs,pb,bw⟩:=hrel;by_cases hjN:j<N
         ·by_cases hc:j<n\/j=n+m
          ·have cK:=ag zs;have pv:=ag rg;have bj:=ag pb;have an:=ag bw;obtain ⟨gm,hgm⟩:∃a,gx m=a:=⟨_,rfl⟩;have hec:=rg.mc.el (i:=m) (.inr rfl) hjN;have hee:=rg.mc.el (i:=i) (.inl (by omega)) hjN
           rw [hgm,lp_cost] at hec;rw [cu.o,lp_row ic.o] at hee;obtain ⟨xc,ec⟩:=hec;obtain ⟨xe,ee⟩:=hee;have gC:=ag ec;have Eb:=ag ee;have dc:=ag hgm;have hjm:j<=n+m:=by have:=c7.o;omega
           have m7:Hd (Sz (cstT m n (dG m n p.a p.b) i j) 128 128):=ag (cst_sz HW.o (by omega) hjm).up
           have gu:Hd (Sz (dG m n p.a p.b i j) 128 128):=ag (org_sz HW.o ic.o hjm).up;have oa:Hd (Sz (cstT m n (dG m n p.a p.b) i j-dG m n p.a p.b i j) 128 128):=ag (by rw [<-cst_next hc];exact (cst_sz HW.o (by omega) hjm).up)
           have Iq:Hd (oE (lpT m n (dG m n p.a p.b) i j) m j (cstT m n (dG m n p.a p.b) i j-dG m n p.a p.b i j)=lpT m n (dG m n p.a p.b) i (j+1)):=ag (lp_upd hc);clear rg zs pb bw hgm ec ee hjm;go_upto_region 32 with fail
           go_cut [168] (fun v wx=>v = .bool true/\wx=wr)
           case first=>
            rcases hc with h|h
            ·have q1:decide ((j:Int)<(n:Int))=true:=decide_eq_true (by omega)
             go_wp2_with fail;go_meet
             case rel=>exact ⟨rfl,rfl⟩
            ·have q1:decide ((j:Int)<(n:Int))=false:=decide_eq_false (by omega)
             have hji:(j:Int)=(n:Int)+(m:Int):=by omega
             have hjb:((j:Int) == (n:Int)+(m:Int))=true:=by simpa using hji
             have hnj:n<=j:=by omega
             clear hji h;go_wp2_with fail;go_meet
             case rel=>exact ⟨rfl,rfl⟩
           case rest=>
            obtain ⟨rfl,hwx⟩:=hcut;obtain rfl:wr=wc:=hwx.symm;go_upto_region 33 with fail;have rg:=pv.o.below (ah wr.heap.size wr).drew;have zs:=cK.o.below (ah wr.heap.size wr).drew;have pb:=bj.o.below (ah wr.heap.size wr).drew;have bw:=ai an.o ((ah wr.heap.size wr).drew) an.o.size;have ec:=gC.o.below (ah wr.heap.size wr).drew;have ee:=Eb.o.below (ah wr.heap.size wr).drew;have q:=rg.q;rw [dc.o] at q;refine wp_region_held_drew (S:=fun w'=>w'.cell? ⟨G,1,none⟩=some (.slice (some ⟨gm,0,none⟩) N (cx m))/\w'.cell? ⟨gn,j*3,none⟩=some (.bool xe.b)/\w'.cell? ⟨gn,j*3+1,none⟩=some (.slice xe.A xe.xs.length xe.c)/\w'.cell? ⟨gn,j*3+2,none⟩=some (.slice xe.D xe.ys.length xe.d)) (by kernel_rfl) ⟨q.c1,ee.c0,ee.c1,ee.c2⟩ fun hH=>?_
            have bz:=(ah wr.heap.size wr).drew;generalize wr.drew=wd at *;refine qh 22 fun Ha=>?_
            refine qe Ha 0 (.pointer (some ⟨G,0,none⟩)) rfl ?_;refine qe Ha 1 (.pointer (some ⟨G,0,none⟩)) rfl ?_;refine qe Ha 2 (.pointer (some ⟨G,1,none⟩)) rfl ?_;refine qe Ha 3 (.slice (some ⟨gm,0,none⟩) N (cx m)) rfl ?_;simp only [tz];refine qe Ha 4 (.int .i64 (j:Int)) rfl ?_;refine qe Ha 5 (.pointer (some ⟨G,0,none⟩)) rfl ?_;refine qe Ha 6 (.pointer (some ⟨G,0,none⟩)) rfl ?_;refine qe Ha 7 (.pointer (some ⟨G,1,none⟩)) rfl ?_;simp only [tz];refine qe Ha 8 (.slice (some ⟨gm,0,none⟩) N (cx m)) rfl ?_
            refine qe Ha 9 (.int .i64 (j:Int)) rfl ?_;refine qe Ha 10 (.pointer (some ⟨gm,j*3,none⟩)) rfl ?_;refine qe Ha 12 (.slice (some ⟨gn,0,none⟩) N c3) rfl ?_;simp only [tz];refine qe Ha 13 (.int .i64 (j:Int)) rfl ?_;refine qe Ha 14 (.pointer (some ⟨gn,j*3,none⟩)) rfl ?_;refine tks Ha 15 (xe.val) rfl ?_;simp only [tz];refine tk1 Ha 11 rfl fun K hK=>?_;have k0:=ec.c0;have k1:=ec.c1;have k2:=ec.c2;go_simp;clear k0 k1 k2;refine hK.out _ _ ⟨q.c1,ee.c0,ee.c1,ee.c2⟩ fun hH=>?_;clear hK K;try simp only [tz]
            refine tk1 Ha 16 rfl fun K hK=>?_;go_simp;go_at_call 60;refine (r2sub_el wd xc xe _ _ ec.el ee.el m7.o gu.o oa.o).mono ?_;rintro e we ⟨x3,rfl,e3,bb⟩;replace rg:=rg.below bb;replace zs:=zs.below bb;replace pb:=pb.below bb;replace bw:=qc bw bb;replace ec:=ec.below bb;replace ee:=ee.below bb;replace q:=q.below bb;clear bb hH;generalize we=wd at *;refine hK.out _ _ ⟨q.c1,ee.c0,ee.c1,ee.c2⟩ fun hH=>?_;clear hK K;try simp only [tz]
            refine qe Ha 17 (.tuple #[x3.val, .int .i64 0]) rfl ?_;refine qe Ha 18 (x3.val) rfl ?_;refine qe Ha 19 (.int .i64 0) rfl ?_;refine tks Ha 20 (.pointer (some ⟨gm,j*3,none⟩)) rfl ?_;simp only [tz];refine tk1 Ha 21 rfl fun K hK=>?_;have k0:=ec.c0;have k1:=ec.c1;have k2:=ec.c2;have ax:=ec.f0;have aF:=ec.f1;have aG:=ec.f2;go_simp;clear k0 k1 k2 ax aF aG;have t6:=rg.cost ic.o (k:=j) e3;rw [dc.o] at t6;have o1:=rg.o1;rw [dc.o] at o1;have hd:=sh.o;replace zs:=zs.kp t6.2 (by omega)
            replace pb:=pb.kp t6.2 (by omega)
            replace bw:=bw.trans (t6.2.below (B:=w.heap.size) (fun a e=>by have:=dn.o;omega) bw.size)
            have rg2:=t6.1;rw [Iq.o] at rg2;have nly:=rg.mc.nl (i:=m) (.inr rfl);rw [dc.o] at nly;have ee2:=ee.kp t6.2 (fun a e=>by rw [e];exact nly) (by have h1:=zU.o;rw [dc.o] at h1;exact fun e=>h1 e.symm)
            clear rg t6 ec ee q e3 o1 hd nly hH;generalize (((wd.setCell ⟨gm,j*3,none⟩ (.bool x3.b)).setCell ⟨gm,j*3+1,none⟩ (.slice x3.A x3.xs.length x3.c)).setCell ⟨gm,j*3+2,none⟩ (.slice x3.D x3.ys.length x3.d))=wd at *;have ee:=ee2;have q:=rg2.q;rw [dc.o] at q;clear ee2;refine hK.out _ _ ⟨q.c1,ee.c0,ee.c1,ee.c2⟩ fun hH=>?_;clear hK K;try simp only [tz]
            refine qp Ha ?_
            go_wp2_with fail;go_roundw
            case rel=>exact ⟨j+1,by omega,by go_num,rg2,zs,pb,bw⟩
            case measure=>simp [intOf];omega
          ·have q1:decide ((j:Int)<(n:Int))=false:=decide_eq_false (by omega)
           have hji:¬(j:Int)=(n:Int)+(m:Int):=by omega
           have hjb:((j:Int) == (n:Int)+(m:Int))=false:=by simpa using hji
           clear hji;go_wp2_with fail;go_roundw
           case rel=>exact ⟨j+1,by omega,by go_num,by rw [<-lp_skip hc];exact rg,zs,pb,bw⟩
           case measure=>simp [intOf];omega
         ·obtain rfl:N=j:=by omega
          go_wp2_with fail;go_roundw
          case rel=>exact ⟨i+1,by omega,by go_num,gx,cx,A4,c4,by have:=c7.o;rw [<-lp_end (j:=N) (by omega)];exact rg,zs,pb,bw⟩
          case measure=>simp [intOf];omega
--D}
    ·obtain rfl:m=i:=by omega
     have ht:=rg.rtz c7.o r6.o;obtain ⟨L,t0,hst,hsb⟩:=ht;have HX:Hd (Hx w wr p g1 g2 gt L G n m N (extT m (n+m) (bZ n) (DM m n p.a p.b))):=ag ⟨t0,rg.tn,zs,pb,bw,hst,fun a ha=>by
      have h1:=hsb a ha;have h2:=sh.o;have h3:=dn.o;exact ⟨by omega,by omega,by omega⟩⟩
     clear rg zs pb bw t0 hst hsb
     iterate 22 (first|go_values|go_skip|go_guarded|go_step|go_upon|go_back | (simp only [Int.not_lt,Int.not_le] at *;go_simp))
     exact r16mid w wr p n m N G gt g1 g2 L HO br bK HN HW hnl hml c7 hNl hNw lT HX undef rfl _ _ _ _ _ _ _ _ _ _ _ _ _ _ _ _ _ _ _ _ _ _ _ _ _ _ _ _ _ _ _ _ _ _ _ _ _ _ _ _ _ _ _ _ _ _ _ _ _ _ _ _ _ _ _ _ _ _ _ _ _ _ _ _ _ _ _ _ _ _ _ _ _ _ _ _ _ _ _ _ _ _ _ _ _ _ _ _ _ _ _ _ _ _ _ _ _ _ _ _ _ _ _ _ _ _ _ _ _ _ _ _ _ _ _ _ _ _ _ _ _ _ _ _ _ _ _ _ _ _ _ _ _ _ _ _ _ _ _ _ _ _ _ _ _ _ _ _ _ _ _ _ _ _ _ _ _ _ _ _ _ _ _ _ _ _ _
end Go.Proofs.YtkpfbekmaafehaaGreat
