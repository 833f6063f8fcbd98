/- The walk of drydockref16.Solve (in work). -/
import Derived.Test.YtkpfbekmaafehaaGreatSxD
import Derived.Test.YtkpfbekmaafehaaGreatSxF
import Derived.Test.YtkpfbekmaafehaaGreatSxM
import Derived.Test.YtkpfbekmaafehaaGreatSqN
import Derived.Test.YtkpfbekmaafehaaGreatSxC
namespace Go.Proofs.YtkpfbekmaafehaaGreat
open _root_.Go.Proofs.Tryz
set_option maxHeartbeats 40000000
set_option maxRecDepth 100000
open Go.RowKit
theorem r16solve_any (w:World) (p:Pg) (h:p.ok w) (sm:p.sm) (vd:p.vd) :
 Calls prog 23 #[p.val] w fun e w'=>∃s:Sn,e = .returned (.tuple #[s.val, .int .i64 0])/\SolS w' w.heap.size p.rows.length p.cost.vs.length p.a p.b p.c s/\SolA s/\Below w.heap.size w w':=by
 have HO:=ag h;have bt:=ag sm;have bN:=ag vd;have HW:=ag vd.wgt;obtain ⟨n,hn⟩:∃n,p.cost.vs.length=n:=⟨_,rfl⟩;obtain ⟨m,hm⟩:∃m,p.rows.length=m:=⟨_,rfl⟩;have hnl:n<=256:=by rw [<-hn];exact vd.c2
 have hml:m<=32:=by rw [<-hm];exact vd.r2
 have HN:=ag hn;have HM:=ag hm;have rz:Hd (1<=m):=ag (by rw [<-hm];exact vd.r1)
 obtain ⟨i1,hi,hi0,hi1,hi2⟩:=info_parts tM;obtain ⟨i2,ji,ji0,ji1,ji2⟩:=info_parts yi;rw [hm,hn] at HW|-;clear h sm vd hn hm;go_enter func23,ntmps23;go_upto_region 1 with fail;have pb:=(aY w p 25).1;have bw:=(aY w p 25).2;have hsz:=iV w p 25;generalize (w.alloc (.cells #[.slice p.cost.A p.cost.vs.length p.cost.c, .slice p.rA p.rows.length p.rc, .slice p.right.A p.right.vs.length p.right.c] 25))=wm at pb bw hsz|-;have zs:=oC wm 31;have bb:=qc wm (.cells #[.int .i64 0, .slice none 0 0, .slice none 0 0, .slice none 0 0, .bool false, .slice none 0 0, .slice none 0 0] 31)
 rw [hsz] at zs;replace pb:=pb.below bb;replace bw:=qd bw bb;clear bb hsz;generalize (wm.alloc (.cells #[.int .i64 0, .slice none 0 0, .slice none 0 0, .slice none 0 0, .bool false, .slice none 0 0, .slice none 0 0] 31))=wb at *;obtain ⟨g1,hg1⟩:∃g,w.heap.size=g:=⟨_,rfl⟩;obtain ⟨g2,hG⟩:∃g,w.heap.size+1=g:=⟨_,rfl⟩;have pb1:Pb wb g1 p:=by rw [<-hg1];exact pb
 rw [hG] at zs;have fl:Hd (w.heap.size<=g1):=ag (Nat.le_of_eq hg1);have ip:Hd (w.heap.size<=g2):=ag (by omega)
 have FK:Hd (¬g1=g2):=ag (by omega)
 rw [hG,hg1];clear hG hg1 pb;have c0:=pb1.c0;have c1:=pb1.c1;have c2:=pb1.c2;go_wp2_with fail;refine (kD wb p true (HO.o.below bw) bt.o (Iff.intro (fun _=>bN.o) (fun _=>rfl))).mono ?_;rintro e w1 ⟨rfl,bb⟩;replace zs:=zs.below bb;replace pb1:=pb1.below bb;replace bw:=qd bw bb;clear bb c0 c1 c2;have c0:w1.cell? ⟨g1,0,none⟩=some (.slice p.cost.A n p.cost.c):=by rw [<-HN.o];exact pb1.c0
 have c1:w1.cell? ⟨g1,1,none⟩=some (.slice p.rA m p.rc):=by rw [<-HM.o];exact pb1.c1
 go_upto_region 3 with fail;go_region;have bd:Below w1.heap.size w1 w1.drew:=(ah _ _).drew;replace zs:=zs.below bd;replace pb1:=pb1.below bd;replace bw:=qd bw bd;clear bd c0 c1;generalize w1.drew=wr at *;have nH:Hd (g1<wr.heap.size/\g2<wr.heap.size):=ag ⟨pb1.lt,zs.lt⟩;go_upto_region 4 with fail;go_upto_region 5 with (refine bp wr (mk:=iv) 0 rfl _ _ 82 rfl 3 i1 8 underlying82 hi hi0 hi1 hi2 rfl .i64 .i64 _ _ m rfl rfl (by omega) (by omega) (by omega) (by simp only [maxLen];omega) ?_;intro w2 hg2 hb2 hs2)
 have mt:=ag (zs.below hb2);have wu:=ag (pb1.below hb2);have jn:=ag (qd bw hb2);have hs1:=jn.o.size;have ix:=ag hg2;have q3:=q4_alloc w2 (.slice none 0 0) (.slice none 0 0) (.slice (some ⟨wr.heap.size,0,none⟩) m m) (.int .i64 (n:Int)) 94 rfl rfl rfl rfl;have bb:=qc w2 (.cells #[.slice none 0 0, .slice none 0 0, .slice (some ⟨wr.heap.size,0,none⟩) m m, .int .i64 (n:Int)] 94);replace mt:=ag (mt.o.below bb);replace wu:=ag (wu.o.below bb);replace jn:=ag (qd jn.o bb);replace ix:=ag (ix.o.below bb);clear hg2 hb2 bb zs pb1 bw hs1
 generalize (w2.alloc (.cells #[.slice none 0 0, .slice none 0 0, .slice (some ⟨wr.heap.size,0,none⟩) m m, .int .i64 (n:Int)] 94))=w3 at *;obtain ⟨gb,hgb⟩:∃g,wr.heap.size=g:=⟨_,rfl⟩;obtain ⟨G,hGG⟩:∃g,w2.heap.size=g:=⟨_,rfl⟩;rw [hgb] at q3 ix nH hs2;rw [hgb,hGG];rw [hGG] at q3 hs2;have BB:Hd (gb<G):=ag hs2;have dn:Hd (w.heap.size<=gb):=ag (by have:=nH.o;have:=fl.o;omega)
 clear hgb hGG hs2;go_upto_region 6 with (refine bp w3 (mk:=Value.bool) false rfl _ _ 83 rfl 4 i2 1 underlying83 ji ji0 ji1 ji2 rfl .i64 .i64 _ _ m rfl rfl (by omega) (by omega) (by omega) (by simp only [maxLen];omega) ?_;intro w4 hg4 hb4 hs4)
 obtain ⟨gt,hgt⟩:∃g,w3.heap.size=g:=⟨_,rfl⟩;have wR:Hd (G<gt/\gt<w4.heap.size):=ag ⟨by rw [<-hgt];exact q3.lt,by rw [<-hgt];exact hs4⟩
 rw [hgt] at hg4;rw [hgt];replace mt:=ag (mt.o.below hb4);replace wu:=ag (wu.o.below hb4);replace jn:=ag (qd jn.o hb4);replace ix:=ag (ix.o.below hb4);have q4:=q3.below hb4;have gC:=ag hg4;have tE:Hd (G<w4.heap.size):=ag q4.lt;clear hgt hg4 hb4 hs4 q3;obtain ⟨N,hNV⟩:∃N,N=n+m+1:=⟨_,rfl⟩;have cq:=ag hNV;have hNl:N<=1000:=by omega
 have hNw:((n:Int)+(m:Int))+1=(N:Int):=by omega
 clear hNV;go_wp2_with fail;go_loopw [8] (fun iv wr=>∃(k:Nat) (A:Option Addr) (c:Nat) (vs:List Fx),k<=N/\iv = .int .i64 k/\vs.length=k/\(∀v∈vs,Rp v 0)/\Xr wr w4.heap.size A c vs/\Q4 wr G (.slice none 0 0) (.slice A k c) (.slice (some ⟨gb,0,none⟩) m m) (.int .i64 (n:Int))/\Kp (fun a=>a=G) w4 wr) (fun iv _=>N-(intOf iv).toNat)
 case atStart=>exact ⟨0,none,0,[],by omega,rfl,rfl,(fun v h=>absurd h (by simp)),Xr.nil _ _,q4,Kp.refl _ _⟩
 case round=>
  clear q4;obtain ⟨k,A,c,vs,hk,rfl,hvl,hrp,xr,q,kp⟩:=hrel;by_cases hlt:k<N
  ·
--D{
   have cC:=ag hvl;have lP:=ag hrp;have lv:=ag xr;have HQ:=ag q;have ax:=ag kp;clear hvl hrp xr q kp;go_upto_region 9 with fail;have q:=HQ.o.below (ah wr.heap.size wr).drew;have xr:=lv.o.below (ah wr.heap.size wr).drew;have kp:=ax.o.then (ah wr.heap.size wr).drew
   refine qm (S:=fun w'=>w'.cell? ⟨G,1,none⟩=some (.slice A k c)) 10 11 q.c1 fun Ha hH=>?_
   generalize wr.drew=wd at *;refine mY Ha 0 (.pointer (some ⟨G,0,none⟩)) rfl ?_;simp only [tz];refine mY Ha 1 (.pointer (some ⟨G,0,none⟩)) rfl ?_;simp only [tz];refine mY Ha 2 (.pointer (some ⟨G,0,none⟩)) rfl ?_;simp only [tz];refine mY Ha 3 (.pointer (some ⟨G,1,none⟩)) rfl ?_;simp only [tz];refine mY Ha 4 (.slice A k c) rfl ?_;simp only [tz];refine qW Ha 5 rfl fun K hK=>?_;go_simp;go_at_call 26;refine (iT wd).mono ?_;rintro e we ⟨y,rfl,ey,bb⟩;replace q:=q.below bb;replace xr:=xr.below bb;replace kp:=kp.then bb
   clear bb hH;generalize we=wd at *;refine hK.out _ _ q.c1 fun hH=>?_;clear hK K;try simp only [tz]
   refine qW Ha 6 rfl fun K hK=>?_;go_simp;have lit:=j3 ey.ok;have bb:=(au ey.ok).2;replace ey:=ey.below bb;replace q:=q.below bb;replace xr:=xr.below bb;replace kp:=kp.then bb
   clear bb hH;generalize wd.heap.size=g59 at lit|-;generalize (wd.alloc (.cells #[.bool y.b, .slice y.A y.xs.length y.c, .slice y.D y.ys.length y.d] 29))=wd at *;refine hK.out _ _ q.c1 fun hH=>?_;clear hK K;try simp only [tz]
   refine qW Ha 7 rfl fun K hK=>?_;have hsz:=kp.size;refine step_append_xr wd rfl _ _ rfl rfl rfl cC.o.symm xr ⟨g59,0,none⟩ 1 y rfl lit ey.ok (by omega) hsz ?_
   intro A4 c4 we x4 kk hat;have hl:∀g,A.map (·.block)=some g->w4.heap.size<=g:=fun g e=>(xr.lt e).1;have hG:=tE.o;replace q:=q.kp kk (fun e=>by have:=hl _ e;omega)
   replace kp:=kp.newer kk (fun a e=>hl a e);have ry:=ey.rp;clear xr kk hat lit ey hH hsz;generalize we=wd at *;refine hK.out _ _ q.c1 fun hH=>?_;clear hK K;try simp only [tz]
   refine mY Ha 8 (.pointer (some ⟨G,0,none⟩)) rfl ?_;simp only [tz];refine mY Ha 9 (.pointer (some ⟨G,1,none⟩)) rfl ?_;simp only [tz];refine Bh Ha 10 rfl fun K hK=>?_;have k0:=q.c1;have aF:=q.fz 1;go_simp;clear k0 aF;have hG:=tE.o;have kG:=rM wd G 1 (.slice A4 (k+1) c4);have nG:∀a,a=G->NL wd a:=fun a e=>by rw [e];exact q.nl
   replace x4:=x4.kp kG nG (fun g hg e=>by have:=(x4.lt hg).1;omega)
   replace kp:=kp.trans kG;have q2:=q.set1 (u := .slice A4 (k+1) c4) rfl;clear q kG nG hH;generalize (wd.setCell ⟨G,1,none⟩ (.slice A4 (k+1) c4))=wd at *;refine hK.out _ _ ?_;clear hK K;try simp only [tz]
   refine q5 Ha ?_
   go_wp2_with fail;go_roundw
   case rel=>exact ⟨k+1,A4,c4,vs ++ [y],by omega,by go_num,by rw [List.length_append,cC.o,List.length_singleton],(fun v hv=>by
    rcases List.mem_append.1 hv with h|h
    ·exact lP.o v h
    ·rw [List.mem_singleton] at h;rw [h];exact ry),x4,q2,kp⟩
   case measure=>simp [intOf];omega
--D}
  ·obtain rfl:N=k:=by omega
   have hA:=xr.fr.adr0 (by have:=cq.o;omega)
   obtain ⟨gc,rfl⟩:=hA;have hgc:w4.heap.size<=gc:=(xr.lt rfl).1;have hk2:=wR.o;have hk1:=BB.o;have hk3:=nH.o;have hB4:=jn.o.size;have hst:Sr2 w wr p g1 g2 G N n m gb gt 0 (fun k=>decide (p.b k<0)) (dG m n p.a p.b):=by
    have hB:Below w.heap.size w wr:=jn.o.trans (kp.below (B:=w.heap.size) (fun a e=>by have:=dn.o;omega) hB4)
    have i4:=(ix.o.more (B':=w.heap.size) (fun ad e=>by injection e with e;subst e;exact dn.o))
    have t4:=(gC.o.more (B':=w.heap.size) (fun ad e=>by injection e with e;subst e;show w.heap.size<=gt;have:=dn.o;omega))
    have ni:=(gr_nl (fun _=>rfl) i4 (by simp)).kp kp (by omega)
    have nt:=(gr_nl (fun _=>rfl) t4 (by simp)).kp kp (by omega)
    exact ⟨_,_,_,_,Rg.start q (xr.more (by omega)) hvl hrp (kp.gr i4 (fun ad e=>by injection e with e;subst e;show ¬gb=G;omega)) (by simp) (kp.gr t4 (fun ad e=>by injection e with e;subst e;show ¬gt=G;omega)) (by simp) ni nt ⟨by omega,by omega,by omega⟩,mt.o.kp kp (by omega),wu.o.kp kp (by omega),hB⟩
   clear hvl hrp xr q kp hk1 hk2 hk3 hB4 hgc mt wu jn ix gC tE;go_wp2_with fail;go_loopw [9] (fun iv wr=>∃i:Nat,i<=m/\iv = .int .i64 i/\Sr2 w wr p g1 g2 G N n m gb gt i (fun k=>decide (p.b k<0)) (dG m n p.a p.b)) (fun iv _=>m-(intOf iv).toNat)
   case atStart=>exact ⟨0,by omega,rfl,hst⟩
   case round=>
    clear hst;obtain ⟨i,him,rfl,hst⟩:=hrel;obtain ⟨g,c,A1,c1,rg,zs,pb,bw⟩:=hst;by_cases hlt:i<m
    ·
--D{
     have hib:i<p.right.vs.length:=by rw [bN.o.lb,HM.o];exact hlt
     have mu:=ag rg;have cU:=ag zs;have bq:=ag pb;have aw:=ag bw;obtain ⟨ad,hra,ef⟩:=(HO.o.right.below bw).rd.at i hib;have fp:Hd (p.b i=p.right.vs[i].q):=ag (by rw [Pg.b,bC _ _ _ hib])
     have hmr:=List.getElem_mem hib;obtain ⟨xr,hxr⟩:∃x,p.right.vs[i]=x:=⟨_,rfl⟩;rw [hxr] at fp hmr;have ef0:Ef wr (ad.add (i*3)) xr:=by rw [<-hxr];exact ef
     have u4:Hd xr.v:=ag (bN.o.vb xr hmr);have i5:=ag (bt.o.eb xr hmr);have tc:=ag ((HO.o.right.below bw).el xr hmr);have fm:Hd (∀w',Below wr.heap.size wr w'->w'.cell? ⟨g1,2,none⟩=some (.slice (some ad) m p.right.c)):=ag (fun w' hb=>by
      have:=(bq.o.below hb).c2;rw [show p.right.val = .slice p.right.A p.right.vs.length p.right.c from rfl,hra,bN.o.lb,HM.o] at this;exact this)
     have gF:=ag ef0;have cc2:=fm.o wr (ah _ _);have e0:=ef0.c0;have e1:=ef0.c1;have e2:=ef0.c2;clear rg zs pb bw hra ef hmr hxr ef0;obtain ⟨z,hz⟩:∃z,bA xr.q 0=z:=⟨_,rfl⟩;have HZ:=ag hz;have u5:Hd (decide (p.b i<0)=decide (z<0)):=ag (by rw [fp.o,<-hz,xY])
     clear hz;go_wp2_with fail;refine (uM wr xr z tc.o u4.o i5.o.1 i5.o.2 HZ.o).mono ?_;rintro e w5 ⟨rfl,bb⟩;replace mu:=ag (mu.o.below bb);replace cU:=ag (cU.o.below bb);replace bq:=ag (bq.o.below bb);replace aw:=ag (qd aw.o bb);clear cc2 e0 e1 e2 bb;have hct:=mu.o.tu;obtain ⟨ts,t1,t2,t3⟩:=hct;have ct:=t1.cell i (by omega)
     have cf:=t1.free i;go_upto_region 14 with fail;have k6:=mu.o.turn u5.o;have hd:=nH.o;have hd2:=wR.o;have hd3:=BB.o;have zr:=ag k6.1;have EO:=ag (cU.o.kp k6.2 (by omega))
     have BL:=ag (bq.o.kp k6.2 (by omega))
     have BM:=ag (aw.o.trans (k6.2.below (B:=w.heap.size) (fun a e=>by have:=dn.o;omega) aw.o.size))
     clear k6 hd hd2 hd3 ct cf t1 t2 t3 mu cU bq aw;generalize (w5.setCell ⟨gt,i,none⟩ (.bool (decide (z<0))))=w6 at *;rw [<-u5.o] at *;go_wp2_with fail;go_loopw [10,11] (fun sv jv wr=>∃(j:Nat) (A:Option Addr) (c:Nat) (vs:List Fx),j<=N/\jv = .int .i64 j/\sv = .slice A j c/\vs.length=j/\(∀k (h:k<vs.length),Rp vs[k] (dG m n p.a p.b i k))/\Xr wr w6.heap.size A c vs/\Below w6.heap.size w6 wr) (fun _ jv _=>N-(intOf jv).toNat)
     case atStart=>exact ⟨0,none,0,[],by omega,rfl,rfl,rfl,(fun k h=>absurd h (by simp)),Xr.nil _ _,ah _ _⟩
     case round=>
      obtain ⟨j,A,c3,vs,hj,rfl,rfl,hvl,hrp,xr3,bz⟩:=hrel;by_cases hjN:j<N
      ·
--D{
       have cC:=ag hvl;have lP:=ag hrp;have lv:=ag xr3;have eS:=ag bz;clear hvl hrp xr3 bz;go_wp2_with fail;refine (iT wr).mono ?_;rintro e wk ⟨y,rfl,ey,bb⟩;replace lv:=ag (lv.o.below bb);replace eS:=ag (qd eS.o bb);clear bb;go_upto_region 19 with fail;have a12:=(au ey.ok).1;have bw:=(au ey.ok).2;have hy0:=ey.rp;clear ey;generalize (wk.alloc (.cells #[.bool y.b, .slice y.A y.xs.length y.c, .slice y.D y.ys.length y.d] 29))=wl at a12 bw|-;have C8:Hd (Below w.heap.size w wk):=ag (qd BM.o eS.o);have Ge:Hd (w.heap.size<=wk.heap.size):=ag C8.o.size;obtain ⟨gk,hgk⟩:∃g,wk.heap.size=g:=⟨_,rfl⟩
       have lo:=ag hgk;have C9:Hd (Vl wl gk y 0):=ag ⟨by rw [<-hgk];exact a12,hy0⟩
       have zu:=ag bw;rw [hgk];clear a12 hgk hy0 bw
       go_upto_if 89 with fail
       go_cut [12] (fun s12 w'=>s12 = .pointer (some ⟨gk,0,none⟩)/\(∃y,Vl w' gk y (if j<n then p.a i j else 0))/\Below wk.heap.size wk w')
       case first=>
        by_cases hjn:j<n
        ·have bwl:Below w.heap.size w wl:=qd C8.o zu.o;have okl:=HO.o.below bwl;have hir:i<p.rows.length:=by rw [HM.o];exact hlt
         obtain ⟨ad0,hra0,_,hc0⟩:=okl.rd (by omega)
         have hcj:=hc0 i hir;obtain ⟨s,hs⟩:∃s,p.rows[i]=s:=⟨_,rfl⟩;have hme:s∈p.rows:=by rw [<-hs];exact List.getElem_mem hir
         have hsl:s.vs.length=n:=by rw [<-HN.o];exact bN.o.la s hme
         rw [hs] at hcj;have hjs:j<s.vs.length:=by omega
         obtain ⟨ad2,had2,ef⟩:=(okl.rows s hme).rd.at j hjs;have hm2:=List.getElem_mem hjs;obtain ⟨xe,hxe⟩:∃x,s.vs[j]=x:=⟨_,rfl⟩;rw [hxe] at hm2;have ef0:Ef wl (ad2.add (j*3)) xe:=by rw [<-hxe];exact ef
         have HQ:Hd (p.a i j=xe.q):=ag (by rw [Pg.a,bC _ _ _ hir,hs,bC _ _ _ hjs,hxe])
         have fd:=ag ((okl.rows s hme).el xe hm2);have HV:=ag (bN.o.va s hme xe hm2);have HL:=ag (bt.o.ea s hme xe hm2);have cc1:wl.cell? ⟨g1,1,none⟩=some (.slice (some ad0) m p.rc):=by
          have:=((BL.o.below eS.o).below zu.o).c1;rw [hra0,HM.o] at this;exact this
         have cc2:wl.cell? (ad0.add i)=some (.slice (some ad2) n s.c):=by rw [<-had2,<-hsl];exact hcj
         have e0:=ef0.c0;have e1:=ef0.c1;have e2:=ef0.c2;clear hcj hc0 hra0 hs hme hsl hjs had2 ef hm2 hxe ef0 okl bwl;go_wp2_with fail;refine (r2red_el wl xe fd.o HV.o HL.o.1 HL.o.2).mono ?_;rintro e w9 ⟨y2,rfl,ey2,bb⟩;have hfa:=C9.o.fa.below bb;have t:=hfa.bk;obtain ⟨k0,k1,k2,aF,aG,aH,_,_⟩:=t;have b9:=qd zu.o bb;clear cc1 cc2 e0 e1 e2 bb;go_wp2_with fail;go_meet
         case rel=>exact ⟨rfl,⟨y2,hfa.put ey2.ok,by rw [if_pos hjn,HQ.o];exact ey2.rp⟩,aR b9 (Nat.le_of_eq lo.o)⟩
        ·go_wp2_with fail;go_meet
         case rel=>exact ⟨rfl,⟨y,by rw [if_neg hjn];exact C9.o⟩,zu.o⟩
       case rest=>
        obtain ⟨rfl,⟨y1,v1⟩,bb⟩:=hcut;have gL:=ag v1;have dK:=ag bb;have EP:Hd (i<p.rows.length):=ag (by rw [HM.o];exact hlt)
        clear v1 bb C9 zu
        go_upto_if 106 with fail
        go_cut [12] (fun s12 w'=>s12 = .pointer (some ⟨gk,0,none⟩)/\(∃y,Vl w' gk y (if j<n then p.a i j else if j=n+m then p.b i else 0))/\Below wk.heap.size wk w')
        case first=>
         by_cases hje:j=n+m
         ·have bwl:Below w.heap.size w wc:=qd C8.o dK.o;obtain ⟨ad3,hra,ef⟩:=(HO.o.right.below bwl).rd.at i hib;obtain ⟨xe,hxe⟩:∃x,p.right.vs[i]=x:=⟨_,rfl⟩;have hm2:=List.getElem_mem hib;rw [hxe] at hm2;have ef0:Ef wc (ad3.add (i*3)) xe:=by rw [<-hxe];exact ef
          have HQ:Hd (p.b i=xe.q):=ag (by rw [Pg.b,bC _ _ _ hib,hxe])
          have fd:=ag ((HO.o.right.below bwl).el xe hm2);have HV:=ag (bN.o.vb xe hm2);have HL:=ag (bt.o.eb xe hm2);have cc1:wc.cell? ⟨g1,2,none⟩=some (.slice (some ad3) m p.right.c):=by
           have:=((BL.o.below eS.o).below dK.o).c2;rw [show p.right.val = .slice p.right.A p.right.vs.length p.right.c from rfl,hra,bN.o.lb,HM.o] at this;exact this
          have e0:=ef0.c0;have e1:=ef0.c1;have e2:=ef0.c2;have hji:(j:Int)=(n:Int)+(m:Int):=by omega
          have hjb:((j:Int) == (n:Int)+(m:Int))=true:=by simpa using hji
          have BR:=ag hje;clear hra ef hxe hm2 ef0 bwl hji hje;go_wp2_with fail;refine (r2red_el wc xe fd.o HV.o HL.o.1 HL.o.2).mono ?_;rintro e w9 ⟨y2,rfl,ey2,bb⟩;have hfa:=gL.o.fa.below bb;have t:=hfa.bk;obtain ⟨k0,k1,k2,aF,aG,aH,_,_⟩:=t;have b9:=qd dK.o bb;clear cc1 e0 e1 e2 bb;go_wp2_with fail;go_meet
          case rel=>exact ⟨rfl,⟨y2,hfa.put ey2.ok,by have:=BR.o;rw [if_neg (by omega),if_pos BR.o,HQ.o];exact ey2.rp⟩,aR b9 (Nat.le_of_eq lo.o)⟩
         ·have hji:¬(j:Int)=(n:Int)+(m:Int):=by omega
          have hjb:((j:Int) == (n:Int)+(m:Int))=false:=by simpa using hji
          clear hji;go_wp2_with fail;go_meet
          case rel=>exact ⟨rfl,⟨y1,by rw [if_neg hje];exact gL.o⟩,dK.o⟩
        case rest=>
         obtain ⟨rfl,⟨y2,v2⟩,bb⟩:=hcut;clear gL dK;have gL:=ag v2;have dK:=ag bb;obtain ⟨v,hv⟩:∃v,(if j<n then p.a i j else if j=n+m then p.b i else 0)=v:=⟨_,rfl⟩
         have CK:=ag hv;rw [hv] at gL;have rW:Hd (Sz v 128 128):=ag (by
          rw [<-hv]
          split
          ·rename_i h;exact bN.o.sza EP.o (by rw [HN.o];exact h)
          ·split
           ·exact bN.o.szb EP.o
           ·exact Sz.zero 128 (by omega))
         obtain ⟨tb,htb⟩:∃t,decide (p.b i<0)=t:=⟨_,rfl⟩;have wX:=ag htb;have ct:wc.cell? ⟨gt,i,none⟩=some (.bool tb):=by
          obtain ⟨ts2,t1,t2,t3⟩:=((zr.o.below eS.o).below dK.o).tu;have:=t1.cell i (by omega)
          rw [t3 i (by omega) (by omega)] at this
          rw [<-htb];exact this
         clear v2 bb hv htb
         go_upto_if 119 with fail
         go_cut [12] (fun s12 w'=>s12 = .pointer (some ⟨gk,0,none⟩)/\(∃y,Vl w' gk y (sgT tb*v))/\Below wk.heap.size wk w')
         case first=>
          clear ct;have e0:=gL.o.c0;have e1:=gL.o.c1;have e2:=gL.o.c2
          cases tb with
          | true=>
            go_wp2_with fail;refine (r2opp_el wc y2 v gL.o.el rW.o).mono ?_;rintro e w9 ⟨y3,rfl,ey2,bb⟩;have hfa:=gL.o.fa.below bb;have t:=hfa.bk;obtain ⟨k0,k1,k2,aF,aG,aH,_,_⟩:=t;have b9:=qd dK.o bb;clear e0 e1 e2 bb;go_wp2_with fail;go_meet
            case rel=>exact ⟨rfl,⟨y3,hfa.put ey2.ok,by rw [sgT_neg];exact ey2.rp⟩,aR b9 (Nat.le_of_eq lo.o)⟩
          | false=>
            go_wp2_with fail;go_meet
            case rel=>exact ⟨rfl,⟨y2,by rw [yK];exact gL.o⟩,dK.o⟩
         case rest=>
          obtain ⟨rfl,⟨y3,v3⟩,bb⟩:=hcut;clear gL dK ct;have wV:=ag v3;have tR:=ag bb;clear v3 bb
          go_upto_if 126 with fail
          go_cut [12] (fun s12 w'=>s12 = .pointer (some ⟨gk,0,none⟩)/\(∃y,Vl w' gk y (dG m n p.a p.b i j))/\Below wk.heap.size wk w')
          case first=>
           by_cases hje:j=n+i
           ·have hji:(j:Int)=(n:Int)+(i:Int):=by omega
            have hjb:((j:Int) == (n:Int)+(i:Int))=true:=by simpa using hji
            have BR:=ag hje;clear hji hje;go_wp2_with fail;refine (dS wc 1 (by omega) (by omega)).mono ?_
            rintro e w9 ⟨y4,rfl,ey2,bb⟩;have hfa:=wV.o.fa.below bb;have t:=hfa.bk;obtain ⟨k0,k1,k2,aF,aG,aH,_,_⟩:=t;have b9:=qd tR.o bb;clear bb;go_wp2_with fail;go_meet
            case rel=>exact ⟨rfl,⟨y4,hfa.put ey2.ok,by rw [org_one hlt BR.o];exact ey2.rp⟩,aR b9 (Nat.le_of_eq lo.o)⟩
           ·have hji:¬(j:Int)=(n:Int)+(i:Int):=by omega
            have hjb:((j:Int) == (n:Int)+(i:Int))=false:=by simpa using hji
            clear hji;go_wp2_with fail;go_meet
            case rel=>exact ⟨rfl,⟨y3,by rw [org_other (by have:=cq.o;omega) hje,wX.o,CK.o];exact wV.o⟩,tR.o⟩
          case rest=>
           obtain ⟨rfl,⟨y4,v4⟩,bb⟩:=hcut;clear wV tR;have xr5:=lv.o.below bb;have b6:Below w6.heap.size w6 wc:=qd eS.o bb;have F0:Hd (∀g,A.map (·.block)=some g->w6.heap.size<=g):=ag (fun g e=>(xr5.lt e).1);have EQ:=ag v4.el;have h6:=b6.size;have k0:=v4.c0;have k1:=v4.c1;have k2:=v4.c2;clear bb v4;go_wp2_with (at_builtin;refine wpList_append_xr _ rfl _ _ rfl rfl (A:=A) (c:=c3) (n:=j) (vs:=vs) rfl cC.o.symm (xr5.below ((ah _ _).alloc (Nat.le_refl _) _)) _ 1 y4 rfl (yP _ y4) (EQ.o.ok.below ((ah _ _).alloc (Nat.le_refl _) _)) (by omega) (by simp;omega) ?_;intro A4 c4 wz xr6 kk hat)
           have blit:=qc wc (.cells #[.bool y4.b, .slice y4.A y4.xs.length y4.c, .slice y4.D y4.ys.length y4.d] 29);have b7:=qd b6 blit;go_roundw
           case rel=>exact ⟨j+1,A4,c4,vs ++ [y4],by omega,by go_num,by simp,by rw [List.length_append,cC.o,List.length_singleton],(fun k hk=>by
            rcases Nat.lt_or_ge k vs.length with h|h
            ·rw [List.getElem_append_left h];exact lP.o k h
            ·have hk2:k=vs.length:=by rw [List.length_append,List.length_singleton] at hk;omega
             subst hk2;rw [List.getElem_append_right (Nat.le_refl _)];simp only [Nat.sub_self,List.getElem_cons_zero];rw [cC.o];exact EQ.o.rp),xr6,b7.trans (kk.below (B:=w6.heap.size) F0.o b7.size)⟩
           case measure=>simp [intOf];omega
--D}
      ·obtain rfl:N=j:=by omega
       obtain ⟨i3,si,si0,si1,si2⟩:=info_parts jt;have hgn:=xr3.fr.adr0 (by have:=cq.o;omega)
       obtain ⟨gn,rfl⟩:=hgn;have cC:=ag hvl;have Dn:Hd (∀k (hk:k<vs.length),Rp vs[k] (tabT m n (dG m n p.a p.b) i i k)):=ag (fun k hk=>by rw [tabT,if_neg (by omega)];exact hrp k hk)
       have pp:Hd (g m<gn):=ag (by
        have h1:=zr.o.bd (a:=g m) (.inr (.inr (.inr (.inr ⟨m, .inr rfl,rfl⟩))));have h2:w6.heap.size<=gn:=(xr3.lt rfl).1;omega)
       have Du:Hd (¬Rgo G m i g A1 gb gt gn):=ag (fun hh=>by
        have h1:=zr.o.bd hh;have h2:w6.heap.size<=gn:=(xr3.lt rfl).1;omega)
       have lv:=ag (xr3.more BM.o.size);have mu:=ag (zr.o.below bz);have cU:=ag (EO.o.below bz);have bq:=ag (BL.o.below bz);have aw:=ag (qd BM.o bz);have f8:Hd (i<m):=ag hlt;obtain ⟨nb,hnb⟩:∃nb,n+i=nb:=⟨_,rfl⟩;have y5:=ag hnb;have hni:(n:Int)+(i:Int)=(nb:Int):=by omega
       have hwb:IntKind.i64.wrap (nb:Int)=(nb:Int):=IntWalk.i64_in _ (by omega)
       clear hvl hrp xr3 bz zr EO BL BM hnb fm gF fp u4 i5 tc HZ u5;go_upto_region 28 with fail
       go_cut [] (fun wx=>∃(A4:Option Addr) (c4:Nat),Rg wx w.heap.size G N n m (i+1) (i+1) (i+1) (fun r=>if r=i then gn else g r) (fun r=>if r=i then c3 else c r) A4 c4 gb gt (tabT m n (dG m n p.a p.b) i) (fun k=>decide (p.b k<0))/\Zs wx g2/\Pb wx g1 p/\Below w.heap.size w wx)
       case first=>
        have rg:=mu.o.below (ah wr.heap.size wr).drew;have xr:=lv.o.below (ah wr.heap.size wr).drew;have zs:=cU.o.below (ah wr.heap.size wr).drew;have pb:=bq.o.below (ah wr.heap.size wr).drew;have bw:=ai aw.o ((ah wr.heap.size wr).drew) aw.o.size;have q:=rg.q;refine wp_region_held_drew (S:=fun w'=>w'.cell? ⟨G,2,none⟩=some (.slice (some ⟨gb,0,none⟩) m m)) (by kernel_rfl) q.c2 fun hH=>?_
        have bz:=(ah wr.heap.size wr).drew;generalize wr.drew=wd at *;refine qj 21 fun Ha=>?_
        refine qh Ha 0 (.pointer (some ⟨G,0,none⟩)) rfl ?_;refine qh Ha 1 (.pointer (some ⟨G,0,none⟩)) rfl ?_;refine qh Ha 2 (.pointer (some ⟨G,0,none⟩)) rfl ?_;refine qh Ha 3 (.pointer (some ⟨G,2,none⟩)) rfl ?_;simp only [tz];refine qh Ha 4 (.slice (some ⟨gb,0,none⟩) m m) rfl ?_;refine qh Ha 5 (.int .i64 (i:Int)) rfl ?_;refine qh Ha 6 (.pointer (some ⟨G,0,none⟩)) rfl ?_;refine qh Ha 7 (.pointer (some ⟨G,0,none⟩)) rfl ?_;simp only [tz];refine qh Ha 8 (.pointer (some ⟨G,0,none⟩)) rfl ?_
        refine qh Ha 10 (.slice (some ⟨gn,0,none⟩) N c3) rfl ?_;refine qh Ha 13 (.int .i64 (n:Int)) rfl ?_;refine qh Ha 14 (.int .i64 (i:Int)) rfl ?_;simp only [tz];refine tks Ha 15 (.int .i64 (nb:Int)) rfl ?_;simp only [tz];refine wpAnyH_ready (rs := [9,11]) (tkn Ha (by kernel_rfl)) (by simp) ?_
        refine AllReadyH.cons rfl (fun K hK=>?_) ?_
        ·have k0:=q.c0;go_simp;clear k0;refine hK.out _ _ q.c2 fun hH=>?_;clear hK K;try simp only [tz]
         refine tk1 Ha 11 rfl fun K hK=>?_;go_simp;have lit:Rd (rowP N) _ (some ⟨wd.heap.size,0,none⟩) [(gn,c3)]:=Rd.one_ wd 22 (gn,c3) (.slice (some ⟨gn,0,none⟩) N c3) rfl;have bb:=qc wd (.cells #[.slice (some ⟨gn,0,none⟩) N c3] 22);replace rg:=rg.below bb;replace xr:=xr.below bb;replace zs:=zs.below bb;replace pb:=pb.below bb;replace bw:=qd bw bb;replace q:=rg.q;clear bb hH;generalize wd.heap.size=g143 at lit|-;generalize (wd.alloc (.cells #[.slice (some ⟨gn,0,none⟩) N c3] 22))=wd at *;refine hK.out _ _ q.c2 fun hH=>?_;clear hK K;try simp only [tz]
         refine tk1 Ha 12 rfl fun K hK=>?_;have ho:=rg.out;obtain ⟨rs,gr0,hrs,hre⟩:=ho;refine bE wd (mk:=rowP N) (fun _=>rfl) (fun _=>rfl) rfl _ _ 23 rfl 22 i3 (.slice none 0 0) 24 underlying23 si si0 si1 si2 rfl (by intro u hu;simp [Value.cells] at hu;subst hu;rfl) rfl hrs.symm gr0 rg.n1 ⟨g143,0,none⟩ 1 1 [(gn,c3)] rfl rfl lit (by simp) (by simp only [maxLen];omega) (by omega) bw.size ?_
         intro A4 c4 we h1 h2 h3 h4 h5;have kk:Kp (fun a=>A1.map (·.block)=some a) wd we:=ci h3 (fun k e=>e);have rg2:=rg.row (T':=tabT m n (dG m n p.a p.b) i) f8.o xr cC.o Dn.o (fun _ _ _ _=>rfl) pp.o Du.o hrs hre h1 h2 kk h5;have d0:∀a,A1.map (·.block)=some a->g m<a:=fun a e=>(rg.o3 a e).1;have o1:=rg.o1;have hd:=nH.o;replace q:=q.kp kk (fun e=>by have:=d0 _ e;omega)
         replace zs:=zs.kp kk (fun e=>by have:=d0 _ e;omega)
         replace pb:=pb.kp kk (fun e=>by have:=d0 _ e;omega)
         replace bw:=bw.trans h4;clear rg xr lit h1 h2 h3 h4 h5 kk d0 gr0 hrs hre rs o1 hd hH;generalize we=wd at *;refine hK.out _ _ q.c2 fun hH=>?_;clear hK K;try simp only [tz]
         refine qh Ha 16 (.pointer (some ⟨G,0,none⟩)) rfl ?_;refine tks Ha 17 (.pointer (some ⟨G,0,none⟩)) rfl ?_;simp only [tz];refine tk1 Ha 18 rfl fun K hK=>?_;have k0:=q.c0;have aF:=q.fz 0;go_simp;clear k0 aF hH;have kG:=rM wd G 0 (.slice A4 (i+1) c4);have o1:=rg2.o1;have hd:=nH.o;replace zs:=zs.kp kG (by omega)
         replace pb:=pb.kp kG (by omega)
         replace bw:=bw.trans (kG.below (B:=w.heap.size) (fun a e=>by have:=dn.o;omega) bw.size)
         clear q kG o1 hd;generalize (wd.setCell ⟨G,0,none⟩ (.slice A4 (i+1) c4))=wd at *;have q:=rg2.q;refine hK.out _ _ q.c2 fun hH=>?_;clear hK K;try simp only [tz]
         refine tk1 Ha 19 rfl fun K hK=>?_;go_simp;refine hK.out _ _ q.c2 fun hH=>?_;clear hK K;try simp only [tz]
         refine tk1 Ha 20 rfl fun K hK=>?_;have hb:=rg2.ba;obtain ⟨bs,b1,b2,b3⟩:=hb;have k0:=b1.cell i (by omega)
         have aF:=b1.free i;go_simp;clear k0 aF b1 b2 b3;have rg3:=rg2.bas;rw [y5.o] at rg3;have o1:=rg2.o1;have hd:=nH.o;replace zs:=zs.kp rg3.2 (by omega)
         replace pb:=pb.kp rg3.2 (by omega)
         replace bw:=bw.trans (rg3.2.below (B:=w.heap.size) (fun a e=>by have:=dn.o;omega) bw.size)
         have rg4:=rg3.1;clear rg2 rg3 o1 hd q hH;generalize (wd.setCell ⟨gb,i,none⟩ (.int .i64 (nb:Int)))=wd at *;have q:=rg4.q;refine hK.out _ _ q.c2 fun hH=>?_;clear hK K;try simp only [tz]
         refine qp Ha ?_
         go_wp2_with fail;go_meet
         case rel=>exact ⟨A4,c4,rg4,zs,pb,bw⟩
        refine AllReadyH.cons rfl (fun K hK=>?_) ?_
        ·go_simp;have lit:Rd (rowP N) _ (some ⟨wd.heap.size,0,none⟩) [(gn,c3)]:=Rd.one_ wd 22 (gn,c3) (.slice (some ⟨gn,0,none⟩) N c3) rfl;have bb:=qc wd (.cells #[.slice (some ⟨gn,0,none⟩) N c3] 22);replace rg:=rg.below bb;replace xr:=xr.below bb;replace zs:=zs.below bb;replace pb:=pb.below bb;replace bw:=qd bw bb;replace q:=rg.q;clear bb hH;generalize wd.heap.size=g143 at lit|-;generalize (wd.alloc (.cells #[.slice (some ⟨gn,0,none⟩) N c3] 22))=wd at *;refine hK.out _ _ q.c2 fun hH=>?_;clear hK K;try simp only [tz]
         refine tk1 Ha 9 rfl fun K hK=>?_;have k0:=q.c0;go_simp;clear k0;refine hK.out _ _ q.c2 fun hH=>?_;clear hK K;try simp only [tz]
         refine tk1 Ha 12 rfl fun K hK=>?_;have ho:=rg.out;obtain ⟨rs,gr0,hrs,hre⟩:=ho;refine bE wd (mk:=rowP N) (fun _=>rfl) (fun _=>rfl) rfl _ _ 23 rfl 22 i3 (.slice none 0 0) 24 underlying23 si si0 si1 si2 rfl (by intro u hu;simp [Value.cells] at hu;subst hu;rfl) rfl hrs.symm gr0 rg.n1 ⟨g143,0,none⟩ 1 1 [(gn,c3)] rfl rfl lit (by simp) (by simp only [maxLen];omega) (by omega) bw.size ?_
         intro A4 c4 we h1 h2 h3 h4 h5;have kk:Kp (fun a=>A1.map (·.block)=some a) wd we:=ci h3 (fun k e=>e);have rg2:=rg.row (T':=tabT m n (dG m n p.a p.b) i) f8.o xr cC.o Dn.o (fun _ _ _ _=>rfl) pp.o Du.o hrs hre h1 h2 kk h5;have d0:∀a,A1.map (·.block)=some a->g m<a:=fun a e=>(rg.o3 a e).1;have o1:=rg.o1;have hd:=nH.o;replace q:=q.kp kk (fun e=>by have:=d0 _ e;omega)
         replace zs:=zs.kp kk (fun e=>by have:=d0 _ e;omega)
         replace pb:=pb.kp kk (fun e=>by have:=d0 _ e;omega)
         replace bw:=bw.trans h4;clear rg xr lit h1 h2 h3 h4 h5 kk d0 gr0 hrs hre rs o1 hd hH;generalize we=wd at *;refine hK.out _ _ q.c2 fun hH=>?_;clear hK K;try simp only [tz]
         refine qh Ha 16 (.pointer (some ⟨G,0,none⟩)) rfl ?_;refine tks Ha 17 (.pointer (some ⟨G,0,none⟩)) rfl ?_;simp only [tz];refine tk1 Ha 18 rfl fun K hK=>?_;have k0:=q.c0;have aF:=q.fz 0;go_simp;clear k0 aF hH;have kG:=rM wd G 0 (.slice A4 (i+1) c4);have o1:=rg2.o1;have hd:=nH.o;replace zs:=zs.kp kG (by omega)
         replace pb:=pb.kp kG (by omega)
         replace bw:=bw.trans (kG.below (B:=w.heap.size) (fun a e=>by have:=dn.o;omega) bw.size)
         clear q kG o1 hd;generalize (wd.setCell ⟨G,0,none⟩ (.slice A4 (i+1) c4))=wd at *;have q:=rg2.q;refine hK.out _ _ q.c2 fun hH=>?_;clear hK K;try simp only [tz]
         refine tk1 Ha 19 rfl fun K hK=>?_;go_simp;refine hK.out _ _ q.c2 fun hH=>?_;clear hK K;try simp only [tz]
         refine tk1 Ha 20 rfl fun K hK=>?_;have hb:=rg2.ba;obtain ⟨bs,b1,b2,b3⟩:=hb;have k0:=b1.cell i (by omega)
         have aF:=b1.free i;go_simp;clear k0 aF b1 b2 b3;have rg3:=rg2.bas;rw [y5.o] at rg3;have o1:=rg2.o1;have hd:=nH.o;replace zs:=zs.kp rg3.2 (by omega)
         replace pb:=pb.kp rg3.2 (by omega)
         replace bw:=bw.trans (rg3.2.below (B:=w.heap.size) (fun a e=>by have:=dn.o;omega) bw.size)
         have rg4:=rg3.1;clear rg2 rg3 o1 hd q hH;generalize (wd.setCell ⟨gb,i,none⟩ (.int .i64 (nb:Int)))=wd at *;have q:=rg4.q;refine hK.out _ _ q.c2 fun hH=>?_;clear hK K;try simp only [tz]
         refine qp Ha ?_
         go_wp2_with fail;go_meet
         case rel=>exact ⟨A4,c4,rg4,zs,pb,bw⟩
        exact AllReadyH.nil
       case rest=>
        obtain ⟨A4,c4,rg4,zs,pb,bw⟩:=hcut;generalize wc=wd at *;go_wp2_with fail;obtain ⟨gx,hgx⟩:∃gx,(fun r=>if r=i then gn else g r)=gx:=⟨_,rfl⟩
        obtain ⟨cx,hcx⟩:∃cx,(fun r=>if r=i then c3 else c r)=cx:=⟨_,rfl⟩
        have cp:Hd (gx i=gn):=ag (by rw [<-hgx];exact if_pos rfl)
        have F4:Hd (¬gx m=gn):=ag (by rw [<-hgx];show ¬(if m=i then gn else g m)=gn;rw [if_neg (by have:=f8.o;omega)];have:=pp.o;omega)
        rw [hgx,hcx] at rg4;have ER:Hd (Rg wd w.heap.size G N n m (i+1) (i+1) (i+1) gx cx A4 c4 gb gt (lpT m n (dG m n p.a p.b) i 0) (fun k=>decide (p.b k<0))):=ag (by rw [lp_zero];exact rg4)
        have ES:=ag zs;have ET:=ag pb;have EU:=ag bw;clear rg4 zs pb bw hgx hcx hni hwb y5 cC Dn pp Du lv mu cU bq aw;go_loopw [13] (fun jv wr=>∃j:Nat,j<=N/\jv = .int .i64 j/\Rg wr w.heap.size G N n m (i+1) (i+1) (i+1) gx cx A4 c4 gb gt (lpT m n (dG m n p.a p.b) i j) (fun k=>decide (p.b k<0))/\Zs wr g2/\Pb wr g1 p/\Below w.heap.size w wr) (fun jv _=>N-(intOf jv).toNat)
        case atStart=>exact ⟨0,by omega,rfl,ER.o,ES.o,ET.o,EU.o⟩
        case round=>
         clear ER ES ET EU;obtain ⟨j,hj,rfl,rg,zs,pb,bw⟩:=hrel;by_cases hjN:j<N
         ·by_cases hc:j<n\/j=n+m
          ·have cU:=ag zs;have mu:=ag rg;have bq:=ag pb;have aw:=ag bw;obtain ⟨gm,hgm⟩:∃a,gx m=a:=⟨_,rfl⟩;have hec:=rg.mc.el (i:=m) (.inr rfl) hjN;have hee:=rg.mc.el (i:=i) (.inl (by omega)) hjN
           rw [hgm,lp_cost] at hec;rw [cp.o,lp_row f8.o] at hee;obtain ⟨xc,ec⟩:=hec;obtain ⟨xe,ee⟩:=hee;have eZ:=ag ec;have zj:=ag ee;have cH:=ag hgm;have hjm:j<=n+m:=by have:=cq.o;omega
           have fn:Hd (Sz (cstT m n (dG m n p.a p.b) i j) 128 128):=ag (cst_sz HW.o (by omega) hjm).up
           have eJ:Hd (Sz (dG m n p.a p.b i j) 128 128):=ag (org_sz HW.o f8.o hjm).up;have l9:Hd (Sz (cstT m n (dG m n p.a p.b) i j-dG m n p.a p.b i j) 128 128):=ag (by rw [<-cst_next hc];exact (cst_sz HW.o (by omega) hjm).up)
           have F5:Hd (oE (lpT m n (dG m n p.a p.b) i j) m j (cstT m n (dG m n p.a p.b) i j-dG m n p.a p.b i j)=lpT m n (dG m n p.a p.b) i (j+1)):=ag (lp_upd hc);clear rg zs pb bw hgm ec ee hjm;go_upto_region 32 with fail
           go_cut [168] (fun v wx=>v = .bool true/\wx=wr)
           case first=>
            rcases hc with h|h
            ·have q1:decide ((j:Int)<(n:Int))=true:=decide_eq_true (by omega)
             go_wp2_with fail;go_meet
             case rel=>exact ⟨rfl,rfl⟩
            ·have q1:decide ((j:Int)<(n:Int))=false:=decide_eq_false (by omega)
             have hji:(j:Int)=(n:Int)+(m:Int):=by omega
             have hjb:((j:Int) == (n:Int)+(m:Int))=true:=by simpa using hji
             have hnj:n<=j:=by omega
             clear hji h;go_wp2_with fail;go_meet
             case rel=>exact ⟨rfl,rfl⟩
           case rest=>
            obtain ⟨rfl,hwx⟩:=hcut;obtain rfl:wr=wc:=hwx.symm;go_upto_region 33 with fail;have rg:=mu.o.below (ah wr.heap.size wr).drew;have zs:=cU.o.below (ah wr.heap.size wr).drew;have pb:=bq.o.below (ah wr.heap.size wr).drew;have bw:=ai aw.o ((ah wr.heap.size wr).drew) aw.o.size;have ec:=eZ.o.below (ah wr.heap.size wr).drew;have ee:=zj.o.below (ah wr.heap.size wr).drew;have q:=rg.q;rw [cH.o] at q;refine wp_region_held_drew (S:=fun w'=>w'.cell? ⟨G,1,none⟩=some (.slice (some ⟨gm,0,none⟩) N (cx m))/\w'.cell? ⟨gn,j*3,none⟩=some (.bool xe.b)/\w'.cell? ⟨gn,j*3+1,none⟩=some (.slice xe.A xe.xs.length xe.c)/\w'.cell? ⟨gn,j*3+2,none⟩=some (.slice xe.D xe.ys.length xe.d)) (by kernel_rfl) ⟨q.c1,ee.c0,ee.c1,ee.c2⟩ fun hH=>?_
            have bz:=(ah wr.heap.size wr).drew;generalize wr.drew=wd at *;refine qj 22 fun Ha=>?_
            refine qh Ha 0 (.pointer (some ⟨G,0,none⟩)) rfl ?_;refine qh Ha 1 (.pointer (some ⟨G,0,none⟩)) rfl ?_;refine qh Ha 2 (.pointer (some ⟨G,1,none⟩)) rfl ?_;refine qh Ha 3 (.slice (some ⟨gm,0,none⟩) N (cx m)) rfl ?_;simp only [tz];refine qh Ha 4 (.int .i64 (j:Int)) rfl ?_;refine qh Ha 5 (.pointer (some ⟨G,0,none⟩)) rfl ?_;refine qh Ha 6 (.pointer (some ⟨G,0,none⟩)) rfl ?_;refine qh Ha 7 (.pointer (some ⟨G,1,none⟩)) rfl ?_;simp only [tz];refine qh Ha 8 (.slice (some ⟨gm,0,none⟩) N (cx m)) rfl ?_
            refine qh Ha 9 (.int .i64 (j:Int)) rfl ?_;refine qh Ha 10 (.pointer (some ⟨gm,j*3,none⟩)) rfl ?_;refine qh Ha 12 (.slice (some ⟨gn,0,none⟩) N c3) rfl ?_;simp only [tz];refine qh Ha 13 (.int .i64 (j:Int)) rfl ?_;refine qh Ha 14 (.pointer (some ⟨gn,j*3,none⟩)) rfl ?_;refine tks Ha 15 (xe.val) rfl ?_;simp only [tz];refine tk1 Ha 11 rfl fun K hK=>?_;have k0:=ec.c0;have k1:=ec.c1;have k2:=ec.c2;go_simp;clear k0 k1 k2;refine hK.out _ _ ⟨q.c1,ee.c0,ee.c1,ee.c2⟩ fun hH=>?_;clear hK K;try simp only [tz]
            refine tk1 Ha 16 rfl fun K hK=>?_;go_simp;go_at_call 60;refine (r2sub_el wd xc xe _ _ ec.el ee.el fn.o eJ.o l9.o).mono ?_;rintro e we ⟨x3,rfl,e3,bb⟩;replace rg:=rg.below bb;replace zs:=zs.below bb;replace pb:=pb.below bb;replace bw:=qd bw bb;replace ec:=ec.below bb;replace ee:=ee.below bb;replace q:=q.below bb;clear bb hH;generalize we=wd at *;refine hK.out _ _ ⟨q.c1,ee.c0,ee.c1,ee.c2⟩ fun hH=>?_;clear hK K;try simp only [tz]
            refine qh Ha 17 (.tuple #[x3.val, .int .i64 0]) rfl ?_;refine qh Ha 18 (x3.val) rfl ?_;refine qh Ha 19 (.int .i64 0) rfl ?_;refine tks Ha 20 (.pointer (some ⟨gm,j*3,none⟩)) rfl ?_;simp only [tz];refine tk1 Ha 21 rfl fun K hK=>?_;have k0:=ec.c0;have k1:=ec.c1;have k2:=ec.c2;have aF:=ec.f0;have aG:=ec.f1;have aH:=ec.f2;go_simp;clear k0 k1 k2 aF aG aH;have t6:=rg.cost f8.o (k:=j) e3;rw [cH.o] at t6;have o1:=rg.o1;rw [cH.o] at o1;have hd:=nH.o;replace zs:=zs.kp t6.2 (by omega)
            replace pb:=pb.kp t6.2 (by omega)
            replace bw:=bw.trans (t6.2.below (B:=w.heap.size) (fun a e=>by have:=dn.o;omega) bw.size)
            have rg2:=t6.1;rw [F5.o] at rg2;have nly:=rg.mc.nl (i:=m) (.inr rfl);rw [cH.o] at nly;have ee2:=ee.kp t6.2 (fun a e=>by rw [e];exact nly) (by have h1:=F4.o;rw [cH.o] at h1;exact fun e=>h1 e.symm)
            clear rg t6 ec ee q e3 o1 hd nly hH;generalize (((wd.setCell ⟨gm,j*3,none⟩ (.bool x3.b)).setCell ⟨gm,j*3+1,none⟩ (.slice x3.A x3.xs.length x3.c)).setCell ⟨gm,j*3+2,none⟩ (.slice x3.D x3.ys.length x3.d))=wd at *;have ee:=ee2;have q:=rg2.q;rw [cH.o] at q;clear ee2;refine hK.out _ _ ⟨q.c1,ee.c0,ee.c1,ee.c2⟩ fun hH=>?_;clear hK K;try simp only [tz]
            refine qp Ha ?_
            go_wp2_with fail;go_roundw
            case rel=>exact ⟨j+1,by omega,by go_num,rg2,zs,pb,bw⟩
            case measure=>simp [intOf];omega
          ·have q1:decide ((j:Int)<(n:Int))=false:=decide_eq_false (by omega)
           have hji:¬(j:Int)=(n:Int)+(m:Int):=by omega
           have hjb:((j:Int) == (n:Int)+(m:Int))=false:=by simpa using hji
           clear hji;go_wp2_with fail;go_roundw
           case rel=>exact ⟨j+1,by omega,by go_num,by rw [<-lp_skip hc];exact rg,zs,pb,bw⟩
           case measure=>simp [intOf];omega
         ·obtain rfl:N=j:=by omega
          go_wp2_with fail;go_roundw
          case rel=>exact ⟨i+1,by omega,by go_num,gx,cx,A4,c4,by have:=cq.o;rw [<-lp_end (j:=N) (by omega)];exact rg,zs,pb,bw⟩
          case measure=>simp [intOf];omega
--D}
    ·obtain rfl:m=i:=by omega
     have ht:=rg.rtz cq.o rz.o;obtain ⟨L,t0,hst,hsb⟩:=ht;have HX:Hd (Hx w wr p g1 g2 gt L G n m N (extT m (n+m) (bZ n) (DM m n p.a p.b))):=ag ⟨t0,rg.tn,zs,pb,bw,hst,fun a ha=>by
      have h1:=hsb a ha;have h2:=nH.o;have h3:=dn.o;exact ⟨by omega,by omega,by omega⟩⟩
     clear rg zs pb bw t0 hst hsb
     iterate 22 (first|go_values|go_skip|go_guarded|go_step|go_upon|go_back | (simp only [Int.not_lt,Int.not_le] at *;go_simp))
     exact r16mid w wr p n m N G gt g1 g2 L HO bt bN HN HW hnl hml cq hNl hNw ip HX undef rfl _ _ _ _ _ _ _ _ _ _ _ _ _ _ _ _ _ _ _ _ _ _ _ _ _ _ _ _ _ _ _ _ _ _ _ _ _ _ _ _ _ _ _ _ _ _ _ _ _ _ _ _ _ _ _ _ _ _ _ _ _ _ _ _ _ _ _ _ _ _ _ _ _ _ _ _ _ _ _ _ _ _ _ _ _ _ _ _ _ _ _ _ _ _ _ _ _ _ _ _ _ _ _ _ _ _ _ _ _ _ _ _ _ _ _ _ _ _ _ _ _ _ _ _ _ _ _ _ _ _ _ _ _ _ _ _ _ _ _ _ _ _ _ _ _ _ _ _ _ _ _ _ _ _ _ _ _ _ _ _ _ _ _ _ _ _ _
end Go.Proofs.YtkpfbekmaafehaaGreat
