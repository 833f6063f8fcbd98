/- The walk of simplex.Check: solutions of the kinds 2 and 3. -/
import Derived.Test.YtkpfbekmaafehaaGreatSpB
import Derived.Test.YtkpfbekmaafehaaGreatSsJ
namespace Go.Proofs.YtkpfbekmaafehaaGreat
open _root_.Go.Proofs.Tryz
set_option maxHeartbeats 40000000
set_option maxRecDepth 100000
open Go.RowKit
def uu:List dC := [sE 136 [5] [],sE 137 [136] [0],sE 138 [137] [1],sE 139 [138] [2],sG 140 [9,139] [3] 3 true,sG 141 [140,139] [4,3] 3 true,sG 142 [141,139] [5,3] 3 true,sE 143 [139,142] [3,6],sE 144 [143] [7,3],sG 145 [13,144] [8] 8 true,sG 146 [7,144] [8] 8 true,sG 147 [13,144] [8] 8 true,sG 148 [147,144] [11,8] 8 true,sG 149 [148,144] [12,8] 8 true,sG 150 [149,144] [13,8] 8 true,sG 151 [150,144] [14,8] 8 true,sG 152 [151,144] [15,8,8] 8 true,sG 153 [145,146,152,144] [9,10,16,16,8] 8 true,sE 154 [144,153] [8,17],sE 155 [154] [18,17],sG 156 [7,155] [19] 19 true,sG 157 [13,155] [19] 19 true,sG 158 [157,155] [21,19] 19 true,sG 159 [158,155] [22,19] 19 true,sG 160 [159,155] [23,19] 19 true,sG 161 [155] [19,19] 19 true,sG 162 [156,160,161,155] [20,24,25,25,19] 19 true,sG 163 [162,155] [26,19] 19 true,sE 164 [155,163] [19,27],sE 165 [164] [28,26],sG 166 [11,165] [29] 29 true,sG 167 [166,165] [30,29] 29 true,sG 168 [167,165] [31,29] 29 true,sG 169 [168,165] [32,29,29] 29 true,sG 170 [169,165] [33,29] 29 true,sE 171 [165,170] [29,34],sE 4 [171] [35,33,0,1,2,3,4,5,6,7,8,9,10,11,12,13,14,15,16,17,18,19,20,21,22,23,24,25,26,27,28,29,30,31,32,33,34,35]]
theorem xA (w:World) (p:Pg) (s:Sn) (bo:Bool) (h:p.ok w) (sm:p.sm) (hs:s.ok w) (ss:s.sm) (hb:bo=true↔yo p s) (vd:p.vd) (mx:Md s.X.vs) (my:Md s.Y.vs) (mr:Md s.R.vs) (mv:Md [s.v]) (hk:s.kind=2\/s.kind=3) :
 Calls prog 17 #[p.val,s.val] w fun e w'=>e = .returned (.bool bo)/\Below w.heap.size w w':=by
 have HO:=ag h;have bt:=ag sm;have iu:=ag hs;have fc:=ag ss;have HB:=ag hb;have bN:=ag vd;have Dz:=ag mx;have sk:=ag my;have DQ:=ag mr;have q8:=ag mv;have pm:=ag hk;clear h sm hs ss hb vd mx my mr mv hk;go_enter func17,ntmps17;go_upto_region 1 with fail;have pb:=(aY w p 25).1;have bw:=(aY w p 25).2;have hsz:=iV w p 25;generalize (w.alloc (.cells #[.slice p.cost.A p.cost.vs.length p.cost.c, .slice p.rA p.rows.length p.rc, .slice p.right.A p.right.vs.length p.right.c] 25))=wm at pb bw hsz|-;have sb:=(cY wm s 31).1;have bb:=(cY wm s 31).2;rw [hsz] at sb;replace pb:=pb.below bb;replace bw:=qd bw bb
 clear bb hsz;generalize (wm.alloc (.cells #[.int .i64 s.kind, .slice s.X.A s.X.vs.length s.X.c, .slice s.Y.A s.Y.vs.length s.Y.c, .slice s.R.A s.R.vs.length s.R.c, .bool s.v.b, .slice s.v.A s.v.xs.length s.v.c, .slice s.v.D s.v.ys.length s.v.d] 31))=wb at *;obtain ⟨g1,hg1⟩:∃g,w.heap.size=g:=⟨_,rfl⟩;obtain ⟨g2,hg2⟩:∃g,w.heap.size+1=g:=⟨_,rfl⟩;have pb1:Pb wb g1 p:=by rw [<-hg1];exact pb
 rw [hg2] at sb;rw [hg2,hg1];clear hg1 hg2 pb;have c0:=pb1.c0;have c1:=pb1.c1;have c2:=pb1.c2;have bq:=ag pb1;have bO:=ag sb;have aw:=ag bw;go_wp2_with fail;refine (fE wb p true (HO.o.below bw) bt.o (Iff.intro (fun _=>bN.o) (fun _=>rfl))).mono ?_;rintro e wa ⟨rfl,bb⟩;replace bq:=ag (bq.o.below bb);replace bO:=ag (bO.o.below bb);replace aw:=ag (qd aw.o bb);clear bb c0 c1 c2 pb1 sb bw wb;have s1:=bO.o.c1;go_wp2_with fail;refine (cm wa s.X (iu.o.X.below aw.o) fc.o.lX fc.o.eX).mono ?_;rintro e wb ⟨A1,l1,c1,b1,rfl,hx,bb⟩;obtain rfl:b1=true:=by
  cases b1
  ·exact absurd Dz.o (hx.f rfl)
  ·rfl
 have HX:=ag hx;replace bq:=ag (bq.o.below bb);replace bO:=ag (bO.o.below bb);replace aw:=ag (qd aw.o bb);clear bb s1 hx wa;have s2:=bO.o.c2;go_wp2_with fail;refine (cm wb s.Y (iu.o.Y.below aw.o) fc.o.lY fc.o.eY).mono ?_;rintro e wa ⟨A2,l2,c2,b2,rfl,hx,bb⟩;obtain rfl:b2=true:=by
  cases b2
  ·exact absurd sk.o (hx.f rfl)
  ·rfl
 replace HX:=ag (HX.o.below bb);have HY:=ag hx;replace bq:=ag (bq.o.below bb);replace bO:=ag (bO.o.below bb);replace aw:=ag (qd aw.o bb);clear bb s2 hx wb;have s3:=bO.o.c3;go_wp2_with fail;refine (cm wa s.R (iu.o.R.below aw.o) fc.o.lR fc.o.eR).mono ?_;rintro e wb ⟨A3,l3,c3,b3,rfl,hx,bb⟩;obtain rfl:b3=true:=by
  cases b3
  ·exact absurd DQ.o (hx.f rfl)
  ·rfl
 replace HX:=ag (HX.o.below bb);replace HY:=ag (HY.o.below bb);have HR:=ag hx;replace bq:=ag (bq.o.below bb);replace bO:=ag (bO.o.below bb);replace aw:=ag (qd aw.o bb);clear bb s3 hx wa;have s4:=bO.o.c4;have s5:=bO.o.c5;have s6:=bO.o.c6;go_wp2_with fail;have e6:(⟨some ⟨wb.heap.size,0,none⟩,1,[s.v]⟩:Sl).ok (wb.alloc (.cells s.v.cells 29)):=⟨j3 (iu.o.v.below aw.o),(fun v hv=>by
  obtain rfl:=List.mem_singleton.1 hv;exact (iu.o.v.below aw.o).below ((ah _ _).alloc (Nat.le_refl _) _)),Nat.le_refl _⟩
 have bb:=qc wb (.cells s.v.cells 29);refine (cm _ _ e6 (by simp) (by intro v hv;obtain rfl:=List.mem_singleton.1 hv;exact fc.o.ev)).mono ?_
 rintro e wa ⟨A4,l4,c4,b4,rfl,hx,b5⟩;obtain rfl:b4=true:=by
  cases b4
  ·exact absurd q8.o (hx.f rfl)
  ·rfl
 replace bb:=qd bb b5;replace HX:=ag (HX.o.below bb);replace HY:=ag (HY.o.below bb);replace HR:=ag (HR.o.below bb);have HV:Hd (Sho wa A4 l4 true [s.v]):=ag hx;replace bq:=ag (bq.o.below bb);replace bO:=ag (bO.o.below bb);replace aw:=ag (qd aw.o bb);clear bb s4 s5 s6 hx e6 b5;generalize wb.heap.size=g40;clear wb;obtain ⟨n,hn⟩:∃n,p.cost.vs.length=n:=⟨_,rfl⟩;obtain ⟨m,hm⟩:∃m,p.rows.length=m:=⟨_,rfl⟩;obtain ⟨rA,hrA⟩:∃x,p.rA=x:=⟨_,rfl⟩;have fx:=ag hn;have ud:=ag hm;have gu:=ag hrA;have mw:Hd (p.right.vs.length=m):=ag (bN.o.lb.trans hm);have hnl:n<=256:=by rw [<-hn];exact bN.o.c2
 have hml:m<=32:=by rw [<-hm];exact bN.o.r2
 have c0:wa.cell? ⟨g1,0,none⟩=some (.slice p.cost.A n p.cost.c):=by rw [<-hn];exact bq.o.c0
 have c1:wa.cell? ⟨g1,1,none⟩=some (.slice rA m p.rc):=by rw [<-hm,<-hrA];exact bq.o.c1
 have c2:wa.cell? ⟨g1,2,none⟩=some (.slice p.right.A m p.right.c):=by rw [<-mw.o];exact bq.o.c2
 have t8:=ag c0;have iB:=ag c1;have fm:=ag c2;have fl:=ag bq.o.lt;clear hn hm hrA;go_upto_region 9 with fail
 go_cut [13] (fun v wx=>∃(G:Nat) (cs rs:Sl),v = .pointer (some ⟨G,0,none⟩)/\Cb wx wa.heap.size G n m p.a p.b p.c cs rs none 0 []/\Below wa.heap.size wa wx)
 case first=>
  have a7:Hd (∀w',Below wa.heap.size wa w'->(w'.cell? ⟨g1,0,none⟩=some (.slice p.cost.A n p.cost.c)/\w'.cell? ⟨g1,2,none⟩=some (.slice p.right.A m p.right.c))):=ag (fun _ bz=>⟨(bz.cell (p:=⟨g1,0,none⟩) fl.o).trans t8.o,(bz.cell (p:=⟨g1,2,none⟩) fl.o).trans fm.o⟩);refine fR a7 (by kernel_rfl) fun hH=>?_
  have bz:=(ah wa.heap.size wa).drew;generalize wa.drew=wd at *;refine qj 9 fun Ha=>?_
  refine qh Ha 0 (.pointer (some ⟨g1,0,none⟩)) rfl ?_;refine qh Ha 1 (.slice p.cost.A n p.cost.c) rfl ?_;refine qh Ha 3 (.pointer (some ⟨g1,2,none⟩)) rfl ?_;refine tks Ha 4 (.slice p.right.A m p.right.c) rfl ?_;simp only [tz];refine tk1 Ha 2 rfl fun K hK=>?_;go_simp;go_at_call 38;refine (dD wd p.cost n (HO.o.cost.below (qd aw.o bz)) fx.o (by omega) bt.o.ec bN.o.vc).mono ?_
  rintro e wd ⟨gc,vc,hvc,rfl,oc_,bb⟩;have oc:Cl wd (some ⟨gc,0,none⟩) vc p.c:=oc_.cl;clear oc_;replace bz:=qd bz bb;clear bb;refine hK.out _ _ (a7.o _ bz) fun hH=>?_;clear hK K;try simp only [tz]
  refine tk1 Ha 5 rfl fun K hK=>?_;go_simp;go_at_call 38;refine (dD wd p.right m (HO.o.right.below (qd aw.o bz)) mw.o (by omega) bt.o.eb bN.o.vb).mono ?_
  rintro e wd ⟨gr,vr,hvr,rfl,or_,bb⟩;have ob:Cl wd (some ⟨gr,0,none⟩) vr p.b:=or_.cl;clear or_;replace oc:=oc.below bb;replace bz:=qd bz bb;clear bb;refine hK.out _ _ (a7.o _ bz) fun hH=>?_;clear hK K;try simp only [tz]
  refine tks Ha 6 (.agg #[.slice (some ⟨gc,0,none⟩) n n, .slice (some ⟨gr,0,none⟩) m m, .slice none 0 0]) rfl ?_;simp only [tz];refine tk1 Ha 7 rfl fun K hK=>?_;go_simp;have cb:=tY wd n m p.a p.b p.c ⟨some ⟨gc,0,none⟩,n,vc⟩ ⟨some ⟨gr,0,none⟩,m,vr⟩ 70 oc ob hvc hvr wa.heap.size bz.size;replace bz:=bz.trans ((ah wa.heap.size wd).alloc bz.size (.cells #[.slice (some ⟨gc,0,none⟩) n n, .slice (some ⟨gr,0,none⟩) m m, .slice none 0 0] 70));clear oc ob hH;generalize wd.heap.size=G at cb|-;generalize (wd.alloc (.cells #[.slice (some ⟨gc,0,none⟩) n n, .slice (some ⟨gr,0,none⟩) m m, .slice none 0 0] 70))=wd at *
  refine hK.out _ _ (a7.o _ bz) fun hH=>?_;clear hK K;try simp only [tz]
  refine tk1 Ha 8 rfl fun K hK=>?_;go_simp;refine hK.out _ _ (a7.o _ bz) fun hH=>?_;clear hK K;try simp only [tz]
  refine qp Ha ?_
  go_wp2_with fail;go_meet
  case rel=>exact ⟨G,⟨some ⟨gc,0,none⟩,n,vc⟩,⟨some ⟨gr,0,none⟩,m,vr⟩,rfl,cb,bz⟩
 case rest=>
  obtain ⟨G,cs,rs,rfl,cb,bb⟩:=hcut;have c1':wc.cell? ⟨g1,1,none⟩=some (.slice rA m p.rc):=(bb.cell (p:=⟨g1,1,none⟩) fl.o).trans iB.o;clear c0 c1 c2;have DR:Hd (Below wa.heap.size wa wc):=ag bb;go_wp2_with fail;clear c1';go_loopw [69] (fun iv wr=>∃(k:Nat) (A:Option Addr) (ca:Nat) (rows:List Sl),k<=m/\iv = .int .i64 k/\rows.length=k/\Cb wr wa.heap.size G n m p.a p.b p.c cs rs A ca rows/\Below wa.heap.size wa wr) (fun iv _=>m-(intOf iv).toNat)
  case atStart=>exact ⟨0,none,0,[],by omega,rfl,rfl,cb,bb⟩
  case round=>
   clear cb bb DR;obtain ⟨k,A,ca,rows,hk,rfl,hrl,cb,bw⟩:=hrel;have bU:=ag hrl;have l5:=ag cb;have fp:=ag bw;clear hrl cb bw;by_cases hlt:k<m
   ·have hir:k<p.rows.length:=by rw [ud.o];exact hlt
    have hrd:Rd Sl.val wr rA p.rows:=by rw [<-gu.o];exact HO.o.rd.below (qd aw.o fp.o) rfl
    obtain ⟨ad0,rfl,_,hc⟩:=hrd (by omega)
    have hcj:=hc k hir;have de:=ag (List.getElem_mem hir);have pa:Hd (fxV p.rows[k].vs=p.a k):=ag (by funext j;rw [Pg.a,bC _ _ _ hir];rfl)
    obtain ⟨s1,hs⟩:∃s,p.rows[k]=s:=⟨_,rfl⟩;rw [hs] at hcj de pa;have gN:Hd (s1.vs.length=n):=ag (by rw [<-fx.o];exact bN.o.la s1 de.o)
    have hcs:wr.cell? (ad0.add k)=some (.slice s1.A n s1.c):=by rw [<-gN.o];exact hcj
    clear hc hcj hs hrd;obtain ⟨i1,si,si0,si1,si2⟩:=info_parts jt;go_upto_region 13 with fail;have cb:=l5.o.below ((ah wr.heap.size wr).drew);have bw:=fp.o.drew;refine wp_region_held_drew (S:=fun _=>True) (by kernel_rfl) trivial fun hH=>?_
    have bz:=(ah wr.heap.size wr).drew;generalize wr.drew=wd at *;refine qj 12 fun Ha=>?_
    refine qh Ha 0 (.pointer (some ⟨G,0,none⟩)) rfl ?_;refine qh Ha 1 (.pointer (some ⟨G,0,none⟩)) rfl ?_;refine qh Ha 2 (.pointer (some ⟨G,0,none⟩)) rfl ?_;refine qh Ha 3 (.pointer (some ⟨G,2,none⟩)) rfl ?_;simp only [tz];refine tks Ha 5 (.slice s1.A n s1.c) rfl ?_;simp only [tz];refine wpAnyH_ready (rs := [4,6]) (tkn Ha (by kernel_rfl)) (by simp) ?_
    refine AllReadyH.cons rfl (fun K hK=>?_) ?_
    ·have k0:=cb.F.cell;rw [bU.o] at k0;go_simp;clear k0;refine hK.out _ _ trivial fun hH=>?_;clear hK K;try simp only [tz]
     refine tk1 Ha 6 rfl fun K hK=>?_;go_simp;go_at_call 38;refine (dD wd s1 n (((HO.o.rows s1 de.o).below aw.o).below (bw.mono (Nat.le_refl _))) gN.o (by omega) (bt.o.ea s1 de.o) (bN.o.va s1 de.o)).mono ?_
     rintro e we ⟨gl,vl,hvl,rfl,ol_,bb⟩;rw [pa.o] at ol_;have hgl:wd.heap.size<=gl:=(ol_.qr.fr.lt gl rfl).1;have hap:Ap A G ⟨some ⟨gl,0,none⟩,n,vl⟩:=fun _ ad e=>by
      injection e with e;subst e;exact ⟨fun h=>by have:=(cb.F.lt h).2;simp only at *;omega,fun h=>by have:=cb.gl;simp only at *;omega⟩
     have ol:Cl we (some ⟨gl,0,none⟩) vl (p.a k):=ol_.cl;clear ol_ hgl;replace cb:=cb.below bb;replace bw:=qd bw bb;clear bb hH;generalize we=wd at *;refine hK.out _ _ trivial fun hH=>?_;clear hK K;try simp only [tz]
     refine tk1 Ha 7 rfl fun K hK=>?_;go_simp;have lit:Rd Sl.val _ (some ⟨wd.heap.size,0,none⟩) [⟨some ⟨gl,0,none⟩,n,vl⟩]:=Rd.one_ wd 22 _ (.slice (some ⟨gl,0,none⟩) n n) (by show _=Value.slice _ vl.length n;rw [hvl])
     have bb:=qc wd (.cells #[.slice (some ⟨gl,0,none⟩) n n] 22);replace cb:=cb.below bb
     try replace ol:=ol.below bb
     replace bw:=qd bw bb;clear bb hH;generalize wd.heap.size=g80 at lit|-;generalize (wd.alloc (.cells #[.slice (some ⟨gl,0,none⟩) n n] 22))=wd at *;refine hK.out _ _ trivial fun hH=>?_;clear hK K;try simp only [tz]
     refine tk1 Ha 8 rfl fun K hK=>?_;refine bE wd (mk:=Sl.val) (fun _=>rfl) (fun _=>rfl) rfl _ _ 23 rfl 22 i1 (.slice none 0 0) 24 underlying23 si si0 si1 si2 rfl (by intro u hu;simp [Value.cells] at hu;subst hu;rfl) rfl bU.o.symm cb.F.gr cb.F.nl ⟨g80,0,none⟩ 1 1 [⟨some ⟨gl,0,none⟩,n,vl⟩] rfl rfl lit (by simp) (by simp only [maxLen];omega) (by omega) bw.size ?_
     intro A4 c4 we h1 h2 h3 h4 h5;have kk:Kp (fun a=>A.map (·.block)=some a) wd we:=ci h3 (fun k e=>e);have k0:=(kk.cell (p:=⟨G,2,none⟩) cb.gl (fun e=>cb.F.ne G e rfl)).trans cb.F.cell;have aF:=(kk.frozen (p:=⟨G,2,none⟩) cb.gl (fun e=>cb.F.ne G e rfl)).trans cb.F.fz;have cb2:=cb.push (s:=⟨some ⟨gl,0,none⟩,n,vl⟩) (by rw [bU.o];exact ol) hvl hap h1 h2 kk h5
     have hGB:=cb.gB;replace bw:=bw.trans h4;rw [bU.o] at cb2 k0;clear h1 h2 h3 h4 h5 kk cb ol hap lit hH;generalize we=wd at *;refine hK.out _ _ trivial fun hH=>?_;clear hK K;try simp only [tz]
     refine qh Ha 9 (.pointer (some ⟨G,0,none⟩)) rfl ?_;refine tks Ha 10 (.pointer (some ⟨G,2,none⟩)) rfl ?_;simp only [tz];refine tk1 Ha 11 rfl fun K hK=>?_;go_simp;clear k0 aF;have kG:Kp (fun a=>a=G) wd (wd.setCell ⟨G,2,none⟩ (.slice A4 (k+1) c4)):=(Kp.refl (fun a=>a=G) wd).set (S:=fun a=>a=G) rfl _ _;replace bw:=bw.trans (kG.below (fun a e=>by rw [e];exact hGB) bw.size)
     clear hH kG hGB;generalize (wd.setCell ⟨G,2,none⟩ (.slice A4 (k+1) c4))=wd at *;refine hK.out _ _ trivial fun hH=>?_;clear hK K;try simp only [tz]
     refine qp Ha ?_
     go_wp2_with fail;go_roundw
     case rel=>exact ⟨k+1,A4,c4,_,by omega,by go_num,by rw [List.length_append,bU.o];rfl,cb2,bw⟩
     case measure=>simp [intOf];omega
    refine AllReadyH.cons rfl (fun K hK=>?_) ?_
    ·go_simp;go_at_call 38;refine (dD wd s1 n (((HO.o.rows s1 de.o).below aw.o).below (bw.mono (Nat.le_refl _))) gN.o (by omega) (bt.o.ea s1 de.o) (bN.o.va s1 de.o)).mono ?_
     rintro e we ⟨gl,vl,hvl,rfl,ol_,bb⟩;rw [pa.o] at ol_;have hgl:wd.heap.size<=gl:=(ol_.qr.fr.lt gl rfl).1;have hap:Ap A G ⟨some ⟨gl,0,none⟩,n,vl⟩:=fun _ ad e=>by
      injection e with e;subst e;exact ⟨fun h=>by have:=(cb.F.lt h).2;simp only at *;omega,fun h=>by have:=cb.gl;simp only at *;omega⟩
     have ol:Cl we (some ⟨gl,0,none⟩) vl (p.a k):=ol_.cl;clear ol_ hgl;replace cb:=cb.below bb;replace bw:=qd bw bb;clear bb hH;generalize we=wd at *;refine hK.out _ _ trivial fun hH=>?_;clear hK K;try simp only [tz]
     refine wpAnyH_ready (rs := [4,7]) (tkn Ha (by kernel_rfl)) (by simp) ?_
     refine AllReadyH.cons rfl (fun K hK=>?_) ?_
     ·have k0:=cb.F.cell;rw [bU.o] at k0;go_simp;clear k0;refine hK.out _ _ trivial fun hH=>?_;clear hK K;try simp only [tz]
      refine tk1 Ha 7 rfl fun K hK=>?_;go_simp;have lit:Rd Sl.val _ (some ⟨wd.heap.size,0,none⟩) [⟨some ⟨gl,0,none⟩,n,vl⟩]:=Rd.one_ wd 22 _ (.slice (some ⟨gl,0,none⟩) n n) (by show _=Value.slice _ vl.length n;rw [hvl])
      have bb:=qc wd (.cells #[.slice (some ⟨gl,0,none⟩) n n] 22);replace cb:=cb.below bb
      try replace ol:=ol.below bb
      replace bw:=qd bw bb;clear bb hH;generalize wd.heap.size=g80 at lit|-;generalize (wd.alloc (.cells #[.slice (some ⟨gl,0,none⟩) n n] 22))=wd at *;refine hK.out _ _ trivial fun hH=>?_;clear hK K;try simp only [tz]
      refine tk1 Ha 8 rfl fun K hK=>?_;refine bE wd (mk:=Sl.val) (fun _=>rfl) (fun _=>rfl) rfl _ _ 23 rfl 22 i1 (.slice none 0 0) 24 underlying23 si si0 si1 si2 rfl (by intro u hu;simp [Value.cells] at hu;subst hu;rfl) rfl bU.o.symm cb.F.gr cb.F.nl ⟨g80,0,none⟩ 1 1 [⟨some ⟨gl,0,none⟩,n,vl⟩] rfl rfl lit (by simp) (by simp only [maxLen];omega) (by omega) bw.size ?_
      intro A4 c4 we h1 h2 h3 h4 h5;have kk:Kp (fun a=>A.map (·.block)=some a) wd we:=ci h3 (fun k e=>e);have k0:=(kk.cell (p:=⟨G,2,none⟩) cb.gl (fun e=>cb.F.ne G e rfl)).trans cb.F.cell;have aF:=(kk.frozen (p:=⟨G,2,none⟩) cb.gl (fun e=>cb.F.ne G e rfl)).trans cb.F.fz;have cb2:=cb.push (s:=⟨some ⟨gl,0,none⟩,n,vl⟩) (by rw [bU.o];exact ol) hvl hap h1 h2 kk h5
      have hGB:=cb.gB;replace bw:=bw.trans h4;rw [bU.o] at cb2 k0;clear h1 h2 h3 h4 h5 kk cb ol hap lit hH;generalize we=wd at *;refine hK.out _ _ trivial fun hH=>?_;clear hK K;try simp only [tz]
      refine qh Ha 9 (.pointer (some ⟨G,0,none⟩)) rfl ?_;refine tks Ha 10 (.pointer (some ⟨G,2,none⟩)) rfl ?_;simp only [tz];refine tk1 Ha 11 rfl fun K hK=>?_;go_simp;clear k0 aF;have kG:Kp (fun a=>a=G) wd (wd.setCell ⟨G,2,none⟩ (.slice A4 (k+1) c4)):=(Kp.refl (fun a=>a=G) wd).set (S:=fun a=>a=G) rfl _ _;replace bw:=bw.trans (kG.below (fun a e=>by rw [e];exact hGB) bw.size)
      clear hH kG hGB;generalize (wd.setCell ⟨G,2,none⟩ (.slice A4 (k+1) c4))=wd at *;refine hK.out _ _ trivial fun hH=>?_;clear hK K;try simp only [tz]
      refine qp Ha ?_
      go_wp2_with fail;go_roundw
      case rel=>exact ⟨k+1,A4,c4,_,by omega,by go_num,by rw [List.length_append,bU.o];rfl,cb2,bw⟩
      case measure=>simp [intOf];omega
     refine AllReadyH.cons rfl (fun K hK=>?_) ?_
     ·go_simp;have lit:Rd Sl.val _ (some ⟨wd.heap.size,0,none⟩) [⟨some ⟨gl,0,none⟩,n,vl⟩]:=Rd.one_ wd 22 _ (.slice (some ⟨gl,0,none⟩) n n) (by show _=Value.slice _ vl.length n;rw [hvl])
      have bb:=qc wd (.cells #[.slice (some ⟨gl,0,none⟩) n n] 22);replace cb:=cb.below bb
      try replace ol:=ol.below bb
      replace bw:=qd bw bb;clear bb hH;generalize wd.heap.size=g80 at lit|-;generalize (wd.alloc (.cells #[.slice (some ⟨gl,0,none⟩) n n] 22))=wd at *;refine hK.out _ _ trivial fun hH=>?_;clear hK K;try simp only [tz]
      refine tk1 Ha 4 rfl fun K hK=>?_;have k0:=cb.F.cell;rw [bU.o] at k0;go_simp;clear k0;refine hK.out _ _ trivial fun hH=>?_;clear hK K;try simp only [tz]
      refine tk1 Ha 8 rfl fun K hK=>?_;refine bE wd (mk:=Sl.val) (fun _=>rfl) (fun _=>rfl) rfl _ _ 23 rfl 22 i1 (.slice none 0 0) 24 underlying23 si si0 si1 si2 rfl (by intro u hu;simp [Value.cells] at hu;subst hu;rfl) rfl bU.o.symm cb.F.gr cb.F.nl ⟨g80,0,none⟩ 1 1 [⟨some ⟨gl,0,none⟩,n,vl⟩] rfl rfl lit (by simp) (by simp only [maxLen];omega) (by omega) bw.size ?_
      intro A4 c4 we h1 h2 h3 h4 h5;have kk:Kp (fun a=>A.map (·.block)=some a) wd we:=ci h3 (fun k e=>e);have k0:=(kk.cell (p:=⟨G,2,none⟩) cb.gl (fun e=>cb.F.ne G e rfl)).trans cb.F.cell;have aF:=(kk.frozen (p:=⟨G,2,none⟩) cb.gl (fun e=>cb.F.ne G e rfl)).trans cb.F.fz;have cb2:=cb.push (s:=⟨some ⟨gl,0,none⟩,n,vl⟩) (by rw [bU.o];exact ol) hvl hap h1 h2 kk h5
      have hGB:=cb.gB;replace bw:=bw.trans h4;rw [bU.o] at cb2 k0;clear h1 h2 h3 h4 h5 kk cb ol hap lit hH;generalize we=wd at *;refine hK.out _ _ trivial fun hH=>?_;clear hK K;try simp only [tz]
      refine qh Ha 9 (.pointer (some ⟨G,0,none⟩)) rfl ?_;refine tks Ha 10 (.pointer (some ⟨G,2,none⟩)) rfl ?_;simp only [tz];refine tk1 Ha 11 rfl fun K hK=>?_;go_simp;clear k0 aF;have kG:Kp (fun a=>a=G) wd (wd.setCell ⟨G,2,none⟩ (.slice A4 (k+1) c4)):=(Kp.refl (fun a=>a=G) wd).set (S:=fun a=>a=G) rfl _ _;replace bw:=bw.trans (kG.below (fun a e=>by rw [e];exact hGB) bw.size)
      clear hH kG hGB;generalize (wd.setCell ⟨G,2,none⟩ (.slice A4 (k+1) c4))=wd at *;refine hK.out _ _ trivial fun hH=>?_;clear hK K;try simp only [tz]
      refine qp Ha ?_
      go_wp2_with fail;go_roundw
      case rel=>exact ⟨k+1,A4,c4,_,by omega,by go_num,by rw [List.length_append,bU.o];rfl,cb2,bw⟩
      case measure=>simp [intOf];omega
     exact AllReadyH.nil
    exact AllReadyH.nil
   ·obtain rfl:m=k:=by omega
    have cL:=ag (l5.o.ck bU.o);have zx:=ag (bO.o.below fp.o);obtain ⟨mdx,elx,xs,hxl,hxc⟩:=(HX.o.below fp.o).t rfl;obtain ⟨mdy,ely,ys,hyl,hyc⟩:=(HY.o.below fp.o).t rfl;obtain ⟨mdr,elr,zs,hzl,hzc⟩:=(HR.o.below fp.o).t rfl;obtain ⟨mdv,elv,vv,hvl,hvc⟩:=(HV.o.below fp.o).t rfl;obtain rfl:l4=1:=elv;obtain ⟨av,rfl,xv,hve,hvx⟩:=hvc.at (k:=0) (by rw [hvl];omega)
    have iw:Hd (Ef wr av xv):=ag (by rw [Nat.zero_mul,qQ] at hve;exact hve)
    have bX:Hd (El wr xv s.v.q):=ag hvx;have zy:Hd (Sz s.v.q 32 32):=ag (mdv.v 0 (by simp)).2
    have BS:=ag hxc;have zz:=ag hyc;have r8:=ag hzc;have m3:=ag mdx.mz;have m7:=ag mdy.mz;have ui:=ag mdr.mz;have DS:=ag fc.o.lX;have nE:=ag fc.o.lY;have EV:=ag fc.o.lR;have nI:Hd (bo=true↔dN s.kind n m s.X.vs.length s.Y.vs.length s.R.vs.length p.a p.b p.c (fxV s.X.vs) (fxV s.Y.vs) (fxV s.R.vs) s.v.q):=ag (by
     rw [<-fx.o,<-ud.o];exact HB.o.trans ⟨fun f=>f.P,fun f=>⟨bN.o,mdx,mdy,mdr,mdv,f⟩⟩)
    obtain ⟨U,hU⟩:∃U,Pz n m p.a p.b p.c U:=⟨_,by have:=bN.o.pz;rw [fx.o,ud.o] at this;exact this⟩
    have eh:=ag hU;obtain ⟨V1,hV1⟩:∃V,eV (fxV s.X.vs) s.X.vs.length=V:=⟨_,rfl⟩;obtain ⟨V2,hV2⟩:∃V,eV (fxV s.Y.vs) s.Y.vs.length=V:=⟨_,rfl⟩;obtain ⟨V3,hV3⟩:∃V,eV (fxV s.R.vs) s.R.vs.length=V:=⟨_,rfl⟩;rw [hV1] at m3;rw [hV2] at m7;rw [hV3] at ui;clear hV1 hV2 hV3 HX HY HR HV HB hve hvx hxc hyc hzc hvc mdx mdy mdr mdv hU;generalize s.X.vs.length=nx at *;generalize s.Y.vs.length=ny at *;generalize s.R.vs.length=nr at *;generalize fxV s.X.vs=ux at *;generalize fxV s.Y.vs=uy at *;generalize fxV s.R.vs=ur at *;have ex:=elx.symm;have ey:=ely.symm;have er:=elr.symm;clear elx ely elr;subst ex ey er
    have i5:=ag hxl;have ii:=ag hyl;have bU:=ag hzl;have jc:=ag (qd aw.o fp.o);clear mw;have mw:=ui;clear ui;have s0:=zx.o.c0;clear hxl hyl hzl hvl bO zx bq fl t8 iB fm l5 fp fc;have hn:n<=1000:=by omega
    have hm:m<=1000:=by omega
    rcases pm.o with hk2|hk3
    ·rw [hk2] at s0 nI;clear hk2 pm;have HB:Hd (bo=true↔_):=ag (nI.o.trans dN.two);clear nI;go_upto_region 19 with fail;clear s0;obtain ⟨f2,hf2⟩:=lu (dU n m ny p.a uy (fun _=>0));obtain ⟨z1,hz1⟩:∃z,bA (aj (fun i=>uy i*p.b i) m-0) 0=z:=⟨_,rfl⟩;obtain ⟨z2,hz2⟩:∃z,bA s.v.q 0=z:=⟨_,rfl⟩;have Hf2:=ag hf2;have Hz1:=ag hz1;have Hz2:=ag hz2;clear hf2 hz1 hz2;by_cases h0:nx=0
     ·have lH:=ag h0;have hx0:((nx:Int) == 0)=true:=by simpa using h0
      clear h0;by_cases h1:nr=0
      ·have y6:=ag h1;have hr0:((nr:Int) == 0)=true:=by simpa using h1
       clear h1;have a7:Hd (∀w',Below wr.heap.size wr w'->(w'.cell? ⟨G,0,none⟩=some (.slice cs.A n cs.c)/\w'.cell? ⟨G,1,none⟩=some (.slice rs.A m rs.c)/\w'.cell? ⟨G,2,none⟩=some (.slice A m ca)/\w'.cell? av=some (.bool xv.b)/\w'.cell? ⟨av.block,av.off+1,none⟩=some (.slice xv.A xv.xs.length xv.c)/\w'.cell? ⟨av.block,av.off+2,none⟩=some (.slice xv.D xv.ys.length xv.d))):=ag (fun _ bz=>⟨(cL.o.below bz).c0,(cL.o.below bz).c1,(cL.o.below bz).c2,(iw.o.below bz).c0,(iw.o.below bz).c1,(iw.o.below bz).c2⟩);refine fR a7 (by kernel_rfl) fun hH=>?_
       have bz:=(ah wr.heap.size wr).drew;generalize wr.drew=wd at *;refine qj 37 fun Ha=>?_
       refine qh Ha 0 (.slice A1 nx c1) rfl ?_;refine qh Ha 1 (.int .i64 (nx:Int)) rfl ?_;refine qh Ha 2 (.bool true) rfl ?_;refine qh Ha 3 (.bool true) rfl ?_;simp only [tz];refine qh Ha 4 (.slice A3 nr c3) rfl ?_;refine qh Ha 5 (.int .i64 (nr:Int)) rfl ?_;refine tks Ha 6 (.bool true) rfl ?_;simp only [tz];refine tkm Ha 2 [(7,143,1,some true)] rfl ?_;simp only [exI,exD,bI,kV,rpS,rpZ,apC,apN];refine qh Ha 9 (.pointer (some ⟨G,0,none⟩)) rfl ?_;refine qh Ha 10 (.slice A2 ny c2) rfl ?_
       refine qh Ha 11 (.pointer (some ⟨G,0,none⟩)) rfl ?_;refine qh Ha 12 (.pointer (some ⟨G,0,none⟩)) rfl ?_;simp only [tz];refine qh Ha 13 (.pointer (some ⟨G,0,none⟩)) rfl ?_;refine qh Ha 14 (.slice cs.A n cs.c) rfl ?_;refine tks Ha 15 (.int .i64 (n:Int)) rfl ?_;simp only [tz];refine tk1 Ha 16 rfl fun K hK=>?_;go_simp;go_at_call 42;refine (oH wd n hn).mono ?_;rintro e wd ⟨g0,v0,hv0,rfl,oz,bb⟩;have cz:Cl wd (some ⟨g0,0,none⟩) v0 (fun _=>0):=oz.cl;clear oz;replace bz:=qd bz bb;clear bb;refine hK.out _ _ (a7.o _ bz) fun hH=>?_;clear hK K;try simp only [tz]
       refine tk1 Ha 17 rfl fun K hK=>?_;go_simp;go_at_call 40;refine (oO wd G n m ny p.a p.b p.c cs rs A ca rows (cL.o.below bz) hn hm A2 (some ⟨g0,0,none⟩) c2 n ys v0 uy (fun _=>0) U V2 f2 (zz.o.below bz) cz ii.o hv0 eh.o m7.o (fun _ _=>Sz.zero 60 (by omega)) Hf2.o).mono ?_
       rintro e wd ⟨rfl,bb⟩;clear cz;replace bz:=qd bz bb;clear bb;refine hK.out _ _ (a7.o _ bz) fun hH=>?_;clear hK K;try simp only [tz]
       cases f2
       ·skip
        refine tkm Ha 18 [(18,154,1,some false),(0,0,7,none),(0,0,1,some false),(0,0,4,none),(0,0,0,some false)] rfl ?_;simp only [exI,exD,bI,kV,rpS,rpZ,apC,apN];refine tkm Ha 1 [(36,4,0,some false)] rfl ?_;simp only [exI,exD,bI,kV,rpZ,apN];refine qp Ha ?_
        have hbf:bo=false:=by
         cases bo
         ·rfl
         ·exact absurd (HB.o.1 rfl) (fun f=>Bool.noConfusion (Hf2.o.2 f.2.2.1))
        subst hbf;go_wp2_with fail;go_ret;exact ⟨rfl,qd jc.o bz⟩
       ·skip
        have pc:=ag (Hf2.o.1 rfl).1;refine tkm Ha 2 [(18,154,1,some true)] rfl ?_;simp only [exI,exD,bI,kV,rpS,rpZ,apC,apN];refine qh Ha 20 (.slice A2 ny c2) rfl ?_;refine qh Ha 21 (.pointer (some ⟨G,0,none⟩)) rfl ?_;refine qh Ha 22 (.pointer (some ⟨G,0,none⟩)) rfl ?_;refine qh Ha 23 (.pointer (some ⟨G,1,none⟩)) rfl ?_;simp only [tz];refine tks Ha 24 (.slice rs.A m rs.c) rfl ?_;simp only [tz];refine tk1 Ha 25 rfl fun K hK=>?_;go_simp;go_at_call 43;refine (dO wd).mono ?_;rintro e wd ⟨x0,rfl,e0,bb⟩;replace bz:=qd bz bb;clear bb
        refine hK.out _ _ (a7.o _ bz) fun hH=>?_;clear hK K;try simp only [tz]
        refine tk1 Ha 26 rfl fun K hK=>?_;go_simp;go_at_call 41;refine (ig wd A2 rs.A c2 rs.c ys rs.vs x0 uy p.b 0 z1 V2 U ny m m pc.o rfl (zz.o.below bz) (cL.o.below bz).cb e0 (ii.o.trans pc.o) cL.o.lb hm (fun k hk=>(m7.o.s k (by rw [pc.o];exact hk)).1) (fun k hk=>(eh.o.sb k hk).1) (Sz.zero 60 (by omega)) (fun k hk=>(m7.o.s k (by rw [pc.o];exact hk)).2) (fun k hk=>(eh.o.sb k hk).2) m7.o.vl eh.o.ul m7.o.v0 eh.o.u0 Hz1.o).mono ?_
        rintro e wd ⟨rfl,bb⟩;clear e0;replace bz:=qd bz bb;clear bb;refine hK.out _ _ (a7.o _ bz) fun hH=>?_;clear hK K;try simp only [tz]
        by_cases hz1:0<z1
        ·skip
         have hd_z1:decide (0<z1)=true:=by simpa using hz1
         refine tks Ha 27 (.bool true) rfl ?_;simp only [tz];refine tkm Ha 2 [(28,164,1,some true)] rfl ?_;simp only [exI,exD,bI,kV,rpS,rpZ,apC,apN];refine qh Ha 30 (.slice (some av) 1 c4) rfl ?_;refine qh Ha 31 (.pointer (some av)) rfl ?_;refine tks Ha 32 (xv.val) rfl ?_;simp only [tz];refine tk1 Ha 33 rfl fun K hK=>?_;go_simp;go_at_call 44;refine (aU wd xv s.v.q z2 (bX.o.below bz) (zy.o.mono (by omega) (by omega)) Hz2.o).mono ?_
         rintro e wd ⟨rfl,bb⟩;replace bz:=qd bz bb;clear bb;refine hK.out _ _ (a7.o _ bz) fun hH=>?_;clear hK K;try simp only [tz]
         by_cases hz2:z2=0
         ·subst hz2;refine qh Ha 34 (.bool true) rfl ?_;refine tks Ha 35 (.bool true) rfl ?_;simp only [tz];refine tkm Ha 1 [(36,4,0,some true)] rfl ?_;simp only [exI,exD,bI,kV,rpZ,apN];refine qp Ha ?_
          have hbt:bo=true:=HB.o.2 ⟨lH.o,y6.o,Hf2.o.1 rfl,(kT _ _).1 (by rw [Hz1.o];exact hz1),(aZ _).1 Hz2.o⟩
          subst hbt;go_wp2_with fail;go_ret;exact ⟨rfl,qd jc.o bz⟩
         ·skip
          have hd_z2:(z2 == 0)=false:=by simpa using hz2
          refine qh Ha 34 (.bool false) rfl ?_;refine tks Ha 35 (.bool false) rfl ?_;simp only [tz];refine tkm Ha 1 [(36,4,0,some false)] rfl ?_;simp only [exI,exD,bI,kV,rpZ,apN];refine qp Ha ?_
          have hbf:bo=false:=by
           cases bo
           ·rfl
           ·exact absurd (HB.o.1 rfl) (fun f=>hz2 (Hz2.o.symm.trans ((aZ _).2 f.2.2.2.2)))
          subst hbf;go_wp2_with fail;go_ret;exact ⟨rfl,qd jc.o bz⟩
        ·skip
         have hd_z1:decide (0<z1)=false:=by simpa using hz1
         refine tks Ha 27 (.bool false) rfl ?_;simp only [tz];refine tkm Ha 8 [(28,164,1,some false),(0,0,4,none),(0,0,0,some false)] rfl ?_;simp only [exI,exD,bI,kV,rpS,rpZ,apC,apN];refine tkm Ha 1 [(36,4,0,some false)] rfl ?_;simp only [exI,exD,bI,kV,rpZ,apN];refine qp Ha ?_
         have hbf:bo=false:=by
          cases bo
          ·rfl
          ·exact absurd (HB.o.1 rfl) (fun f=>hz1 (Hz1.o ▸ (kT _ _).2 f.2.2.2.1))
         subst hbf;go_wp2_with fail;go_ret;exact ⟨rfl,qd jc.o bz⟩
      ·have hr0:((nr:Int) == 0)=false:=by simpa using h1
       have a7:Hd (∀w',Below wr.heap.size wr w'->(w'.cell? ⟨G,0,none⟩=some (.slice cs.A n cs.c)/\w'.cell? ⟨G,1,none⟩=some (.slice rs.A m rs.c)/\w'.cell? ⟨G,2,none⟩=some (.slice A m ca)/\w'.cell? av=some (.bool xv.b)/\w'.cell? ⟨av.block,av.off+1,none⟩=some (.slice xv.A xv.xs.length xv.c)/\w'.cell? ⟨av.block,av.off+2,none⟩=some (.slice xv.D xv.ys.length xv.d))):=ag (fun _ bz=>⟨(cL.o.below bz).c0,(cL.o.below bz).c1,(cL.o.below bz).c2,(iw.o.below bz).c0,(iw.o.below bz).c1,(iw.o.below bz).c2⟩);refine fR a7 (by kernel_rfl) fun hH=>?_
       have bz:=(ah wr.heap.size wr).drew;generalize wr.drew=wd at *;refine qj 37 fun Ha=>?_
       refine qh Ha 0 (.slice A1 nx c1) rfl ?_;refine qh Ha 1 (.int .i64 (nx:Int)) rfl ?_;refine qh Ha 2 (.bool true) rfl ?_;refine qh Ha 3 (.bool true) rfl ?_;simp only [tz];refine qh Ha 4 (.slice A3 nr c3) rfl ?_;refine qh Ha 5 (.int .i64 (nr:Int)) rfl ?_;refine tks Ha 6 (.bool false) rfl ?_;simp only [tz];refine tkm Ha 29 [(7,143,1,some false),(0,0,8,none),(0,0,1,some false),(0,0,7,none),(0,0,1,some false),(0,0,4,none),(0,0,0,some false)] rfl ?_;simp only [exI,exD,bI,kV,rpS,rpZ,apC,apN];refine tkm Ha 1 [(36,4,0,some false)] rfl ?_
       simp only [exI,exD,bI,kV,rpZ,apN];refine qp Ha ?_
       have hbf:bo=false:=by
        cases bo
        ·rfl
        ·exact absurd (HB.o.1 rfl) (fun f=>h1 f.2.1)
       subst hbf;go_wp2_with fail;go_ret;exact ⟨rfl,qd jc.o bz⟩
     ·have hx0:((nx:Int) == 0)=false:=by simpa using h0
      have a7:Hd (∀w',Below wr.heap.size wr w'->(w'.cell? ⟨G,0,none⟩=some (.slice cs.A n cs.c)/\w'.cell? ⟨G,1,none⟩=some (.slice rs.A m rs.c)/\w'.cell? ⟨G,2,none⟩=some (.slice A m ca)/\w'.cell? av=some (.bool xv.b)/\w'.cell? ⟨av.block,av.off+1,none⟩=some (.slice xv.A xv.xs.length xv.c)/\w'.cell? ⟨av.block,av.off+2,none⟩=some (.slice xv.D xv.ys.length xv.d))):=ag (fun _ bz=>⟨(cL.o.below bz).c0,(cL.o.below bz).c1,(cL.o.below bz).c2,(iw.o.below bz).c0,(iw.o.below bz).c1,(iw.o.below bz).c2⟩);refine fR a7 (by kernel_rfl) fun hH=>?_
      have bz:=(ah wr.heap.size wr).drew;generalize wr.drew=wd at *;refine qj 37 fun Ha=>?_
      refine qh Ha 0 (.slice A1 nx c1) rfl ?_;refine qh Ha 1 (.int .i64 (nx:Int)) rfl ?_;refine tks Ha 2 (.bool false) rfl ?_;simp only [tz];refine tkm Ha 33 [(3,139,0,some false),(0,0,2,none),(0,0,1,some false),(0,0,8,none),(0,0,1,some false),(0,0,7,none),(0,0,1,some false),(0,0,4,none),(0,0,0,some false)] rfl ?_;simp only [exI,exD,bI,kV,rpS,rpZ,apC,apN];refine tkm Ha 1 [(36,4,0,some false)] rfl ?_;simp only [exI,exD,bI,kV,rpZ,apN];refine qp Ha ?_
      have hbf:bo=false:=by
       cases bo
       ·rfl
       ·exact absurd (HB.o.1 rfl) (fun f=>h0 f.1)
      subst hbf;go_wp2_with fail;go_ret;exact ⟨rfl,qd jc.o bz⟩
    ·rw [hk3] at s0 nI;clear hk3 pm;have HB:Hd (bo=true↔_):=ag (nI.o.trans dN.three);clear nI;go_upto_region 21 with fail;clear s0;obtain ⟨f1,hf1⟩:=lu (dX n m nx p.a ux p.b);obtain ⟨f2,hf2⟩:=lu (dX n m nr p.a ur (fun _=>0));obtain ⟨z1,hz1⟩:∃z,bA (aj (fun i=>p.c i*ur i) n-0) 0=z:=⟨_,rfl⟩;obtain ⟨z2,hz2⟩:∃z,bA s.v.q 0=z:=⟨_,rfl⟩;have Hf1:=ag hf1;have Hf2:=ag hf2;have Hz1:=ag hz1;have Hz2:=ag hz2;clear hf1 hf2 hz1 hz2;by_cases h0:ny=0
     ·have Aa:=ag h0;have hy0:((ny:Int) == 0)=true:=by simpa using h0
      clear h0;have a7:Hd (∀w',Below wr.heap.size wr w'->(w'.cell? ⟨G,0,none⟩=some (.slice cs.A n cs.c)/\w'.cell? ⟨G,1,none⟩=some (.slice rs.A m rs.c)/\w'.cell? ⟨G,2,none⟩=some (.slice A m ca)/\w'.cell? av=some (.bool xv.b)/\w'.cell? ⟨av.block,av.off+1,none⟩=some (.slice xv.A xv.xs.length xv.c)/\w'.cell? ⟨av.block,av.off+2,none⟩=some (.slice xv.D xv.ys.length xv.d))):=ag (fun _ bz=>⟨(cL.o.below bz).c0,(cL.o.below bz).c1,(cL.o.below bz).c2,(iw.o.below bz).c0,(iw.o.below bz).c1,(iw.o.below bz).c2⟩);refine fR a7 (by kernel_rfl) fun hH=>?_
      have bz:=(ah wr.heap.size wr).drew;generalize wr.drew=wd at *;refine qj 41 fun Ha=>?_
      refine qh Ha 0 (.slice A2 ny c2) rfl ?_;refine qh Ha 1 (.int .i64 (ny:Int)) rfl ?_;refine qh Ha 2 (.bool true) rfl ?_;refine qh Ha 3 (.bool true) rfl ?_;simp only [tz];refine qh Ha 4 (.pointer (some ⟨G,0,none⟩)) rfl ?_;refine qh Ha 5 (.slice A1 nx c1) rfl ?_;refine qh Ha 6 (.pointer (some ⟨G,0,none⟩)) rfl ?_;refine qh Ha 7 (.pointer (some ⟨G,0,none⟩)) rfl ?_;simp only [tz];refine qh Ha 8 (.pointer (some ⟨G,1,none⟩)) rfl ?_;refine tks Ha 9 (.slice rs.A m rs.c) rfl ?_;simp only [tz]
      refine tk1 Ha 10 rfl fun K hK=>?_;go_simp;go_at_call 39;refine (ml wd G n m nx p.a p.b p.c cs rs A ca rows (cL.o.below bz) hn hm A1 rs.A c1 rs.c xs rs.vs ux p.b U V1 f1 (BS.o.below bz) (cL.o.below bz).cb i5.o DS.o cL.o.lb eh.o m3.o (fun i hi=>(eh.o.sb i hi).1.mono (by omega) (by omega)) Hf1.o).mono ?_
      rintro e wd ⟨rfl,bb⟩;replace bz:=qd bz bb;clear bb;refine hK.out _ _ (a7.o _ bz) fun hH=>?_;clear hK K;try simp only [tz]
      cases f1
      ·skip
       refine tkm Ha 29 [(11,185,1,some false),(0,0,8,none),(0,0,1,some false),(0,0,7,none),(0,0,1,some false),(0,0,4,none),(0,0,0,some false)] rfl ?_;simp only [exI,exD,bI,kV,rpS,rpZ,apC,apN];refine tkm Ha 1 [(40,4,0,some false)] rfl ?_;simp only [exI,exD,bI,kV,rpZ,apN];refine qp Ha ?_
       have hbf:bo=false:=by
        cases bo
        ·rfl
        ·exact absurd (HB.o.1 rfl) (fun f=>Bool.noConfusion (Hf1.o.2 f.2.1))
       subst hbf;go_wp2_with fail;go_ret;exact ⟨rfl,qd jc.o bz⟩
      ·skip
       skip
       refine tkm Ha 2 [(11,185,1,some true)] rfl ?_;simp only [exI,exD,bI,kV,rpS,rpZ,apC,apN];refine qh Ha 13 (.pointer (some ⟨G,0,none⟩)) rfl ?_;refine qh Ha 14 (.slice A3 nr c3) rfl ?_;refine qh Ha 15 (.pointer (some ⟨G,0,none⟩)) rfl ?_;refine qh Ha 16 (.pointer (some ⟨G,0,none⟩)) rfl ?_;simp only [tz];refine qh Ha 17 (.pointer (some ⟨G,2,none⟩)) rfl ?_;refine qh Ha 18 (.slice A m ca) rfl ?_;refine tks Ha 19 (.int .i64 (m:Int)) rfl ?_;simp only [tz];refine tk1 Ha 20 rfl fun K hK=>?_;go_simp;go_at_call 42
       refine (oH wd m hm).mono ?_;rintro e wd ⟨g0,v0,hv0,rfl,oz,bb⟩;have cz:Cl wd (some ⟨g0,0,none⟩) v0 (fun _=>0):=oz.cl;clear oz;replace bz:=qd bz bb;clear bb;refine hK.out _ _ (a7.o _ bz) fun hH=>?_;clear hK K;try simp only [tz]
       refine tk1 Ha 21 rfl fun K hK=>?_;go_simp;go_at_call 39;refine (ml wd G n m nr p.a p.b p.c cs rs A ca rows (cL.o.below bz) hn hm A3 (some ⟨g0,0,none⟩) c3 m zs v0 ur (fun _=>0) U V3 f2 (r8.o.below bz) cz bU.o EV.o hv0 eh.o mw.o (fun _ _=>Sz.zero 60 (by omega)) Hf2.o).mono ?_
       rintro e wd ⟨rfl,bb⟩;clear cz;replace bz:=qd bz bb;clear bb;refine hK.out _ _ (a7.o _ bz) fun hH=>?_;clear hK K;try simp only [tz]
       cases f2
       ·skip
        refine tkm Ha 18 [(22,196,1,some false),(0,0,7,none),(0,0,1,some false),(0,0,4,none),(0,0,0,some false)] rfl ?_;simp only [exI,exD,bI,kV,rpS,rpZ,apC,apN];refine tkm Ha 1 [(40,4,0,some false)] rfl ?_;simp only [exI,exD,bI,kV,rpZ,apN];refine qp Ha ?_
        have hbf:bo=false:=by
         cases bo
         ·rfl
         ·exact absurd (HB.o.1 rfl) (fun f=>Bool.noConfusion (Hf2.o.2 f.2.2.1))
        subst hbf;go_wp2_with fail;go_ret;exact ⟨rfl,qd jc.o bz⟩
       ·skip
        have jp:=ag (Hf2.o.1 rfl).1;refine tkm Ha 2 [(22,196,1,some true)] rfl ?_;simp only [exI,exD,bI,kV,rpS,rpZ,apC,apN];refine qh Ha 24 (.pointer (some ⟨G,0,none⟩)) rfl ?_;refine qh Ha 25 (.pointer (some ⟨G,0,none⟩)) rfl ?_;refine qh Ha 26 (.pointer (some ⟨G,0,none⟩)) rfl ?_;refine qh Ha 27 (.slice cs.A n cs.c) rfl ?_;simp only [tz];refine tks Ha 28 (.slice A3 nr c3) rfl ?_;simp only [tz];refine tk1 Ha 29 rfl fun K hK=>?_;go_simp;go_at_call 43;refine (dO wd).mono ?_;rintro e wd ⟨x0,rfl,e0,bb⟩;replace bz:=qd bz bb;clear bb
        refine hK.out _ _ (a7.o _ bz) fun hH=>?_;clear hK K;try simp only [tz]
        refine tk1 Ha 30 rfl fun K hK=>?_;go_simp;go_at_call 41;refine (ig wd cs.A A3 cs.c c3 cs.vs zs x0 p.c ur 0 z1 U V3 n nr n rfl jp.o (cL.o.below bz).cc (r8.o.below bz) e0 cL.o.lc (bU.o.trans jp.o) hn (fun k hk=>(eh.o.sc k hk).1) (fun k hk=>(mw.o.s k (by rw [jp.o];exact hk)).1) (Sz.zero 60 (by omega)) (fun k hk=>(eh.o.sc k hk).2) (fun k hk=>(mw.o.s k (by rw [jp.o];exact hk)).2) eh.o.ul mw.o.vl eh.o.u0 mw.o.v0 Hz1.o).mono ?_
        rintro e wd ⟨rfl,bb⟩;clear e0;replace bz:=qd bz bb;clear bb;refine hK.out _ _ (a7.o _ bz) fun hH=>?_;clear hK K;try simp only [tz]
        by_cases hz1:z1<0
        ·skip
         have hd_z1:decide (z1<0)=true:=by simpa using hz1
         refine tks Ha 31 (.bool true) rfl ?_;simp only [tz];refine tkm Ha 2 [(32,206,1,some true)] rfl ?_;simp only [exI,exD,bI,kV,rpS,rpZ,apC,apN];refine qh Ha 34 (.slice (some av) 1 c4) rfl ?_;refine qh Ha 35 (.pointer (some av)) rfl ?_;refine tks Ha 36 (xv.val) rfl ?_;simp only [tz];refine tk1 Ha 37 rfl fun K hK=>?_;go_simp;go_at_call 44;refine (aU wd xv s.v.q z2 (bX.o.below bz) (zy.o.mono (by omega) (by omega)) Hz2.o).mono ?_
         rintro e wd ⟨rfl,bb⟩;replace bz:=qd bz bb;clear bb;refine hK.out _ _ (a7.o _ bz) fun hH=>?_;clear hK K;try simp only [tz]
         by_cases hz2:z2=0
         ·subst hz2;refine qh Ha 38 (.bool true) rfl ?_;refine tks Ha 39 (.bool true) rfl ?_;simp only [tz];refine tkm Ha 1 [(40,4,0,some true)] rfl ?_;simp only [exI,exD,bI,kV,rpZ,apN];refine qp Ha ?_
          have hbt:bo=true:=HB.o.2 ⟨Aa.o,Hf1.o.1 rfl,Hf2.o.1 rfl,(tW _).1 (by rw [Hz1.o];exact hz1),(aZ _).1 Hz2.o⟩
          subst hbt;go_wp2_with fail;go_ret;exact ⟨rfl,qd jc.o bz⟩
         ·skip
          have hd_z2:(z2 == 0)=false:=by simpa using hz2
          refine qh Ha 38 (.bool false) rfl ?_;refine tks Ha 39 (.bool false) rfl ?_;simp only [tz];refine tkm Ha 1 [(40,4,0,some false)] rfl ?_;simp only [exI,exD,bI,kV,rpZ,apN];refine qp Ha ?_
          have hbf:bo=false:=by
           cases bo
           ·rfl
           ·exact absurd (HB.o.1 rfl) (fun f=>hz2 (Hz2.o.symm.trans ((aZ _).2 f.2.2.2.2)))
          subst hbf;go_wp2_with fail;go_ret;exact ⟨rfl,qd jc.o bz⟩
        ·skip
         have hd_z1:decide (z1<0)=false:=by simpa using hz1
         refine tks Ha 31 (.bool false) rfl ?_;simp only [tz];refine tkm Ha 8 [(32,206,1,some false),(0,0,4,none),(0,0,0,some false)] rfl ?_;simp only [exI,exD,bI,kV,rpS,rpZ,apC,apN];refine tkm Ha 1 [(40,4,0,some false)] rfl ?_;simp only [exI,exD,bI,kV,rpZ,apN];refine qp Ha ?_
         have hbf:bo=false:=by
          cases bo
          ·rfl
          ·exact absurd (HB.o.1 rfl) (fun f=>hz1 (Hz1.o ▸ (tW _).2 f.2.2.2.1))
         subst hbf;go_wp2_with fail;go_ret;exact ⟨rfl,qd jc.o bz⟩
     ·have hy0:((ny:Int) == 0)=false:=by simpa using h0
      have a7:Hd (∀w',Below wr.heap.size wr w'->(w'.cell? ⟨G,0,none⟩=some (.slice cs.A n cs.c)/\w'.cell? ⟨G,1,none⟩=some (.slice rs.A m rs.c)/\w'.cell? ⟨G,2,none⟩=some (.slice A m ca)/\w'.cell? av=some (.bool xv.b)/\w'.cell? ⟨av.block,av.off+1,none⟩=some (.slice xv.A xv.xs.length xv.c)/\w'.cell? ⟨av.block,av.off+2,none⟩=some (.slice xv.D xv.ys.length xv.d))):=ag (fun _ bz=>⟨(cL.o.below bz).c0,(cL.o.below bz).c1,(cL.o.below bz).c2,(iw.o.below bz).c0,(iw.o.below bz).c1,(iw.o.below bz).c2⟩);refine fR a7 (by kernel_rfl) fun hH=>?_
      have bz:=(ah wr.heap.size wr).drew;generalize wr.drew=wd at *;refine qj 41 fun Ha=>?_
      refine qh Ha 0 (.slice A2 ny c2) rfl ?_;refine qh Ha 1 (.int .i64 (ny:Int)) rfl ?_;refine tks Ha 2 (.bool false) rfl ?_;simp only [tz];refine tkm Ha 37 [(3,177,0,some false),(0,0,6,none),(0,0,1,some false),(0,0,8,none),(0,0,1,some false),(0,0,7,none),(0,0,1,some false),(0,0,4,none),(0,0,0,some false)] rfl ?_;simp only [exI,exD,bI,kV,rpS,rpZ,apC,apN];refine tkm Ha 1 [(40,4,0,some false)] rfl ?_;simp only [exI,exD,bI,kV,rpZ,apN];refine qp Ha ?_
      have hbf:bo=false:=by
       cases bo
       ·rfl
       ·exact absurd (HB.o.1 rfl) (fun f=>h0 f.1)
      subst hbf;go_wp2_with fail;go_ret;exact ⟨rfl,qd jc.o bz⟩
end Go.Proofs.YtkpfbekmaafehaaGreat
