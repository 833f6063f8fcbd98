/- The walk of simplex.Check: a solution of kind 1, and of no kind. -/
import Derived.Test.YtkpfbekmaafehaaGreatSpB
import Derived.Test.YtkpfbekmaafehaaGreatSsJ
namespace Go.Proofs.YtkpfbekmaafehaaGreat
open _root_.Go.Proofs.Tryz
set_option maxHeartbeats 40000000
set_option maxRecDepth 100000
open Go.RowKit
theorem xB (w:World) (p:Pg) (s:Sn) (bo:Bool) (h:p.ok w) (sm:p.sm) (hs:s.ok w) (ss:s.sm) (hb:bo=true↔yo p s) (vd:p.vd) (mx:Md s.X.vs) (my:Md s.Y.vs) (mr:Md s.R.vs) (mv:Md [s.v]) (hk:¬s.kind=2/\¬s.kind=3) :
 Calls prog 17 #[p.val,s.val] w fun e w'=>e = .returned (.bool bo)/\Below w.heap.size w w':=by
 have HO:=ag h;have br:=ag sm;have fs:=ag hs;have cB:=ag ss;have HB:=ag hb;have bK:=ag vd;have Fw:=ag mx;have zx:=ag my;have Fy:=ag mr;have vq:=ag mv;have tq:=ag hk;clear h sm hs ss hb vd mx my mr mv hk;go_enter func17,ntmps17;go_upto_region 1 with fail;have pb:=(aY w p 25).1;have bw:=(aY w p 25).2;have hsz:=iV w p 25;generalize (w.alloc (.cells #[.slice p.cost.A p.cost.vs.length p.cost.c, .slice p.rA p.rows.length p.rc, .slice p.right.A p.right.vs.length p.right.c] 25))=wm at pb bw hsz|-;have sb:=(cY wm s 31).1;have bb:=(cY wm s 31).2;rw [hsz] at sb;replace pb:=pb.below bb;replace bw:=qc bw bb
 clear bb hsz;generalize (wm.alloc (.cells #[.int .i64 s.kind, .slice s.X.A s.X.vs.length s.X.c, .slice s.Y.A s.Y.vs.length s.Y.c, .slice s.R.A s.R.vs.length s.R.c, .bool s.v.b, .slice s.v.A s.v.xs.length s.v.c, .slice s.v.D s.v.ys.length s.v.d] 31))=wb at *;obtain ⟨g1,hg1⟩:∃g,w.heap.size=g:=⟨_,rfl⟩;obtain ⟨g2,hg2⟩:∃g,w.heap.size+1=g:=⟨_,rfl⟩;have pb1:Pb wb g1 p:=by rw [<-hg1];exact pb
 rw [hg2] at sb;rw [hg2,hg1];clear hg1 hg2 pb;have c0:=pb1.c0;have c1:=pb1.c1;have c2:=pb1.c2;have bj:=ag pb1;have bX:=ag sb;have an:=ag bw;go_wp2_with fail;refine (fE wb p true (HO.o.below bw) br.o (Iff.intro (fun _=>bK.o) (fun _=>rfl))).mono ?_;rintro e wa ⟨rfl,bb⟩;replace bj:=ag (bj.o.below bb);replace bX:=ag (bX.o.below bb);replace an:=ag (qc an.o bb);clear bb c0 c1 c2 pb1 sb bw wb;have s1:=bX.o.c1;go_wp2_with fail;refine (cm wa s.X (fs.o.X.below an.o) cB.o.lX cB.o.eX).mono ?_;rintro e wb ⟨A1,l1,c1,b1,rfl,hx,bb⟩;obtain rfl:b1=true:=by
  cases b1
  ·exact absurd Fw.o (hx.f rfl)
  ·rfl
 have HX:=ag hx;replace bj:=ag (bj.o.below bb);replace bX:=ag (bX.o.below bb);replace an:=ag (qc an.o bb);clear bb s1 hx wa;have s2:=bX.o.c2;go_wp2_with fail;refine (cm wb s.Y (fs.o.Y.below an.o) cB.o.lY cB.o.eY).mono ?_;rintro e wa ⟨A2,l2,c2,b2,rfl,hx,bb⟩;obtain rfl:b2=true:=by
  cases b2
  ·exact absurd zx.o (hx.f rfl)
  ·rfl
 replace HX:=ag (HX.o.below bb);have HY:=ag hx;replace bj:=ag (bj.o.below bb);replace bX:=ag (bX.o.below bb);replace an:=ag (qc an.o bb);clear bb s2 hx wb;have s3:=bX.o.c3;go_wp2_with fail;refine (cm wa s.R (fs.o.R.below an.o) cB.o.lR cB.o.eR).mono ?_;rintro e wb ⟨A3,l3,c3,b3,rfl,hx,bb⟩;obtain rfl:b3=true:=by
  cases b3
  ·exact absurd Fy.o (hx.f rfl)
  ·rfl
 replace HX:=ag (HX.o.below bb);replace HY:=ag (HY.o.below bb);have HR:=ag hx;replace bj:=ag (bj.o.below bb);replace bX:=ag (bX.o.below bb);replace an:=ag (qc an.o bb);clear bb s3 hx wa;have s4:=bX.o.c4;have s5:=bX.o.c5;have s6:=bX.o.c6;go_wp2_with fail;have e6:(⟨some ⟨wb.heap.size,0,none⟩,1,[s.v]⟩:Sl).ok (wb.alloc (.cells s.v.cells 29)):=⟨j3 (fs.o.v.below an.o),(fun v hv=>by
  obtain rfl:=List.mem_singleton.1 hv;exact (fs.o.v.below an.o).below ((ah _ _).alloc (Nat.le_refl _) _)),Nat.le_refl _⟩
 have bb:=qb wb (.cells s.v.cells 29);refine (cm _ _ e6 (by simp) (by intro v hv;obtain rfl:=List.mem_singleton.1 hv;exact cB.o.ev)).mono ?_
 rintro e wa ⟨A4,l4,c4,b4,rfl,hx,b5⟩;obtain rfl:b4=true:=by
  cases b4
  ·exact absurd vq.o (hx.f rfl)
  ·rfl
 replace bb:=qc bb b5;replace HX:=ag (HX.o.below bb);replace HY:=ag (HY.o.below bb);replace HR:=ag (HR.o.below bb);have HV:Hd (Sho wa A4 l4 true [s.v]):=ag hx;replace bj:=ag (bj.o.below bb);replace bX:=ag (bX.o.below bb);replace an:=ag (qc an.o bb);clear bb s4 s5 s6 hx e6 b5;generalize wb.heap.size=g40;clear wb;obtain ⟨n,hn⟩:∃n,p.cost.vs.length=n:=⟨_,rfl⟩;obtain ⟨m,hm⟩:∃m,p.rows.length=m:=⟨_,rfl⟩;obtain ⟨rA,hrA⟩:∃x,p.rA=x:=⟨_,rfl⟩;have ft:=ag hn;have y8:=ag hm;have i8:=ag hrA;have pD:Hd (p.right.vs.length=m):=ag (bK.o.lb.trans hm);have hnl:n<=256:=by rw [<-hn];exact bK.o.c2
 have hml:m<=32:=by rw [<-hm];exact bK.o.r2
 have c0:wa.cell? ⟨g1,0,none⟩=some (.slice p.cost.A n p.cost.c):=by rw [<-hn];exact bj.o.c0
 have c1:wa.cell? ⟨g1,1,none⟩=some (.slice rA m p.rc):=by rw [<-hm,<-hrA];exact bj.o.c1
 have c2:wa.cell? ⟨g1,2,none⟩=some (.slice p.right.A m p.right.c):=by rw [<-pD.o];exact bj.o.c2
 have AY:=ag c0;have mb:=ag c1;have gW:=ag c2;have f8:=ag bj.o.lt;clear hn hm hrA;go_upto_region 9 with fail
 go_cut [13] (fun v wx=>∃(G:Nat) (cs rs:Sl),v = .pointer (some ⟨G,0,none⟩)/\Cb wx wa.heap.size G n m p.a p.b p.c cs rs none 0 []/\Below wa.heap.size wa wx)
 case first=>
  have aH:Hd (∀w',Below wa.heap.size wa w'->(w'.cell? ⟨g1,0,none⟩=some (.slice p.cost.A n p.cost.c)/\w'.cell? ⟨g1,2,none⟩=some (.slice p.right.A m p.right.c))):=ag (fun _ bz=>⟨(bz.cell (p:=⟨g1,0,none⟩) f8.o).trans AY.o,(bz.cell (p:=⟨g1,2,none⟩) f8.o).trans gW.o⟩);refine fR aH (by kernel_rfl) fun hH=>?_
  have bz:=(ah wa.heap.size wa).drew;generalize wa.drew=wd at *;refine qh 9 fun Ha=>?_
  refine qe Ha 0 (.pointer (some ⟨g1,0,none⟩)) rfl ?_;refine qe Ha 1 (.slice p.cost.A n p.cost.c) rfl ?_;refine qe Ha 3 (.pointer (some ⟨g1,2,none⟩)) rfl ?_;refine tks Ha 4 (.slice p.right.A m p.right.c) rfl ?_;simp only [tz];refine tk1 Ha 2 rfl fun K hK=>?_;go_simp;go_at_call 38;refine (dD wd p.cost n (HO.o.cost.below (qc an.o bz)) ft.o (by omega) br.o.ec bK.o.vc).mono ?_
  rintro e wd ⟨gc,vc,hvc,rfl,oc_,bb⟩;have oc:Cl wd (some ⟨gc,0,none⟩) vc p.c:=oc_.cl;clear oc_;replace bz:=qc bz bb;clear bb;refine hK.out _ _ (aH.o _ bz) fun hH=>?_;clear hK K;try simp only [tz]
  refine tk1 Ha 5 rfl fun K hK=>?_;go_simp;go_at_call 38;refine (dD wd p.right m (HO.o.right.below (qc an.o bz)) pD.o (by omega) br.o.eb bK.o.vb).mono ?_
  rintro e wd ⟨gr,vr,hvr,rfl,or_,bb⟩;have ob:Cl wd (some ⟨gr,0,none⟩) vr p.b:=or_.cl;clear or_;replace oc:=oc.below bb;replace bz:=qc bz bb;clear bb;refine hK.out _ _ (aH.o _ bz) fun hH=>?_;clear hK K;try simp only [tz]
  refine tks Ha 6 (.agg #[.slice (some ⟨gc,0,none⟩) n n, .slice (some ⟨gr,0,none⟩) m m, .slice none 0 0]) rfl ?_;simp only [tz];refine tk1 Ha 7 rfl fun K hK=>?_;go_simp;have cb:=tY wd n m p.a p.b p.c ⟨some ⟨gc,0,none⟩,n,vc⟩ ⟨some ⟨gr,0,none⟩,m,vr⟩ 70 oc ob hvc hvr wa.heap.size bz.size;replace bz:=bz.trans ((ah wa.heap.size wd).alloc bz.size (.cells #[.slice (some ⟨gc,0,none⟩) n n, .slice (some ⟨gr,0,none⟩) m m, .slice none 0 0] 70));clear oc ob hH;generalize wd.heap.size=G at cb|-;generalize (wd.alloc (.cells #[.slice (some ⟨gc,0,none⟩) n n, .slice (some ⟨gr,0,none⟩) m m, .slice none 0 0] 70))=wd at *
  refine hK.out _ _ (aH.o _ bz) fun hH=>?_;clear hK K;try simp only [tz]
  refine tk1 Ha 8 rfl fun K hK=>?_;go_simp;refine hK.out _ _ (aH.o _ bz) fun hH=>?_;clear hK K;try simp only [tz]
  refine qp Ha ?_
  go_wp2_with fail;go_meet
  case rel=>exact ⟨G,⟨some ⟨gc,0,none⟩,n,vc⟩,⟨some ⟨gr,0,none⟩,m,vr⟩,rfl,cb,bz⟩
 case rest=>
  obtain ⟨G,cs,rs,rfl,cb,bb⟩:=hcut;have c1':wc.cell? ⟨g1,1,none⟩=some (.slice rA m p.rc):=(bb.cell (p:=⟨g1,1,none⟩) f8.o).trans mb.o;clear c0 c1 c2;have FA:Hd (Below wa.heap.size wa wc):=ag bb;go_wp2_with fail;clear c1';go_loopw [69] (fun iv wr=>∃(k:Nat) (A:Option Addr) (ca:Nat) (rows:List Sl),k<=m/\iv = .int .i64 k/\rows.length=k/\Cb wr wa.heap.size G n m p.a p.b p.c cs rs A ca rows/\Below wa.heap.size wa wr) (fun iv _=>m-(intOf iv).toNat)
  case atStart=>exact ⟨0,none,0,[],by omega,rfl,rfl,cb,bb⟩
  case round=>
   clear cb bb FA;obtain ⟨k,A,ca,rows,hk,rfl,hrl,cb,bw⟩:=hrel;have ce:=ag hrl;have nE:=ag cb;have hI:=ag bw;clear hrl cb bw;by_cases hlt:k<m
   ·have hir:k<p.rows.length:=by rw [y8.o];exact hlt
    have hrd:Rd Sl.val wr rA p.rows:=by rw [<-i8.o];exact HO.o.rd.below (qc an.o hI.o) rfl
    obtain ⟨ad0,rfl,_,hc⟩:=hrd (by omega)
    have hcj:=hc k hir;have d9:=ag (List.getElem_mem hir);have sS:Hd (fxV p.rows[k].vs=p.a k):=ag (by funext j;rw [Pg.a,bC _ _ _ hir];rfl)
    obtain ⟨s1,hs⟩:∃s,p.rows[k]=s:=⟨_,rfl⟩;rw [hs] at hcj d9 sS;have iu:Hd (s1.vs.length=n):=ag (by rw [<-ft.o];exact bK.o.la s1 d9.o)
    have hcs:wr.cell? (ad0.add k)=some (.slice s1.A n s1.c):=by rw [<-iu.o];exact hcj
    clear hc hcj hs hrd;obtain ⟨i1,si,si0,si1,si2⟩:=info_parts jt;go_upto_region 13 with fail;have cb:=nE.o.below ((ah wr.heap.size wr).drew);have bw:=hI.o.drew;refine wp_region_held_drew (S:=fun _=>True) (by kernel_rfl) trivial fun hH=>?_
    have bz:=(ah wr.heap.size wr).drew;generalize wr.drew=wd at *;refine qh 12 fun Ha=>?_
    refine qe Ha 0 (.pointer (some ⟨G,0,none⟩)) rfl ?_;refine qe Ha 1 (.pointer (some ⟨G,0,none⟩)) rfl ?_;refine qe Ha 2 (.pointer (some ⟨G,0,none⟩)) rfl ?_;refine qe Ha 3 (.pointer (some ⟨G,2,none⟩)) rfl ?_;simp only [tz];refine tks Ha 5 (.slice s1.A n s1.c) rfl ?_;simp only [tz];refine wpAnyH_ready (rs := [4,6]) (tkn Ha (by kernel_rfl)) (by simp) ?_
    refine AllReadyH.cons rfl (fun K hK=>?_) ?_
    ·have k0:=cb.F.cell;rw [ce.o] at k0;go_simp;clear k0;refine hK.out _ _ trivial fun hH=>?_;clear hK K;try simp only [tz]
     refine tk1 Ha 6 rfl fun K hK=>?_;go_simp;go_at_call 38;refine (dD wd s1 n (((HO.o.rows s1 d9.o).below an.o).below (bw.mono (Nat.le_refl _))) iu.o (by omega) (br.o.ea s1 d9.o) (bK.o.va s1 d9.o)).mono ?_
     rintro e we ⟨gl,vl,hvl,rfl,ol_,bb⟩;rw [sS.o] at ol_;have hgl:wd.heap.size<=gl:=(ol_.qr.fr.lt gl rfl).1;have hap:Ap A G ⟨some ⟨gl,0,none⟩,n,vl⟩:=fun _ ad e=>by
      injection e with e;subst e;exact ⟨fun h=>by have:=(cb.F.lt h).2;simp only at *;omega,fun h=>by have:=cb.gl;simp only at *;omega⟩
     have ol:Cl we (some ⟨gl,0,none⟩) vl (p.a k):=ol_.cl;clear ol_ hgl;replace cb:=cb.below bb;replace bw:=qc bw bb;clear bb hH;generalize we=wd at *;refine hK.out _ _ trivial fun hH=>?_;clear hK K;try simp only [tz]
     refine tk1 Ha 7 rfl fun K hK=>?_;go_simp;have lit:Rd Sl.val _ (some ⟨wd.heap.size,0,none⟩) [⟨some ⟨gl,0,none⟩,n,vl⟩]:=Rd.one_ wd 22 _ (.slice (some ⟨gl,0,none⟩) n n) (by show _=Value.slice _ vl.length n;rw [hvl])
     have bb:=qb wd (.cells #[.slice (some ⟨gl,0,none⟩) n n] 22);replace cb:=cb.below bb
     try replace ol:=ol.below bb
     replace bw:=qc bw bb;clear bb hH;generalize wd.heap.size=g80 at lit|-;generalize (wd.alloc (.cells #[.slice (some ⟨gl,0,none⟩) n n] 22))=wd at *;refine hK.out _ _ trivial fun hH=>?_;clear hK K;try simp only [tz]
     refine tk1 Ha 8 rfl fun K hK=>?_;refine bE wd (mk:=Sl.val) (fun _=>rfl) (fun _=>rfl) rfl _ _ 23 rfl 22 i1 (.slice none 0 0) 24 underlying23 si si0 si1 si2 rfl (by intro u hu;simp [Value.cells] at hu;subst hu;rfl) rfl ce.o.symm cb.F.gr cb.F.nl ⟨g80,0,none⟩ 1 1 [⟨some ⟨gl,0,none⟩,n,vl⟩] rfl rfl lit (by simp) (by simp only [maxLen];omega) (by omega) bw.size ?_
     intro A4 c4 we h1 h2 h3 h4 h5;have kk:Kp (fun a=>A.map (·.block)=some a) wd we:=ci h3 (fun k e=>e);have k0:=(kk.cell (p:=⟨G,2,none⟩) cb.gl (fun e=>cb.F.ne G e rfl)).trans cb.F.cell;have ax:=(kk.frozen (p:=⟨G,2,none⟩) cb.gl (fun e=>cb.F.ne G e rfl)).trans cb.F.fz;have cb2:=cb.push (s:=⟨some ⟨gl,0,none⟩,n,vl⟩) (by rw [ce.o];exact ol) hvl hap h1 h2 kk h5
     have hGB:=cb.gB;replace bw:=bw.trans h4;rw [ce.o] at cb2 k0;clear h1 h2 h3 h4 h5 kk cb ol hap lit hH;generalize we=wd at *;refine hK.out _ _ trivial fun hH=>?_;clear hK K;try simp only [tz]
     refine qe Ha 9 (.pointer (some ⟨G,0,none⟩)) rfl ?_;refine tks Ha 10 (.pointer (some ⟨G,2,none⟩)) rfl ?_;simp only [tz];refine tk1 Ha 11 rfl fun K hK=>?_;go_simp;clear k0 ax;have kG:Kp (fun a=>a=G) wd (wd.setCell ⟨G,2,none⟩ (.slice A4 (k+1) c4)):=(Kp.refl (fun a=>a=G) wd).set (S:=fun a=>a=G) rfl _ _;replace bw:=bw.trans (kG.below (fun a e=>by rw [e];exact hGB) bw.size)
     clear hH kG hGB;generalize (wd.setCell ⟨G,2,none⟩ (.slice A4 (k+1) c4))=wd at *;refine hK.out _ _ trivial fun hH=>?_;clear hK K;try simp only [tz]
     refine qp Ha ?_
     go_wp2_with fail;go_roundw
     case rel=>exact ⟨k+1,A4,c4,_,by omega,by go_num,by rw [List.length_append,ce.o];rfl,cb2,bw⟩
     case measure=>simp [intOf];omega
    refine AllReadyH.cons rfl (fun K hK=>?_) ?_
    ·go_simp;go_at_call 38;refine (dD wd s1 n (((HO.o.rows s1 d9.o).below an.o).below (bw.mono (Nat.le_refl _))) iu.o (by omega) (br.o.ea s1 d9.o) (bK.o.va s1 d9.o)).mono ?_
     rintro e we ⟨gl,vl,hvl,rfl,ol_,bb⟩;rw [sS.o] at ol_;have hgl:wd.heap.size<=gl:=(ol_.qr.fr.lt gl rfl).1;have hap:Ap A G ⟨some ⟨gl,0,none⟩,n,vl⟩:=fun _ ad e=>by
      injection e with e;subst e;exact ⟨fun h=>by have:=(cb.F.lt h).2;simp only at *;omega,fun h=>by have:=cb.gl;simp only at *;omega⟩
     have ol:Cl we (some ⟨gl,0,none⟩) vl (p.a k):=ol_.cl;clear ol_ hgl;replace cb:=cb.below bb;replace bw:=qc bw bb;clear bb hH;generalize we=wd at *;refine hK.out _ _ trivial fun hH=>?_;clear hK K;try simp only [tz]
     refine wpAnyH_ready (rs := [4,7]) (tkn Ha (by kernel_rfl)) (by simp) ?_
     refine AllReadyH.cons rfl (fun K hK=>?_) ?_
     ·have k0:=cb.F.cell;rw [ce.o] at k0;go_simp;clear k0;refine hK.out _ _ trivial fun hH=>?_;clear hK K;try simp only [tz]
      refine tk1 Ha 7 rfl fun K hK=>?_;go_simp;have lit:Rd Sl.val _ (some ⟨wd.heap.size,0,none⟩) [⟨some ⟨gl,0,none⟩,n,vl⟩]:=Rd.one_ wd 22 _ (.slice (some ⟨gl,0,none⟩) n n) (by show _=Value.slice _ vl.length n;rw [hvl])
      have bb:=qb wd (.cells #[.slice (some ⟨gl,0,none⟩) n n] 22);replace cb:=cb.below bb
      try replace ol:=ol.below bb
      replace bw:=qc bw bb;clear bb hH;generalize wd.heap.size=g80 at lit|-;generalize (wd.alloc (.cells #[.slice (some ⟨gl,0,none⟩) n n] 22))=wd at *;refine hK.out _ _ trivial fun hH=>?_;clear hK K;try simp only [tz]
      refine tk1 Ha 8 rfl fun K hK=>?_;refine bE wd (mk:=Sl.val) (fun _=>rfl) (fun _=>rfl) rfl _ _ 23 rfl 22 i1 (.slice none 0 0) 24 underlying23 si si0 si1 si2 rfl (by intro u hu;simp [Value.cells] at hu;subst hu;rfl) rfl ce.o.symm cb.F.gr cb.F.nl ⟨g80,0,none⟩ 1 1 [⟨some ⟨gl,0,none⟩,n,vl⟩] rfl rfl lit (by simp) (by simp only [maxLen];omega) (by omega) bw.size ?_
      intro A4 c4 we h1 h2 h3 h4 h5;have kk:Kp (fun a=>A.map (·.block)=some a) wd we:=ci h3 (fun k e=>e);have k0:=(kk.cell (p:=⟨G,2,none⟩) cb.gl (fun e=>cb.F.ne G e rfl)).trans cb.F.cell;have ax:=(kk.frozen (p:=⟨G,2,none⟩) cb.gl (fun e=>cb.F.ne G e rfl)).trans cb.F.fz;have cb2:=cb.push (s:=⟨some ⟨gl,0,none⟩,n,vl⟩) (by rw [ce.o];exact ol) hvl hap h1 h2 kk h5
      have hGB:=cb.gB;replace bw:=bw.trans h4;rw [ce.o] at cb2 k0;clear h1 h2 h3 h4 h5 kk cb ol hap lit hH;generalize we=wd at *;refine hK.out _ _ trivial fun hH=>?_;clear hK K;try simp only [tz]
      refine qe Ha 9 (.pointer (some ⟨G,0,none⟩)) rfl ?_;refine tks Ha 10 (.pointer (some ⟨G,2,none⟩)) rfl ?_;simp only [tz];refine tk1 Ha 11 rfl fun K hK=>?_;go_simp;clear k0 ax;have kG:Kp (fun a=>a=G) wd (wd.setCell ⟨G,2,none⟩ (.slice A4 (k+1) c4)):=(Kp.refl (fun a=>a=G) wd).set (S:=fun a=>a=G) rfl _ _;replace bw:=bw.trans (kG.below (fun a e=>by rw [e];exact hGB) bw.size)
      clear hH kG hGB;generalize (wd.setCell ⟨G,2,none⟩ (.slice A4 (k+1) c4))=wd at *;refine hK.out _ _ trivial fun hH=>?_;clear hK K;try simp only [tz]
      refine qp Ha ?_
      go_wp2_with fail;go_roundw
      case rel=>exact ⟨k+1,A4,c4,_,by omega,by go_num,by rw [List.length_append,ce.o];rfl,cb2,bw⟩
      case measure=>simp [intOf];omega
     refine AllReadyH.cons rfl (fun K hK=>?_) ?_
     ·go_simp;have lit:Rd Sl.val _ (some ⟨wd.heap.size,0,none⟩) [⟨some ⟨gl,0,none⟩,n,vl⟩]:=Rd.one_ wd 22 _ (.slice (some ⟨gl,0,none⟩) n n) (by show _=Value.slice _ vl.length n;rw [hvl])
      have bb:=qb wd (.cells #[.slice (some ⟨gl,0,none⟩) n n] 22);replace cb:=cb.below bb
      try replace ol:=ol.below bb
      replace bw:=qc bw bb;clear bb hH;generalize wd.heap.size=g80 at lit|-;generalize (wd.alloc (.cells #[.slice (some ⟨gl,0,none⟩) n n] 22))=wd at *;refine hK.out _ _ trivial fun hH=>?_;clear hK K;try simp only [tz]
      refine tk1 Ha 4 rfl fun K hK=>?_;have k0:=cb.F.cell;rw [ce.o] at k0;go_simp;clear k0;refine hK.out _ _ trivial fun hH=>?_;clear hK K;try simp only [tz]
      refine tk1 Ha 8 rfl fun K hK=>?_;refine bE wd (mk:=Sl.val) (fun _=>rfl) (fun _=>rfl) rfl _ _ 23 rfl 22 i1 (.slice none 0 0) 24 underlying23 si si0 si1 si2 rfl (by intro u hu;simp [Value.cells] at hu;subst hu;rfl) rfl ce.o.symm cb.F.gr cb.F.nl ⟨g80,0,none⟩ 1 1 [⟨some ⟨gl,0,none⟩,n,vl⟩] rfl rfl lit (by simp) (by simp only [maxLen];omega) (by omega) bw.size ?_
      intro A4 c4 we h1 h2 h3 h4 h5;have kk:Kp (fun a=>A.map (·.block)=some a) wd we:=ci h3 (fun k e=>e);have k0:=(kk.cell (p:=⟨G,2,none⟩) cb.gl (fun e=>cb.F.ne G e rfl)).trans cb.F.cell;have ax:=(kk.frozen (p:=⟨G,2,none⟩) cb.gl (fun e=>cb.F.ne G e rfl)).trans cb.F.fz;have cb2:=cb.push (s:=⟨some ⟨gl,0,none⟩,n,vl⟩) (by rw [ce.o];exact ol) hvl hap h1 h2 kk h5
      have hGB:=cb.gB;replace bw:=bw.trans h4;rw [ce.o] at cb2 k0;clear h1 h2 h3 h4 h5 kk cb ol hap lit hH;generalize we=wd at *;refine hK.out _ _ trivial fun hH=>?_;clear hK K;try simp only [tz]
      refine qe Ha 9 (.pointer (some ⟨G,0,none⟩)) rfl ?_;refine tks Ha 10 (.pointer (some ⟨G,2,none⟩)) rfl ?_;simp only [tz];refine tk1 Ha 11 rfl fun K hK=>?_;go_simp;clear k0 ax;have kG:Kp (fun a=>a=G) wd (wd.setCell ⟨G,2,none⟩ (.slice A4 (k+1) c4)):=(Kp.refl (fun a=>a=G) wd).set (S:=fun a=>a=G) rfl _ _;replace bw:=bw.trans (kG.below (fun a e=>by rw [e];exact hGB) bw.size)
      clear hH kG hGB;generalize (wd.setCell ⟨G,2,none⟩ (.slice A4 (k+1) c4))=wd at *;refine hK.out _ _ trivial fun hH=>?_;clear hK K;try simp only [tz]
      refine qp Ha ?_
      go_wp2_with fail;go_roundw
      case rel=>exact ⟨k+1,A4,c4,_,by omega,by go_num,by rw [List.length_append,ce.o];rfl,cb2,bw⟩
      case measure=>simp [intOf];omega
     exact AllReadyH.nil
    exact AllReadyH.nil
   ·obtain rfl:m=k:=by omega
    have dF:=ag (nE.o.ck ce.o);have Eg:=ag (bX.o.below hI.o);obtain ⟨mdx,elx,xs,hxl,hxc⟩:=(HX.o.below hI.o).t rfl;obtain ⟨mdy,ely,ys,hyl,hyc⟩:=(HY.o.below hI.o).t rfl;obtain ⟨mdr,elr,zs,hzl,hzc⟩:=(HR.o.below hI.o).t rfl;obtain ⟨mdv,elv,vv,hvl,hvc⟩:=(HV.o.below hI.o).t rfl;obtain rfl:l4=1:=elv;obtain ⟨av,rfl,xv,hve,hvx⟩:=hvc.at (k:=0) (by rw [hvl];omega)
    have lZ:Hd (Ef wr av xv):=ag (by rw [Nat.zero_mul,qQ] at hve;exact hve)
    have bO:Hd (El wr xv s.v.q):=ag hvx;have Eh:Hd (Sz s.v.q 32 32):=ag (mdv.v 0 (by simp)).2
    have EQ:=ag hxc;have Ei:=ag hyc;have y9:=ag hzc;have p8:=ag mdx.mz;have q9:=ag mdy.mz;have BK:=ag mdr.mz;have FB:=ag cB.o.lX;have o9:=ag cB.o.lY;have GC:=ag cB.o.lR;have l9:Hd (bo=true↔dN s.kind n m s.X.vs.length s.Y.vs.length s.R.vs.length p.a p.b p.c (fxV s.X.vs) (fxV s.Y.vs) (fxV s.R.vs) s.v.q):=ag (by
     rw [<-ft.o,<-y8.o];exact HB.o.trans ⟨fun f=>f.P,fun f=>⟨bK.o,mdx,mdy,mdr,mdv,f⟩⟩)
    obtain ⟨U,hU⟩:∃U,Pz n m p.a p.b p.c U:=⟨_,by have:=bK.o.pz;rw [ft.o,y8.o] at this;exact this⟩
    have eP:=ag hU;obtain ⟨V1,hV1⟩:∃V,eV (fxV s.X.vs) s.X.vs.length=V:=⟨_,rfl⟩;obtain ⟨V2,hV2⟩:∃V,eV (fxV s.Y.vs) s.Y.vs.length=V:=⟨_,rfl⟩;obtain ⟨V3,hV3⟩:∃V,eV (fxV s.R.vs) s.R.vs.length=V:=⟨_,rfl⟩;rw [hV1] at p8;rw [hV2] at q9;rw [hV3] at BK;clear hV1 hV2 hV3 HX HY HR HV HB hve hvx hxc hyc hzc hvc mdx mdy mdr mdv hU;generalize s.X.vs.length=nx at *;generalize s.Y.vs.length=ny at *;generalize s.R.vs.length=nr at *;generalize fxV s.X.vs=ux at *;generalize fxV s.Y.vs=uy at *;generalize fxV s.R.vs=ur at *;have ex:=elx.symm;have ey:=ely.symm;have er:=elr.symm;clear elx ely elr;subst ex ey er
    have fc:=ag hxl;have lL:=ag hyl;have ce:=ag hzl;have mn:=ag (qc an.o hI.o);clear pD;have pD:=BK;clear BK;have s0:=Eg.o.c0;clear hxl hyl hzl hvl bX Eg bj f8 AY mb gW nE hI cB;have hn:n<=1000:=by omega
    have hm:m<=1000:=by omega
    by_cases hk1:s.kind=1
    ·rw [hk1] at s0 l9;clear hk1 tq;have HB:Hd (bo=true↔_):=ag (l9.o.trans dN.one);clear l9;go_upto_region 17 with fail;clear s0;obtain ⟨f1,hf1⟩:=lu (dX n m nx p.a ux p.b);obtain ⟨f2,hf2⟩:=lu (dU n m ny p.a uy p.c);obtain ⟨z1,hz1⟩:∃z,bA (aj (fun i=>p.c i*ux i) n-s.v.q) 0=z:=⟨_,rfl⟩;obtain ⟨z2,hz2⟩:∃z,bA (aj (fun i=>uy i*p.b i) m-s.v.q) 0=z:=⟨_,rfl⟩;have Hf1:=ag hf1;have Hf2:=ag hf2;have Hz1:=ag hz1;have Hz2:=ag hz2;clear hf1 hf2 hz1 hz2;by_cases h0:nr=0
     ·have yC:=ag h0;have hr0:((nr:Int) == 0)=true:=by simpa using h0
      clear h0;have aH:Hd (∀w',Below wr.heap.size wr w'->(w'.cell? ⟨G,0,none⟩=some (.slice cs.A n cs.c)/\w'.cell? ⟨G,1,none⟩=some (.slice rs.A m rs.c)/\w'.cell? ⟨G,2,none⟩=some (.slice A m ca)/\w'.cell? av=some (.bool xv.b)/\w'.cell? ⟨av.block,av.off+1,none⟩=some (.slice xv.A xv.xs.length xv.c)/\w'.cell? ⟨av.block,av.off+2,none⟩=some (.slice xv.D xv.ys.length xv.d))):=ag (fun _ bz=>⟨(dF.o.below bz).c0,(dF.o.below bz).c1,(dF.o.below bz).c2,(lZ.o.below bz).c0,(lZ.o.below bz).c1,(lZ.o.below bz).c2⟩);refine fR aH (by kernel_rfl) fun hH=>?_
      have bz:=(ah wr.heap.size wr).drew;generalize wr.drew=wd at *;refine qh 46 fun Ha=>?_
      refine qe Ha 0 (.slice A3 nr c3) rfl ?_;refine qe Ha 1 (.int .i64 (nr:Int)) rfl ?_;refine qe Ha 2 (.bool true) rfl ?_;refine qe Ha 3 (.bool true) rfl ?_;simp only [tz];refine qe Ha 4 (.pointer (some ⟨G,0,none⟩)) rfl ?_;refine qe Ha 5 (.slice A1 nx c1) rfl ?_;refine qe Ha 6 (.pointer (some ⟨G,0,none⟩)) rfl ?_;refine qe Ha 7 (.pointer (some ⟨G,0,none⟩)) rfl ?_;simp only [tz];refine qe Ha 8 (.pointer (some ⟨G,1,none⟩)) rfl ?_;refine tks Ha 9 (.slice rs.A m rs.c) rfl ?_;simp only [tz]
      refine tk1 Ha 10 rfl fun K hK=>?_;go_simp;go_at_call 39;refine (ml wd G n m nx p.a p.b p.c cs rs A ca rows (dF.o.below bz) hn hm A1 rs.A c1 rs.c xs rs.vs ux p.b U V1 f1 (EQ.o.below bz) (dF.o.below bz).cb fc.o FB.o dF.o.lb eP.o p8.o (fun i hi=>(eP.o.sb i hi).1.mono (by omega) (by omega)) Hf1.o).mono ?_
      rintro e wd ⟨rfl,bb⟩;replace bz:=qc bz bb;clear bb;refine hK.out _ _ (aH.o _ bz) fun hH=>?_;clear hK K;try simp only [tz]
      cases f1
      ·skip
       refine tkm Ha 34 [(11,100,1,some false),(0,0,6,none),(0,0,1,some false),(0,0,9,none),(0,0,1,some false),(0,0,9,none),(0,0,0,some false)] rfl ?_;simp only [exI,exD,bI,kV,rpS,rpZ,apC,apN];refine tkm Ha 1 [(45,4,0,some false)] rfl ?_;simp only [exI,exD,bI,kV,rpZ,apN];refine qp Ha ?_
       have hbf:bo=false:=by
        cases bo
        ·rfl
        ·exact absurd (HB.o.1 rfl) (fun f=>Bool.noConfusion (Hf1.o.2 f.2.1))
       subst hbf;go_wp2_with fail;go_ret;exact ⟨rfl,qc mn.o bz⟩
      ·skip
       have tt:=ag (Hf1.o.1 rfl).1;refine tkm Ha 2 [(11,100,1,some true)] rfl ?_;simp only [exI,exD,bI,kV,rpS,rpZ,apC,apN];refine qe Ha 13 (.pointer (some ⟨G,0,none⟩)) rfl ?_;refine qe Ha 14 (.slice A2 ny c2) rfl ?_;refine qe Ha 15 (.pointer (some ⟨G,0,none⟩)) rfl ?_;refine qe Ha 16 (.pointer (some ⟨G,0,none⟩)) rfl ?_;simp only [tz];refine qe Ha 17 (.pointer (some ⟨G,0,none⟩)) rfl ?_;refine tks Ha 18 (.slice cs.A n cs.c) rfl ?_;simp only [tz];refine tk1 Ha 19 rfl fun K hK=>?_;go_simp;go_at_call 40;refine (oO wd G n m ny p.a p.b p.c cs rs A ca rows (dF.o.below bz) hn hm A2 cs.A c2 cs.c ys cs.vs uy p.c U V2 f2 (Ei.o.below bz) (dF.o.below bz).cc lL.o dF.o.lc eP.o q9.o (fun j hj=>(eP.o.sc j hj).1.mono (by omega) (by omega)) Hf2.o).mono ?_
       rintro e wd ⟨rfl,bb⟩;replace bz:=qc bz bb;clear bb;refine hK.out _ _ (aH.o _ bz) fun hH=>?_;clear hK K;try simp only [tz]
       cases f2
       ·skip
        refine tkm Ha 25 [(20,109,1,some false),(0,0,9,none),(0,0,1,some false),(0,0,9,none),(0,0,0,some false)] rfl ?_;simp only [exI,exD,bI,kV,rpS,rpZ,apC,apN];refine tkm Ha 1 [(45,4,0,some false)] rfl ?_;simp only [exI,exD,bI,kV,rpZ,apN];refine qp Ha ?_
        have hbf:bo=false:=by
         cases bo
         ·rfl
         ·exact absurd (HB.o.1 rfl) (fun f=>Bool.noConfusion (Hf2.o.2 f.2.2.1))
        subst hbf;go_wp2_with fail;go_ret;exact ⟨rfl,qc mn.o bz⟩
       ·skip
        have tc:=ag (Hf2.o.1 rfl).1;refine tkm Ha 2 [(20,109,1,some true)] rfl ?_;simp only [exI,exD,bI,kV,rpS,rpZ,apC,apN];refine qe Ha 22 (.pointer (some ⟨G,0,none⟩)) rfl ?_;refine qe Ha 23 (.pointer (some ⟨G,0,none⟩)) rfl ?_;refine qe Ha 24 (.pointer (some ⟨G,0,none⟩)) rfl ?_;refine qe Ha 25 (.slice cs.A n cs.c) rfl ?_;simp only [tz];refine qe Ha 26 (.slice A1 nx c1) rfl ?_;refine qe Ha 27 (.slice (some av) 1 c4) rfl ?_;refine qe Ha 28 (.pointer (some av)) rfl ?_;refine tks Ha 29 (xv.val) rfl ?_;simp only [tz]
        refine tk1 Ha 30 rfl fun K hK=>?_;go_simp;go_at_call 41;refine (ig wd cs.A A1 cs.c c1 cs.vs xs xv p.c ux s.v.q z1 U V1 n nx n rfl tt.o (dF.o.below bz).cc (EQ.o.below bz) (bO.o.below bz) dF.o.lc (fc.o.trans tt.o) hn (fun k hk=>(eP.o.sc k hk).1) (fun k hk=>(p8.o.s k (by rw [tt.o];exact hk)).1) (Eh.o.mono (by omega) (by omega)) (fun k hk=>(eP.o.sc k hk).2) (fun k hk=>(p8.o.s k (by rw [tt.o];exact hk)).2) eP.o.ul p8.o.vl eP.o.u0 p8.o.v0 Hz1.o).mono ?_
        rintro e wd ⟨rfl,bb⟩;replace bz:=qc bz bb;clear bb;refine hK.out _ _ (aH.o _ bz) fun hH=>?_;clear hK K;try simp only [tz]
        by_cases hz1:z1=0
        ·skip
         subst hz1;refine tks Ha 31 (.bool true) rfl ?_;simp only [tz];refine tkm Ha 2 [(32,121,1,some true)] rfl ?_;simp only [exI,exD,bI,kV,rpS,rpZ,apC,apN];refine qe Ha 34 (.slice A2 ny c2) rfl ?_;refine qe Ha 35 (.pointer (some ⟨G,0,none⟩)) rfl ?_;refine qe Ha 36 (.pointer (some ⟨G,0,none⟩)) rfl ?_;refine qe Ha 37 (.pointer (some ⟨G,1,none⟩)) rfl ?_;simp only [tz];refine qe Ha 38 (.slice rs.A m rs.c) rfl ?_;refine qe Ha 39 (.slice (some av) 1 c4) rfl ?_;refine qe Ha 40 (.pointer (some av)) rfl ?_
         refine tks Ha 41 (xv.val) rfl ?_;simp only [tz];refine tk1 Ha 42 rfl fun K hK=>?_;go_simp;go_at_call 41;refine (ig wd A2 rs.A c2 rs.c ys rs.vs xv uy p.b s.v.q z2 V2 U ny m m tc.o rfl (Ei.o.below bz) (dF.o.below bz).cb (bO.o.below bz) (lL.o.trans tc.o) dF.o.lb hm (fun k hk=>(q9.o.s k (by rw [tc.o];exact hk)).1) (fun k hk=>(eP.o.sb k hk).1) (Eh.o.mono (by omega) (by omega)) (fun k hk=>(q9.o.s k (by rw [tc.o];exact hk)).2) (fun k hk=>(eP.o.sb k hk).2) q9.o.vl eP.o.ul q9.o.v0 eP.o.u0 Hz2.o).mono ?_
         rintro e wd ⟨rfl,bb⟩;replace bz:=qc bz bb;clear bb;refine hK.out _ _ (aH.o _ bz) fun hH=>?_;clear hK K;try simp only [tz]
         by_cases hz2:z2=0
         ·subst hz2;refine qe Ha 43 (.bool true) rfl ?_;refine tks Ha 44 (.bool true) rfl ?_;simp only [tz];refine tkm Ha 1 [(45,4,0,some true)] rfl ?_;simp only [exI,exD,bI,kV,rpZ,apN];refine qp Ha ?_
          have hbt:bo=true:=HB.o.2 ⟨yC.o,Hf1.o.1 rfl,Hf2.o.1 rfl,(iI _ _).1 Hz1.o,(iI _ _).1 Hz2.o⟩;subst hbt;go_wp2_with fail;go_ret;exact ⟨rfl,qc mn.o bz⟩
         ·skip
          have hd_z2:(z2 == 0)=false:=by simpa using hz2
          refine qe Ha 43 (.bool false) rfl ?_;refine tks Ha 44 (.bool false) rfl ?_;simp only [tz];refine tkm Ha 1 [(45,4,0,some false)] rfl ?_;simp only [exI,exD,bI,kV,rpZ,apN];refine qp Ha ?_
          have hbf:bo=false:=by
           cases bo
           ·rfl
           ·exact absurd (HB.o.1 rfl) (fun f=>hz2 (Hz2.o.symm.trans ((iI _ _).2 f.2.2.2.2)))
          subst hbf;go_wp2_with fail;go_ret;exact ⟨rfl,qc mn.o bz⟩
        ·skip
         have hd_z1:(z1 == 0)=false:=by simpa using hz1
         refine tks Ha 31 (.bool false) rfl ?_;simp only [tz];refine tkm Ha 13 [(32,121,1,some false),(0,0,9,none),(0,0,0,some false)] rfl ?_;simp only [exI,exD,bI,kV,rpS,rpZ,apC,apN];refine tkm Ha 1 [(45,4,0,some false)] rfl ?_;simp only [exI,exD,bI,kV,rpZ,apN];refine qp Ha ?_
         have hbf:bo=false:=by
          cases bo
          ·rfl
          ·exact absurd (HB.o.1 rfl) (fun f=>hz1 ((Hz1.o.symm.trans ((iI _ _).2 f.2.2.2.1))))
         subst hbf;go_wp2_with fail;go_ret;exact ⟨rfl,qc mn.o bz⟩
     ·have hr0:((nr:Int) == 0)=false:=by simpa using h0
      have aH:Hd (∀w',Below wr.heap.size wr w'->(w'.cell? ⟨G,0,none⟩=some (.slice cs.A n cs.c)/\w'.cell? ⟨G,1,none⟩=some (.slice rs.A m rs.c)/\w'.cell? ⟨G,2,none⟩=some (.slice A m ca)/\w'.cell? av=some (.bool xv.b)/\w'.cell? ⟨av.block,av.off+1,none⟩=some (.slice xv.A xv.xs.length xv.c)/\w'.cell? ⟨av.block,av.off+2,none⟩=some (.slice xv.D xv.ys.length xv.d))):=ag (fun _ bz=>⟨(dF.o.below bz).c0,(dF.o.below bz).c1,(dF.o.below bz).c2,(lZ.o.below bz).c0,(lZ.o.below bz).c1,(lZ.o.below bz).c2⟩);refine fR aH (by kernel_rfl) fun hH=>?_
      have bz:=(ah wr.heap.size wr).drew;generalize wr.drew=wd at *;refine qh 46 fun Ha=>?_
      refine qe Ha 0 (.slice A3 nr c3) rfl ?_;refine qe Ha 1 (.int .i64 (nr:Int)) rfl ?_;refine tks Ha 2 (.bool false) rfl ?_;simp only [tz];refine tkm Ha 42 [(3,92,0,some false),(0,0,6,none),(0,0,1,some false),(0,0,6,none),(0,0,1,some false),(0,0,9,none),(0,0,1,some false),(0,0,9,none),(0,0,0,some false)] rfl ?_;simp only [exI,exD,bI,kV,rpS,rpZ,apC,apN];refine tkm Ha 1 [(45,4,0,some false)] rfl ?_;simp only [exI,exD,bI,kV,rpZ,apN];refine qp Ha ?_
      have hbf:bo=false:=by
       cases bo
       ·rfl
       ·exact absurd (HB.o.1 rfl) (fun f=>h0 f.1)
      subst hbf;go_wp2_with fail;go_ret;exact ⟨rfl,qc mn.o bz⟩
    ·skip
     obtain ⟨q2,q3⟩:=tq.o;obtain ⟨kd,hkd⟩:∃k,s.kind=k:=⟨_,rfl⟩;rw [hkd] at s0 l9 hk1 q2 q3;clear hkd tq;have kd1:(kd == 1)=false:=by simpa using hk1
     have kd2:(kd == 2)=false:=by simpa using q2
     have kd3:(kd == 3)=false:=by simpa using q3
     have hbf:bo=false:=by
      cases bo
      ·rfl
      ·exact absurd (l9.o.1 rfl).kind (by omega)
     subst hbf;go_wp2_with fail;go_ret;exact ⟨rfl,mn.o⟩
end Go.Proofs.YtkpfbekmaafehaaGreat
