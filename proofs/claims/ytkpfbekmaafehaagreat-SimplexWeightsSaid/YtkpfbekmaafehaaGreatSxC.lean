/- The walks of drydockref16: valids, Valid -/
import Derived.Test.YtkpfbekmaafehaaGreatSpB
import Derived.Test.YtkpfbekmaafehaaGreatSrD
import Derived.Test.YtkpfbekmaafehaaGreatRfB
import Derived.Test.YtkpfbekmaafehaaGreatSqN
import Derived.Test.YtkpfbekmaafehaaGreatFrC
namespace Go.Proofs.YtkpfbekmaafehaaGreat
open _root_.Go.Proofs.Tryz
set_option maxHeartbeats 8000000
set_option maxRecDepth 100000
open Go.RowKit
theorem dq (w:World) (s:Sl) (N n:Nat) (b:Bool) (h:s.ok w) (hN:s.vs.length=N) (hl:N<=1000) (hn:n<=1000) (hs:∀v∈s.vs,v.xs.length<=10000/\v.ys.length<=10000) (hb:b=true↔(N=n/\∀v∈s.vs,v.v)) :
 Calls prog 34 #[.slice s.A N s.c, .int .i64 (n:Int)] w fun e w'=>e = .returned (.bool b)/\Below w.heap.size w w':=by
 have HS:=ag h;have bt:=ag hs;have HB:=ag hb;obtain ⟨A,c,vs⟩:=s;have HN:Hd (vs.length=N):=ag hN;clear h hs hb hN
 show Calls prog 34 #[.slice A N c, .int .i64 (n:Int)] w _
 replace bt:Hd (∀v∈vs,v.xs.length<=10000/\v.ys.length<=10000):=bt;replace HB:Hd (b=true↔(N=n/\∀v∈vs,v.v)):=HB;go_enter func34,ntmps34;by_cases h1:N=n
 ·subst h1;go_wp2_with fail;go_loopw [5] (fun iv wr=>∃k:Nat,k<=N/\iv = .int .i64 k/\(∀v∈vs.take k,v.v)/\Below w.heap.size w wr) (fun iv _=>N-(intOf iv).toNat)
  case atStart=>exact ⟨0,by omega,rfl,(fun v hv=>by simp at hv),ah _ _⟩
  case round=>
   obtain ⟨k,hk,rfl,ha,bw⟩:=hrel;have HA:=ag ha;have aw:=ag bw;by_cases hlt:k<N
   ·have hkl:k<vs.length:=by rw [HN.o];exact hlt
    have hme:=List.getElem_mem hkl;obtain ⟨ad,rfl,ef⟩:=(HS.o.below bw).rd.at k hkl;have ok:=(HS.o.below bw).el _ hme;have HL:=ag (bt.o _ hme);have o9:Hd (vs[k].v->∀v∈vs.take (k+1),v.v):=ag (oG hkl ha);have de:=ag hme;obtain ⟨x,hx⟩:∃x,vs[k]=x:=⟨_,rfl⟩;have ef0:Ef wr (ad.add (k*3)) vs[k]:=ef;rw [hx] at ef0 ok HL o9 de;have d0:=ef0.c0;have d1:=ef0.c1;have d2:=ef0.c2;have OK:=ag ok;clear hx ef ef0 ha bw ok hme;by_cases hv:x.v
    ·have HT:=ag (o9.o hv);have HV:=ag hv;clear hv;go_wp2_with fail;refine (bF wr x true OK.o HL.o.1 HL.o.2 (decide_eq_true HV.o)).mono ?_;rintro e wn ⟨rfl,bb⟩;clear d0 d1 d2;go_wp2_with fail;go_roundw
     case rel=>exact ⟨k+1,by omega,by go_num,HT.o,qd aw.o bb⟩
     case measure=>simp [intOf];omega
    ·have cq:Hd (¬x.v):=hv;clear hv;have hbf:b=false:=by
      cases b
      ·rfl
      ·exact absurd (HB.o.1 rfl) (fun f=>cq.o (f.2 x de.o))
     subst hbf;go_wp2_with fail;refine (bF wr x false OK.o HL.o.1 HL.o.2 (decide_eq_false cq.o)).mono ?_;rintro e wn ⟨rfl,bb⟩;clear d0 d1 d2;go_wp2_with fail;go_ret;exact ⟨rfl,qd aw.o bb⟩
   ·obtain rfl:N=k:=by omega
    have hbt:b=true:=HB.o.2 ⟨by trivial,by rw [List.take_of_length_le (by rw [HN.o];exact Nat.le_refl _)] at ha;exact ha⟩
    subst hbt;go_wp2_with fail;go_ret;exact ⟨rfl,bw⟩
 ·have hb1:((N:Int) != (n:Int))=true:=by simp;omega
  have hbf:b=false:=by
   cases b
   ·rfl
   ·exact absurd (HB.o.1 rfl) (fun f=>h1 f.1)
  subst hbf;go_wp2_with fail;go_ret;exact ⟨rfl,ah _ _⟩
theorem kD (w:World) (p:Pg) (b:Bool) (h:p.ok w) (sm:p.sm) (hb:b=true↔p.vd) :
 Calls prog 16 #[p.val] w fun e w'=>e = .returned (.bool b)/\Below w.heap.size w w':=by
 have HO:=ag h;have bt:=ag sm;have HB:=ag hb;have hlr:=sm.lr;have hlc:=sm.lc;have hlb:=sm.lb;obtain ⟨n,hn⟩:∃n,p.rows.length=n:=⟨_,rfl⟩;obtain ⟨m,hm⟩:∃m,p.cost.vs.length=m:=⟨_,rfl⟩;obtain ⟨k,hk⟩:∃k,p.right.vs.length=k:=⟨_,rfl⟩;have HN:=ag hn;have HM:=ag hm;have HK:=ag hk;rw [hn] at hlr;rw [hm] at hlc;rw [hk] at hlb;clear h sm hb hn hm hk;go_enter func16,ntmps16;go_upto_region 1 with fail;have pb:=(aY w p 25).1;have bw:=(aY w p 25).2;generalize (w.alloc (.cells #[.slice p.cost.A p.cost.vs.length p.cost.c, .slice p.rA p.rows.length p.rc, .slice p.right.A p.right.vs.length p.right.c] 25))=wm at pb bw|-
 generalize hg1:w.heap.size=g1 at pb|-;have fl:=ag hg1;clear hg1;have ja:Hd (∀w',Below wm.heap.size wm w'->w'.cell? ⟨g1,0,none⟩=some (.slice p.cost.A m p.cost.c)/\w'.cell? ⟨g1,1,none⟩=some (.slice p.rA n p.rc)/\w'.cell? ⟨g1,2,none⟩=some (.slice p.right.A k p.right.c)):=ag (fun w' hb=>by
  rw [<-HM.o,<-HN.o,<-HK.o];have h:=pb.below hb;exact ⟨h.c0,h.c1,h.c2⟩)
 have aw:=ag bw;obtain ⟨c0,c1,c2⟩:=ja.o wm (ah _ _);clear pb;by_cases h1:n<1
 ·skip
  have hbf:b=false:=by
   cases b
   ·rfl
   ·exact absurd (HB.o.1 rfl) (fun v=>(by have:=v.r1;have:=HN.o;omega))
  subst hbf;go_wp2_with fail;go_ret;exact ⟨rfl,bw⟩
 by_cases h2:32<n
 ·skip
  have hbf:b=false:=by
   cases b
   ·rfl
   ·exact absurd (HB.o.1 rfl) (fun v=>(by have:=v.r2;have:=HN.o;omega))
  subst hbf;go_wp2_with fail;go_ret;exact ⟨rfl,bw⟩
 by_cases h3:m<1
 ·skip
  have hbf:b=false:=by
   cases b
   ·rfl
   ·exact absurd (HB.o.1 rfl) (fun v=>(by have:=v.c1;have:=HM.o;omega))
  subst hbf;go_wp2_with fail;go_ret;exact ⟨rfl,bw⟩
 by_cases h4:256<m
 ·skip
  have hbf:b=false:=by
   cases b
   ·rfl
   ·exact absurd (HB.o.1 rfl) (fun v=>(by have:=v.c2;have:=HM.o;omega))
  subst hbf;go_wp2_with fail;go_ret;exact ⟨rfl,bw⟩
 by_cases h5:∀v∈p.cost.vs,v.v
 case neg=>
  have H5:Hd (¬ ∀v∈p.cost.vs,v.v):=h5;clear h5;have hbf:b=false:=by
   cases b
   ·rfl
   ·exact absurd (HB.o.1 rfl) (fun f=>H5.o f.vc)
  subst hbf;go_wp2_with fail;refine (dq wm p.cost m m false (HO.o.cost.below aw.o) HM.o (by omega) (by omega) bt.o.ec (Iff.intro (fun h=>Bool.noConfusion h) (fun h=>absurd h.2 H5.o))).mono ?_
  rintro e wn ⟨rfl,bb⟩;clear c0 c1 c2;go_wp2_with fail;go_ret;exact ⟨rfl,qd aw.o bb⟩
 case pos=>
  have H5:=ag h5;clear h5;by_cases h6:k=n/\∀v∈p.right.vs,v.v
  case neg=>
   have H6:Hd (¬(k=n/\∀v∈p.right.vs,v.v)):=h6;clear h6;have hbf:b=false:=by
    cases b
    ·rfl
    ·exact absurd (HB.o.1 rfl) (fun f=>H6.o ⟨by have:=f.lb;rw [HK.o,HN.o] at this;exact this,f.vb⟩)
   subst hbf;go_wp2_with fail;refine (dq wm p.cost m m true (HO.o.cost.below aw.o) HM.o (by omega) (by omega) bt.o.ec (Iff.intro (fun _=>⟨rfl,H5.o⟩) (fun _=>rfl))).mono ?_
   rintro e wn ⟨rfl,bb⟩;clear c0 c1 c2;obtain ⟨c0,c1,c2⟩:=ja.o wn bb;go_wp2_with fail;refine (dq wn p.right k n false (HO.o.right.below (qd aw.o bb)) HK.o (by omega) (by omega) bt.o.eb (Iff.intro (fun h=>Bool.noConfusion h) (fun h=>absurd h H6.o))).mono ?_
   rintro e wr ⟨rfl,b2⟩;clear c0 c1 c2;go_wp2_with fail;go_ret;exact ⟨rfl,ai aw.o (qd bb b2) aw.o.size⟩
  case pos=>
   obtain ⟨rfl,h7⟩:=h6;have H7:=ag h7;clear h7;go_wp2_with fail;refine (dq wm p.cost m m true (HO.o.cost.below aw.o) HM.o (by omega) (by omega) bt.o.ec (Iff.intro (fun _=>⟨rfl,H5.o⟩) (fun _=>rfl))).mono ?_
   rintro e wn ⟨rfl,bb⟩;clear c0 c1 c2;obtain ⟨c0,c1,c2⟩:=ja.o wn bb;go_wp2_with fail;refine (dq wn p.right k k true (HO.o.right.below (qd aw.o bb)) HK.o (by omega) (by omega) bt.o.eb (Iff.intro (fun _=>⟨rfl,H7.o⟩) (fun _=>rfl))).mono ?_
   rintro e w3 ⟨rfl,b2⟩;have b3:=qd bb b2;clear c0 c1 c2 bb b2 bw;go_wp2_with fail;go_loopw [4] (fun iv wr=>∃j:Nat,j<=k/\iv = .int .i64 j/\(∀r∈p.rows.take j,r.vs.length=m/\∀v∈r.vs,v.v)/\Below wm.heap.size wm wr) (fun iv _=>k-(intOf iv).toNat)
   case atStart=>exact ⟨0,by omega,rfl,(fun v hv=>by simp at hv),b3⟩
   case round=>
    clear b3;obtain ⟨j,hj,rfl,ha,bz⟩:=hrel;have HA:=ag ha;have eS:=ag bz;obtain ⟨c0,c1,c2⟩:=ja.o wr bz;by_cases hlt:j<k
    ·have hjl:j<p.rows.length:=by rw [HN.o];exact hlt
     have lL:=ag (List.take_succ_eq_append_getElem hjl);have de:=ag (List.getElem_mem hjl);obtain ⟨ad,hrA,_,hc⟩:=((HO.o.below aw.o).rd.below bz rfl) (by omega)
     have hcj:=hc j hjl;obtain ⟨s,hs⟩:∃s,p.rows[j]=s:=⟨_,rfl⟩;rw [hs] at hcj lL de;rw [hrA] at c1;have hl1:=bt.o.la s de.o;have yA:=ag (bt.o.ea s de.o);have OKR:=ag (((HO.o.rows s de.o).below aw.o).below bz);obtain ⟨L,hL⟩:∃L,s.vs.length=L:=⟨_,rfl⟩;have hcj2:wr.cell? (ad.add j)=some (.slice s.A L s.c):=by rw [<-hL];exact hcj
     rw [hL] at hl1;have HL:=ag hL;clear hc hs ha bz hcj hL hrA;by_cases h8:L=m/\∀v∈s.vs,v.v
     ·have H8:=ag h8;clear h8;go_wp2_with fail;refine (dq wr s L m true OKR.o HL.o (by omega) (by omega) yA.o (Iff.intro (fun _=>H8.o) (fun _=>rfl))).mono ?_
      rintro e w4 ⟨rfl,bb⟩;clear c0 c1 c2 hcj2;go_wp2_with fail;go_roundw
      case rel=>exact ⟨j+1,by omega,by go_num,(fun r hr=>by
       rw [lL.o] at hr;rcases List.mem_append.1 hr with h|h
       ·exact HA.o r h
       ·obtain rfl:r=s:=by simpa using h
        exact ⟨HL.o.trans H8.o.1,H8.o.2⟩),qd eS.o bb⟩
      case measure=>simp [intOf];omega
     ·have H8:Hd (¬(L=m/\∀v∈s.vs,v.v)):=h8;clear h8;have hbf:b=false:=by
       cases b
       ·rfl
       ·exact absurd (HB.o.1 rfl) (fun f=>H8.o ⟨by have:=f.la s de.o;rw [HL.o,HM.o] at this;exact this,f.va s de.o⟩)
      subst hbf;go_wp2_with fail;refine (dq wr s L m false OKR.o HL.o (by omega) (by omega) yA.o (Iff.intro (fun h=>Bool.noConfusion h) (fun h=>absurd h H8.o))).mono ?_
      rintro e w4 ⟨rfl,bb⟩;clear c0 c1 c2 hcj2;go_wp2_with fail;go_ret;exact ⟨rfl,ai aw.o (qd eS.o bb) aw.o.size⟩
    ·obtain rfl:j=k:=by omega
     rw [List.take_of_length_le (by rw [HN.o];exact Nat.le_refl _)] at ha
     have nj:=ag ha;have q1:=iM H5.o;have q2:=iM H7.o;have q3:wsF p.rows<=p.rows.length*8192000:=uj (fun r hr=>by
      have h1:=iM (ha r hr).2;have h2:=bt.o.la r hr;omega)
     have hbw:=qd aw.o bz;have EG:Hd (∀wd,Below wr.heap.size wr wd->Calls prog 35 #[.slice p.cost.A m p.cost.c] wd fun e w'=>e = .returned (.int .i64 (wlF p.cost.vs:Nat))/\Below wd.heap.size wd w'):=ag (fun wd hb=>by
      rw [<-HM.o];exact iS wd p.cost ((HO.o.cost.below hbw).below (hb.mono (by have:=hbw.size;omega))) (by rw [HM.o];omega) bt.o.ec H5.o)
     have EH:Hd (∀wd,Below wr.heap.size wr wd->Calls prog 35 #[.slice p.right.A j p.right.c] wd fun e w'=>e = .returned (.int .i64 (wlF p.right.vs:Nat))/\Below wd.heap.size wd w'):=ag (fun wd hb=>by
      rw [<-HK.o];exact iS wd p.right ((HO.o.right.below hbw).below (hb.mono (by have:=hbw.size;omega))) (by rw [HK.o];omega) bt.o.eb H7.o)
     have EI:Hd (∀wd,Below wr.heap.size wr wd->Calls prog 36 #[.slice p.rA j p.rc] wd fun e w'=>e = .returned (.int .i64 (wsF p.rows:Nat))/\Below wd.heap.size wd w'):=ag (fun wd hb=>by
      have ho:=(HO.o.below hbw).below (hb.mono (by have:=hbw.size;omega))
      rw [<-HN.o];exact pI wd p.rA p.rc p.rows ho.rd ho.rows (by rw [HN.o];omega) bt.o.la bt.o.ea (fun r hr=>(nj.o r hr).2))
     have hbe:decide (((wlF p.cost.vs:Nat):Int)+((wsF p.rows:Nat):Int)+((wlF p.right.vs:Nat):Int)<=900)=b:=by
      rw [Bool.eq_iff_iff,HB.o,decide_eq_true_iff];have e0:wsF p.rows=(p.rows.map (fun r=>wlF r.vs)).sum:=rfl;exact ⟨fun h=>⟨by have:=HN.o;omega,by have:=HN.o;omega,by have:=HM.o;omega,by have:=HM.o;omega,by rw [HK.o,HN.o],(fun r hr=>by rw [HM.o];exact (ha r hr).1),H5.o,H7.o,(fun r hr=>(ha r hr).2),by omega⟩,fun v=>by have:=v.wt;omega⟩
     obtain ⟨C,hC⟩:∃C,wlF p.cost.vs=C:=⟨_,rfl⟩;obtain ⟨R,hR⟩:∃R,wsF p.rows=R:=⟨_,rfl⟩;obtain ⟨B,hB⟩:∃B,wlF p.right.vs=B:=⟨_,rfl⟩;rw [hC] at q1 EG hbe;rw [hB] at q2 EH hbe;rw [hR] at q3 EI hbe;have B6:=ag hbe;have EJ:Hd (C<=8192000/\B<=8192000/\R<=8192000000):=ag (by rw [HM.o] at q1;rw [HK.o] at q2;rw [HN.o] at q3;omega)
     replace ja:Hd (∀w',Below wr.heap.size wr w'->w'.cell? ⟨g1,0,none⟩=some (.slice p.cost.A m p.cost.c)/\w'.cell? ⟨g1,1,none⟩=some (.slice p.rA j p.rc)/\w'.cell? ⟨g1,2,none⟩=some (.slice p.right.A j p.right.c)):=ag (fun w' hb=>ja.o w' (qd eS.o hb));replace aw:=ag hbw;clear hC hR hB q1 q2 q3 hbe hbw ha bz HA nj c0 c2;go_upto_region 9 with fail;clear c1;have a7:Hd (∀w',Below wr.heap.size wr w'->(w'.cell? ⟨g1,0,none⟩=some (.slice p.cost.A m p.cost.c)/\w'.cell? ⟨g1,1,none⟩=some (.slice p.rA j p.rc)/\w'.cell? ⟨g1,2,none⟩=some (.slice p.right.A j p.right.c))):=ag (fun _ bz=>(ja.o _ bz))
     refine fR a7 (by kernel_rfl) fun hH=>?_
     have bz:=(ah wr.heap.size wr).drew;generalize wr.drew=wd at *;refine qj 13 fun Ha=>?_
     refine qh Ha 0 (.pointer (some ⟨g1,0,none⟩)) rfl ?_;refine qh Ha 1 (.slice p.cost.A m p.cost.c) rfl ?_;refine qh Ha 3 (.pointer (some ⟨g1,1,none⟩)) rfl ?_;refine qh Ha 4 (.slice p.rA j p.rc) rfl ?_;refine qh Ha 7 (.pointer (some ⟨g1,2,none⟩)) rfl ?_;refine tks Ha 8 (.slice p.right.A j p.right.c) rfl ?_;simp only [tz];refine tk1 Ha 2 rfl fun K hK=>?_;go_simp;go_at_call 35;refine (EG.o wd bz).mono ?_;rintro e wd ⟨rfl,bb⟩;replace bz:=qd bz bb;clear bb;refine hK.out _ _ (a7.o _ bz) fun hH=>?_;clear hK K;try simp only [tz]
     refine tk1 Ha 5 rfl fun K hK=>?_;go_simp;go_at_call 36;refine (EI.o wd bz).mono ?_;rintro e wd ⟨rfl,bb⟩;replace bz:=qd bz bb;clear bb;refine hK.out _ _ (a7.o _ bz) fun hH=>?_;clear hK K;try simp only [tz]
     refine tks Ha 6 (.int .i64 ((C:Int)+(R:Int))) rfl ?_ (hr:=by intro w hSw;go_simp;(exact IntWalk.i64_in _ (by have:=EJ.o;omega)));simp only [tz]
     refine tk1 Ha 9 rfl fun K hK=>?_;go_simp;go_at_call 35;refine (EH.o wd bz).mono ?_;rintro e wd ⟨rfl,bb⟩;replace bz:=qd bz bb;clear bb;refine hK.out _ _ (a7.o _ bz) fun hH=>?_;clear hK K;try simp only [tz]
     refine tks Ha 10 (.int .i64 ((C:Int)+(R:Int)+(B:Int))) rfl ?_ (hr:=by intro w hSw;go_simp;(exact IntWalk.i64_in _ (by have:=EJ.o;omega)));simp only [tz]
     refine tks Ha 11 (.bool (decide ((C:Int)+(R:Int)+(B:Int)<=900))) rfl ?_;simp only [tz];refine tk1 Ha 12 rfl fun K hK=>?_;go_simp;refine hK.out _ _ (a7.o _ bz) fun hH=>?_;clear hK K;try simp only [tz]
     refine qp Ha ?_
     go_wp2_with fail;go_ret;exact ⟨dz B6.o,qd aw.o bz⟩
theorem r16solve_bad (w:World) (p:Pg) (h:p.ok w) (sm:p.sm) (nv:¬p.vd) :
 Calls prog 23 #[p.val] w fun e w'=>e = .returned (.tuple #[(⟨0,slN,slN,slN,Fx.nil⟩:Sn).val, .int .i64 1])/\Below w.heap.size w w':=by
 have HO:=ag h;have bt:=ag sm;have cq:Hd (¬p.vd):=nv;clear h sm nv;go_enter func23,ntmps23;go_upto_region 1 with fail;have pb:=(aY w p 25).1;have bw:=(aY w p 25).2;have hsz:=iV w p 25;generalize (w.alloc (.cells #[.slice p.cost.A p.cost.vs.length p.cost.c, .slice p.rA p.rows.length p.rc, .slice p.right.A p.right.vs.length p.right.c] 25))=wm at pb bw hsz|-;have zs:=oC wm 31;have bb:=qc wm (.cells #[.int .i64 0, .slice none 0 0, .slice none 0 0, .slice none 0 0, .bool false, .slice none 0 0, .slice none 0 0] 31);rw [hsz] at zs;replace pb:=pb.below bb
 replace bw:=qd bw bb;clear bb hsz;generalize (wm.alloc (.cells #[.int .i64 0, .slice none 0 0, .slice none 0 0, .slice none 0 0, .bool false, .slice none 0 0, .slice none 0 0] 31))=wb at *;have c0:=pb.c0;have c1:=pb.c1;have c2:=pb.c2;go_wp2_with fail;refine (kD wb p false (HO.o.below bw) bt.o (Iff.intro (fun h=>Bool.noConfusion h) (fun h=>absurd h cq.o))).mono ?_;rintro e w1 ⟨rfl,bb⟩;replace zs:=zs.below bb;replace bw:=qd bw bb;clear bb c0 c1 c2 pb;obtain ⟨z0,z1,z2,z3,z4,z5,z6,zf,zl,_⟩:=zs;have f0:=zf 0;have f1:=zf 1;have f2:=zf 2;have f3:=zf 3;have f4:=zf 4;have f5:=zf 5
 have f6:=zf 6;go_wp2_with fail;refine bodyPost_ret (v := .tuple #[(⟨0,slN,slN,slN,Fx.nil⟩:Sn).val, .int .i64 1]) (by simp [results,Tryz.results23,go_sem,z0,z1,z2,z3,z4,z5,z6]) rfl ?_
 exact ⟨rfl,(Kp.set7 (S:=fun a=>a=w.heap.size+1) (Kp.refl _ _) rfl _ _ _ _ _ _ _).below (B:=w.heap.size) (fun a e=>by omega) bw.size |> bw.trans⟩
section
variable {P:Program} {md:Region.Mode} {ops:Array Oper} {Q:Exit->Act->World->Prop} {S:World->Prop} {k:Nat}
def jL (P:Program) (md:Region.Mode) (ops:Array Oper) (Q:Exit->Act->World->Prop) (S:World->Prop) (k:Nat):Nat->Array Bool->Act->World->Prop
 | 0,ls,a,w=>Region.ready md ops ls = []/\Q .normal a w
 | f+1,ls,a,w=>(Region.ready md ops ls = []->Q .normal a w)/\∀i∈Region.ready md ops ls,wpOp P ops Q i (fun a2 w2=>(i<k->S w2)/\jL P md ops Q S k f (ls.setIfInBounds i true) a2 w2) a w
theorem jL.any:∀(f:Nat) (ls:Array Bool) (a:Act) (w:World),jL P md ops Q S k f ls a w->wpAny P md ops Q f ls a w
 | 0,_,_,_,h=>h
 | f+1,_,_,_,h=>⟨h.1,fun i hi=>wpOp_mono (fun a2 w2 h2=>jL.any f _ a2 w2 h2.2) (h.2 i hi)⟩
def uh (md:Region.Mode) (ops:Array Oper) (ls:Array Bool):Prop:=∀m om,ops[m]? = some om->ls.getD m false=true->∀e∈om.after,Region.binds md e=true->ls.getD e.on false=true
theorem uh.set {ls:Array Bool} {j:Nat} (h:uh md ops ls) (hj:j∈Region.ready md ops ls):uh md ops (ls.setIfInBounds j true):=by
 intro m om hm hl e he hb;obtain ⟨_,oj,hoj,hall⟩:=mem_ready.1 hj;rcases Nat.decEq j m with hjm|hjm
 ·rw [getD_set_ne false hjm] at hl;exact getD_set_true (h m om hm hl e he hb)
 ·subst hjm;rw [hoj] at hm;injection hm with hm;subst hm;exact getD_set_true (hall e he hb)
theorem jL.first {i:Nat} {oi:Oper} {v:Value} (hi:ops[i]? = some oi) (hsel:∀(j:Nat) (o:Oper) cs b,ops[j]? = some o->o.op ≠ .select cs b) (hQ:∀c a w,Q (.panic c) (a.put oi.dst v) w->Q (.panic c) a w)
 (late:∀ls,uh md ops ls->ls.getD i false=false->∀j,k<=j->j ∉ Region.ready md ops ls) :
 ∀(f:Nat) (ls:Array Bool) (a:Act) (w:World),uh md ops ls->(∀j oj,ops[j]? = some oj->j≠i->ls.getD j true=false->(∀e∈oj.after,Region.binds md e=true->e.on≠i)->oi.apart ops oj=true) ->
  i∈Region.ready md ops ls->YieldsIf P ops S oi v a->S w->jL P md ops Q S k f (ls.setIfInBounds i true) (a.put oi.dst v) w->jL P md ops Q S k (f+1) ls a w:=by
 intro f
 induction f with
 | zero=>
   intro ls a w _ _ hr hy hS H;constructor
   ·intro h0;rw [h0] at hr;cases hr
   ·intro j hj;rcases Nat.decEq j i with hji|hji
    ·have h3:=ready_mono hj hji;rw [H.1] at h3;cases h3
    ·subst hji;exact hy.wpOp hi hS ⟨fun _=>hS,H⟩
 | succ f ih=>
   intro ls a w hc hfree hr hy hS H;constructor
   ·intro h0;rw [h0] at hr;cases hr
   ·intro j hj;rcases Nat.decEq j i with hji|hji
    ·have hu:=(mem_ready.1 hr).1;obtain ⟨hju,oj,hoj,hall⟩:=mem_ready.1 hj;have hu2:ls.getD i false=false:=by
      rcases Nat.lt_or_ge i ls.size with h|h
      ·simp [h] at hu|-;exact hu
      ·simp [Array.getElem?_eq_none h]
     have hno:∀e∈oj.after,Region.binds md e=true->e.on≠i:=by
      intro e he hb e1;have h1:=hall e he hb;rw [e1,hu2] at h1;cases h1
     have hjk:j<k:=by
      rcases Nat.lt_or_ge j k with h|h
      ·exact h
      ·exact absurd hj (late ls hc hu2 j h)
     have h2:=wpOp_putIf hoj (hfree j oj hoj hji hju hno) (fun cs b=>hsel i oi cs b hi) (fun cs b=>hsel j oj cs b hoj) hQ hy (H.2 j (ready_mono hj hji));refine wpOp_mono ?_ h2;intro a2 w2 h3;have hS2:=h3.2.1 hjk;refine ⟨fun _=>hS2,ih (ls.setIfInBounds j true) a2 w2 (hc.set hj) ?_ (ready_mono hr (Ne.symm hji)) h3.1 hS2 (by rw [Array.setIfInBounds_comm _ _ hji];exact h3.2.2)⟩
     intro m om hm hmi hmu hmo;refine hfree m om hm hmi ?_ hmo;rcases Nat.decEq j m with h|h
     ·rwa [getD_set_ne true h] at hmu
     ·subst h;exact hju
    ·subst hji;exact hy.wpOp hi hS ⟨fun _=>hS,H⟩
def wtS (SU:List dC) (i:Nat):Nat->Nat->Bool
 | 0,_=>false
 | f+1,m=>match SU[m]? with
   | none=>false
   | some e=>e.2.2.1.any fun x=>Nat.beq x i || wtS SU i f x
theorem yp {SU:List dC} {i:Nat} {ls:Array Bool} (h:jo md ops=SU) (hc:uh md ops ls) (hu:ls.getD i false=false):∀f m om,wtS SU i f m=true->ops[m]? = some om->¬ ∀e∈om.after,Region.binds md e=true->ls.getD e.on false=true
 | 0,m,om,hw,_,_=>by cases hw
 | f+1,m,om,hw,hm,ha=>by
   have hs:=fU h m;rw [hm,Option.map_some] at hs;rw [wtS,hs] at hw;obtain ⟨x,hx,hb⟩:=List.any_eq_true.1 hw;rw [List.mem_map] at hx;obtain ⟨e,he,rfl⟩:=hx;rw [List.mem_filter] at he;have hl:=ha e (by simpa using he.1) he.2
   rw [Bool.or_eq_true] at hb;rcases hb with hb|hb
   ·rw [Nat.eq_of_beq_eq_true hb,hu] at hl;cases hl
   ·cases ho:ops[e.on]? with
    | none=>
      have hs2:=fU h e.on;rw [ho,Option.map_none] at hs2
      cases f with
      | zero=>cases hb
      | succ f=>rw [wtS,hs2] at hb;cases hb
    | some o2=>exact yp h hc hu f e.on o2 hb ho (hc e.on o2 ho hl)
def ltS (SU:List dC) (k i:Nat):Bool:=(List.range (SU.length-k)).all fun n=>wtS SU i 6 (k+n)
theorem Dw {SU:List dC} {i:Nat} (h:jo md ops=SU) (hl:ltS SU k i=true):∀ls,uh md ops ls->ls.getD i false=false->∀j,k<=j->j ∉ Region.ready md ops ls:=by
 intro ls hc hu j hj hr;obtain ⟨_,oj,hoj,hall⟩:=mem_ready.1 hr;have hlen:SU.length=ops.size:=by rw [<-h,jo,List.length_map,Array.length_toList]
 have hlt:=(Array.getElem?_eq_some_iff.1 hoj).1;have hw:=List.all_eq_true.1 hl (j-k) (List.mem_range.2 (by omega))
 rw [show k+(j-k)=j from by omega] at hw
 exact yp h hc hu 6 j oj hw hoj hall
def clS (SU:List dC) (ls:List Bool):Bool:=(List.range SU.length).all fun m => !(ls.getD m false) || (match SU[m]? with
 | none=>true
 | some e=>e.2.2.1.all fun x=>ls.getD x false)
theorem DG {SU:List dC} {ls:List Bool} (h:jo md ops=SU) (hl:clS SU ls=true):uh md ops ls.toArray:=by
 intro m om hm hlm e he hb;have hlen:SU.length=ops.size:=by rw [<-h,jo,List.length_map,Array.length_toList]
 have hlt:=(Array.getElem?_eq_some_iff.1 hm).1;have hw:=List.all_eq_true.1 hl m (List.mem_range.2 (by omega))
 have hs:=fU h m;rw [hm,Option.map_some] at hs;rw [fQ] at hlm;rw [hlm,hs] at hw;simp only [Bool.not_true,Bool.false_or] at hw;rw [fQ];exact List.all_eq_true.1 hw e.on (List.mem_map.2 ⟨e,List.mem_filter.2 ⟨by simpa using he,hb⟩,rfl⟩)
variable {oi:Oper} {f:Nat} {ls:List Bool} {SU:List dC} {a:Act} {w:World}
theorem mY (HU:pP md ops SU) (i:Nat) (v:Value) (hi:ops[i]? = some oi) (h:jL P md ops Q S k f (ls.toArray.setIfInBounds i true) (a.put oi.dst v) w) (hc:(tf SU ls i && qF SU ls i && ltS SU k i && clS SU ls)=true:=by kernel_rfl) (hQ:∀c a w,Q (.panic c) (a.put oi.dst v) w->Q (.panic c) a w:=by exact fun _ _ _ h=>h)
 (hw:Region.wanted oi (yielded ops a.tmps)=true:=by first|rfl|kernel_rfl) (hr:∀w,S w->(execOp a.eval oi).run P w = .ok (.value v) w:=by intro w hSw;go_simp;(try with_reducible rfl)) (hS:S w:=by assumption):jL P md ops Q S k (f+1) ls.toArray a w:=by
 rw [Bool.and_eq_true,Bool.and_eq_true,Bool.and_eq_true] at hc;exact jL.first hi (Region.noSelect_spec HU.o.1) hQ (Dw HU.o.2 hc.1.2) f _ a w (DG HU.o.2 hc.2) (Region.free_spec hi (kN HU.o.2 hc.1.1.2)) (by have:=nO HU.o.2 hc.1.1.1;simpa using this) (Or.inl ⟨hw,hr⟩) hS h
theorem qW (HU:pP md ops SU) (i:Nat) (ho:ops[i]? = some oi)
 (h:∀K':Act->World->Prop,Shut (∀a w,S w->(S w->jL P md ops Q S k f (ls.toArray.setIfInBounds i true) a w)->K' a w)->if Region.wanted oi (yielded ops a.tmps)=true then Oper.wp P oi a w K' Q else K' (a.put oi.dst undef) w) (hr:xD SU ls = [i]:=by kernel_rfl):jL P md ops Q S k (f+1) ls.toArray a w:=by
 have hr2:=tkn HU hr;refine ⟨fun h0=>(by rw [hr2] at h0;cases h0),fun j hj=>?_⟩
 rw [hr2,List.mem_singleton] at hj;subst hj;exact wpOp_step ho (fun K' hK=>h K' (fun a w hS hW=>hK a w ⟨fun _=>hS,hW hS⟩))
theorem Bh (HU:pP md ops SU) (i:Nat) (ho:ops[i]? = some oi)
 (h:∀K':Act->World->Prop,Shut (∀a w,jL P md ops Q S k f (ls.toArray.setIfInBounds i true) a w->K' a w)->if Region.wanted oi (yielded ops a.tmps)=true then Oper.wp P oi a w K' Q else K' (a.put oi.dst undef) w) (hr:xD SU ls = [i]:=by kernel_rfl) (hk:Nat.ble k i=true:=by kernel_rfl):jL P md ops Q S k (f+1) ls.toArray a w:=by
 have hr2:=tkn HU hr;refine ⟨fun h0=>(by rw [hr2] at h0;cases h0),fun j hj=>?_⟩
 rw [hr2,List.mem_singleton] at hj;subst hj;have hk2:=Nat.le_of_ble_eq_true hk;exact wpOp_step ho (fun K' hK=>h K' (fun a w hW=>hK a w ⟨fun h=>absurd h (by omega),hW⟩))
theorem tkdK (hr:Region.ready md ops ls.toArray = []) (h:Q .normal a w):∀f,jL P md ops Q S k f ls.toArray a w
 | 0=>⟨hr,h⟩
 | _+1=>⟨fun _=>h,by rw [hr];simp⟩
theorem q5 {P:Program} {md:Region.Mode} {ops:Array Oper} {Q:Exit->Act->World->Prop} {S:World->Prop} {k:Nat} {a:Act} {w:World} {ls:List Bool} {SU:List dC} (HU:pP md ops SU) (h:Q .normal a w) (hr:xD SU ls=[]:=by kernel_rfl) {f:Nat}:jL P md ops Q S k f ls.toArray a w:=tkdK (tkn HU hr) h f
theorem tkiK (k:Nat) (SU:List dC) (ls:List Bool) {id:Nat} (hm:P.follows .mixedOrders=true) (hs:Region.noSelect ops=true) (h1:jo .any ops=SU) (hl:Array.replicate ops.size false=ls.toArray) (hS:S w.drew) (h:pP .any ops SU->S w.drew->jL P .any ops Q S k ops.size ls.toArray a w.drew):(Code.region id ops true).wp P Q a w:=by
 refine wp_region_any hm (jL.any (S:=S) (k:=k) _ _ _ _ ?_);rw [hl];exact h (ag ⟨hs,h1⟩) hS
theorem qm {P:Program} {ops:Array Oper} {Q:Exit->Act->World->Prop} {S:World->Prop} {a:Act} {w:World} (k n:Nat) {id:Nat} (hS:S w.drew) (h:pP .any ops (jo .any ops)->S w.drew->jL P .any ops Q S k ops.size (qe n).toArray a w.drew) (hm:P.follows .mixedOrders=true:=by kernel_rfl) (hs:Region.noSelect ops=true:=by kernel_rfl) (hl:Array.replicate ops.size false=(qe n).toArray:=by kernel_rfl):(Code.region id ops true).wp P Q a w:=tkiK k (jo .any ops) (qe n) hm hs rfl hl hS h
end
def extT (m N:Nat) (c:Nat->Rat) (y:St):St:=⟨fun r k=>if r=m then (if k=N then-bV m c y.T y.B N else cE m c y.T y.B k) else y.T r k,y.B⟩
section
variable {m n N:Nat} {O:Nat->Nat->Rat} {c cost:Nat->Rat} {y x:St} {i s k r:Nat}
theorem ext_row (h:r<m):(extT m N c y).T r k=y.T r k:=if_neg (by omega)
theorem ext_red (h:k<N):(extT m N c y).T m k=cE m c y.T y.B k:=by
 show (if m=m then _ else _)=_
 rw [if_pos rfl,if_neg (by omega)]
theorem ext_val:(extT m N c y).T m N = - bV m c y.T y.B N:=by
 show (if m=m then _ else _)=_
 rw [if_pos rfl,if_pos rfl]
theorem ext_pivot (hi:i<m) (hs:s<N) (hne:y.T i s≠0):extT m N c ⟨bY y.T i s,cg y.B i s⟩=⟨bY (extT m N c y).T i s,cg (extT m N c y).B i s⟩:=by
 have e:∀r k,(extT m N c ⟨bY y.T i s,cg y.B i s⟩).T r k=bY (extT m N c y).T i s r k:=by
  intro r k;have h1:(extT m N c y).T i k=y.T i k:=ext_row hi;have h2:(extT m N c y).T i s=y.T i s:=ext_row hi;rw [bY,h1,h2];by_cases hr:r=m
  ·subst hr;rw [if_neg (by omega),ext_red hs]
   by_cases hk:k=N
   ·subst hk;rw [ext_val,ext_val]
    show-bV r c (bY y.T i s) (cg y.B i s) k=_
    rw [xS hi hne];generalize cE r c y.T y.B s*(y.T i k/y.T i s)=z
    grind
   ·show (if r=r then (if k=N then _ else _) else _)=(if r=r then (if k=N then _ else _) else _)-_
    rw [if_pos rfl,if_pos rfl,if_neg hk,if_neg hk]
    show c k-bV r c (bY y.T i s) (cg y.B i s) k=(c k-bV r c y.T y.B k)-_
    rw [xS hi hne];generalize cE r c y.T y.B s*(y.T i k/y.T i s)=z
    grind
  ·show (if r=m then _ else bY y.T i s r k)=_
   rw [if_neg hr,bY];have h3:∀j,(extT m N c y).T r j=y.T r j:=fun j=>if_neg hr;rw [h3,h3]
 show (⟨_,_⟩:St)=_
 congr 1
 funext r k
 exact e r k
theorem bdr_sub {p q:Rat} {a b d e:Nat} (h1:BdR p a b) (h2:BdR q d e):BdR (p-q) (a*e+d*b) (b*e):=by
 have hp:=dE p;have hq:=dE q;have hx:=kO (x:=p-q) (d:=((p.den*q.den:Nat):Int)) (N:=p.num*(q.den:Int)-q.num*(p.den:Int)) (by
  have:=p.den_pos;have:=q.den_pos;have:0<p.den*q.den:=Nat.mul_pos p.den_pos q.den_pos;omega) (by
  rw [Rat.intCast_sub,Rat.intCast_mul,Rat.intCast_mul,<-hp,<-hq];have c1:(((p.den*q.den:Nat):Int):Rat)=((p.den:Nat):Rat)*((q.den:Nat):Rat):=by
   show ((p.den*q.den:Nat):Rat)=_
   rw [Rat.natCast_mul]
  have c2:(((q.den:Nat):Int):Rat)=((q.den:Nat):Rat):=rfl;have c3:(((p.den:Nat):Int):Rat)=((p.den:Nat):Rat):=rfl;rw [c1,c2,c3];generalize ((p.den:Nat):Rat)=u;generalize ((q.den:Nat):Rat)=v
  grind)
 refine ⟨Nat.le_trans hx.1 ?_,Nat.le_trans hx.2 ?_⟩
 ·refine Nat.le_trans (Int.natAbs_sub_le _ _) ?_;rw [Int.natAbs_mul,Int.natAbs_mul,Int.natAbs_natCast,Int.natAbs_natCast];exact Nat.add_le_add (Nat.mul_le_mul h1.1 h2.2) (Nat.mul_le_mul h2.1 h1.2)
 ·rw [Int.natAbs_natCast];exact Nat.mul_le_mul h1.2 h2.2
theorem bdr_wt (q:Rat) {e:Nat} (h:wtR q<=2^e):BdR q (2^e) (2^e):=by
 unfold wtR at h;exact ⟨by omega,by omega⟩
theorem red_gen (h:Okx m n O x) (hO:∀r,r<m->∀k,k<m->O r (n+k)=if r=k then 1 else 0) {W V V':Nat} (hA:wgA m n O<=W) (hb:bG (fun r=>wgB (O r (n+m))) m<=W) (h1:1<=W)
 (hc:pr1 (fun j=>wtR (c j)) (n+m)<=2^V) (hcj:∀j,j<n+m->wtR (c j)<=2^V') (hm:m<=32) (hs:V'+V+wgA m n O+m+W+6<1920) :
 ∀j,j<=n+m->Sz ((extT m (n+m) c x).T m j) 60 60:=by
 intro j hj;have hAll:=wL hO (Nat.le_refl (wgA m n O));have e1:pr1 (bh m O) (n+m)*bh m O j<=2^(wgA m n O+m+W):=by
  rw [Nat.pow_add];exact Nat.mul_le_mul hAll (Cn hO hA hb h1 hj)
 have t:=Ak (c:=c) h hj m (Nat.le_refl _);obtain ⟨P,hP⟩:∃P,pr1 (fun i=>wtR (c (x.B i))) m*(pr1 (bh m O) (n+m)*bh m O j)=P:=⟨_,rfl⟩;rw [hP] at t;have e2:P<=2^(V+(wgA m n O+m+W)):=by
  rw [<-hP,Nat.pow_add];exact Nat.mul_le_mul (Nat.le_trans (rV h (Nat.le_refl _)) hc) e1
 have hdt:BdR (bV m c x.T x.B j) (m*P) P:=t;have fin:∀(q:Rat) (d:Nat),q.num.natAbs<=d->d<=2^V'->q.den<=2^V'->BdR (q-bV m c x.T x.B j) (2^(6+(V'+(V+(wgA m n O+m+W))))) (2^(6+(V'+(V+(wgA m n O+m+W))))):=fun q d k1 k2 k3=>by
  have k:=bdr_sub (p:=q) (a:=2^V') (b:=2^V') ⟨Nat.le_trans k1 k2,k3⟩ hdt;have e3:2^V'*P<=2^(V'+(V+(wgA m n O+m+W))):=by
   rw [Nat.pow_add];exact Nat.mul_le_mul_left _ e2
  have e4:2^(V'+(V+(wgA m n O+m+W)))<=2^(6+(V'+(V+(wgA m n O+m+W)))):=Nat.pow_le_pow_right (by omega) (by omega)
  refine ⟨Nat.le_trans k.1 ?_,Nat.le_trans k.2 (Nat.le_trans e3 e4)⟩;have e5:2^V'*P+m*P*2^V'=(m+1)*(2^V'*P):=by
   rw [Nat.add_mul,Nat.one_mul,Nat.mul_assoc,Nat.mul_comm P,Nat.add_comm]
  rw [e5,Nat.pow_add];exact Nat.mul_le_mul (by omega) e3
 rcases Nat.lt_or_ge j (n+m) with h2|h2
 ·rw [ext_red h2,cE];have hw:=hcj j h2;have hw2:=bdr_wt _ hw;exact mg (e:=6+(V'+(V+(wgA m n O+m+W)))) (by omega) (fin (c j) _ hw2.1 (Nat.le_refl _) hw2.2)
 ·obtain rfl:j=n+m:=by omega
  rw [ext_val];have k:=fin 0 0 (Nat.le_refl _) (Nat.zero_le _) (Nat.one_le_two_pow);rw [show-bV m c x.T x.B (n+m)=0-bV m c x.T x.B (n+m) by grind]
  exact mg (e:=6+(V'+(V+(wgA m n O+m+W)))) (by omega) k
theorem ext1 (h:Okx m n O x) (hw:Wgt m n O cost):∀r,r<=m->∀k,k<=n+m->Sz ((extT m (n+m) (bZ n) x).T r k) 60 60:=by
 intro r hr k hk;have w:=hw.w;have m32:=hw.m;rcases Nat.lt_or_ge r m with h1|h1
 ·rw [ext_row h1];exact (DA h hw).el r h1 k hk
 ·obtain rfl:r=m:=by omega
  have hc:=tB n (n+r);rw [show n+r-n=r from by omega] at hc
  exact red_gen h hw.art (W:=900) (V:=r) (V':=1) (by omega) (by omega) (by omega) hc (fun j _=>by
   unfold bZ
   split
   ·show 1<=2;omega
   ·show 2<=2;omega) m32 (by omega) k hk
theorem ext2 (h:Okx m n O x) (hw:Wgt m n O cost):∀r,r<=m->∀k,k<=n+m->Sz ((extT m (n+m) (cV n cost) x).T r k) 60 60:=by
 intro r hr k hk;have w:=hw.w;have m32:=hw.m;rcases Nat.lt_or_ge r m with h1|h1
 ·rw [ext_row h1];exact (fit2 h hw).el r h1 k hk
 ·obtain rfl:r=m:=by omega
  have k1:=Nat.le_max_left (wgA r n O) (max (bG (fun i=>wgB (O i (n+r))) r) 1);have k2:=Nat.le_max_right (wgA r n O) (max (bG (fun i=>wgB (O i (n+r))) r) 1);have k3:=Nat.le_max_left (bG (fun i=>wgB (O i (n+r))) r) 1;have k4:=Nat.le_max_right (bG (fun i=>wgB (O i (n+r))) r) 1;refine red_gen h hw.art (W:=max (wgA r n O) (max (bG (fun i=>wgB (O i (n+r))) r) 1)) (V:=bG (fun j=>wgB (cost j)) n) (V':=bG (fun j=>wgB (cost j)) n) k1 (by omega) (by omega) (tA n cost (n+r)) (fun j _=>?_) m32 (by omega) k hk
  unfold cV
  split
  ·rename_i hj
   exact Nat.le_trans (lI _) (Nat.pow_le_pow_right (by omega) (sJ (fun j=>wgB (cost j)) hj))
  ·exact Nat.one_le_two_pow
end
end Go.Proofs.YtkpfbekmaafehaaGreat
