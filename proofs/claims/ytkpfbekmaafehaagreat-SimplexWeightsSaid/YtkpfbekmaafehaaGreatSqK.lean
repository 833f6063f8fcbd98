/- The walk of simplex.Valid -/
import Derived.Test.YtkpfbekmaafehaaGreatSqI
namespace Go.Proofs.YtkpfbekmaafehaaGreat
open _root_.Go.Proofs.Tryz
set_option maxHeartbeats 8000000
set_option maxRecDepth 100000
open Go.RowKit
def wsF (l:List Sl):Nat:=(l.map (fun r=>wlF r.vs)).sum
theorem se {l:List Sl} {k:Nat} (h:k<l.length):wsF (l.take (k+1))=wsF (l.take k)+wlF l[k].vs:=by
 rw [List.take_succ_eq_append_getElem h,wsF,List.map_append,List.sum_append,List.map_cons,List.map_nil,List.sum_cons,List.sum_nil,Nat.add_zero];rfl
theorem uj {l:List Sl} (h:∀r∈l,wlF r.vs<=8192000):wsF l<=l.length*8192000:=by
 induction l with
 | nil=>simp [wsF]
 | cons v l ih=>
   have h1:=ih (fun u hu=>h u (List.mem_cons_of_mem _ hu));have h2:=h v (List.mem_cons_self ..);simp only [wsF,List.map_cons,List.sum_cons,List.length_cons] at *;omega
structure Pb (w:World) (G:Nat) (p:Pg):Prop where
 c0:w.cell? ⟨G,0,none⟩=some p.cost.val
 c1:w.cell? ⟨G,1,none⟩=some (.slice p.rA p.rows.length p.rc)
 c2:w.cell? ⟨G,2,none⟩=some p.right.val
 lt:G<w.heap.size
theorem Pb.below {w w':World} {G:Nat} {p:Pg} (h:Pb w G p) (hb:Below w.heap.size w w'):Pb w' G p:=
 ⟨(hb.cell (p:=⟨G,0,none⟩) h.lt).trans h.c0,(hb.cell (p:=⟨G,1,none⟩) h.lt).trans h.c1,(hb.cell (p:=⟨G,2,none⟩) h.lt).trans h.c2,Nat.lt_of_lt_of_le h.lt hb.size⟩
theorem Pb.kp {w w':World} {G:Nat} {p:Pg} {S:Nat->Prop} (h:Pb w G p) (k:Kp S w w') (hG:¬S G):Pb w' G p:=
 ⟨(k.cell (p:=⟨G,0,none⟩) h.lt hG).trans h.c0,(k.cell (p:=⟨G,1,none⟩) h.lt hG).trans h.c1,(k.cell (p:=⟨G,2,none⟩) h.lt hG).trans h.c2,Nat.lt_of_lt_of_le h.lt k.size⟩
theorem aY (w:World) (p:Pg) (e:TypeId):Pb (w.alloc (.cells p.cells e)) w.heap.size p/\Below w.heap.size w (w.alloc (.cells p.cells e)):=
 ⟨⟨by go_simp,by go_simp,by go_simp,by simp⟩,(ah _ _).alloc (Nat.le_refl _) _⟩
theorem fE (w:World) (p:Pg) (b:Bool) (h:p.ok w) (sm:p.sm) (hb:b=true↔p.vd) :
 Calls prog 15 #[p.val] w fun e w'=>e = .returned (.bool b)/\Below w.heap.size w w':=by
 have HO:=ag h;have bt:=ag sm;have HB:=ag hb;have hlr:=sm.lr;have hlc:=sm.lc;have hlb:=sm.lb;have Gc:=ag h.cap;obtain ⟨n,hn⟩:∃n,p.rows.length=n:=⟨_,rfl⟩;obtain ⟨m,hm⟩:∃m,p.cost.vs.length=m:=⟨_,rfl⟩;obtain ⟨k,hk⟩:∃k,p.right.vs.length=k:=⟨_,rfl⟩;have HN:=ag hn;have HM:=ag hm;have HK:=ag hk;obtain ⟨i1,hi,hi0,hi1,hi2⟩:=info_parts jt;rw [hn] at hlr;rw [hm] at hlc;rw [hk] at hlb;clear h sm hb hn hm hk;go_enter func15,ntmps15;go_upto_region 1 with fail;have pb:=(aY w p 25).1;have bw:=(aY w p 25).2;generalize (w.alloc (.cells #[.slice p.cost.A p.cost.vs.length p.cost.c, .slice p.rA p.rows.length p.rc, .slice p.right.A p.right.vs.length p.right.c] 25))=wm at pb bw|-
 generalize hg1:w.heap.size=g1 at pb|-;have fl:=ag hg1;clear hg1;have c0:(wm).cell? ⟨g1,0,none⟩=some (.slice p.cost.A m p.cost.c):=by rw [<-HM.o];exact pb.c0
 have c1:(wm).cell? ⟨g1,1,none⟩=some (.slice p.rA n p.rc):=by rw [<-HN.o];exact pb.c1
 have c2:(wm).cell? ⟨g1,2,none⟩=some (.slice p.right.A k p.right.c):=by rw [<-HK.o];exact pb.c2
 go_region;have bd:Below wm.heap.size wm wm.drew:=(ah _ _).drew;replace pb:=pb.below bd;replace bw:=qd bw bd;clear c0 c1 c2 bd;generalize wm.drew=wm at *;have c0:(wm).cell? ⟨g1,0,none⟩=some (.slice p.cost.A m p.cost.c):=by rw [<-HM.o];exact pb.c0
 have c1:(wm).cell? ⟨g1,1,none⟩=some (.slice p.rA n p.rc):=by rw [<-HN.o];exact pb.c1
 have c2:(wm).cell? ⟨g1,2,none⟩=some (.slice p.right.A k p.right.c):=by rw [<-HK.o];exact pb.c2
 by_cases h1:n<1
 ·skip
  have hbf:b=false:=by
   cases b
   ·rfl
   ·exact absurd (HB.o.1 rfl) (fun v=>(by have:=v.r1;have:=HN.o;omega))
  subst hbf;go_wp2_with fail;go_ret;exact ⟨rfl,bw⟩
 by_cases h2:32<n
 ·skip
  have hbf:b=false:=by
   cases b
   ·rfl
   ·exact absurd (HB.o.1 rfl) (fun v=>(by have:=v.r2;have:=HN.o;omega))
  subst hbf;go_wp2_with fail;go_ret;exact ⟨rfl,bw⟩
 by_cases h3:m<1
 ·skip
  have hbf:b=false:=by
   cases b
   ·rfl
   ·exact absurd (HB.o.1 rfl) (fun v=>(by have:=v.c1;have:=HM.o;omega))
  subst hbf;go_wp2_with fail;go_ret;exact ⟨rfl,bw⟩
 by_cases h4:256<m
 ·skip
  have hbf:b=false:=by
   cases b
   ·rfl
   ·exact absurd (HB.o.1 rfl) (fun v=>(by have:=v.c2;have:=HM.o;omega))
  subst hbf;go_wp2_with fail;go_ret;exact ⟨rfl,bw⟩
 by_cases h5:¬k=n
 ·have hb1:((k:Int) != (n:Int))=true:=by simp;omega
  have hbf:b=false:=by
   cases b
   ·rfl
   ·exact absurd (HB.o.1 rfl) (fun v=>(by have:=v.lb;have:=HN.o;have:=HK.o;omega))
  subst hbf;go_wp2_with fail;go_ret;exact ⟨rfl,bw⟩
 replace h5:k=n:=by omega
 subst h5;go_upto_region 5 with fail;have hgl:=pb.lt;have OKC:=ag (HO.o.cost.below bw);have OKB:=ag (HO.o.right.below bw);go_wp2_with (at_builtin;refine aD _ (mk:=Sl.val) (fun _=>rfl) rfl (.tmp 43) (.tmp 45) 23 rfl 22 i1 (.slice none 0 0) 24 underlying23 hi hi0 hi1 hi2 rfl (B:=wm.heap.size) (xs := [p.cost,p.right]) rfl rfl (Gr.lit wm [p.cost,p.right] _ (by simp only [List.map_cons,List.map_nil];rw [<-HM.o,<-HK.o]) (by simp [maxLen]) (Nat.le_refl _)) p.rA _ _ p.rows rfl (HN.o.symm) ((HO.o.rd.below bw rfl).below ((ah _ _).alloc (Nat.le_refl _) _) rfl) (by simp only [maxLen];omega) (by omega) (by simp) ?_;intro A' c' w2 hgA hgrA hbA hatA)
 have bb:Below wm.heap.size wm w2:=(qc wm _).trans hbA;have fd:Hd (∀r ∈ [p.cost,p.right]++p.rows,r.ok w2/\r.vs.length<=1000/\∀v∈r.vs,v.xs.length<=10000/\v.ys.length<=10000):=ag (by
  intro r hr;have k1:=(HO.o.below bw).below bb;have k2:=bt.o;rcases List.mem_append.1 hr with h|h
  ·simp only [List.mem_cons,List.not_mem_nil,or_false] at h;rcases h with rfl|rfl
   ·exact ⟨k1.cost,k2.lc,k2.ec⟩
   ·exact ⟨k1.right,k2.lb,k2.eb⟩
  ·exact ⟨k1.rows r h,k2.la r h,k2.ea r h⟩)
 have Fl:=ag ((HO.o.below bw).below bb);have bq:=ag (pb.below bb);replace bw:=qd bw bb;have aw:=ag bw;have kf:=ag hgA.rd;have cJ:Hd (([p.cost,p.right]++p.rows).length=2+k):=ag (by simp only [List.length_append,List.length_cons,List.length_nil,HN.o])
 have D9:Hd (wsF ([p.cost,p.right]++p.rows)=wlF p.cost.vs+wlF p.right.vs+(p.rows.map (fun r=>wlF r.vs)).sum):=ag (by
  simp only [wsF,List.map_append,List.sum_append,List.map_cons,List.map_nil,List.sum_cons,List.sum_nil];omega)
 have bN:Hd ((∀r ∈ [p.cost,p.right]++p.rows,∀v∈r.vs,v.v)↔((∀v∈p.cost.vs,v.v)/\(∀v∈p.right.vs,v.v)/\∀r∈p.rows,∀v∈r.vs,v.v)):=ag (by
  constructor
  ·intro h;exact ⟨h _ (by simp),h _ (by simp),fun r hr=>h r (by simp [hr])⟩
  ·rintro ⟨h1,h2,h3⟩ r hr;rcases List.mem_append.1 hr with h|h
   ·simp only [List.mem_cons,List.not_mem_nil,or_false] at h;rcases h with rfl|rfl
    ·exact h1
    ·exact h2
   ·exact h3 r h)
 obtain ⟨ls,hls⟩:∃ls,[p.cost,p.right]++p.rows=ls:=⟨_,rfl⟩;rw [hls] at fd kf cJ D9 bN;clear hls hgA hgrA hbA hatA bb pb bw OKC OKB c0 c1 c2 hi hi0 hi1 hi2 hgl;go_loopw [5,48] (fun sv iv wr=>∃j:Nat,j<=2+k/\iv = .int .i64 j/\sv = .int .i64 (wsF (ls.take j):Nat)/\(∀r∈ls.take j,∀v∈r.vs,v.v)/\Below w2.heap.size w2 wr) (fun _ iv _=>2+k-(intOf iv).toNat)
 case atStart=>exact ⟨0,by omega,rfl,rfl,(fun v hv=>by simp at hv),ah _ _⟩
 case round=>
  obtain ⟨j,hj,rfl,rfl,ha,bz⟩:=hrel;have HA:=ag ha;have eS:=ag bz;by_cases hlt:j<2+k
  ·have hjl:j<ls.length:=by rw [cJ.o];exact hlt
   have de:=ag (List.getElem_mem hjl);have hws:wsF (ls.take j)<=(ls.take j).length*8192000:=uj (fun r hr=>by
    have h1:=iM (ha r hr);have h2:=(fd.o r (List.mem_of_mem_take hr)).2.1;omega)
   rw [List.length_take] at hws;have cK:=ag (se hjl);have lL:=ag (List.take_succ_eq_append_getElem hjl);obtain ⟨ad,rfl,_,hc⟩:=(kf.o.below bz rfl) (by omega)
   have hcj:=hc j hjl;obtain ⟨s,hs⟩:∃s,ls[j]=s:=⟨_,rfl⟩;rw [hs] at hcj cK lL de;obtain ⟨N,hN⟩:∃N,wsF (ls.take j)=N:=⟨_,rfl⟩;rw [hN] at hws cK|-;obtain ⟨ok,l1,l2⟩:=fd.o s de.o;have bK:=ag (sB wr s (ok.below bz) l1 l2);clear hc hs hN ok l2 ha bz;go_wp2_with fail;refine bK.o.mono ?_;rintro e w5 ⟨n5,b5,rfl,hr5,bb⟩;have Ea:=ag hr5;rcases hr5 with ⟨k1,k2,rfl⟩|⟨k1,k2,rfl⟩
   ·have h5:=iM k1;have Fm:=ag k1;have Fn:=ag k2;have hn5:n5<=8192000:=by omega
    clear k1 k2 h5 Ea hcj;go_wp2_with fail;go_roundw
    case rel=>exact ⟨j+1,by omega,by go_num,by rw [cK.o,<-Fn.o];go_num,(fun r hr=>by
     rw [lL.o] at hr;rcases List.mem_append.1 hr with h|h
     ·exact HA.o r h
     ·obtain rfl:r=s:=by simpa using h
      exact Fm.o),eS.o.trans (bb.mono eS.o.size)⟩
    case measure=>simp [intOf];omega
   ·have hbf:b=false:=by
     cases b
     ·rfl
     ·exact absurd (bN.o.2 ⟨(HB.o.1 rfl).vc,(HB.o.1 rfl).vb,(HB.o.1 rfl).va⟩ s de.o) k1
    subst hbf;clear k1 k2 Ea hcj;go_wp2_with fail;go_ret;exact ⟨rfl,ai aw.o (eS.o.trans (bb.mono eS.o.size)) aw.o.size⟩
  ·obtain rfl:j=2+k:=by omega
   have nj:Hd (∀r∈ls,∀v∈r.vs,v.v):=ag (by rw [List.take_of_length_le (by rw [cJ.o];exact Nat.le_refl _)] at ha;exact ha)
   rw [List.take_of_length_le (by rw [cJ.o];exact Nat.le_refl _)]
   obtain ⟨N,hN⟩:∃N,wsF ls=N:=⟨_,rfl⟩;have Fo:=ag hN;rw [hN];obtain ⟨rA,hrA⟩:∃x,p.rA=x:=⟨_,rfl⟩;have lP:Hd (Rd Sl.val w2 rA p.rows):=ag (by rw [<-hrA];exact Fl.o.rd)
   have c1:wr.cell? ⟨g1,1,none⟩=some (.slice rA k p.rc):=by rw [<-HN.o,<-hrA];exact (bq.o.below bz).c1
   clear hrA;clear ha bz HA hN;go_wp2_with fail;clear c1;go_loopw [66] (fun iv wr=>∃j:Nat,j<=k/\iv = .int .i64 j/\(∀r∈p.rows.take j,r.vs.length=m)/\Below w2.heap.size w2 wr) (fun iv _=>k-(intOf iv).toNat)
   case atStart=>exact ⟨0,by omega,rfl,(fun v hv=>by simp at hv),eS.o⟩
   case round=>
    clear eS;obtain ⟨j,hj,rfl,ha,bz⟩:=hrel;have HA:=ag ha;have eS:=ag bz;by_cases hlt:j<k
    ·have hjl:j<p.rows.length:=by rw [HN.o];exact hlt
     have lL:=ag (List.take_succ_eq_append_getElem hjl);have de:=ag (List.getElem_mem hjl);obtain ⟨ad,rfl,_,hc⟩:=(lP.o.below bz rfl) (by omega)
     have hcj:=hc j hjl;obtain ⟨s,hs⟩:∃s,p.rows[j]=s:=⟨_,rfl⟩;rw [hs] at hcj lL de;have hl1:=(bt.o.la s de.o);obtain ⟨L,hL⟩:∃L,s.vs.length=L:=⟨_,rfl⟩;have hcj2:wr.cell? (ad.add j)=some (.slice s.A L s.c):=by rw [<-hL];exact hcj
     rw [hL] at hl1;have HL:=ag hL;clear hc hs ha bz hcj hL;by_cases h7:L=m
     ·subst h7;go_wp2_with fail;go_roundw
      case rel=>exact ⟨j+1,by omega,by go_num,(fun r hr=>by
       rw [lL.o] at hr;rcases List.mem_append.1 hr with h|h
       ·exact HA.o r h
       ·obtain rfl:r=s:=by simpa using h
        exact HL.o),eS.o⟩
      case measure=>simp [intOf];omega
     ·have hbf:b=false:=by
       cases b
       ·rfl
       ·exact absurd ((HB.o.1 rfl).la s de.o) (by rw [HL.o,HM.o];exact h7)
      subst hbf;have hb1:((L:Int) != (m:Int))=true:=by simp;omega
      go_wp2_with fail;go_ret;exact ⟨rfl,qd aw.o eS.o⟩
    ·obtain rfl:j=k:=by omega
     rw [List.take_of_length_le (by rw [HN.o];exact Nat.le_refl _)] at ha
     have hbe:b=decide (N<=900):=by
      rw [Bool.eq_iff_iff,HB.o,decide_eq_true_iff];have e:=D9.o;rw [Fo.o] at e;have hv:=bN.o.1 nj.o;exact ⟨fun v=>by have:=v.wt;omega,fun h=>⟨by have:=HN.o;omega,by have:=HN.o;omega,by have:=HM.o;omega,by have:=HM.o;omega,by rw [HK.o,HN.o],(fun r hr=>by rw [HM.o];exact ha r hr),hv.1,hv.2.1,hv.2.2,by omega⟩⟩
     have B6:=ag hbe;clear ha bz HA hbe;go_wp2_with fail;go_ret;exact ⟨by rw [B6.o];exact dz (decide_eq_decide.2 (by omega)),qd aw.o eS.o⟩
theorem Bm {x:Fx} (h:x.v):(if nv x.xs=0 then 0 else if x.b then -1 else 1:Int)=bA x.q 0:=by
 have e:(0:Rat)=qv false 0 1:=by rw [qv];rfl
 rw [Fx.q,e,mM h.1 (by omega)]
 by_cases h0:nv x.xs=0
 ·rw [if_pos h0];simp [h0,i6]
 ·rw [if_neg h0];have hp:0<nv x.xs:=Nat.pos_of_ne_zero h0;cases x.b <;> simp [h0,i6,hp]
structure Fd {α : Type} (mk : α -> Value) (e:TypeId) (w:World) (B G o:Nat) (A:Option Addr) (c:Nat) (xs:List α):Prop where
 cell:w.cell? ⟨G,o,none⟩=some (.slice A xs.length c)
 fz:w.frozen? ⟨G,o,none⟩=false
 gr:Gr mk e w B A c xs
 nl:NLr w A
 ne:∀a,A.map (·.block)=some a->a≠G
section
variable {α : Type} {mk : α -> Value} {e:TypeId} {w w' w2:World} {B G o c c':Nat} {A A':Option Addr} {xs:List α} {S:Nat->Prop}
theorem Fd.kp (h:Fd mk e w B G o A c xs) (k:Kp S w w') (hl:G<w.heap.size) (hG:¬S G) (hA:∀a,A.map (·.block)=some a->¬S a):Fd mk e w' B G o A c xs:=
 ⟨(k.cell (p:=⟨G,o,none⟩) hl hG).trans h.cell,(k.frozen (p:=⟨G,o,none⟩) hl hG).trans h.fz,k.gr h.gr (fun ad e=>hA _ (by rw [e];rfl)),(fun a ha=>by
   obtain ⟨cur,t,e1,hn⟩:=h.nl a ha;exact ⟨cur,t,(k.block _ (Array.getElem?_eq_some_iff.1 e1).1 (hA a ha)).trans e1,hn⟩),h.ne⟩
theorem Fd.push (h:Fd mk e w B G o A c xs) (hl:G<w.heap.size) {x : α} (gr:Gr mk e w2 B A' c' (xs ++ [x])) (nl:NLr w2 A') (k:Kp (fun a=>A.map (·.block)=some a) w w2) (hat:A'.map (·.block)=A.map (·.block)\/A'.map (·.block)=some w.heap.size) :
 Fd mk e (w2.setCell ⟨G,o,none⟩ (.slice A' (xs.length+1) c')) B G o A' c' (xs ++ [x]):=by
 have hG:¬A.map (·.block)=some G:=fun e=>h.ne G e rfl;have hc:=(k.cell (p:=⟨G,o,none⟩) hl hG).trans h.cell;have hf:=(k.frozen (p:=⟨G,o,none⟩) hl hG).trans h.fz;have hne:∀a,A'.map (·.block)=some a->a≠G:=fun a ha e=>by
  rcases hat with h1|h1
  ·rw [h1] at ha;exact h.ne a ha e
  ·rw [h1] at ha;injection ha with ha;omega
 refine ⟨by simp [go_sem,hc],by simp [go_sem,hf],gr.far (p:=⟨G,o,none⟩) (fun ad e=>hne _ (by rw [e];rfl)) _,fun a ha=>(nl a ha).far (hne a ha),hne⟩
end
structure Bg (w:World) (B G N n:Nat) (gs:List Nat) (bs:List Int) (ts:List Bool) (T:Nat->Nat->Rat) (A1:Option Addr) (c1:Nat) (A2:Option Addr) (c2:Nat) (A3:Option Addr) (c3:Nat):Prop where
 F1:Fd (oS N) 22 w B G 0 A1 c1 gs
 F2:Fd iv 3 w B G 1 A2 c2 bs
 F3:Fd Value.bool 4 w B G 3 A3 c3 ts
 cn:w.cell? ⟨G,2,none⟩=some (.int .i64 (n:Int))
 mx:Mx w B gs N T
 gl:G<w.heap.size
 gB:B<=G
 nG:NL w G
 sG:¬G∈gs
 s1:∀a,A1.map (·.block)=some a->A2.map (·.block)≠some a/\A3.map (·.block)≠some a/\¬a∈gs
 s2:∀a,A2.map (·.block)=some a->A3.map (·.block)≠some a/\¬a∈gs
 s3:∀a,A3.map (·.block)=some a->¬a∈gs
structure Bf (G:Nat) (gs:List Nat) (A1 A2 A3:Option Addr) (g:Nat):Prop where
 a:g≠G
 b:A1.map (·.block)≠some g
 c:A2.map (·.block)≠some g
 d:A3.map (·.block)≠some g
 e:¬g∈gs
section
variable {w w' w2:World} {B G N n g c1 c2 c3 c':Nat} {gs:List Nat} {bs:List Int} {ts:List Bool} {T T':Nat->Nat->Rat} {A1 A2 A3 A':Option Addr} {S:Nat->Prop}
theorem Bg.kp (h:Bg w B G N n gs bs ts T A1 c1 A2 c2 A3 c3) (k:Kp S w w') (nl:∀g,S g->NL w g) (hd:∀g,S g->Bf G gs A1 A2 A3 g):Bg w' B G N n gs bs ts T A1 c1 A2 c2 A3 c3:=by
 have hG:¬S G:=fun hs=>(hd G hs).a rfl;obtain ⟨cur,t,e1,hn⟩:=h.nG;exact ⟨h.F1.kp k h.gl hG (fun a ha hs=>(hd a hs).b ha),h.F2.kp k h.gl hG (fun a ha hs=>(hd a hs).c ha),h.F3.kp k h.gl hG (fun a ha hs=>(hd a hs).d ha),(k.cell (p:=⟨G,2,none⟩) h.gl hG).trans h.cn,
  h.mx.kp k nl (fun g hg hs=>(hd g hs).e hg),Nat.lt_of_lt_of_le h.gl k.size,h.gB,⟨cur,t,(k.block _ (Array.getElem?_eq_some_iff.1 e1).1 hG).trans e1,hn⟩,h.sG,h.s1,h.s2,h.s3⟩
theorem Bg.below (h:Bg w B G N n gs bs ts T A1 c1 A2 c2 A3 c3) (hb:Below w.heap.size w w'):Bg w' B G N n gs bs ts T A1 c1 A2 c2 A3 c3:=
 h.kp (fo (fun _=>False) hb) (fun _ h=>h.elim) (fun _ h=>h.elim)
theorem Fd.lt {α : Type} {mk : α -> Value} {e:TypeId} {o c:Nat} {A:Option Addr} {xs:List α} (h:Fd mk e w B G o A c xs) {a:Nat} (ha:A.map (·.block)=some a):B<=a/\a<w.heap.size:=by
 cases A with
 | none=>cases ha
 | some ad=>injection ha with ha;subst ha;exact h.gr.form.2.2 ad rfl
theorem Bg.free (h:Bg w B G N n gs bs ts T A1 c1 A2 c2 A3 c3) (hg:w.heap.size<=g):Bf G gs A1 A2 A3 g:=
 ⟨by have:=h.gl;omega,fun e=>by have:=h.F1.lt e;omega,fun e=>by have:=h.F2.lt e;omega,fun e=>by have:=h.F3.lt e;omega,fun e=>by have:=h.mx.lt e;omega⟩
theorem Bg.row (h:Bg w B G N n gs bs ts T A1 c1 A2 c2 A3 c3) {vs:List Fx} (hq:Qr w B (some ⟨g,0,none⟩) vs) (hv:vs.length=N) (hr:∀k (hk:k<vs.length),Rp vs[k] (T' gs.length k)) (hT:∀i,i<gs.length->∀k,k<N->T i k=T' i k) (hf:Bf G gs A1 A2 A3 g)
 (gr:Gr (oS N) 22 w2 B A' c' (gs ++ [g])) (nl:NLr w2 A') (k:Kp (fun a=>A1.map (·.block)=some a) w w2) (hat:A'.map (·.block)=A1.map (·.block)\/A'.map (·.block)=some w.heap.size) :
 Bg (w2.setCell ⟨G,0,none⟩ (.slice A' (gs.length+1) c')) B G N n (gs ++ [g]) bs ts T' A' c' A2 c2 A3 c3:=by
 have f1:=h.F1.push h.gl gr nl k hat;have hG:¬A1.map (·.block)=some G:=fun e=>h.F1.ne G e rfl;have kG:Kp (fun a=>a=G) w2 (w2.setCell ⟨G,0,none⟩ (.slice A' (gs.length+1) c')):=(Kp.refl (fun a=>a=G) w2).set (S:=fun a=>a=G) rfl _ _;have gl2:G<w2.heap.size:=Nat.lt_of_lt_of_le h.gl k.size;obtain ⟨cur,t,e1,hn⟩:=h.nG;have nG2:NL w2 G:=⟨cur,t,(k.block _ (Array.getElem?_eq_some_iff.1 e1).1 hG).trans e1,hn⟩;have cellG:∀o,o≠0->∀u,w.cell? ⟨G,o,none⟩=some u->(w2.setCell ⟨G,0,none⟩ (.slice A' (gs.length+1) c')).cell? ⟨G,o,none⟩=some u:=fun o ho u hu=>by
  have:=(k.cell (p:=⟨G,o,none⟩) h.gl hG).trans hu;simp [go_sem,this]
 have frG:∀o,w.frozen? ⟨G,o,none⟩=false->(w2.setCell ⟨G,0,none⟩ (.slice A' (gs.length+1) c')).frozen? ⟨G,o,none⟩=false:=fun o hu=>by
  have:=(k.frozen (p:=⟨G,o,none⟩) h.gl hG).trans hu;simp [go_sem,this]
 have nl1:∀a,A1.map (·.block)=some a->NL w a:=h.F1.nl;have hat':∀a,A'.map (·.block)=some a->A2.map (·.block)≠some a/\A3.map (·.block)≠some a/\¬a∈gs ++ [g]:=fun a ha=>by
  rcases hat with h1|h1
  ·rw [h1] at ha;obtain ⟨k1,k2,k3⟩:=h.s1 a ha;refine ⟨k1,k2,fun hm=>?_⟩;rcases List.mem_append.1 hm with hm|hm
   ·exact k3 hm
   ·obtain rfl:a=g:=by simpa using hm
    exact hf.b ha
  ·rw [h1] at ha;injection ha with ha;subst ha;have b:=h.free (Nat.le_refl w.heap.size);refine ⟨b.c,b.d,fun hm=>?_⟩;rcases List.mem_append.1 hm with hm|hm
   ·exact b.e hm
   ·have e:w.heap.size=g:=by simpa using hm
    have:=hq.lt.2;omega
 have mx2:Mx w2 B gs N T:=h.mx.kp k (fun a ha=>nl1 a ha) (fun a hm ha=>(h.s1 a ha).2.2 hm);have q2:Qr w2 B (some ⟨g,0,none⟩) vs:=k.qr hq nl1 (fun ad e=>by injection e with e;subst e;exact hf.b)
 have mx3:=mx2.kp kG (fun a e=>by rw [e];exact nG2) (fun a hm e=>h.sG (e ▸ hm))
 have q3:=kG.qr q2 (fun a e=>by rw [e];exact nG2) (fun ad e=>by injection e with e;subst e;exact hf.a)
 refine ⟨f1,?_,?_,cellG 2 (by omega) _ h.cn,⟨fun i hi=>?_,?_⟩,by simpa [World.setCell] using gl2,h.gB,nG2.set 0 rfl,fun hm=>?_,hat',fun a ha=>?_,fun a ha=>?_⟩
 ·exact ⟨cellG 1 (by omega) _ h.F2.cell,frG 1 h.F2.fz,(k.gr h.F2.gr (fun ad e hh=>(h.s1 _ hh).1 (by rw [e];rfl))).far (p:=⟨G,0,none⟩) (fun ad e=>h.F2.ne _ (by rw [e];rfl)) _,fun a ha=>(show NL w2 a from by
   obtain ⟨cur,t,e1,hn⟩:=h.F2.nl a ha;exact ⟨cur,t,(k.block _ (Array.getElem?_eq_some_iff.1 e1).1 (fun hh=>(h.s1 a hh).1 ha)).trans e1,hn⟩).far (h.F2.ne a ha),h.F2.ne⟩
 ·exact ⟨cellG 3 (by omega) _ h.F3.cell,frG 3 h.F3.fz,(k.gr h.F3.gr (fun ad e hh=>(h.s1 _ hh).2.1 (by rw [e];rfl))).far (p:=⟨G,0,none⟩) (fun ad e=>h.F3.ne _ (by rw [e];rfl)) _,fun a ha=>(show NL w2 a from by
   obtain ⟨cur,t,e1,hn⟩:=h.F3.nl a ha;exact ⟨cur,t,(k.block _ (Array.getElem?_eq_some_iff.1 e1).1 (fun hh=>(h.s1 a hh).2.1 ha)).trans e1,hn⟩).far (h.F3.ne a ha),h.F3.ne⟩
 ·rw [List.length_append,List.length_singleton] at hi;rcases Nat.lt_or_ge i gs.length with h1|h1
  ·rw [List.getElem_append_left h1];obtain ⟨vs',a,b,c⟩:=mx3.row i h1;exact ⟨vs',a,b,fun k hk=>by rw [<-hT i h1 k (by omega)];exact c k hk⟩
  ·obtain rfl:i=gs.length:=by omega
   rw [List.getElem_append_right (Nat.le_refl _)];simp only [Nat.sub_self,List.getElem_cons_zero];exact ⟨vs,q3,hv,hr⟩
 ·rw [List.nodup_append];refine ⟨h.mx.nd,by simp,fun a ha b hb e=>hf.e ?_⟩
  have hbg:b=g:=by simpa using hb
  rw [<-hbg,<-e];exact ha
 ·rcases List.mem_append.1 hm with hm|hm
  ·exact h.sG hm
  ·have e:G=g:=by simpa using hm
   exact hf.a e.symm
 ·refine ⟨(h.s2 a ha).1,fun hm=>?_⟩;rcases List.mem_append.1 hm with hm|hm
  ·exact (h.s2 a ha).2 hm
  ·obtain rfl:a=g:=by simpa using hm
   exact hf.c ha
 ·intro hm;rcases List.mem_append.1 hm with hm|hm
  ·exact h.s3 a ha hm
  ·obtain rfl:a=g:=by simpa using hm
   exact hf.d ha
theorem Bg.bas (h:Bg w B G N n gs bs ts T A1 c1 A2 c2 A3 c3) {z:Int} (gr:Gr iv 3 w2 B A' c' (bs ++ [z])) (nl:NLr w2 A') (k:Kp (fun a=>A2.map (·.block)=some a) w w2) (hat:A'.map (·.block)=A2.map (·.block)\/A'.map (·.block)=some w.heap.size) :
 Bg (w2.setCell ⟨G,1,none⟩ (.slice A' (bs.length+1) c')) B G N n gs (bs ++ [z]) ts T A1 c1 A' c' A3 c3:=by
 have f2:=h.F2.push h.gl gr nl k hat;have hG:¬A2.map (·.block)=some G:=fun e=>h.F2.ne G e rfl;have kG:Kp (fun a=>a=G) w2 (w2.setCell ⟨G,1,none⟩ (.slice A' (bs.length+1) c')):=(Kp.refl (fun a=>a=G) w2).set (S:=fun a=>a=G) rfl _ _;have gl2:G<w2.heap.size:=Nat.lt_of_lt_of_le h.gl k.size;obtain ⟨cur,t,e1,hn⟩:=h.nG;have nG2:NL w2 G:=⟨cur,t,(k.block _ (Array.getElem?_eq_some_iff.1 e1).1 hG).trans e1,hn⟩;have cellG:∀o,o≠1->∀u,w.cell? ⟨G,o,none⟩=some u->(w2.setCell ⟨G,1,none⟩ (.slice A' (bs.length+1) c')).cell? ⟨G,o,none⟩=some u:=fun o ho u hu=>by
  have:=(k.cell (p:=⟨G,o,none⟩) h.gl hG).trans hu;simp [go_sem,this]
 have frG:∀o,w.frozen? ⟨G,o,none⟩=false->(w2.setCell ⟨G,1,none⟩ (.slice A' (bs.length+1) c')).frozen? ⟨G,o,none⟩=false:=fun o hu=>by
  have:=(k.frozen (p:=⟨G,o,none⟩) h.gl hG).trans hu;simp [go_sem,this]
 have nl2:∀a,A2.map (·.block)=some a->NL w a:=h.F2.nl;have mx2:Mx w2 B gs N T:=h.mx.kp k (fun a ha=>nl2 a ha) (fun a hm ha=>(h.s2 a ha).2 hm);have mx3:=mx2.kp kG (fun a e=>by rw [e];exact nG2) (fun a hm e=>h.sG (e ▸ hm))
 have fr:=h.free (Nat.le_refl w.heap.size);refine ⟨?_,f2,?_,cellG 2 (by omega) _ h.cn,mx3,by simpa [World.setCell] using gl2,h.gB,nG2.set 1 rfl,h.sG,fun a ha=>?_,fun a ha=>?_,h.s3⟩
 ·exact ⟨cellG 0 (by omega) _ h.F1.cell,frG 0 h.F1.fz,(k.gr h.F1.gr (fun ad e hh=>(h.s1 _ (by rw [e];rfl)).1 hh)).far (p:=⟨G,1,none⟩) (fun ad e=>h.F1.ne _ (by rw [e];rfl)) _,fun a ha=>(show NL w2 a from by
   obtain ⟨cur,t,e1,hn⟩:=h.F1.nl a ha;exact ⟨cur,t,(k.block _ (Array.getElem?_eq_some_iff.1 e1).1 (fun hh=>(h.s1 a ha).1 hh)).trans e1,hn⟩).far (h.F1.ne a ha),h.F1.ne⟩
 ·exact ⟨cellG 3 (by omega) _ h.F3.cell,frG 3 h.F3.fz,(k.gr h.F3.gr (fun ad e hh=>(h.s2 _ hh).1 (by rw [e];rfl))).far (p:=⟨G,1,none⟩) (fun ad e=>h.F3.ne _ (by rw [e];rfl)) _,fun a ha=>(show NL w2 a from by
   obtain ⟨cur,t,e1,hn⟩:=h.F3.nl a ha;exact ⟨cur,t,(k.block _ (Array.getElem?_eq_some_iff.1 e1).1 (fun hh=>(h.s2 a hh).1 ha)).trans e1,hn⟩).far (h.F3.ne a ha),h.F3.ne⟩
 ·refine ⟨fun e=>?_,(h.s1 a ha).2⟩;rcases hat with h1|h1
  ·rw [h1] at e;exact (h.s1 a ha).1 e
  ·rw [h1] at e;injection e with e;have:=h.F1.lt ha;omega
 ·rcases hat with h1|h1
  ·rw [h1] at ha;exact h.s2 a ha
  ·rw [h1] at ha;injection ha with ha;subst ha;exact ⟨fr.d,fr.e⟩
theorem Bg.trn (h:Bg w B G N n gs bs ts T A1 c1 A2 c2 A3 c3) {z:Bool} (gr:Gr Value.bool 4 w2 B A' c' (ts ++ [z])) (nl:NLr w2 A') (k:Kp (fun a=>A3.map (·.block)=some a) w w2) (hat:A'.map (·.block)=A3.map (·.block)\/A'.map (·.block)=some w.heap.size) :
 Bg (w2.setCell ⟨G,3,none⟩ (.slice A' (ts.length+1) c')) B G N n gs bs (ts ++ [z]) T A1 c1 A2 c2 A' c':=by
 have f3:=h.F3.push h.gl gr nl k hat;have hG:¬A3.map (·.block)=some G:=fun e=>h.F3.ne G e rfl;have kG:Kp (fun a=>a=G) w2 (w2.setCell ⟨G,3,none⟩ (.slice A' (ts.length+1) c')):=(Kp.refl (fun a=>a=G) w2).set (S:=fun a=>a=G) rfl _ _;have gl2:G<w2.heap.size:=Nat.lt_of_lt_of_le h.gl k.size;obtain ⟨cur,t,e1,hn⟩:=h.nG;have nG2:NL w2 G:=⟨cur,t,(k.block _ (Array.getElem?_eq_some_iff.1 e1).1 hG).trans e1,hn⟩;have cellG:∀o,o≠3->∀u,w.cell? ⟨G,o,none⟩=some u->(w2.setCell ⟨G,3,none⟩ (.slice A' (ts.length+1) c')).cell? ⟨G,o,none⟩=some u:=fun o ho u hu=>by
  have:=(k.cell (p:=⟨G,o,none⟩) h.gl hG).trans hu;simp [go_sem,this]
 have frG:∀o,w.frozen? ⟨G,o,none⟩=false->(w2.setCell ⟨G,3,none⟩ (.slice A' (ts.length+1) c')).frozen? ⟨G,o,none⟩=false:=fun o hu=>by
  have:=(k.frozen (p:=⟨G,o,none⟩) h.gl hG).trans hu;simp [go_sem,this]
 have nl3:∀a,A3.map (·.block)=some a->NL w a:=h.F3.nl;have mx2:Mx w2 B gs N T:=h.mx.kp k (fun a ha=>nl3 a ha) (fun a hm ha=>h.s3 a ha hm);have mx3:=mx2.kp kG (fun a e=>by rw [e];exact nG2) (fun a hm e=>h.sG (e ▸ hm))
 have fr:=h.free (Nat.le_refl w.heap.size);refine ⟨?_,?_,f3,cellG 2 (by omega) _ h.cn,mx3,by simpa [World.setCell] using gl2,h.gB,nG2.set 3 rfl,h.sG,fun a ha=>?_,fun a ha=>?_,fun a ha=>?_⟩
 ·exact ⟨cellG 0 (by omega) _ h.F1.cell,frG 0 h.F1.fz,(k.gr h.F1.gr (fun ad e hh=>(h.s1 _ (by rw [e];rfl)).2.1 hh)).far (p:=⟨G,3,none⟩) (fun ad e=>h.F1.ne _ (by rw [e];rfl)) _,fun a ha=>(show NL w2 a from by
   obtain ⟨cur,t,e1,hn⟩:=h.F1.nl a ha;exact ⟨cur,t,(k.block _ (Array.getElem?_eq_some_iff.1 e1).1 (fun hh=>(h.s1 a ha).2.1 hh)).trans e1,hn⟩).far (h.F1.ne a ha),h.F1.ne⟩
 ·exact ⟨cellG 1 (by omega) _ h.F2.cell,frG 1 h.F2.fz,(k.gr h.F2.gr (fun ad e hh=>(h.s2 _ (by rw [e];rfl)).1 hh)).far (p:=⟨G,3,none⟩) (fun ad e=>h.F2.ne _ (by rw [e];rfl)) _,fun a ha=>(show NL w2 a from by
   obtain ⟨cur,t,e1,hn⟩:=h.F2.nl a ha;exact ⟨cur,t,(k.block _ (Array.getElem?_eq_some_iff.1 e1).1 (fun hh=>(h.s2 a ha).1 hh)).trans e1,hn⟩).far (h.F2.ne a ha),h.F2.ne⟩
 ·refine ⟨(h.s1 a ha).1,fun e=>?_,(h.s1 a ha).2.2⟩;rcases hat with h1|h1
  ·rw [h1] at e;exact (h.s1 a ha).2.1 e
  ·rw [h1] at e;injection e with e;have:=h.F1.lt ha;omega
 ·refine ⟨fun e=>?_,(h.s2 a ha).2⟩;rcases hat with h1|h1
  ·rw [h1] at e;exact (h.s2 a ha).1 e
  ·rw [h1] at e;injection e with e;have:=h.F2.lt ha;omega
 ·rcases hat with h1|h1
  ·rw [h1] at ha;exact h.s3 a ha
  ·rw [h1] at ha;injection ha with ha;subst ha;exact fr.e
end
structure Rw (w:World) (B g N:Nat) (vs:List Fx) (f:Nat->Rat):Prop where
 fr:Fr w B (some ⟨g,0,none⟩) N vs
 nl:NL w g
 ok:∀v∈vs,v.ok w
 rp:∀k (h:k<vs.length),Rp vs[k] (f k)
section
variable {w w':World} {B g N:Nat} {vs:List Fx} {f:Nat->Rat}
theorem Rw.below (h:Rw w B g N vs f) (hb:Below w.heap.size w w'):Rw w' B g N vs f:=⟨h.fr.below hb,h.nl.below hb,fun v hv=>(h.ok v hv).below hb,h.rp⟩
theorem Rw.push (h:Rw w B g N vs f) {x:Fx} (fr:Fr w' B (some ⟨g,0,none⟩) N (vs ++ [x])) (nl:NL w' g) (k:Kp (fun a=>a=g) w w') (hx:El w x (f vs.length)):Rw w' B g N (vs ++ [x]) f:=by
 refine ⟨fr,nl,fun v hv=>?_,fun i hi=>?_⟩
 ·have e:∀a,a=g->NL w a:=fun a e=>by rw [e];exact h.nl
  rcases List.mem_append.1 hv with h1|h1
  ·exact k.ok (h.ok v h1) e
  ·obtain rfl:v=x:=by simpa using h1
   exact k.ok hx.ok e
 ·rw [List.length_append,List.length_singleton] at hi;rcases Nat.lt_or_ge i vs.length with h1|h1
  ·rw [List.getElem_append_left h1];exact h.rp i h1
  ·obtain rfl:i=vs.length:=by omega
   rw [List.getElem_append_right (Nat.le_refl _)];simp only [Nat.sub_self,List.getElem_cons_zero];exact hx.rp
theorem Rw.take (h:Rw w B g N vs f) (k:Nat) (hk:k<=vs.length):Rw w B g N (vs.take k) f:=
 ⟨h.fr.cut k hk,h.nl,fun v hv=>h.ok v (List.mem_of_mem_take hv),fun i hi=>by rw [List.getElem_take];exact h.rp i (by simp at hi;omega)⟩
theorem Rw.qr (h:Rw w B g N vs f) (hN:vs.length=N):Qr w B (some ⟨g,0,none⟩) vs:=⟨by rw [hN];exact h.fr,h.ok⟩
end
end Go.Proofs.YtkpfbekmaafehaaGreat
