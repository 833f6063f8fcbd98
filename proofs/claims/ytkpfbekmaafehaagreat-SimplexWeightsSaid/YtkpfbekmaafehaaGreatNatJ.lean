/- The walk of natural.divide: long division. -/
import Derived.Test.YtkpfbekmaafehaaGreatDivV
import Derived.Deep.CutBlock
import Derived.Deep.DeepCutAuto
import Derived.Deep.LoopGhost
namespace Go.Proofs.YtkpfbekmaafehaaGreat
open _root_.Go.Proofs.Tryz
set_option maxHeartbeats 8000000
set_option maxRecDepth 100000
open Go.RowKit
theorem jU {w:World} {A:Option Addr} {c:Nat} {xs:List Nat} (h:Nt w A c xs):Nt w.drew A c xs:=h.below (ah _ _).drew
theorem iA {B:Nat} {w w':World} (h:Below B w.drew w'):Below B w w':=⟨h.os,h.tape,h.output,h.size,h.block⟩
theorem pK {w w':World} {A:Option Addr} {c:Nat} {xs:List Nat} (h:Nt w A c xs) (hb:Below w.heap.size w.drew w'):Nt w' A c xs:=h.below (iA hb)
theorem tI {w:World} {g c:Nat} {xs:List Nat} (h:Nt w (some ⟨g,0,none⟩) c xs) (k:Nat) (hk:k<xs.length):w.cell? ⟨g,k,none⟩=some (.int .u32 (xs[k]:Int)):=by
 obtain ⟨ad,e,_,hc,_⟩:=h.at k hk;injection e with e;subst e;rw [mN,Nat.zero_add] at hc;exact hc
theorem tG {r:Int} {x:Nat} (h0:0<=r) (hr:r<4294967296) (hx:x<4294967296):bits .or .u64 (r*4294967296) (x:Int)=r*4294967296+x:=by
 obtain ⟨R,rfl⟩:∃R:Nat,r=R:=⟨r.toNat,by omega⟩
 exact iE (by omega) hx
theorem dx {z:Int} (h0:0<=z) (h1:z<18446744073709551616):IntKind.u64.wrap z=z:=by rw [IntKind.wrap_u64];omega
theorem dH {w:World} {A:Option Addr} {c:Nat} {xs:List Nat} (h:Nt w A c xs) {p:Addr} (hp:∀ad,A=some ad->ad.block≠p.block) (u:Value):Nt (w.setCell p u) A c xs:=⟨h.cap,h.max,h.u,h.rd.setCell hp u⟩
theorem sN (w:World) (B g j L cap cc n d:Nat) (fI:Int) (f:Nat) (hfI:fI=f) (hL:L=n+1) (D:Option Addr) (P S T V:List Nat) (hg:Gr lmv 58 w B (some ⟨g,0,none⟩) cap (P++S++T)) (hu:U32 (P++S++T)) (hv:Nt w D d V) (hne:∀ad,D=some ad->ad.block≠g)
 (hP:P.length=j) (hS:S.length=n+1) (hV:V.length=n) (hf:f<4294967296) (hn:n<=1000000) :
 Calls prog 125 #[.slice (some ⟨g,j,none⟩) L cc, .slice D n d, .int .u64 fI] w fun e w'=>∃(S':List Nat) (neg:Nat),e = .returned (.bool (decide (neg=1)))/\neg<=1/\S'.length=n+1/\U32 S' /\
  nv S'+f*nv V=nv S+pw (n+1)*neg/\Gr lmv 58 w' B (some ⟨g,0,none⟩) cap (P++S'++T)/\w.grownBy w' (some g):=by
 subst hL hfI;exact j6 w B g j cap cc n f d D P S T V hg hu hv hne hP hS hV hf hn
theorem uO (w:World) (B g j L cap cc n d:Nat) (hL:L=n+1) (D:Option Addr) (P S T V:List Nat) (hg:Gr lmv 58 w B (some ⟨g,0,none⟩) cap (P++S++T)) (hu:U32 (P++S++T)) (hv:Nt w D d V) (hne:∀ad,D=some ad->ad.block≠g)
 (hP:P.length=j) (hS:S.length=n+1) (hV:V.length=n) (hn:n<=1000000) :
 Calls prog 126 #[.slice (some ⟨g,j,none⟩) L cc, .slice D n d] w fun e w'=>∃S':List Nat,e = .returned (.tuple #[])/\S'.length=n+1/\U32 S' /\
  (∃k,nv S'+pw (n+1)*k=nv S+nv V)/\Gr lmv 58 w' B (some ⟨g,0,none⟩) cap (P++S'++T)/\w.grownBy w' (some g):=by
 subst hL;exact te w B g j cap cc n d D P S T V hg hu hv hne hP hS hV hn
def oB (x s:Nat):Prop:=s<32/\x*2^s<4294967296
theorem oB.step {x s:Nat} (h:oB x s) (hx:0<x) (hlt:x*2^s<2147483648):oB x (s+1):=by
 obtain ⟨h1,h2⟩:=h;refine ⟨?_,by rw [Nat.pow_succ,<-Nat.mul_assoc];omega⟩
 have h3:2^s<=x*2^s:=Nat.le_mul_of_pos_left _ hx;rcases Nat.lt_or_ge s 31 with h4|h4
 ·omega
 ·obtain rfl:s=31:=by omega
  simp at h3;omega
theorem sf {x s:Nat} (h:x*2^s<4294967296):IntKind.u32.wrap ((x:Int)*2^s)=(x:Int)*2^s:=by
 have e1:(((x*2^s:Nat)):Int)=(x:Int)*2^s:=(dL x s).symm;rw [<-e1,IntKind.wrap_u32];omega
theorem jg (x s:Nat):((x:Int)/2^s % 4294967296)=((x/2^s % 4294967296:Nat):Int):=by
 rw [Int.natCast_emod,Int.natCast_ediv,Int.natCast_pow];rfl
theorem pR {xs:List Nat} (h:∀t (ht:t<xs.length),xs[t]<4294967296):U32 xs:=fun x hx=>by
 obtain ⟨t,ht,rfl⟩:=List.getElem_of_mem hx;exact h t ht
theorem qz {w:World} {A:Option Addr} {c n l:Nat} {xs:List Nat} (h:Nt w A c xs) (hn:n=xs.length) (hl:(lim (nv xs)).length=l) {q:Nat} :
 Calls prog 105 #[.slice A n c] (w.drewN q) fun e w''=>e = .returned (.int .i64 (l:Int))/\∃m,w''=w.drewN m:=by
 subst hn hl;exact fA h
theorem CA (w:World) (G:Nat) (A:Option Addr) (c n s N:Nat) (xs:List Nat) (h:Nt w A c xs) (hn:xs.length=n) (hN:nv xs=N) (hG:w.heap.size=G) (hs:s<32) (hl:n<=1000000) :
 Calls prog 124 #[.slice A n c, .int .u64 (s:Int)] w fun e w'=>∃O:List Nat,e = .returned (.slice (some ⟨G,0,none⟩) (n+1) (n+1))/\O.length=n+1/\nv O=N*2^s/\U32 O /\
  Gr lmv 58 w' G (some ⟨G,0,none⟩) (n+1) O/\Below G w w'/\G<w'.heap.size:=by
 subst hn hN hG;refine (CU w A c xs.length s xs h rfl hs hl).mono ?_;rintro e w' ⟨O,rfl,l1,v1,u1,g1,b1⟩;exact ⟨O,rfl,l1,v1,u1,g1,b1,(g1.form.2.2 _ rfl).2⟩
theorem tS (w:World) (A D:Option Addr) (c d M N n m:Nat) (X:List Nat) (h:Nt w A c (lim M)) (k:Nt w D d X) (hm:(lim M).length=m) (hl:m<=1000) (hn:X.length=n+2) (hX:nv X=N) (hx0:∀hk:n+1<X.length,0<X[n+1]) (hge:N<=M) :
 Calls prog 120 #[.slice A m c, .slice D (n+2) d] w (jK w (M/N) (M % N)):=by
 obtain ⟨z,hz0,hz⟩:∃z:Int,0<=z/\i6 M N=z:=⟨_,by unfold i6;rw [if_neg (by omega)];split <;> omega,rfl⟩
 have hc:=fY w A D c d m (n+2) (lim M) X z h k hm.symm hn.symm (by rw [am,hX];exact hz)
 have HC:=ag hc;have hlen:n+2<=m:=by
  have h1:=ao hge;rw [<-hX,zK k.u (fun j hj=>by
   obtain rfl:j=n+1:=by omega
   have:=hx0 (by omega)
   omega)] at h1
  omega
 have HM:=ag hm;have HX:=ag hX;have htl:=k.u.at (n+1) (by omega)
 have HNp:Hd (0<N/\N<pw (n+2)):=by
  have h1:=jT X k.u (n+1) hn (by omega)
  have h2:=fk k.u;rw [hX] at h1 h2;rw [hn] at h2;have h3:=Nat.mul_le_mul_right (pw (n+1)) (hx0 (by omega))
  have h4:=gE (n+1);exact ag ⟨by omega,h2⟩
 have hx0:0<X[n+1]'(by omega):=hx0 (by omega)
 have hn1:(((n:Int)+2) == 1)=false:=beq_eq_false_iff_ne.2 (by omega)
 have hn2:n+2<=1000:=by omega
 clear hc hz hm hX;go_enter func120,ntmps120;go_wp2_with fail;refine HC.o.mono ?_;rintro e w1 ⟨rfl,q⟩;have h1:=h.below q.keep;have k1:=k.below q.keep;obtain ⟨ad,rfl,hb,hcx,_⟩:=k1.at (n+1) (by omega)
 obtain ⟨x,hx⟩:∃x,x=X[n+1]'(by omega):=⟨_,rfl⟩
 rw [<-hx] at hcx htl hx0;have hcx1:w1.cell? ⟨ad.block,ad.off+(n+1),none⟩=some (.int .u32 (x:Int)):=by
  have e:ad.add (n+1)=⟨ad.block,ad.off+(n+1),none⟩:=by unfold Addr.add;rw [if_neg (by omega)]
  rw [<-e];exact hcx
 clear hcx;have uk:Hd (x=X[n+1]'(by omega)):=hx
 clear hx h;have fx:=ag hn;have br:=ag htl;go_wp2_with fail
 go_loop [8] (fun sv=>∃s:Nat,sv = .int .u64 s/\oB x s) (fun sv=>32-(intOf sv).toNat)
 case atStart=>exact ⟨0,rfl,by omega,by simpa using br.o⟩
 case round=>
  obtain ⟨s,rfl,hinv⟩:=hrel;have HI:=ag hinv;have hs:s<32:=hinv.1;obtain ⟨y,hy⟩:∃y:Int,y=((x*2^s:Nat):Int):=⟨_,rfl⟩;have hwr:IntKind.u32.wrap ((x:Int)*2^s)=y:=by rw [sf hinv.2,dL,hy]
  have HY:=ag hy;clear hinv htl hy;by_cases hlt:y<2147483648
  ·go_wp2_with fail
   go_round
   case rel=>exact ⟨s+1,by go_num,HI.o.step hx0 (by have:=HY.o;omega)⟩
   case measure=>simp [intOf];omega
  ·have HL:Hd (2147483648<=x*2^s):=ag (by have:=HY.o;omega)
   have hlt0:decide (y<2147483648)=false:=decide_eq_false hlt;clear hlt;go_wp2_with fail;have hm1:m<=1000000:=by omega
   have hn3:n+2<=1000000:=by omega
   go_region_with (first
    | (go_at_call 124
       with_reducible refine (CA _ w1.heap.size A c m s M (lim M) (jU h1) HM.o (am M) rfl hs hm1).mono ?_
       rintro e w2 ⟨O1,rfl,l1,v1,u1,g1,b2,z2⟩)
    | (go_at_call 124
       with_reducible refine (CA _ w2.heap.size (some ad) d (n+2) s N X (pK k1 b2) fx.o HX.o rfl hs hn3).mono ?_
       rintro e w3 ⟨O2,rfl,l2,v2,u2,g2,b3,z3⟩))
   have hMp:M<pw m:=by
    have:=fk (aC M);rw [HM.o,am] at this;exact this
   obtain ⟨a1,a2,a3⟩:=Dv HX.o fx.o k.u (by omega) uk.o hs HI.o.2 HL.o l2 v2 u2
   obtain ⟨K,hK⟩:∃K,m+1=n+2+K:=⟨m-n-1,by omega⟩
   have b13:Below w1.heap.size w1 w3:=ai (iA b2) b3 (by omega)
   obtain ⟨O,hO⟩:∃O,O=O2.take (n+2):=⟨_,rfl⟩;have gV:=(g2.nt u2).take (n+2);rw [<-hO] at a1 a2 gV;have hOl:O.length=n+2:=by rw [hO,List.length_take];omega
   clear hO k1 h1 HX uk fx br HC hcx1 hwr hlt0 g2 HI HL HY l2 v2 u2;have HD:=ag (df.start l1 u1 hK v1 hMp (by rw [a1];exact a3))
   have HV:=ag a1;have HO:=ag hOl;have HMp:=ag hMp;have oa:=ag a2;clear a1 a2 a3 v1 hMp u1 hOl;obtain ⟨i0,hi,hz0,hz1,hz2⟩:=info_parts ch;have hKm:K<=1000:=by omega
   have HK:=ag hK;clear hK;obtain ⟨top,ht⟩:∃t,t=O[n+1]'(by have:=HO.o;omega):=⟨_,rfl⟩
   obtain ⟨nxt,hnx⟩:∃t,t=O[n]'(by have:=HO.o;omega):=⟨_,rfl⟩
   have ht32:top<4294967296:=by rw [ht];exact gV.u.at _ _
   have hn32:nxt<4294967296:=by rw [hnx];exact gV.u.at _ _
   have htop:2147483648<=top:=by rw [ht];exact oa.o _
   have hc1:=tI gV (n+1) (by have:=HO.o;omega)
   have hc0:=tI gV n (by have:=HO.o;omega)
   rw [<-ht] at hc1;rw [<-hnx] at hc0;have hwt:IntKind.u64.wrap (top:Int)=top:=by rw [IntKind.wrap_u64];omega
   have hwn:IntKind.u64.wrap (nxt:Int)=nxt:=by rw [IntKind.wrap_u64];omega
   have HT:=ag ht;have HN:=ag hnx;have wB:=ag ht32;have zP:=ag hn32;have sD:=ag htop;clear ht hnx ht32 hn32 htop oa;have GV:=ag gV;clear gV;have G1:=ag g1;clear g1;go_wp2_with (at_make;refine bp w3 (mk:=lmv) 0 rfl _ _ 27 rfl 58 i0 4 underlying27 hi hz0 hz1 hz2 rfl .i64 .i64 _ _ K rfl rfl (by have:=HK.o;omega) (by have:=HK.o;omega) (by omega) (by simp only [maxLen];omega) ?_;intro w4 hg4 hb4 hs4;have hc1':=(hb4.cell (p:=⟨w2.heap.size,n+1,none⟩) z3).trans hc1;have hc0':=(hb4.cell (p:=⟨w2.heap.size,n,none⟩) z3).trans hc0;clear hc1 hc0)
   go_quiet (fail)
   clear hc1' hc0' hwt hwn;have k1:=(((G1.o.below b3).below hb4).below (aJ (ah w4.heap.size w4) nq));have k2:=hg4.below (aJ (ah w4.heap.size w4) nq);have k3:=(GV.o.below hb4).below (aJ (ah w4.heap.size w4) nq);have k4:=aJ (ai b13 hb4 (Nat.le_of_lt (Nat.lt_trans z2 z3))) nq;have k5:w3.heap.size<(w4.drewN nq).heap.size:=hs4
   revert k1 k2 k3 k4 k5
   generalize w4.drewN nq=w5;intro k1 k2 k3 k4 k5;clear hg4 hb4 hs4;go_wp2_with fail
   go_loopg [15] K (fun jj jv wr=>∃(U Qs:List Nat),jj<=K/\jv = .int .i64 ((jj:Int)-1)/\df (M*2^s) O (n+2) (m+1) jj U Qs/\Gr lmv 58 wr w1.heap.size (some ⟨w1.heap.size,0,none⟩) (m+1) U/\Gr lmv 58 wr w3.heap.size (some ⟨w3.heap.size,0,none⟩) K (List.replicate jj 0++Qs)/\Nt wr (some ⟨w2.heap.size,0,none⟩) (n+2+1) O/\Below w1.heap.size w1 wr/\w3.heap.size<wr.heap.size)
   case atStart=>exact ⟨O1,[],Nat.le_refl _,rfl,HD.o,k1,by simpa using k2,k3,k4,k5⟩
   case round=>
    obtain ⟨U,Qs,hj,rfl,hinv,gU,gQ,gV,hbr,hsz⟩:=hrel;rcases gk with _|j
    ·have hdone:=hinv.done HV.o;have hql:=hinv.ql;have hul:=hinv.len;have mo:=ag hdone.1;have zU:=ag hdone.2.1;have wC:=ag hdone.2.2;have HUu:=ag hinv.u;have gQ2:Gr lmv 58 wr w3.heap.size (some ⟨w3.heap.size,0,none⟩) K Qs:=by simpa using gQ
     have DW:Hd (Qs.length=K):=by have:=HK.o;exact ag (by omega)
     have z7:=ag hul;have hul1:m+1<=U.length:=by omega
     clear hdone hql hul hinv gQ;go_wp2_with (at_make;refine bp wr (mk:=lmv) 0 rfl _ _ 27 rfl 58 i0 4 underlying27 hi hz0 hz1 hz2 rfl .i64 .i64 _ _ (n+2) rfl rfl (by omega) (by omega) (by omega) (by simp only [maxLen];omega) ?_;intro w10 hg10 hb10 hs10)
     obtain ⟨wo,rfl⟩:∃wo:World,wo=wr:=⟨_,rfl⟩;have gU10:=gU.below hb10;have gQ10:=gQ2.below hb10;have b10:=qd hbr hb10;have hz1o:w1.heap.size<wo.heap.size:=(gU.form.2.2 _ rfl).2;clear gU gQ2 gV hb10
     go_loopg [167] (n+2) (fun rk iv wr=>∃(i:Nat) (R:List Nat),rk+i=n+2/\iv = .int .i64 i/\R.length=i/\(∀t (ht:t<R.length),R[t]=M % N/pw t % 4294967296)/\Gr lmv 58 wr w1.heap.size (some ⟨w1.heap.size,0,none⟩) (m+1) U/\Gr lmv 58 wr w3.heap.size (some ⟨w3.heap.size,0,none⟩) K Qs/\Gr lmv 58 wr wo.heap.size (some ⟨wo.heap.size,0,none⟩) (n+2) (R++List.replicate (n+2-i) 0)/\Below w1.heap.size w1 wr/\w3.heap.size<wr.heap.size)
     case atStart=>exact ⟨0,[],by omega,rfl,rfl,fun t ht=>absurd ht (by simp),gU10,gQ10,by simpa using hg10,b10,Nat.lt_of_lt_of_le hsz (Nat.le_of_lt hs10)⟩
     case round=>
      obtain ⟨i,R,hi2,rfl,hR,hRv,gU,gQ,gR,hbr2,hsz2⟩:=hrel;have HR:=ag hR;have HRv:=ag hRv;have HI:=ag hi2;have hi3:i<=n+2:=by omega
      clear hR hRv hi2;by_cases hlt:i<n+2
      ·have hc1:=gU.cell (i+1) (by omega)
       have hc0:=gU.cell i (by omega)
       obtain ⟨u1,hu1⟩:∃t,t=U[i+1]'(by omega):=⟨_,rfl⟩
       obtain ⟨u0,hu0⟩:∃t,t=U[i]'(by omega):=⟨_,rfl⟩
       rw [<-hu1] at hc1;rw [<-hu0] at hc0;have hcr:=gR.cell i (by have:=HR.o;simp;omega)
       rw [List.getElem_append_right (by have:=HR.o;omega)] at hcr
       simp only [List.getElem_replicate] at hcr;have hfr:=gR.free i;have x1:u1<4294967296:=by rw [hu1];exact HUu.o.at _ _
       have x0:u0<4294967296:=by rw [hu0];exact HUu.o.at _ _
       have hw1:IntKind.u64.wrap (u1:Int)=u1:=by rw [IntKind.wrap_u64];omega
       have hw0:IntKind.u64.wrap (u0:Int)=u0:=by rw [IntKind.wrap_u64];omega
       obtain ⟨hd,hhd⟩:∃t,t=u1*4294967296+u0:=⟨_,rfl⟩;have hor:bits .or .u64 ((u1:Int)*4294967296) (u0:Int)=(hd:Int):=by rw [iE x1 x0,iK,hhd]
       have ms:=ag hhd;have E2:=ag hu1;have z8:=ag hu0;have GU:=ag gU;have GQ:=ag gQ;have GR:=ag gR;clear hhd hu1 hu0 gU gQ gR gU10 gQ10 hg10;go_wp2_with fail;go_region;go_wp2_with fail
       go_roundg (n+2-(i+1))
       case measure=>have:=HI.o;omega
       case rel=>
        refine ⟨i+1,R ++ [hd/2^s % 4294967296],by omega,by go_num,by have:=HR.o;simp;omega,?_,(GU.o.far (by intro a e;injection e with e;subst e;simp;omega) _).drew,(GQ.o.far (by intro a e;injection e with e;subst e;simp;omega) _).drew,?_,dd (hbr2.setCell (p:=⟨wo.heap.size,i,none⟩) (by simp;omega) _),by simpa [World.setCell,World.drew] using hsz2⟩
        ·intro t ht;rcases Nat.lt_or_ge t R.length with h1|h1
         ·rw [List.getElem_append_left h1];exact HRv.o t h1
         ·have ht1:t=i:=by have:=HR.o;simp at ht;omega
          subst ht1;rw [List.getElem_append_right h1];simp only [List.getElem_singleton];rw [ms.o,E2.o,z8.o];exact xC HUu.o zU.o hs (by have:=z7.o;omega)
        ·have hp:=GR.o.push HR.o hlt (hd/2^s % 4294967296);rw [jg hd s];exact hp.drew
      ·obtain rfl:i=n+2:=by omega
       have hRn:nv R=M % N/\U32 R:=by
        refine ⟨?_,pR fun t ht=>by rw [HRv.o t ht];exact Nat.mod_lt _ (by omega)⟩
        rw [qs (M % N) (n+2) R HR.o HRv.o];exact Nat.mod_eq_of_lt (Nat.lt_trans (Nat.mod_lt _ HNp.o.1) HNp.o.2)
       have gR2:Gr lmv 58 wr wo.heap.size (some ⟨wo.heap.size,0,none⟩) (n+2) R:=by simpa using gR
       have nR:=gR2.nt hRn.2;have nQ:=gQ.nt wC.o;have lR:=ak hRn.2;have lQ:=ak wC.o;have nR2:=nR.lim;have nQ2:=nQ.lim;rw [hRn.1,HR.o] at lR;rw [mo.o,DW.o] at lQ;rw [hRn.1] at nR2;rw [mo.o] at nQ2;have HRn:=ag hRn;have nR3:Hd (Nt wr (some ⟨wo.heap.size,0,none⟩) (n+2) R):=ag nR;have nQ3:Hd (Nt wr (some ⟨w3.heap.size,0,none⟩) K Qs):=ag nQ;have nR4:=ag nR2;have nQ4:=ag nQ2;have hbw:=qd q.keep hbr2;have aw:=ag hbw;obtain ⟨l1,hl1⟩:∃l1,l1=(lim (M/N)).length:=⟨_,rfl⟩;obtain ⟨l2,hl2⟩:∃l2,l2=(lim (M % N)).length:=⟨_,rfl⟩;rw [<-hl1] at lQ;rw [<-hl2] at lR;have sH:=ag hl1;have sL:=ag hl2
       have C1:=ag fun q=>qz (q:=q) (l:=l1) nQ3.out DW.o.symm (by rw [mo.o];exact sH.o.symm)
       have C2:=ag fun q=>qz (q:=q) (l:=l2) nR3.out HR.o.symm (by rw [HRn.o.1];exact sL.o.symm)
       clear hRn gR gR2 nR nQ nR2 nQ2 gU gQ gU10 gQ10 hg10 hbw hl1 hl2 hbr2;go_wp2_with fail
       go_quiet ((first|with_reducible exact C1.o _|with_reducible exact C2.o _))
       go_wp2_with fail
       go_ret2
       refine ⟨_,_,_,_,?_,nQ4.out.below (aJ (ah _ _) _),nR4.out.below (aJ (ah _ _) _),aJ aw.o _⟩;rw [<-sH.o,<-sL.o];rfl
    ·rw [show (((j+1:Nat)):Int)-1=(j:Int) from by omega]
     have ix:=ag hinv;have hul:=hinv.len;have hr:=hinv.room;have hg0:=gU.cell (j+(n+2)) (by omega)
     have hg1:=gU.cell (j+(n+1)) (by omega)
     have hg2:=gU.cell (j+n) (by omega)
     obtain ⟨u0,hu0⟩:∃t,t=U[j+(n+2)]'(by omega):=⟨_,rfl⟩
     obtain ⟨u1,hu1⟩:∃t,t=U[j+(n+1)]'(by omega):=⟨_,rfl⟩
     obtain ⟨u2,hu2⟩:∃t,t=U[j+n]'(by omega):=⟨_,rfl⟩
     rw [<-hu0] at hg0;rw [<-hu1] at hg1;rw [<-hu2] at hg2;have hlk:=hinv.look GV.o.u HO.o (by omega) top nxt u0 u1 u2 HT.o.symm HN.o.symm hu0.symm hu1.symm hu2.symm
     have x0:u0<4294967296:=by rw [hu0];exact hinv.u.at _ _
     have x1:u1<4294967296:=by rw [hu1];exact hinv.u.at _ _
     have x2:u2<4294967296:=by rw [hu2];exact hinv.u.at _ _
     have kq:=ag hlk;have hw0:IntKind.u64.wrap (u0:Int)=u0:=by rw [IntKind.wrap_u64];omega
     have hw1:IntKind.u64.wrap (u1:Int)=u1:=by rw [IntKind.wrap_u64];omega
     have hw2:IntKind.u64.wrap (u2:Int)=u2:=by rw [IntKind.wrap_u64];omega
     obtain ⟨hd,hhd⟩:∃t,t=u0*4294967296+u1:=⟨_,rfl⟩;have hor:bits .or .u64 ((u0:Int)*4294967296) (u1:Int)=(hd:Int):=by rw [iE x0 x1,iK,hhd]
     have ms:=ag hhd;have X1:=ag x1;have X2:=ag x2;have hjm:j+(n+2)<m+1:=by omega
     have htp:0<top:=by have:=sD.o;omega
     have hd64:hd<18446744073709551616:=by omega
     have uq:=ag hd64;clear hinv hlk hu0 hu1 hu2 hhd hd64;go_wp2_with fail
     go_quiet (fail)
     have Q1:Qt wr (wr.drewN nq):=⟨nq,rfl⟩
     revert Q1
     generalize wr.drewN nq=w6;intro Q1;clear hg0 hg1 hw0 hw1 hor x1;go_wp2_with fail
     go_quiet (fail)
     have Q2:Qt wr (w6.drewN nq):=Q1.drewN nq
     revert Q2
     generalize w6.drewN nq=w7;intro Q2;clear Q1;have hg3:=(Q2.below (w1.heap.size+1)).cell (p:=⟨w1.heap.size,j+n,none⟩) (Nat.lt_succ_self _) |>.trans hg2;rw [show j+n=j+(n+2)-2 from by omega] at hg3
     clear hg2
     go_upto_block 4 with fail
     go_cut [17,18] (fun gv _rv wx=>∃g:Int,gv = .int .u64 g/\lF (nv (seg U j (n+2))) (nv O) g/\w7=wx)
     case first=>
      go_wp2_with fail
      go_loop [17,18] (fun gv rv=>∃g r:Int,gv = .int .u64 g/\rv = .int .u64 r/\bW (nv (seg U j (n+2))) (nv O) top hd g r) (fun gv _=>(intOf gv).toNat)
      case atStart=>exact ⟨(hd:Int)/top,(hd:Int) % top,by first|rfl|exact bL (dx (px _ _).1 (by have:=(px hd top).2;have:=uq.o;omega)),by first|rfl|exact bL (dx (mod_le_int _ _).1 (by have:=(mod_le_int hd top).2;have:=uq.o;omega)),bW.start (gE _) htp wB.o kq.o.1 (by have:=kq.o.2.2.2.1;rw [<-ms.o] at this;exact this) X2.o⟩
      case round=>
       obtain ⟨g,r,rfl,rfl,hinv⟩:=hrel;have HG:=ag hinv;have hg0:=hinv.1;have hr0:=hinv.2.1;have hr32:=hinv.2.2.2.2;have hgb:=hinv.bound htp;have hless:=fun hc=>hinv.less (gE _) kq.o.1 (by have:=kq.o.2.2.2.1;rw [<-ms.o] at this;exact this) (ix.o.seg_lt GV.o.u HO.o) hc
       have hok:=fun h1 h2=>hinv.ok (gE _) kq.o.1 kq.o.2.1 (by have:=kq.o.2.2.1;rw [<-ms.o] at this;exact this) sD.o h1 h2
       have l6:=ag hless;have fd:=ag hok;clear hinv hless hok;obtain ⟨rt,hrt⟩:∃t,t=r+top:=⟨_,rfl⟩;obtain ⟨gm,hgm⟩:∃t,t=g-1:=⟨_,rfl⟩;by_cases hbig:4294967296<=g
       ·obtain ⟨l1,l2,l3⟩:=l6.o (.inl hbig);have hwg:IntKind.u64.wrap (g-1)=gm:=by rw [hgm];exact dx (by omega) (by have:=uq.o;omega)
        have hwr:IntKind.u64.wrap (r+top)=rt:=by rw [hrt];exact dx (by omega) (by have:=wB.o;omega)
        by_cases hbk:4294967296<=rt
        ·have hok:lF (nv (seg U j (n+2))) (nv O) gm:=by
          rw [hgm];exact bW.broke (gE _) kq.o.1 kq.o.2.1 kq.o.2.2.1 sD.o zP.o X1.o kq.o.2.2.2.2 l1 hr0 l2 (by rw [<-ms.o];exact l3) (by rw [<-hrt];exact hbk)
         have cH:=ag hgm;have sM:=ag hrt;clear hgm hrt l1 l2 l3;have mD:=ag hok;clear hok;go_wp2_with fail;go_meet
         case rel=>exact ⟨_,rfl,mD.o,rfl⟩
        ·have hbk0:decide (4294967296<=rt)=false:=decide_eq_false hbk;have ff:=ag hbk;have cH:=ag hgm;have sM:=ag hrt;clear hgm hrt hbk;go_wp2_with fail
         go_round
         case rel=>exact ⟨g-1,r+top,by first|rfl | (rw [<-cH.o]),by first|rfl | (rw [<-sM.o]),bW.again l1 hr0 l2 l3 (by have:=ff.o;rw [sM.o] at this;omega)⟩
         case measure=>simp [intOf,cH.o];omega
       ·by_cases hgt:r*4294967296+u2<g*nxt
        ·obtain ⟨l1,l2,l3⟩:=l6.o (.inr hgt)
         skip
         obtain ⟨p1,p2⟩:=vP hg0 (by omega) zP.o
         obtain ⟨pd,hpd⟩:∃t,t=g*(nxt:Int):=⟨_,rfl⟩;obtain ⟨sm,hsm⟩:∃t,t=r*4294967296+(u2:Int):=⟨_,rfl⟩;have hwp:IntKind.u64.wrap (g*nxt)=pd:=by rw [hpd];exact dx p1 p2
         have hsh:IntKind.u64.wrap (r*4294967296)=r*4294967296:=dx (by omega) (by omega)
         have hors:bits .or .u64 (r*4294967296) (u2:Int)=sm:=by rw [tG hr0 hr32 X2.o,hsm]
         have hbig0:decide (4294967296<=g)=false:=decide_eq_false hbig;have hcond:sm<pd:=by omega
         clear hgt p1 p2 hpd hsm hbig
         skip
         have hwg:IntKind.u64.wrap (g-1)=gm:=by rw [hgm];exact dx (by omega) (by have:=uq.o;omega)
         have hwr:IntKind.u64.wrap (r+top)=rt:=by rw [hrt];exact dx (by omega) (by have:=wB.o;omega)
         by_cases hbk:4294967296<=rt
         ·have hok:lF (nv (seg U j (n+2))) (nv O) gm:=by
           rw [hgm];exact bW.broke (gE _) kq.o.1 kq.o.2.1 kq.o.2.2.1 sD.o zP.o X1.o kq.o.2.2.2.2 l1 hr0 l2 (by rw [<-ms.o];exact l3) (by rw [<-hrt];exact hbk)
          have cH:=ag hgm;have sM:=ag hrt;clear hgm hrt l1 l2 l3;have mD:=ag hok;clear hok;go_wp2_with fail;go_meet
          case rel=>exact ⟨_,rfl,mD.o,rfl⟩
         ·have hbk0:decide (4294967296<=rt)=false:=decide_eq_false hbk;have ff:=ag hbk;have cH:=ag hgm;have sM:=ag hrt;clear hgm hrt hbk;go_wp2_with fail
          go_round
          case rel=>exact ⟨g-1,r+top,by first|rfl | (rw [<-cH.o]),by first|rfl | (rw [<-sM.o]),bW.again l1 hr0 l2 l3 (by have:=ff.o;rw [sM.o] at this;omega)⟩
          case measure=>simp [intOf,cH.o];omega
        ·have hok:=fd.o (by omega) (by omega)
         skip
         obtain ⟨p1,p2⟩:=vP hg0 (by omega) zP.o
         obtain ⟨pd,hpd⟩:∃t,t=g*(nxt:Int):=⟨_,rfl⟩;obtain ⟨sm,hsm⟩:∃t,t=r*4294967296+(u2:Int):=⟨_,rfl⟩;have hwp:IntKind.u64.wrap (g*nxt)=pd:=by rw [hpd];exact dx p1 p2
         have hsh:IntKind.u64.wrap (r*4294967296)=r*4294967296:=dx (by omega) (by omega)
         have hors:bits .or .u64 (r*4294967296) (u2:Int)=sm:=by rw [tG hr0 hr32 X2.o,hsm]
         have hbig0:decide (4294967296<=g)=false:=decide_eq_false hbig;have hcond:decide (sm<pd)=false:=decide_eq_false (by omega)
         have mD:=ag hok;clear hgt p1 p2 hpd hsm hbig hok;go_wp2_with fail;go_meet
         case rel=>exact ⟨_,rfl,mD.o,rfl⟩
     case rest=>
      obtain ⟨g,rfl,hok,rfl⟩:=hcut;have fd:=ag hok;clear hok;go_wp2_with fail;have hok:=fd.o;obtain ⟨G,hGe,hG32,hG1,hG2⟩:=hok;have gU7:=gU.below Q2.keep;rw [mq U j (n+2)] at gU7;have hUu:=ix.o.u;rw [mq U j (n+2)] at hUu;have gV7:=gV.below Q2.keep;have gQ7:=gQ.below Q2.keep;have hne:∀a:Addr,some (⟨w2.heap.size,0,none⟩:Addr)=some a->a.block≠w1.heap.size:=by
       intro a e;injection e with e;subst e;exact Nat.ne_of_gt z2
      refine (sN w7 w1.heap.size w1.heap.size j _ (m+1) _ (n+2) (n+2+1) g G hGe (by omega) (some ⟨w2.heap.size,0,none⟩) (U.take j) (seg U j (n+2)) (U.drop (j+(n+2)+1)) O gU7 hUu gV7 hne (by simp;omega) (iO hr) HO.o hG32 hn3).mono ?_
      rintro e w8 ⟨S',neg,rfl,hneg,hSl,hSu,hSv,g8,gr8⟩;have hnV:=fk gV.u;rw [HO.o] at hnV;have hnS:=fk hSu;rw [hSl] at hnS;have hV0:0<nv O:=by
       rcases Nat.eq_zero_or_pos (nv O) with h|h
       ·rw [h] at hG1;omega
       ·exact h
      have hdg:=Al (P1:=pw (n+2+1)) hV0 hG1 hG2 (by omega) hneg hSv hnS (Nat.lt_of_lt_of_le hnV (mT (by omega)))
      have gV8:=gV7.grown gr8 (fun _ a e=>by have:=hne a e;simpa using this)
      have gQ8:=gQ7.grown gr8 (fun a e=>by injection e with e;subst e;simp;omega)
      have hb8:Below w1.heap.size w1 w8:=(qd hbr Q2.keep).grown gr8 (Nat.le_trans hbr.size Q2.keep.size) (by intro k hk;injection hk with hk;omega)
      have hz8:w3.heap.size<w8.heap.size:=Nat.lt_of_lt_of_le (Nat.lt_of_lt_of_le hsz Q2.keep.size) gr8.size;have hq32:IntKind.u32.wrap g=g:=by rw [IntKind.wrap_u32];omega
      rcases Nat.lt_or_ge neg 1 with hn0|hn0
      ·obtain rfl:neg=0:=by omega
       obtain ⟨d1,d2⟩:=hdg.1 rfl;have hcq:=gQ8.cell j (by simp;omega)
       rw [List.getElem_append_left (by simp)] at hcq
       simp only [List.getElem_replicate] at hcq;have hfq:=gQ8.free j;have GQ8:=ag gQ8;have D1:=ag d1;have D2:=ag d2;have dn:=ag hGe;clear hdg hSv hnS hnV hUu gU7 gV7 gQ7 gQ8 hG1 hG2 hG32 d1 d2 hGe gU gV gQ hg3;go_wp2_with fail
       go_roundg j
       case rel=>
        refine ⟨_,_,by omega,rfl,ix.o.next GV.o.u HO.o hV0 hSl hSu D2.o,g8.far (by intro a e;injection e with e;subst e;simp;omega) _,?_,dH gV8 (by intro a e;injection e with e;subst e;simp;omega) _,hb8.setCell (p:=⟨w3.heap.size,j,none⟩) (by simp;omega) _,by simpa [World.setCell] using hz8⟩
        rw [<-D1.o];have:=GQ8.o.pull G;rw [dn.o];exact this
       case measure=>omega
      ·obtain rfl:neg=1:=by omega
       obtain ⟨d1,d2,d3⟩:=hdg.2 rfl;obtain ⟨gd,hgd⟩:∃t,t=g-1:=⟨_,rfl⟩;have hwgd:IntKind.u64.wrap (g-1)=gd:=by rw [hgd];exact dx (by omega) (by omega)
       have hwgd2:IntKind.u32.wrap gd=gd:=by rw [IntKind.wrap_u32];omega
       have wC:=ag d3;have D1:=ag d1;have D2:=ag d2;have dn:=ag hGe;have kH:=ag hgd;have GQ8:=ag gQ8;have hU8:U32 (U.take j++S'++U.drop (j+(n+2)+1)):=(((ix.o.u.take j).append hSu).append (ix.o.u.drop _));clear hdg hSv hnS hnV hUu gU7 gV7 gQ7 gQ8 hG1 hG2 hG32 d1 d2 d3 hGe hgd gU gV gQ hg3 hq32;go_wp2_with fail;refine (uO w8 w1.heap.size w1.heap.size j _ (m+1) _ (n+2) (n+2+1) (by omega) (some ⟨w2.heap.size,0,none⟩) (U.take j) S' (U.drop (j+(n+2)+1)) O g8 hU8 gV8 hne (by simp;omega) hSl HO.o hn3).mono ?_
       rintro e w9 ⟨S2,rfl,hSl2,hSu2,⟨kc,hSv2⟩,g9,gr9⟩;have gV9:=gV8.grown gr9 (fun _ a e=>by have:=hne a e;simpa using this)
       have gQ9:=GQ8.o.grown gr9 (fun a e=>by injection e with e;subst e;simp;omega)
       have hb9:Below w1.heap.size w1 w9:=hb8.grown gr9 hb8.size (by intro k hk;injection hk with hk;omega)
       have hz9:w3.heap.size<w9.heap.size:=Nat.lt_of_lt_of_le hz8 gr9.size;have hnS2:=fk hSu2;rw [hSl2] at hnS2;have d4:=wC.o _ _ hnS2 hSv2;have hcq:=gQ9.cell j (by simp;omega)
       rw [List.getElem_append_left (by simp)] at hcq
       simp only [List.getElem_replicate] at hcq;have hfq:=gQ9.free j;have GQ9:=ag gQ9;have D4:=ag d4;clear hSv2 hnS2 gV8 GQ8 wC d4 gQ9 hU8;go_wp2_with fail
       go_roundg j
       case rel=>
        refine ⟨_,_,by omega,rfl,ix.o.next GV.o.u HO.o hV0 hSl2 hSu2 D4.o,g9.far (by intro a e;injection e with e;subst e;simp;omega) _,?_,dH gV9 (by intro a e;injection e with e;subst e;simp;omega) _,hb9.setCell (p:=⟨w3.heap.size,j,none⟩) (by simp;omega) _,by simpa [World.setCell] using hz9⟩
        rw [<-D2.o];have:=GQ9.o.pull (G-1);have e:(((G-1:Nat)):Int)=gd:=by rw [kH.o,dn.o];have:=D1.o;omega
        have e2:lmv (G-1) = .int .u32 gd:=by show Value.int .u32 _=_;rw [e]
        rw [e2] at this;exact this
       case measure=>omega
end Go.Proofs.YtkpfbekmaafehaaGreat
