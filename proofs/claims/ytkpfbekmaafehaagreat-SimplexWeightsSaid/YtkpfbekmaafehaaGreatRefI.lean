/- The walk of drydockref01.divide for a divisor of two limbs or more. -/
import Derived.Test.YtkpfbekmaafehaaGreatRefT
import Derived.Test.YtkpfbekmaafehaaGreatNatJ
import Derived.Deep.CutBlock
import Derived.Deep.DeepCutAuto
import Derived.Deep.LoopGhost
import Derived.Deep.RegionLaw
namespace Go.Proofs.YtkpfbekmaafehaaGreat
open _root_.Go.Proofs.Tryz
set_option maxHeartbeats 8000000
set_option maxRecDepth 100000
open Go.RowKit
theorem Dt (w:World):Nt (w.alloc (.cells #[.int .u32 0, .int .u32 0] 58)) (some ⟨w.heap.size,0,none⟩) 2 [0,0]:=
 (Gr.lit (mk:=lmv) (e:=58) (B:=w.heap.size) w [0,0] _ rfl (by simp [maxLen]) (Nat.le_refl _)).nt (U32.cons (by omega) (U32.one (by omega)))
theorem uX {w:World} {e:TypeId} {B c gx j n:Nat} {U:List Nat} (g:Gr lmv e w B (some ⟨gx,0,none⟩) c (U ++ [0])) (h:j+n+1<=U.length):Rd lmv w (some ⟨gx,j,none⟩) (seg U j n):=fun _=>by
 refine ⟨_,rfl,(g.form.2.2 _ rfl).2,fun k hk=>?_⟩;rw [iO h] at hk;have e:(⟨gx,j,none⟩:Addr).add k=⟨gx,j+k,none⟩:=mN _ _ _;rw [e,g.cell (j+k) (by simp;omega),List.getElem_append_left (by omega)]
 rw [ro h (by omega)]
theorem zR {w:World} {e:TypeId} {B c gx j t:Nat} {P S T:List Nat} (g:Gr lmv e w B (some ⟨gx,0,none⟩) c (P++S++T)) (hP:P.length=j) (ht:t<S.length) (v:Nat):Gr lmv e (w.setCell ⟨gx,j+t,none⟩ (lmv v)) B (some ⟨gx,0,none⟩) c (P++S.set t v++T):=by
 subst hP;have:=g.store (P.length+t) v
 rwa [kA ht] at this
theorem rn {U:List Nat} {j n:Nat} (h:j+n+1<=U.length):(U.take j).length=j:=by simp;omega
theorem uH (U:List Nat) (j n:Nat):U ++ [0]=U.take j++seg U j n++(U.drop (j+n+1) ++ [0]):=by
 rw [<-List.append_assoc,<-mq]
theorem yN (w:World) (A:Option Addr) (c m L N k:Nat) (h:Nt w A c (lim N)) (hm:(lim N).length=m) (hL:(lim (N*2^k)).length=L) (hl:m<=10000) (hk:k<=100000) :
 Calls prog 104 #[.slice A m c, .int .i64 (k:Int)] w fun e w'=>∃A' c',e = .returned (.slice A' L c')/\Gr lmv 58 w' w.heap.size A' c' (lim (N*2^k))/\Below w.heap.size w w':=by
 subst hm hL;refine (Bo w A c N k _ h rfl hl hk).mono ?_;rintro e w' ⟨A',c',rfl,g,b⟩;exact ⟨A',c',rfl,g,b⟩
theorem rq (w:World) (A D:Option Addr) (c d M N n m:Nat) (h:Nt w A c (lim M)) (k:Nt w D d (lim N)) (hm:(lim M).length=m) (hl:m<=1000) (hn:(lim N).length=n+2) (hge:N<=M) :
 Calls prog 111 #[.slice A m c, .slice D (n+2) d] w (jK w (M/N) (M % N)):=by
 obtain ⟨z,hz0,hz⟩:∃z:Int,0<=z/\i6 M N=z:=⟨_,by unfold i6;rw [if_neg (by omega)];split <;> omega,rfl⟩
 have hnm:n+2<=m:=by have:=ao hge;omega
 have HC:=ti w A D c d M N z h k (by omega) (by omega) hz
 rw [hm,hn] at HC;have HC:=ag HC;have HM:=ag hm;have HN:=ag hn;obtain ⟨bn,hbn⟩:∃bn,bn=aI N:=⟨_,rfl⟩;have hb1:¬ 32*(n+2)<bn:=by
  have:=(bP N (32*(n+2))).2 (by rw [<-jy];exact (aA N (n+2)).1 (by omega))
  omega
 obtain ⟨s,hs⟩:∃s,s+bn=32*(n+2):=⟨32*(n+2)-bn,by omega⟩
 obtain ⟨hs32,hyl,hyv,htop⟩:=xJ hn (show s+aI N=32*(n+2) by rw [<-hbn];exact hs)
 have HB:Hd (aI N=bn):=ag hbn.symm;have hsI:(32:Int)*((n:Int)+2)-(bn:Int)=(s:Int):=by omega
 have hbn2:bn<=100000:=by omega
 have hn1:(((n:Int)+2) == 1)=false:=beq_eq_false_iff_ne.2 (by omega)
 have hn2:n+2<=1000:=by omega
 have ii:=ag hyl;have Gb:=ag hyv;have sD:=ag htop;obtain ⟨L,hL⟩:∃L,L=(lim (M*2^s)).length:=⟨_,rfl⟩;have hLn:n+2<=L:=by
  have:=ao (Nat.mul_le_mul_right (2^s) hge);omega
 have hLm:L<=m+1:=by
  rw [hL,aA];have h1:=(aA M m).1 (by omega)
  have h2:=fj hs32;rw [gM];have h3:M*2^s<=M*2147483648:=Nat.mul_le_mul_left _ h2;omega
 obtain ⟨K,hK⟩:∃K,L+1=n+2+K:=⟨L-n-1,by omega⟩
 have HD:=ag (uP (M:=M) (N:=N) (n:=n) (k:=s) (K:=K) hL.symm hK (by omega))
 have HL:=ag hL;have HK:=ag hK;have hKm:K<=2000:=by omega
 have hrbits:=fun (w':World) (h':Nt w' D d (lim N))=>jR w' D d _ (lim N) h' rfl (by omega)
 rw [am,hn,<-hbn] at hrbits;have jp:=ag hrbits;clear hz hm hn hs hbn hyl hyv htop hL hK hrbits hb1;obtain ⟨i0,hi,hz0',hz1,hz2'⟩:=info_parts ch;go_enter func111,ntmps111;go_wp2_with fail;refine HC.o.mono ?_;rintro e w1 ⟨rfl,b1⟩;have h1:=h.below b1;have k1:=k.below b1;have bw:=b1;clear b1 h k HC;go_wp2_with fail;refine (jp.o w1 k1).mono ?_;rintro e w2 ⟨rfl,b2⟩;have h2:=h1.below b2;have k2:=k1.below b2;have bw2:=qd bw b2;have hB2:w.heap.size<=w2.heap.size:=bw2.size;clear b2 h1 k1 jp bw;go_wp2_with fail;have HU:=ag (fun (w':World) (h':Nt w' A c (lim M))=>yN w' A c m L M s h' HM.o HL.o.symm (by omega) (by omega))
 have HV:=ag (fun (w':World) (h':Nt w' D d (lim N))=>yN w' D d (n+2) (n+2) N s h' HN.o ii.o (by omega) (by omega))
 refine (HU.o w2 h2).mono ?_;rintro e w3 ⟨A3,c3,rfl,g3,b3⟩;have hw23:=b3.size;go_wp2_with (at_builtin;refine aD _ (mk:=lmv) (fun _=>rfl) rfl (.tmp 75) (.tmp 76) 27 rfl 58 i0 (.int .u32 0) 4 underlying27 hi hz0' hz1 hz2' rfl (B:=w2.heap.size) (xs:=lim (M*2^s)) rfl HL.o (g3.below ((ah _ w3).alloc (Nat.le_refl _) _)) _ 2 2 [0,0] rfl rfl (Dt w3).rd (by simp only [maxLen];omega) (by omega) (by simp;omega) ?_;intro A4 c4 w4 g4 gr4 b4 at4)
 have b24:Below w2.heap.size w2 w4:=(b3.alloc b3.size _).trans b4;have h4:=h2.below b24;have k4:=k2.below b24;have bw4:=qd bw2 b24;obtain ⟨gx,rfl⟩:=g4.some_ (by simp)
 have gx1:=(g4.form.2.2 _ rfl).1;have gx2:=(g4.form.2.2 _ rfl).2;have gxc:=g4.form.1;rw [List.length_append,<-HL.o] at gxc;have gxc2:L+2<=c4:=gxc;have gxm:=g4.form.2.1;unfold maxLen at gxm;clear b3 h2 k2 bw2 b4 gr4 at4 g3 gxc b24;go_wp2_with fail;refine (HV.o w4 k4).mono ?_;rintro e w5 ⟨A5,c5,rfl,g5,b5⟩;have h5:=h4.below b5;have gX5:=g4.below b5;have nY5:=g5.nt (aC _);have hneY:∀ad:Addr,A5=some ad->ad.block≠gx:=fun ad e=>by
  have:=(g5.form.2.2 ad e).1;omega
 have bw5:=qd bw4 b5;have gx5:gx<w5.heap.size:=Nat.lt_of_lt_of_le gx2 b5.size;clear g5 b5 h4 k4 g4 bw4 gx2 HV;go_wp2_with fail;refine (HU.o w5 h5).mono ?_;rintro e w6 ⟨A6,c6,rfl,g6,b6⟩;have gX6:=gX5.below b6;have nY6:=nY5.below b6;have bw6:=qd bw5 b6;have gx6:gx<w6.heap.size:=Nat.lt_of_lt_of_le gx5 b6.size;clear g6 b6 h5 gX5 nY5 bw5 gx5 HU;obtain ⟨Y,hY⟩:∃Y,Y=lim (N*2^s):=⟨_,rfl⟩;obtain ⟨U0,hU0⟩:∃U0,U0=lim (M*2^s) ++ [0]:=⟨_,rfl⟩;have gX7:Gr lmv 58 w6 w2.heap.size (some ⟨gx,0,none⟩) c4 (U0 ++ [0]):=by
  rw [hU0,List.append_assoc];exact gX6
 rw [<-hY] at nY6 ii sD HD;rw [<-hU0] at HD;have Aa:Hd (Y=lim (N*2^s)):=ag hY;have HYv:Hd (nv Y=N*2^s):=ag (by rw [hY,am])
 obtain ⟨top,ht⟩:∃t,t=Y[n+1]'(by have:=ii.o;omega):=⟨_,rfl⟩
 obtain ⟨nxt,hnx⟩:∃t,t=Y[n]'(by have:=ii.o;omega):=⟨_,rfl⟩
 have ht32:top<4294967296:=by rw [ht];exact nY6.u.at _ _
 have ht31:2147483648<=top:=by rw [ht];exact sD.o _
 obtain ⟨adY,rfl,hbY,hcY,_⟩:=nY6.at (n+1) (by have:=ii.o;omega)
 rw [<-ht] at hcY;have hcY1:=kW hcY;have hwt:IntKind.u64.wrap (top:Int)=top:=by rw [IntKind.wrap_u64];omega
 have wB:=ag ht32;have E8:=ag ht31;have HT:=ag ht;have cK:=ag hnx;have hneY:adY.block≠gx:=hneY adY rfl;have hbYq:adY.block≠w6.heap.size:=Nat.ne_of_lt hbY;clear hY hU0 ht hnx gX6 hcY ht32 ht31;go_wp2_with (at_make;refine bp w6 (mk:=lmv) 0 rfl _ _ 27 rfl 58 i0 4 underlying27 hi hz0' hz1 hz2' rfl .i64 .i64 _ _ K rfl rfl (by have:=HK.o;omega) (by have:=HK.o;omega) (by omega) (by simp only [maxLen];omega) ?_;intro w7 hg7 hb7 hs7)
 have gX8:=gX7.below hb7;have nY8:=nY6.below hb7;have bw8:=qd bw6 hb7;have gx8:gx<w7.heap.size:=Nat.lt_trans gx6 hs7;clear gX7 nY6 hb7 bw6 hcY1 hwt;go_wp2_with fail
 go_loopg [15] K (fun jj jv wr=>∃(U Qs:List Nat),jj<=K/\jv = .int .i64 ((jj:Int)-1)/\df (M*2^s) Y (n+2) (L+1) jj U Qs/\Gr lmv 58 wr w2.heap.size (some ⟨gx,0,none⟩) c4 (U ++ [0])/\Gr lmv 58 wr w6.heap.size (some ⟨w6.heap.size,0,none⟩) K (List.replicate jj 0++Qs)/\Nt wr (some adY) c5 Y/\Below w.heap.size w wr/\gx<wr.heap.size/\w6.heap.size<wr.heap.size)
 case atStart=>exact ⟨U0,[],Nat.le_refl _,rfl,HD.o,gX8,by simpa using hg7,nY8,bw8,gx8,hs7⟩
 case round=>
  obtain ⟨U,Qs,hj,rfl,hinv,gX,gQ,nY,bw,gxl,gql⟩:=hrel;clear gX8 nY8 bw8 gx8 hg7 hs7 HD;rcases gk with _|j
  ·have hdone:=hinv.done (s:=s) (M:=M) (N:=N) HYv.o;have hql:=hinv.ql;have hul:=hinv.len;have hQl:Qs.length=K:=by have:=HK.o;omega
   have gQ2:Gr lmv 58 wr w6.heap.size (some ⟨w6.heap.size,0,none⟩) K Qs:=by simpa using gQ
   have nQ:=gQ2.nt hdone.2.2;have nX:=(gX.nt (hinv.u.append (U32.one (by omega)))).take (L+1)
   have eX:List.take (L+1) (U ++ [0])=U:=by rw [List.take_append_of_le_length (by omega),List.take_of_length_le (by omega)]
   rw [eX] at nX;have hqt:=aL wr _ _ K Qs nQ hQl.symm (by have:=ak hdone.2.2;omega)
   rw [hdone.1] at hqt;have hxt:=fun (w':World) (h':Nt w' (some ⟨gx,0,none⟩) c4 U)=>aL w' _ _ (L+1) U h' hul.symm (by have:=ak hinv.u;omega)
   rw [hdone.2.1] at hxt;have hlr:(lim (M % N*2^s)).length<=10000:=by
    have:=ak hinv.u;rw [hdone.2.1] at this;omega
   have E9:=ag hqt;have Fb:=ag hxt;have uB:=ag hlr;clear eX hdone hql hul hQl gQ2 nQ hqt hxt hlr hinv gX gQ nY;go_wp2_with fail;refine E9.o.mono ?_;rintro e wa ⟨AQ,cQ,rfl,ga,ba⟩;have na:=ga.nt (aC _);have nXa:=nX.below ba;have bwa:=qd bw ba;clear ga ba nX bw;go_wp2_with fail;refine (Fb.o wa nXa).mono ?_;rintro e wb ⟨AX,cX,rfl,gb,bb⟩;have nb:=gb.nt (aC _);have na2:=na.below bb;have bwb:=qd bwa bb;clear gb bb nXa na bwa;go_wp2_with fail;have hdn:=xE wb AX cX (M % N*2^s) s (s:Int) nb rfl uB.o (by omega)
   rw [Nat.mul_div_cancel _ (Nat.pow_pos (by omega))] at hdn
   refine hdn.mono ?_;rintro e wc ⟨AR,cR,rfl,gc,bc⟩;have nc:=gc.nt (aC _);have na3:=na2.below bc;have bwc:=qd bwb bc;clear gc bc hdn;go_wp2_with fail
   go_ret2
   exact ⟨AQ,cQ,AR,cR,rfl,na3,nc,bwc⟩
  ·rw [show (((j+1:Nat)):Int)-1=(j:Int) from by omega]
   have HI:=ag hinv;have hul:=hinv.len;have hr:=hinv.room;have hg0:=gX.cell (j+(n+2)) (by simp;omega)
   have hg1:=gX.cell (j+(n+1)) (by simp;omega)
   rw [List.getElem_append_left (by omega)] at hg0 hg1
   obtain ⟨u0,hu0⟩:∃t,t=U[j+(n+2)]'(by omega):=⟨_,rfl⟩
   obtain ⟨u1,hu1⟩:∃t,t=U[j+(n+1)]'(by omega):=⟨_,rfl⟩
   obtain ⟨u2,hu2⟩:∃t,t=U[j+n]'(by omega):=⟨_,rfl⟩
   rw [<-hu0] at hg0;rw [<-hu1] at hg1;have hlk:=hinv.look nY.u ii.o (by omega) top nxt u0 u1 u2 HT.o.symm cK.o.symm hu0.symm hu1.symm hu2.symm
   have x0:u0<4294967296:=by rw [hu0];exact hinv.u.at _ _
   have x1:u1<4294967296:=by rw [hu1];exact hinv.u.at _ _
   have x2:u2<4294967296:=by rw [hu2];exact hinv.u.at _ _
   have kq:=ag hlk;have gN:=ag (hinv.seg_lt nY.u ii.o);have hw0:IntKind.u64.wrap (u0:Int)=u0:=by rw [IntKind.wrap_u64];omega
   have hw1:IntKind.u64.wrap (u1:Int)=u1:=by rw [IntKind.wrap_u64];omega
   obtain ⟨hd,hhd⟩:∃t,t=u0*4294967296+u1:=⟨_,rfl⟩;have hor:bits .or .u64 ((u0:Int)*4294967296) (u1:Int)=(hd:Int):=by rw [iE x0 x1,iK,hhd]
   have ms:=ag hhd;have X2:=ag x2;have hjm:j+(n+2)<L+1:=by omega
   have htp:0<top:=by have:=E8.o;omega
   have hd64:hd<18446744073709551616:=by omega
   have uq:=ag hd64;clear hinv hlk hu0 hu1 hu2 hhd hd64 x2;go_wp2_with fail
   go_quiet (fail)
   have gX9:=gX.drewN nq;have gQ9:=gQ.drewN nq;have nY9:=nY.below (aJ (ah _ _) nq);have bw9:=aJ bw nq;have gx9:gx<(wr.drewN nq).heap.size:=gxl;have gq9:w6.heap.size<(wr.drewN nq).heap.size:=gql
   revert gX9 gQ9 nY9 bw9 gx9 gq9
   generalize wr.drewN nq=w8;intro gX9 gQ9 nY9 bw9 gx9 gq9;clear gX gQ nY bw gxl gql hg0 hg1 hw0 hw1 hor x0 x1;obtain ⟨g0,hg0⟩:∃g0,g0=hd/top:=⟨_,rfl⟩;have hgle:g0<=hd:=by rw [hg0];exact Nat.div_le_self _ _
   have hgw:IntKind.u64.wrap ((hd:Int)/top)=(g0:Int):=by
    rw [show (hd:Int)/top=((hd/top:Nat):Int) from (Int.natCast_ediv _ _).symm,<-hg0,IntKind.wrap_u64];have:=uq.o;omega
   have hgd:(hd:Int)/top=(g0:Int):=by rw [show (hd:Int)/top=((hd/top:Nat):Int) from (Int.natCast_ediv _ _).symm,<-hg0]
   have hok0:g0<4294967296->fC (nv (seg U j (n+2))) (nv Y) g0:=fun hb=>by
    rw [hg0] at hb|-;exact fC.start (gE _) htp wB.o kq.o.1 (by have:=kq.o.2.2.2.1;rw [<-ms.o] at this;exact this) X2.o hb
   have D5:=ag hok0;obtain ⟨gI,hgI⟩:∃gI:Int,gI=(g0:Int):=⟨_,rfl⟩;rw [<-hgI] at hgw hgd;rw [hgd] at hgw;have cp:=ag hgI;clear hg0 hgle hok0 hgI
   go_upto_if 131 with fail
   go_cut [17] (fun gv wx=>∃g:Nat,gv = .int .u64 (g:Int)/\fC (nv (seg U j (n+2))) (nv Y) g/\w8=wx)
   case first=>
    by_cases hbig:4294967295<g0
    ·have hb1:(4294967295:Int)<gI:=by have:=cp.o;omega
     clear hbig;go_wp2_with fail;go_meet
     case rel=>exact ⟨4294967295,rfl,fC.most gN.o,rfl⟩
    ·have hb1:decide ((4294967295:Int)<gI)=false:=decide_eq_false (by have:=cp.o;omega)
     have hb2:gI<=4294967295:=by have:=cp.o;omega
     have hok1:=D5.o (by omega)
     have Fc:=ag hok1;clear hbig hok1;go_wp2_with fail;go_meet
     case rel=>exact ⟨g0,by rw [cp.o],Fc.o,rfl⟩
   case rest=>
    obtain ⟨g,rfl,hok,rfl⟩:=hcut;have fd:=ag hok;clear hok hgw hgd D5;obtain ⟨nS,hnS⟩:∃t,t=nv (seg U j (n+2)):=⟨_,rfl⟩;obtain ⟨nV,hnV⟩:∃t,t=nv Y:=⟨_,rfl⟩;rw [<-hnS,<-hnV] at fd;have ow:=ag hnS;have cq:=ag hnV;clear hnS hnV
    go_upto_block 4 with fail
    go_cut [17] (fun gv wx=>gv = .int .u64 ((nS/nV:Nat):Int)/\nV*(nS/nV)<=nS/\nS/nV<4294967296/\Below w8.heap.size w8 wx)
    case first=>
--D{
     go_wp2_with fail
     go_loopg [17] g (fun kn gv wx=>∃g':Nat,g'=kn/\gv = .int .u64 (g':Int)/\fC nS nV g'/\Below w8.heap.size w8 wx)
     case atStart=>exact ⟨g,rfl,rfl,fd.o,ah _ _⟩
     case round=>
      obtain ⟨g',rfl,rfl,hok,bR⟩:=hrel;have B2:=ag hok;have hg32:g'<18446744073709551616:=by have:=hok.1;omega
      have wD:=ag hg32;have gX:=(gX9.below bR).drew;have nY:=jU (nY9.below bR);have bw:=bR.drew;have hTm:∀(w':World) (A1:Option Addr) (c1:Nat),Nt w' (some adY) c5 Y->Nt w' A1 c1 (lim g')->Calls prog 112 #[.slice (some adY) (n+2) c5, .slice A1 (lim g').length c1] w' (fh w' (lim (nV*g'))):=fun w' A1 c1 hy hg=>by
       have:=lW w' (some adY) A1 c5 c1 (n+2) _ Y (lim g') hy hg ii.o.symm rfl (by have:=ii.o;omega) (by have:(lim g').length<=2:=(aA g' 2).2 (by have:=wD.o;rw [show pw 2=18446744073709551616 from rfl];exact this);omega)
       rwa [am,<-cq.o] at this
      have HTm:=ag hTm;have hlT:(lim (nv (lim (nV*g')))).length<=1000000:=by
       rw [am];have h1:(lim nV).length<=n+2:=by rw [cq.o];exact (by have:=ak nY.u;have:=ii.o;omega)
       have h2:(lim g').length<=2:=(aA g' 2).2 (by have:=wD.o;rw [show pw 2=18446744073709551616 from rfl];exact this)
       have:=pi h1 h2;omega
      have hlS:(lim (nv (seg U j (n+2)))).length<=1000000:=by
       have h1:=ak (pZ HI.o.u j (n+2));have h2:=iO (U:=U) (j:=j) (n:=n+2) hr;omega
      have dy:=ag hlT;have l6:=ag hlS;clear hTm hlT hlS;have hl1:IntKind.i64.wrap ((j:Int)+((n:Int)+2))=(j:Int)+((n:Int)+2):=IntWalk.i64_in _ (by omega)
      have hl2:IntKind.i64.wrap ((j:Int)+((n:Int)+2)+1)=(j:Int)+((n:Int)+2)+1:=IntWalk.i64_in _ (by omega)
      have hl3:((j:Int)+((n:Int)+2)+1).toNat=j+(n+2)+1:=by omega
      have hl4:(0:Int)<=(j:Int)+((n:Int)+2)+1:=by omega
      have hl5:(j:Int)+((n:Int)+2)+1<=(c4:Int):=by omega
      have hl6:j<=j+(n+2)+1:=by omega
      have hl7:c4≠j:=by omega
      have hl8:j+(n+2)+1-j=n+2+1:=by omega
      have HSg:=ag (iO (U:=U) (j:=j) (n:=n+2) hr);clear hok hg32;by_cases hgt:nS<nV*g'
      ·obtain ⟨hg1,hok3⟩:=B2.o.less hgt;have HZ:Hd (i6 (nv (lim (nV*g'))) (nv (seg U j (n+2)))=1):=ag (by rw [am,<-ow.o];exact kU hgt)
       have oy:=ag hok3;have hwg:IntKind.u64.wrap ((g':Int)-1)=((g'-1:Nat):Int):=by rw [IntKind.wrap_u64];have:=wD.o;omega
       clear hgt hok3;go_wp2_with fail
       go_region_law (first
        | (refine jq _ (mk:=lmv) (fun _=>rfl) rfl _ _ 27 rfl 58 i0 (.int .u32 0) 4 underlying27 hi hz0' hz1 hz2' rfl (xs := []) rfl rfl (Gr.nil _ _) (some ⟨gx,j,none⟩) _ _ (seg U j (n+2)) rfl ?_ (uX gX hr) ?_ ?_ (Nat.le_refl _) ?_
           ·have:=HSg.o;omega
           ·simp only [maxLen];omega
           ·omega
           intro AS cS wn gS grS bb _;rw [List.nil_append] at gS;have nS:=gS.nt (pZ HI.o.u j (n+2));replace gX:=gX.below bb;replace nY:=nY.below bb
           try replace nG:=nG.below bb
           try replace nT:=nT.below bb
           replace bw:=qd bw bb;clear gS grS bb)
        | (go_simp
           go_at_call 67;refine (gh _ g' wD.o).mono ?_;rintro e wn ⟨AG,cG,rfl,gG,bb⟩;have nG:=gG.nt (aC _);replace gX:=gX.below bb;replace nY:=nY.below bb
           try replace nS:=nS.below bb
           replace bw:=qd bw bb;clear gG bb)
        | (go_simp
           go_at_call 112;refine (HTm.o _ AG cG nY nG).mono ?_;rintro e wn ⟨AT,cT,rfl,gT,bb⟩;have nT:=gT.nt (aC _);replace gX:=gX.below bb;replace nY:=nY.below bb
           try replace nS:=nS.below bb
           replace bw:=qd bw bb;clear gT bb)
        | (go_simp
           go_at_call 72;refine (eI _ AT AS cT cS _ _ (lim (nV*g')) (seg U j (n+2)) 1 nT nS rfl ?_ dy.o l6.o HZ.o).mono ?_
           ·have:=HSg.o;omega
           rintro e wn ⟨rfl,bb⟩;replace gX:=gX.below bb;replace nY:=nY.below bb;replace bw:=qd bw bb;clear bb))
       all_goals
        go_wp2_with fail
        go_roundg (g'-1)
        case measure=>omega
        case rel=>exact ⟨g'-1,rfl,rfl,oy.o,bw⟩
      ·obtain ⟨z2,hz2,HZ⟩:∃z:Int,z<=0/\Hd (i6 (nv (lim (nV*g'))) (nv (seg U j (n+2)))=z):=⟨_,by rw [am,<-ow.o];unfold i6;split <;> first|omega | (rw [if_neg hgt];omega),ag rfl⟩
       have hz3:decide (0<z2)=false:=decide_eq_false (by omega)
       have wR:Hd (nV*g'<=nS):=ag (by omega)
       clear hgt;go_wp2_with fail
       go_region_law (first
        | (refine jq _ (mk:=lmv) (fun _=>rfl) rfl _ _ 27 rfl 58 i0 (.int .u32 0) 4 underlying27 hi hz0' hz1 hz2' rfl (xs := []) rfl rfl (Gr.nil _ _) (some ⟨gx,j,none⟩) _ _ (seg U j (n+2)) rfl ?_ (uX gX hr) ?_ ?_ (Nat.le_refl _) ?_
           ·have:=HSg.o;omega
           ·simp only [maxLen];omega
           ·omega
           intro AS cS wn gS grS bb _;rw [List.nil_append] at gS;have nS:=gS.nt (pZ HI.o.u j (n+2));replace gX:=gX.below bb;replace nY:=nY.below bb
           try replace nG:=nG.below bb
           try replace nT:=nT.below bb
           replace bw:=qd bw bb;clear gS grS bb)
        | (go_simp
           go_at_call 67;refine (gh _ g' wD.o).mono ?_;rintro e wn ⟨AG,cG,rfl,gG,bb⟩;have nG:=gG.nt (aC _);replace gX:=gX.below bb;replace nY:=nY.below bb
           try replace nS:=nS.below bb
           replace bw:=qd bw bb;clear gG bb)
        | (go_simp
           go_at_call 112;refine (HTm.o _ AG cG nY nG).mono ?_;rintro e wn ⟨AT,cT,rfl,gT,bb⟩;have nT:=gT.nt (aC _);replace gX:=gX.below bb;replace nY:=nY.below bb
           try replace nS:=nS.below bb
           replace bw:=qd bw bb;clear gT bb)
        | (go_simp
           go_at_call 72;refine (eI _ AT AS cT cS _ _ (lim (nV*g')) (seg U j (n+2)) z2 nT nS rfl ?_ dy.o l6.o HZ.o).mono ?_
           ·have:=HSg.o;omega
           rintro e wn ⟨rfl,bb⟩;replace gX:=gX.below bb;replace nY:=nY.below bb;replace bw:=qd bw bb;clear bb))
       all_goals
        go_wp2_with fail;go_meet
        case rel=>
         have hdn:=B2.o.done wR.o;refine ⟨by rw [<-hdn.1],?_,?_,bw⟩
         ·rw [<-hdn.1];exact wR.o
         ·rw [<-hdn.1];exact B2.o.1
--D}
    case rest=>
     obtain ⟨rfl,hmle,hq32,bR⟩:=hcut;obtain ⟨Q,hQ⟩:∃Q,Q=nS/nV:=⟨_,rfl⟩;rw [<-hQ] at hmle hq32|-;have HQ:=ag hQ;have Fe:=ag hmle;have D6:=ag hq32;have hqlen:(lim Q).length<=1:=(aA Q 1).2 hq32;have hplen:(lim (nV*Q)).length<=(seg U j (n+2)).length:=by
      have h1:=ao hmle;have h2:=ak (pZ HI.o.u j (n+2));rw [<-ow.o] at h2;omega
     have Ff:=ag hplen;have gX:=gX9.below bR;have gQ:=gQ9.below bR;have nY:=nY9.below bR;have bw:=qd bw9 bR;have gxl:=Nat.lt_of_lt_of_le gx9 bR.size;have gql:=Nat.lt_of_lt_of_le gq9 bR.size;have HSg:=ag (iO (U:=U) (j:=j) (n:=n+2) hr);have hTm:∀(w':World) (A1:Option Addr) (c1:Nat),Nt w' (some adY) c5 Y->Nt w' A1 c1 (lim Q)->Calls prog 112 #[.slice (some adY) (n+2) c5, .slice A1 (lim Q).length c1] w' (fh w' (lim (nV*Q))):=fun w' A1 c1 hy hg=>by
      have:=lW w' (some adY) A1 c5 c1 (n+2) _ Y (lim Q) hy hg ii.o.symm rfl (by have:=ii.o;omega) (by omega)
      rwa [am,<-cq.o] at this
     have HTm:=ag hTm;clear hTm hQ hmle hq32 hplen gX9 gQ9 nY9 bw9 gx9 gq9 bR;go_wp2_with (at_builtin;refine aD _ (mk:=lmv) (fun _=>rfl) rfl _ _ 27 rfl 58 i0 (.int .u32 0) 4 underlying27 hi hz0' hz1 hz2' rfl (xs := []) (B:=wc.heap.size) rfl rfl (Gr.nil _ _) (some ⟨gx,j,none⟩) _ _ (seg U j (n+2)) rfl (by have:=HSg.o;omega) (uX gX hr) (by simp only [maxLen];omega) (by omega) (Nat.le_refl _) ?_;intro AS cS w10 gS grS bb _)
     rw [List.nil_append] at gS;have nSg:=gS.nt (pZ HI.o.u j (n+2));replace gX:=gX.below bb;replace gQ:=gQ.below bb;replace nY:=nY.below bb;replace bw:=qd bw bb;replace gxl:=Nat.lt_of_lt_of_le gxl bb.size;replace gql:=Nat.lt_of_lt_of_le gql bb.size;clear gS grS bb;refine (gh _ Q (by have:=D6.o;omega)).mono ?_
     rintro e wn ⟨AG,cG,rfl,gG,bb⟩;have nG:=gG.nt (aC _);replace gX:=gX.below bb;replace gQ:=gQ.below bb;replace nY:=nY.below bb;replace nSg:=nSg.below bb;replace bw:=qd bw bb;replace gxl:=Nat.lt_of_lt_of_le gxl bb.size;replace gql:=Nat.lt_of_lt_of_le gql bb.size;clear gG bb;go_wp2_with fail;refine (HTm.o _ AG cG nY nG).mono ?_;rintro e wn ⟨AT,cT,rfl,gT,bb⟩;have nT:=gT.nt (aC _);replace gX:=gX.below bb;replace gQ:=gQ.below bb;replace nY:=nY.below bb;replace nSg:=nSg.below bb;replace bw:=qd bw bb;replace gxl:=Nat.lt_of_lt_of_le gxl bb.size;replace gql:=Nat.lt_of_lt_of_le gql bb.size
     clear gT bb nG HTm;go_wp2_with fail;have hmin:=qy wn AS AT cS cT (j+(n+2)+1-j) _ (seg U j (n+2)) (lim (nV*Q)) nSg nT (by have:=HSg.o;omega) rfl (by have:=HSg.o;omega) Ff.o (by rw [am,<-ow.o];exact Fe.o)
     have hVpos:0<nV:=by
      rcases Nat.eq_zero_or_pos nV with h0|h0
      ·have h1:=fd.o.2;rw [h0] at h1;simp at h1
      ·exact h0
     have hRv:nv (seg U j (n+2))-nv (lim (nV*Q))=nS % nV:=by
      rw [am,<-ow.o,HQ.o];have:=Nat.div_add_mod nS nV;omega
     rw [hRv] at hmin;obtain ⟨R,hR⟩:∃R,R=nS % nV:=⟨_,rfl⟩;rw [<-hR] at hmin;have HR:=ag hR;have B3:=ag hVpos;have hRlt:R<nV:=by rw [hR];exact Nat.mod_lt _ hVpos
     have hRl:(lim R).length<=n+2:=by
      have h1:=ao (Nat.le_of_lt hRlt);have h2:=ak nY.u;rw [<-cq.o,ii.o] at h2;omega
     have D7:=ag hmin;clear hmin hRv hR hVpos hRlt nSg nT
     with_reducible refine D7.o.mono ?_
     rintro e w13 ⟨AR,cR,rfl,gR,bb⟩;have nR:=gR.nt (aC _);have hneR:∀ad:Addr,AR=some ad->ad.block≠gx:=fun ad e=>by
      have:=(gR.form.2.2 ad e).1;omega
     have Ab:=ag hneR;replace gX:=gX.below bb;replace gQ:=gQ.below bb;replace nY:=nY.below bb;replace bw:=qd bw bb;replace gxl:=Nat.lt_of_lt_of_le gxl bb.size;replace gql:=Nat.lt_of_lt_of_le gql bb.size;rw [uH U j (n+2)] at gX;obtain ⟨S',hS'⟩:∃S',S'=kE (lim R) (n+3):=⟨_,rfl⟩;have hS'l:S'.length=n+3:=by rw [hS'];exact tD (by omega)
     have HS':=ag hS';have HS'l:=ag hS'l;have HP:=ag (rn (U:=U) (j:=j) (n:=n+2) hr);clear gR bb hneR hS' hS'l D7;go_wp2_with fail
     go_loopg [19] (n+3) (fun kn iv wx=>∃t:Nat,kn+t=n+3/\iv = .int .i64 (t:Int)/\Gr lmv 58 wx w2.heap.size (some ⟨gx,0,none⟩) c4 (U.take j++(S'.take t++(seg U j (n+2)).drop t)++(U.drop (j+(n+2)+1) ++ [0]))/\Gr lmv 58 wx w6.heap.size (some ⟨w6.heap.size,0,none⟩) K (List.replicate (j+1) 0++Qs)/\Nt wx (some adY) c5 Y/\Nt wx AR cR (lim R)/\Below w.heap.size w wx/\gx<wx.heap.size/\w6.heap.size<wx.heap.size)
     case atStart=>exact ⟨0,by omega,rfl,by simpa using gX,gQ,nY,nR,bw,gxl,gql⟩
     case round=>
      obtain ⟨t,hkt,rfl,gX,gQ,nY,nR,bw,gxl,gql⟩:=hrel;have D8:=ag hkt;have ht3:t<=n+3:=by omega
      clear hkt;by_cases hlt:t<=n+2
      ·have hlt1:(t:Int)<=(n:Int)+2:=by omega
       have hSlt:t<(S'.take t++(seg U j (n+2)).drop t).length:=by
        have h1:=HS'l.o;have h2:=HSg.o;simp;omega
       have hcell:=gX.cell (j+t) (by have:=HP.o;have:=HS'l.o;have:=HSg.o;simp;omega)
       have hfree:=gX.free (j+t);have g1:=zR gX HP.o hSlt 0;have hl1:IntKind.i64.wrap ((j:Int)+t)=(j:Int)+t:=IntWalk.i64_in _ (by omega)
       obtain ⟨v0,hv0⟩:∃v0,v0=(U.take j++(S'.take t++(seg U j (n+2)).drop t)++(U.drop (j+(n+2)+1) ++ [0]))[j+t]'(by have:=HP.o;have:=HS'l.o;have:=HSg.o;simp;omega):=⟨_,rfl⟩
       rw [<-hv0] at hcell;have hjt:j+t<L+1:=by omega
       have hSS:=HS'.o;have fl:=ag g1;have GX:=ag gX;have GQ:=ag gQ;have Fg:=ag hSlt;clear hv0 gX gQ g1 hSlt;by_cases htr:t<(lim R).length
       ·obtain ⟨adR,hAR,hbR,hcR,hvR⟩:=nR.at t htr;subst hAR;have hcR2:(wr.setCell ⟨gx,j+t,none⟩ (lmv 0)).cell? (adR.add t)=some (.int .u32 ((lim R)[t]:Int)):=by
         rw [World.cell?_setCell_far _ _ _ _ (by rw [aM];exact fun h=>Ab.o adR rfl h.symm)];exact hcR
        have hcR3:(wr.setCell ⟨gx,j+t,none⟩ (.int .u32 0)).cell? (adR.add t)=some (.int .u32 ((lim R)[t]:Int)):=hcR2;have hSt:(lim R)[t]=S'[t]'(by have:=HS'l.o;omega):=by
         have:S'[t]'(by have:=HS'l.o;omega)=(kE (lim R) (n+3))[t]'(by rw [<-hSS];have:=HS'l.o;omega):=by simp only [hSS]
         rw [this,BG htr]
        have js:=ag hSt;clear hSS hSt hcR2;go_wp2_with fail
        go_roundg (n+3-(t+1))
        case measure=>have:=D8.o;omega
        case rel=>
         refine ⟨t+1,by omega,by go_num,?_,(GQ.o.far (by intro a e;injection e with e;subst e;simp;omega) _).far (by intro a e;injection e with e;subst e;simp;omega) _,dH (dH nY (by intro a e;injection e with e;subst e;exact hneY) _) (by intro a e;injection e with e;subst e;exact hneY) _,dH (dH nR (by intro a e;exact Ab.o a e) _) (by intro a e;exact Ab.o a e) _,(bw.setCell (p:=⟨gx,j+t,none⟩) (by simp;omega) _).setCell (p:=⟨gx,j+t,none⟩) (by simp;omega) _,by simpa [World.setCell] using gxl,by simpa [World.setCell] using gql⟩
         have h1:=zR fl.o HP.o (by rw [List.length_set];exact Fg.o) (lim R)[t]
         rw [List.set_set,vZ (by have:=HS'l.o;omega) (by rw [HS'l.o,HSg.o]) _ js.o] at h1
         exact h1
       ·have htr1:decide ((t:Int)<((lim R).length:Int))=false:=decide_eq_false (by omega)
        have htr2:decide (t<(lim R).length)=false:=decide_eq_false htr;have hSt:0=S'[t]'(by have:=HS'l.o;omega):=by
         have:S'[t]'(by have:=HS'l.o;omega)=(kE (lim R) (n+3))[t]'(by rw [<-hSS];have:=HS'l.o;omega):=by simp only [hSS]
         rw [this,zB htr]
        have js:=ag hSt;clear hSS hSt;go_wp2_with fail
        go_roundg (n+3-(t+1))
        case measure=>have:=D8.o;omega
        case rel=>
         refine ⟨t+1,by omega,by go_num,?_,GQ.o.far (by intro a e;injection e with e;subst e;simp;omega) _,dH nY (by intro a e;injection e with e;subst e;exact hneY) _,dH nR (by intro a e;exact Ab.o a e) _,bw.setCell (p:=⟨gx,j+t,none⟩) (by simp;omega) _,by simpa [World.setCell] using gxl,by simpa [World.setCell] using gql⟩
         have h1:=fl.o;rw [vZ (by have:=HS'l.o;omega) (by rw [HS'l.o,HSg.o]) _ js.o] at h1
         exact h1
      ·obtain rfl:t=n+3:=by omega
       have et:S'.take (n+3)=S':=List.take_of_length_le (by have:=HS'l.o;omega)
       have es:(seg U j (n+2)).drop (n+3) = []:=List.drop_eq_nil_of_le (by have:=HSg.o;omega)
       rw [et,es,List.append_nil,<-List.append_assoc] at gX;clear et es;have hnext:=HI.o.next nY.u ii.o (by rw [<-cq.o];exact B3.o) HS'l.o (by rw [HS'.o];exact zA (aC _) _) (by rw [HS'.o,BF,am,HR.o,ow.o,cq.o])
       rw [<-ow.o,<-cq.o,<-HQ.o] at hnext;have Fh:=ag hnext;have hcq:=gQ.cell j (by simp;omega)
       rw [List.getElem_append_left (by simp)] at hcq
       simp only [List.getElem_replicate] at hcq;have hfq:=gQ.free j;have hlt1:¬(((n+3:Nat):Int)<=(n:Int)+2):=by omega
       have hlt2:decide (((n+3:Nat):Int)<=(n:Int)+2)=false:=decide_eq_false hlt1;have hlt3:decide ((n:Int)+3<=(n:Int)+2)=false:=decide_eq_false (by omega)
       have hwq:IntKind.u32.wrap (Q:Int)=Q:=by rw [IntKind.wrap_u32];have:=D6.o;omega
       have hjK:(j:Int)<K:=by omega
       have GX:=ag gX;have GQ:=ag gQ;clear hnext gX gQ;go_wp2_with fail
       go_roundg j
       case measure=>omega
       case rel=>exact ⟨_,_,by omega,rfl,Fh.o,GX.o.far (by intro a e;injection e with e;subst e;simp;omega) _,GQ.o.pull Q,dH nY (by intro a e;injection e with e;subst e;have:=hbYq;simp;exact this) _,bw.setCell (p:=⟨w6.heap.size,j,none⟩) (by simp;omega) _,by simpa [World.setCell] using gxl,by simpa [World.setCell] using gql⟩
end Go.Proofs.YtkpfbekmaafehaaGreat
