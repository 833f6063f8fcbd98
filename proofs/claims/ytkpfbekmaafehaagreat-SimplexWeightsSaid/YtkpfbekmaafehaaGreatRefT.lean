/- The walks of drydockref01: Bits, up, down, Shift -/
import Derived.Test.YtkpfbekmaafehaaGreatRefF
import Derived.Test.YtkpfbekmaafehaaGreatFrG
import Derived.Test.YtkpfbekmaafehaaGreatDivV
import Derived.Test.YtkpfbekmaafehaaGreatNatG
namespace Go.Proofs.YtkpfbekmaafehaaGreat
open _root_.Go.Proofs.Tryz
set_option maxHeartbeats 8000000
set_option maxRecDepth 100000
open Go.RowKit
theorem jR (w:World) (A:Option Addr) (c n:Nat) (xs:List Nat) (h:Nt w A c xs) (hn:n=xs.length) (hl:xs.length<=1000000) :
 Calls prog 77 #[.slice A n c] w fun e w'=>e = .returned (.int .i64 (aI (nv xs)))/\Below w.heap.size w w':=by
 subst hn;have h3:=ak h.u;go_enter func77,ntmps77;go_wp2_with fail;refine (aL w A c _ xs h rfl (by omega)).mono ?_
 rintro e w1 ⟨A1,c1,rfl,g1,b1⟩;have n1:=g1.nt (aC _);clear g1;by_cases h0:nv xs=0
 ·have hz1:(((lim (nv xs)).length:Int) == 0)=true:=by rw [h0,aV];rfl
  have H0:=ag h0;clear h0;go_wp2_with fail;go_ret;exact ⟨dV (by rw [H0.o];rfl),b1⟩
 ·have hp:=aX.2 h0;obtain ⟨k,hk1⟩:∃k,(lim (nv xs)).length=k+1:=⟨(lim (nv xs)).length-1,by omega⟩
  have htop:=qO (aC (nv xs)) k hk1.symm (ph _ k hk1.symm);rw [am] at htop;have hz1:(((k+1:Nat):Int) == 0)=false:=beq_eq_false_iff_ne.2 (by omega)
  have hz2:((k:Int)+1 == 0)=false:=beq_eq_false_iff_ne.2 (by omega)
  obtain ⟨ad,rfl,hb,hc,hlt⟩:=n1.at k (by omega)
  obtain ⟨x,hx⟩:∃x,x=(lim (nv xs))[k]'(by omega):=⟨_,rfl⟩
  rw [<-hx] at hc hlt htop;have HT:=ag htop;have hk2:k<=1000000:=by omega
  rw [hk1];clear hx h h0 hp h3 n1 htop hk1;go_wp2_with fail
  go_loop [3,4] (fun kk v=>∃(m V:Nat),kk = .int .i64 m/\v = .int .u32 V/\V<4294967296/\m+aI V=32*k+aI x/\m<=32*k+32) (fun _ v=>(intOf v).toNat)
  case atStart=>exact ⟨32*k,x,bL (by omega),rfl,hlt,by omega,by omega⟩
  case round=>
   obtain ⟨m,V,rfl,rfl,hV,hm,hm2⟩:=hrel;have HM:=ag hm;clear hm;by_cases hV0:V=0
   ·subst hV0;go_wp2_with fail;go_ret;exact ⟨dV (by rw [HT.o];have:=HM.o;rw [pE] at this;omega),b1⟩
   ·have hV1:(0:Int)<V:=by omega
    have hbv:=pF hV0;have hbx:aI x<=32:=by rw [bP];simpa using hlt
    have hmm:m+1<=32*k+32:=by have:=HM.o;omega
    have HB:=ag hbv;clear hbv hV0 hbx hm2;go_wp2_with fail
    go_round
    case rel=>exact ⟨m+1,V/2,by go_num,bL (by omega),by omega,by have:=HM.o;have:=HB.o;omega,by omega⟩
    case measure=>simp [intOf];omega
theorem Dr {C x s:Nat} (hC:C<2^s) (hx:x<4294967296) (hs:s<32):bits .or .u64 ((x:Int)*2^s) (C:Int)=((C+x*2^s:Nat):Int):=by
 have hp:=fj hs;have hb:=vE hC hx hp;have h:=u64_or_nat (x*2^s) C (by omega) (by omega)
 rw [nat_join s (x*2^s) C (by simp) hC] at h
 have e1:(((x*2^s:Nat)):Int)=(x:Int)*2^s:=(dL x s).symm;rw [e1] at h;rw [h,Int.natCast_add,e1];omega
theorem Bp (w:World) (A:Option Addr) (c n k:Nat) (kI:Int) (xs:List Nat) (h:Nt w A c xs) (hn:n=xs.length) (hk:kI=k) (hl:xs.length<=10000) (hkl:k<=100000) :
 Calls prog 104 #[.slice A n c, .int .i64 kI] w (fh w (lim (nv xs*2^k))):=by
 subst hn hk;have h3:=h.cap;have h4:=h.max;by_cases h0:xs = []
 ·subst h0;go_enter func104,ntmps104;go_wp2_with fail;go_ret;rw [aW,Nat.zero_mul,aV];exact ⟨none,0,rfl,Gr.nil _ _,ah _ _⟩
 ·have hpos:0<xs.length:=List.length_pos_iff.2 h0;have hz:((xs.length:Int) == 0)=false:=beq_eq_false_iff_ne.2 (by omega)
  clear h0;obtain ⟨wh,hwh⟩:∃wh,wh=k/32:=⟨_,rfl⟩;obtain ⟨s,hs⟩:∃s,s=k % 32:=⟨_,rfl⟩;have hwl:wh<=10000:=by omega
  have hs32:s<32:=by omega
  have e1:(k:Int)/32=(wh:Int):=by omega
  have e2:(k:Int) % 32=(s:Int):=by omega
  have e3:(k:Int).tmod 32=(s:Int):=by rw [Int.tmod_eq_emod_of_nonneg (by omega)];omega
  have e4:(k:Int).tdiv 32=(wh:Int):=by rw [Int.tdiv_eq_ediv_of_nonneg (by omega)];omega
  have uA:=ag hwh;have HS:=ag hs;clear hwh hs;obtain ⟨i0,hi,hz0,hz1,hz2⟩:=info_parts ch;go_enter func104,ntmps104;go_wp2_with (at_make;refine bp w (mk:=lmv) 0 rfl _ _ 27 rfl 58 i0 4 underlying27 hi hz0 hz1 hz2 rfl .i64 .i64 _ _ wh rfl rfl (by omega) (by omega) (by omega) (by simp only [maxLen];omega) ?_;intro w1 hg1 hb1 hs1)
  go_loopw [5,6,7] (fun o cy i wr=>∃(j C:Nat) (O:List Nat) (AO:Option Addr) (cO:Nat),j<=xs.length/\i = .int .i64 j/\cy = .int .u64 C/\o = .slice AO (wh+j) cO/\jI xs s j C O/\Gr lmv 58 wr w.heap.size AO cO (List.replicate wh 0++O)/\Below w.heap.size w wr) (fun _ _ i _=>xs.length-(intOf i).toNat)
  case atStart=>exact ⟨0,0,[],_,_,by omega,rfl,rfl,rfl,jI.start _ _,by simpa using hg1,hb1⟩
  case round=>
   obtain ⟨j,C,O,AO,cO,hj,rfl,rfl,rfl,hinv,hgr,hbr⟩:=hrel;have HI:=ag hinv;have hO:=hinv.2.1;have hlenO:wh+j=(List.replicate wh 0++O).length:=by simp [hO]
   have DZ:=ag hlenO;have HC:=ag hinv.1;have hC:C<4294967296:=by have:=fj hs32;have:=hinv.1;omega
   clear hinv hg1 hb1 hs1 hO hlenO;by_cases hlt:j<xs.length
   ·obtain ⟨adX,rfl,hbX,hcX,hvX⟩:=(h.below hbr).at j hlt;have hwr:=vB hvX hs32;obtain ⟨T,hT⟩:∃T,T=C+xs[j]*2^s:=⟨_,rfl⟩;have hor:bits .or .u64 ((xs[j]:Int)*2^s) (C:Int)=(T:Int):=by rw [Dr HC.o hvX hs32,hT]
    have hT64:T<9223372036854775808:=by rw [hT];exact vE HC.o hvX (fj hs32)
    have HT:=ag hT;clear hT;go_wp2_with (at_builtin;refine aD _ (mk:=lmv) (fun _=>rfl) rfl _ _ 27 rfl 58 i0 (.int .u32 0) 4 underlying27 hi hz0 hz1 hz2 rfl (B:=w.heap.size) (xs:=(List.replicate wh 0++O)) rfl DZ.o (hgr.below ((ah _ wr).alloc (Nat.le_refl _) _)) _ 1 1 [T % 4294967296] rfl rfl (Rd.one_ wr _ _ _ (bL (by omega))) (by simp only [maxLen];omega) (by omega) (by have:=hbr.size;simp;omega) ?_;intro A' c' w3 hgA hgrA hbA hatA)
    go_roundw
    case rel=>exact ⟨j+1,T/4294967296,O ++ [T % 4294967296],A',c',by omega,by go_num,bL (by omega),rfl,by rw [HT.o];exact HI.o.step h.u hlt,by rw [<-List.append_assoc];exact hgA,(hbr.alloc hbr.size _).trans hbA⟩
    case measure=>simp [intOf];omega
   ·obtain rfl:j=xs.length:=by omega
    have hfin:=HI.o.done hs32;have HF:=ag hfin;clear hfin;go_wp2_with (at_builtin;refine aD _ (mk:=lmv) (fun _=>rfl) rfl _ _ 27 rfl 58 i0 (.int .u32 0) 4 underlying27 hi hz0 hz1 hz2 rfl (B:=w.heap.size) (xs:=(List.replicate wh 0++O)) rfl DZ.o (hgr.below ((ah _ wr).alloc (Nat.le_refl _) _)) _ 1 1 [C] rfl rfl (Rd.one_ wr _ _ _ (bL (by omega))) (by simp only [maxLen];omega) (by omega) (by have:=hbr.size;simp;omega) ?_;intro A' c' w3 hgA hgrA hbA hatA)
    have hu:U32 (List.replicate wh 0++O ++ [C]):=by rw [List.append_assoc];exact (U32.replicate _).append HF.o.2.2
    have hv:nv (List.replicate wh 0++O ++ [C])=nv xs*2^k:=by
     rw [List.append_assoc,uA.o];exact tH (by rw [HF.o.2.1,HS.o])
    have hnt:=hgA.nt hu;have hll:=ak hu;have hl5:(List.replicate wh 0++O ++ [C]).length=wh+xs.length+1:=by have:=HF.o.1;simp at this|-;omega
    have a8:=aL w3 A' c' (wh+xs.length+1) _ hnt hl5.symm (by omega)
    rw [hv] at a8;have gD:=ag a8;have bw:=(hbr.alloc hbr.size _).trans hbA;clear a8 hnt hll hv hl5 hgA hgr hbA hatA hgrA;go_wp2_with fail;refine gD.o.mono ?_;rintro e w2 ⟨A2,c2,rfl,hg2,hb2⟩;go_wp2_with fail;go_ret;exact ⟨A2,c2,rfl,hg2.more fun ad e=>Nat.le_trans bw.size (hg2.form.2.2 ad e).1,qd bw hb2⟩
theorem xF (w:World) (A:Option Addr) (c n k:Nat) (kI:Int) (xs:List Nat) (h:Nt w A c xs) (hn:n=xs.length) (hk:kI=k) (hl:xs.length<=10000) (hkl:k<=100000) :
 Calls prog 103 #[.slice A n c, .int .i64 kI] w (fh w (lim (nv xs/2^k))):=by
 subst hn hk;have h3:=h.cap;have h4:=h.max;obtain ⟨wh,hwh⟩:∃wh,wh=k/32:=⟨_,rfl⟩;obtain ⟨s,hs⟩:∃s,s=k % 32:=⟨_,rfl⟩;have hwl:wh<=10000:=by omega
 have hs32:s<32:=by omega
 have e1:(k:Int)/32=(wh:Int):=by omega
 have e2:(k:Int) % 32=(s:Int):=by omega
 have e3:(k:Int).tmod 32=(s:Int):=by rw [Int.tmod_eq_emod_of_nonneg (by omega)];omega
 have e4:(k:Int).tdiv 32=(wh:Int):=by rw [Int.tdiv_eq_ediv_of_nonneg (by omega)];omega
 have uA:=ag hwh;have HS:=ag hs;clear hwh hs;obtain ⟨i0,hi,hz0,hz1,hz2⟩:=info_parts ch;by_cases hge:xs.length<=wh
 ·have hge1:(xs.length:Int)<=wh:=by omega
  have dn:=ag hge;go_enter func103,ntmps103;go_wp2_with fail;go_ret;rw [oM h.u (by rw [<-uA.o];exact dn.o),aV]
  exact ⟨none,0,rfl,Gr.nil _ _,ah _ _⟩
 ·have hge1:decide ((xs.length:Int)<=wh)=false:=decide_eq_false (by omega)
  have hge2:decide (xs.length<=wh)=false:=decide_eq_false (by omega)
  have hgt:wh<xs.length:=by omega
  clear hge;have XU:=ag h.u;go_enter func103,ntmps103;go_wp2_with fail;go_loopw [5,6] (fun o iv wr=>∃(j:Nat) (O:List Nat) (AO:Option Addr) (cO:Nat),wh+j<=xs.length/\iv = .int .i64 ((wh:Int)+j)/\o = .slice AO O.length cO/\O.length=j/\(∀t (ht:t<O.length),O[t]=nv xs/(pw wh*2^s)/pw t % 4294967296)/\Gr lmv 58 wr w.heap.size AO cO O/\Below w.heap.size w wr) (fun _ iv _=>xs.length-(intOf iv).toNat)
  case atStart=>exact ⟨0,[],none,0,by omega,bL (by omega),rfl,rfl,fun t ht=>absurd ht (by simp),Gr.nil _ _,ah _ _⟩
  case round=>
   obtain ⟨j,O,AO,cO,hj,rfl,rfl,hO,hOv,hgr,hbr⟩:=hrel;have HO:=ag hO;have HV:=ag hOv;have hOl:O.length<=10000:=by omega
   clear hO hOv;by_cases hlt:wh+j<xs.length
   ·obtain ⟨ad,hA,hbX,hcX,hvX⟩:=(h.below hbr).at (wh+j) hlt;subst hA;have hlt1:(wh:Int)+j<xs.length:=by omega
    obtain ⟨x,hx⟩:∃x,x=xs[wh+j]:=⟨_,rfl⟩;rw [<-hx] at hcX hvX;have uk:=ag hx;have hw5:IntKind.u64.wrap (x:Int)=x:=by rw [IntKind.wrap_u64];omega
    clear hx;by_cases hnx:wh+j+1<xs.length
    ·obtain ⟨ad2,hA,_,hcX2,hvX2⟩:=(h.below hbr).at (wh+j+1) hnx;injection hA with hA;subst hA;obtain ⟨y,hy⟩:∃y,y=xs[wh+j+1]:=⟨_,rfl⟩;rw [<-hy] at hcX2 hvX2;have hcX3:=kW hcX2;have hw6:IntKind.u64.wrap (y:Int)=y:=by rw [IntKind.wrap_u64];omega
     have hnx1:(wh:Int)+j+1<xs.length:=by omega
     obtain ⟨hd,hhd⟩:∃t,t=y*4294967296+x:=⟨_,rfl⟩;have hor:bits .or .u64 (x:Int) ((y:Int)*4294967296)=(hd:Int):=by rw [zD hvX hvX2,hhd]
     have ms:=ag hhd;have E5:=ag hy;clear hhd hy hcX2;go_wp2_with (at_builtin;refine aD _ (mk:=lmv) (fun _=>rfl) rfl _ _ 27 rfl 58 i0 (.int .u32 0) 4 underlying27 hi hz0 hz1 hz2 rfl (B:=w.heap.size) (xs:=O) rfl rfl (hgr.below ((ah _ wr).alloc (Nat.le_refl _) _)) _ 1 1 [hd/2^s % 4294967296] rfl rfl (Rd.one_ wr _ _ _ (bL (jg hd s))) (by simp only [maxLen];omega) (by omega) (by have:=hbr.size;simp;omega) ?_;intro A' c' w3 hgA hgrA hbA hatA)
     go_roundw
     case rel=>
      refine ⟨j+1,O ++ [hd/2^s % 4294967296],A',c',by omega,bL (by omega),by simp,by have:=HO.o;simp;omega,?_,hgA,(hbr.alloc hbr.size _).trans hbA⟩
      intro t ht;rcases Nat.lt_or_ge t O.length with h1|h1
      ·rw [List.getElem_append_left h1];exact HV.o t h1
      ·have ht1:t=j:=by have:=HO.o;simp at ht;omega
       subst ht1;rw [List.getElem_append_right h1];simp only [List.getElem_singleton];rw [ms.o];have:=qI XU.o hs32 (wh:=wh) (i:=t) (by omega)
       rw [<-this]
       (rw [uk.o,E5.o,List.getD_eq_getElem?_getD,List.getElem?_eq_getElem hnx,Option.getD_some])
     case measure=>simp [intOf];omega
    ·have hnx1:decide ((wh:Int)+j+1<xs.length)=false:=decide_eq_false (by omega)
     have hnx2:decide (wh+j+1<xs.length)=false:=decide_eq_false hnx;obtain ⟨hd,hhd⟩:∃t,t=x:=⟨_,rfl⟩;have ms:=ag hhd;rw [<-hhd] at hcX hw5 hvX uk;clear hhd;go_wp2_with (at_builtin;refine aD _ (mk:=lmv) (fun _=>rfl) rfl _ _ 27 rfl 58 i0 (.int .u32 0) 4 underlying27 hi hz0 hz1 hz2 rfl (B:=w.heap.size) (xs:=O) rfl rfl (hgr.below ((ah _ wr).alloc (Nat.le_refl _) _)) _ 1 1 [hd/2^s % 4294967296] rfl rfl (Rd.one_ wr _ _ _ (bL (jg hd s))) (by simp only [maxLen];omega) (by omega) (by have:=hbr.size;simp;omega) ?_;intro A' c' w3 hgA hgrA hbA hatA)
     go_roundw
     case rel=>
      refine ⟨j+1,O ++ [hd/2^s % 4294967296],A',c',by omega,bL (by omega),by simp,by have:=HO.o;simp;omega,?_,hgA,(hbr.alloc hbr.size _).trans hbA⟩
      intro t ht;rcases Nat.lt_or_ge t O.length with h1|h1
      ·rw [List.getElem_append_left h1];exact HV.o t h1
      ·have ht1:t=j:=by have:=HO.o;simp at ht;omega
       subst ht1;rw [List.getElem_append_right h1];simp only [List.getElem_singleton];rw [ms.o];have:=qI XU.o hs32 (wh:=wh) (i:=t) (by omega)
       rw [<-this]
       (rw [<-ms.o,uk.o,List.getD_eq_getElem?_getD,List.getElem?_eq_none (by omega),Option.getD_none,Nat.zero_mul,Nat.zero_add])
     case measure=>simp [intOf];omega
   ·have hj2:j=xs.length-wh:=by omega
    have hlt1:decide ((wh:Int)+j<xs.length)=false:=decide_eq_false (by omega)
    have hRu:U32 O:=pR fun t ht=>by rw [HV.o t ht];exact Nat.mod_lt _ (by omega)
    have hval:nv O=nv xs/2^k:=
     pJ h.u (k:=k) (R:=O) (by rw [<-uA.o];exact hgt) (by rw [<-uA.o,HO.o];exact hj2) (by rw [<-uA.o,<-HS.o];exact HV.o)
    have hll:=ak hRu;have a8:=aL wr AO cO _ O (hgr.nt hRu) rfl (by omega)
    rw [hval] at a8;have HC:=ag a8;clear a8 hgr hval hj2 hll;go_wp2_with fail;refine HC.o.mono ?_;rintro e w2 ⟨A2,c2,rfl,hg2,hb2⟩;go_wp2_with fail;go_ret;exact ⟨A2,c2,rfl,hg2.more fun ad e=>Nat.le_trans hbr.size (hg2.form.2.2 ad e).1,qd hbr hb2⟩
theorem pow512 (e:Nat) (he:e=32*512):pw 512=2^e:=by rw [he];exact jy 512
theorem shiftS_down2 {m k:Nat} (h:¬ 512<(lim m).length) (h0:m≠0) (h2:k<=16384) (h3:0<k):shiftS m (-(k:Int))=(lim (m/2^k),0):=by
 by_cases hk:k=16384
 ·have h1:=(aA m 512).1 (by omega)
  rw [pow512 k hk] at h1;rw [shiftS_low h (by omega),Nat.div_eq_of_lt h1,aV]
 ·exact shiftS_down h h0 (by omega) h3
theorem xE (w:World) (A:Option Addr) (c N k:Nat) (kI:Int) (h:Nt w A c (lim N)) (hk:kI=k) (hl:(lim N).length<=10000) (hkl:k<=100000) :
 Calls prog 103 #[.slice A (lim N).length c, .int .i64 kI] w (fh w (lim (N/2^k))):=by
 have:=xF w A c _ k kI (lim N) h rfl hk hl hkl
 rwa [am] at this
theorem Bo (w:World) (A:Option Addr) (c N k:Nat) (kI:Int) (h:Nt w A c (lim N)) (hk:kI=k) (hl:(lim N).length<=10000) (hkl:k<=100000) :
 Calls prog 104 #[.slice A (lim N).length c, .int .i64 kI] w (fh w (lim (N*2^k))):=by
 have:=Bp w A c _ k kI (lim N) h rfl hk hl hkl
 rwa [am] at this
theorem len_mul_pow {m k:Nat} (hm:(lim m).length<=512) (hk:k<=16384):(lim (m*2^k)).length<=1025:=by
 have h1:(lim (2^k)).length<=513:=by
  obtain ⟨e,he⟩:∃e,e=32*512:=⟨_,rfl⟩;have hke:k<=e:=by omega
  rw [aA,show pw 513=4294967296*pw 512 from gM 512,pow512 e he];clear he;have h2:2^k<=2^e:=Nat.pow_le_pow_right (by omega) hke
  have h3:0<2^e:=Nat.pow_pos (by omega)
  generalize 2^k=a at *;generalize 2^e=b at *;omega
 exact pi hm h1
theorem rshift_any (w:World) (A:Option Addr) (c n:Nat) (N:Int) (xs R:List Nat) (E:Int) (h:Nt w A c xs) (hn:n=xs.length) (hl:xs.length<=10000) (hr:shiftS (nv xs) N=(R,E)) :
 Calls prog 74 #[.slice A n c, .int .i64 N] w (jJ w R E):=by
 subst hn;have HR:=ag hr;clear hr;have hl1:=ak h.u;have hl3:(lim (nv xs)).length<=1000000:=by omega
 have h3:=h.cap;have h4:=h.max;by_cases hb:512<(lim (nv xs)).length
 ·go_enter func74,ntmps74;go_wp2_with fail;refine (aE _ A c _ xs true h rfl hl3 (by simp <;> omega)).mono ?_
  rintro e wn ⟨rfl,bb⟩;replace h:=h.below bb;have bw:=bb;clear bb;go_wp2_with fail
  go_ret2
  have e:=HR.o;rw [shiftS_big hb] at e;obtain ⟨rfl,rfl⟩:=Prod.mk.inj e;exact ⟨_,_,rfl,Nt.nil _ _ _ (by omega),bw⟩
 ·by_cases h0:nv xs=0
  ·have hz:(((lim (nv xs)).length:Int) == 0)=true:=by rw [h0,aV];rfl
   have H0:=ag h0;clear h0;go_enter func74,ntmps74;go_wp2_with fail;refine (aE _ A c _ xs false h rfl hl3 (by simp <;> omega)).mono ?_
   rintro e wn ⟨rfl,bb⟩;replace h:=h.below bb;have bw:=bb;clear bb;go_wp2_with fail;refine (aL _ A c _ xs h rfl hl3).mono ?_;rintro e wn ⟨A1,c1,rfl,g1,bb⟩;have n1:=g1.nt (aC _);replace bw:=qd bw bb;clear g1 bb;go_wp2_with fail
   go_ret2
   have e:=HR.o;rw [shiftS_zero H0.o] at e;obtain ⟨rfl,rfl⟩:=Prod.mk.inj e;exact ⟨_,_,rfl,Nt.nil _ _ _ (by omega),bw⟩
  ·have hp:=aX.2 h0;have hz:(((lim (nv xs)).length:Int) == 0)=false:=beq_eq_false_iff_ne.2 (by omega)
   have H0:Hd (nv xs≠0):=h0;clear h0;by_cases hlow:N < -16384
   ·have hlow1:decide (N < -16384)=true:=decide_eq_true hlow;have q9:=ag hlow;clear hlow;go_enter func74,ntmps74;go_wp2_with fail;refine (aE _ A c _ xs false h rfl hl3 (by simp <;> omega)).mono ?_
    rintro e wn ⟨rfl,bb⟩;replace h:=h.below bb;have bw:=bb;clear bb;go_wp2_with fail;refine (aL _ A c _ xs h rfl hl3).mono ?_;rintro e wn ⟨A1,c1,rfl,g1,bb⟩;have n1:=g1.nt (aC _);replace bw:=qd bw bb;clear g1 bb;go_wp2_with fail
    go_ret2
    have e:=HR.o;rw [shiftS_low hb (Int.le_of_lt q9.o)] at e;obtain ⟨rfl,rfl⟩:=Prod.mk.inj e;exact ⟨_,_,rfl,Nt.nil _ _ _ (by omega),bw⟩
   ·have hlow1:decide (N < -16384)=false:=decide_eq_false hlow;by_cases hneg:N<0
    ·have hneg1:decide (N<0)=true:=decide_eq_true hneg;obtain ⟨k,hk⟩:∃k:Nat,-N=(k:Int):=⟨(-N).toNat,by omega⟩
     have HN:Hd (N = -(k:Int)):=ag (by omega)
     have hk5:k<=16384:=by omega
     have hk16:(k:Int)<=16384:=by omega
     have sR:=ag hk5;have ov:Hd (0<k):=ag (by omega)
     clear hlow hk5;go_enter func74,ntmps74;go_wp2_with fail;refine (aE _ A c _ xs false h rfl hl3 (by simp <;> omega)).mono ?_
     rintro e wn ⟨rfl,bb⟩;replace h:=h.below bb;have bw:=bb;clear bb;go_wp2_with fail;refine (aL _ A c _ xs h rfl hl3).mono ?_;rintro e wn ⟨A1,c1,rfl,g1,bb⟩;have n1:=g1.nt (aC _);replace bw:=qd bw bb;clear g1 bb;go_wp2_with fail;refine (xE _ A1 c1 _ k _ n1 (by omega) (by omega) (by have:=sR.o;omega)).mono ?_
     rintro e wn ⟨A3,c3,rfl,g3,bb⟩;have n3:=g3.nt (aC _);replace bw:=qd bw bb;clear g3 bb;go_wp2_with fail
     go_ret2
     have e:=HR.o;rw [HN.o,shiftS_down2 hb H0.o sR.o ov.o] at e;obtain ⟨rfl,rfl⟩:=Prod.mk.inj e;exact ⟨_,_,rfl,n3,bw⟩
    ·have hneg1:decide (N<0)=false:=decide_eq_false hneg;by_cases hhi:16384<N
     ·have hhi1:decide (16384<N)=true:=decide_eq_true hhi;have E6:=ag hhi;clear hhi hneg hlow;go_enter func74,ntmps74;go_wp2_with fail;refine (aE _ A c _ xs false h rfl hl3 (by simp <;> omega)).mono ?_
      rintro e wn ⟨rfl,bb⟩;replace h:=h.below bb;have bw:=bb;clear bb;go_wp2_with fail;refine (aL _ A c _ xs h rfl hl3).mono ?_;rintro e wn ⟨A1,c1,rfl,g1,bb⟩;have n1:=g1.nt (aC _);replace bw:=qd bw bb;clear g1 bb;go_wp2_with fail
      go_ret2
      have e:=HR.o;rw [shiftS_far H0.o E6.o] at e;obtain ⟨rfl,rfl⟩:=Prod.mk.inj e;exact ⟨_,_,rfl,Nt.nil _ _ _ (by omega),bw⟩
     ·have hhi1:decide (16384<N)=false:=decide_eq_false hhi;obtain ⟨k,hk⟩:∃k:Nat,N=(k:Int):=⟨N.toNat,by omega⟩
      have HN:=ag hk;have hk5:k<=16384:=by omega
      have sR:=ag hk5;have hlen:=len_mul_pow (show (lim (nv xs)).length<=512 by omega) hk5
      clear hlow hk5 hneg hhi hk;by_cases hs:512<(lim (nv xs*2^k)).length
      ·go_enter func74,ntmps74;go_wp2_with fail;refine (aE _ A c _ xs false h rfl hl3 (by simp <;> omega)).mono ?_
       rintro e wn ⟨rfl,bb⟩;replace h:=h.below bb;have bw:=bb;clear bb;go_wp2_with fail;refine (aL _ A c _ xs h rfl hl3).mono ?_;rintro e wn ⟨A1,c1,rfl,g1,bb⟩;have n1:=g1.nt (aC _);replace bw:=qd bw bb;clear g1 bb;go_wp2_with fail;refine (Bo _ A1 c1 _ k _ n1 HN.o (by omega) (by have:=sR.o;omega)).mono ?_
       rintro e wn ⟨A3,c3,rfl,g3,bb⟩;have n3:=g3.nt (aC _);replace bw:=qd bw bb;clear g3 bb;go_wp2_with fail;refine (iP _ A3 c3 _ true n3 (by omega) (by simpa using hs)).mono ?_
       rintro e wn ⟨rfl,bb⟩;replace bw:=qd bw bb;go_wp2_with fail
       go_ret2
       have e:=HR.o;rw [HN.o,shiftS_up hb H0.o (by have:=sR.o;omega),iC,if_pos hs] at e
       obtain ⟨rfl,rfl⟩:=Prod.mk.inj e;exact ⟨_,_,rfl,Nt.nil _ _ _ (by omega),bw⟩
      ·go_enter func74,ntmps74;go_wp2_with fail;refine (aE _ A c _ xs false h rfl hl3 (by simp <;> omega)).mono ?_
       rintro e wn ⟨rfl,bb⟩;replace h:=h.below bb;have bw:=bb;clear bb;go_wp2_with fail;refine (aL _ A c _ xs h rfl hl3).mono ?_;rintro e wn ⟨A1,c1,rfl,g1,bb⟩;have n1:=g1.nt (aC _);replace bw:=qd bw bb;clear g1 bb;go_wp2_with fail;refine (Bo _ A1 c1 _ k _ n1 HN.o (by omega) (by have:=sR.o;omega)).mono ?_
       rintro e wn ⟨A3,c3,rfl,g3,bb⟩;have n3:=g3.nt (aC _);replace bw:=qd bw bb;clear g3 bb;go_wp2_with fail;refine (iP _ A3 c3 _ false n3 (by omega) (by simpa using hs)).mono ?_
       rintro e wn ⟨rfl,bb⟩;replace n3:=n3.below bb;replace bw:=qd bw bb;clear bb;go_wp2_with fail
       go_ret2
       have e:=HR.o;rw [HN.o,shiftS_up hb H0.o (by have:=sR.o;omega),iC,if_neg hs] at e
       obtain ⟨rfl,rfl⟩:=Prod.mk.inj e;exact ⟨_,_,rfl,n3,bw⟩
theorem xJ {N n k:Nat} (hn:(lim N).length=n+2) (hk:k+aI N=32*(n+2)) :
 k<32/\(lim (N*2^k)).length=n+2/\2147483648*pw (n+1)<=N*2^k/\∀h:n+1<(lim (N*2^k)).length,2147483648<=(lim (N*2^k))[n+1]:=by
 have hN:N≠0:=by intro h;rw [h,aV] at hn;simp at hn
 have h1:pw (n+1)<=N:=(fL N (n+1)).1 (by omega)
 have h2:¬aI N<=32*(n+1):=by rw [bP,<-jy];omega
 have hb:aI (N*2^k)=32*(n+2):=by rw [yk _ _ hN];omega
 have h3:N*2^k<2^(32*(n+2)):=(bP _ _).1 (by omega)
 have h4:¬N*2^k<2^(32*(n+1)+31):=fun h=>by have:=(bP _ _).2 h;omega
 have h5:2^(32*(n+1)+31)=pw (n+1)*2147483648:=by rw [Nat.pow_add,<-jy]
 rw [<-jy] at h3;have h6:2147483648*pw (n+1)<=N*2^k:=by rw [h5] at h4;omega
 have hl:(lim (N*2^k)).length=n+2:=by
  have a:=(aA (N*2^k) (n+2)).2 h3;have b:=(fL (N*2^k) (n+1)).2 (by omega)
  omega
 refine ⟨by omega,hl,h6,fun h=>?_⟩
 have h7:=jT (lim (N*2^k)) (aC _) (n+1) (by omega) h
 rw [am] at h7;have h8:2147483648*pw (n+1)<((lim (N*2^k))[n+1]+1)*pw (n+1):=by omega
 have h9:=Nat.lt_of_mul_lt_mul_right h8;omega
theorem uP {M N n k K L:Nat} (hL:(lim (M*2^k)).length=L) (hK:L+1=n+2+K) (hV:pw (n+1)<=N*2^k):df (M*2^k) (lim (N*2^k)) (n+2) (L+1) K (lim (M*2^k) ++ [0]) []:=by
 have h:=df.start (V:=lim (N*2^k)) (U:=lim (M*2^k) ++ [0]) (M:=M*2^k) (n:=n) (m:=L) (K:=K) (s:=0) (by simp [hL]) ((aC _).append (U32.one (by omega))) hK (by rw [cj,am];simp [aT,aW]) ((aA _ _).1 (by omega)) (by rw [am];simpa using hV)
 simpa using h
def fC (nS nV g:Nat):Prop:=g<4294967296/\nS<(g+1)*nV
theorem fC.start {nS nV p top next u2 hd:Nat} (hp:0<p) (ht:0<top) (ht2:top<4294967296) (hv1:(top*4294967296+next)*p<=nV) (hS2:nS<(hd*4294967296+u2+1)*p) (h2:u2<4294967296) (hb:hd/top<4294967296):fC nS nV (hd/top):=by
 have h:=(bW.start hp ht ht2 hv1 hS2 h2).2.2.2.1;refine ⟨hb,?_⟩;rw [show (hd:Int)/top=((hd/top:Nat):Int) from (Int.natCast_ediv _ _).symm] at h
 exact_mod_cast h
theorem fC.most {nS nV:Nat} (h:nS<4294967296*nV):fC nS nV 4294967295:=⟨by omega,by simpa using h⟩
theorem fC.less {nS nV g:Nat} (h:fC nS nV g) (hgt:nS<nV*g):1<=g/\fC nS nV (g-1):=by
 have h0:1<=g:=by
  rcases Nat.eq_zero_or_pos g with h0|h0
  ·subst h0;simp at hgt
  ·exact h0
 exact ⟨h0,by have:=h.1;omega,by rw [show g-1+1=g from by omega,Nat.mul_comm];exact hgt⟩
theorem fC.done {nS nV g:Nat} (h:fC nS nV g) (hle:nV*g<=nS):g=nS/nV/\nS-nV*g=nS % nV:=by
 have hV:0<nV:=by
  rcases Nat.eq_zero_or_pos nV with h0|h0
  ·have:=h.2;rw [h0] at this;simp at this
  ·exact h0
 have hg:nS/nV=g:=by
  apply Nat.div_eq_of_lt_le
  ·rw [Nat.mul_comm];exact hle
  ·exact h.2
 refine ⟨hg.symm,?_⟩;have:=Nat.div_add_mod nS nV;rw [hg] at this;omega
def kE (l:List Nat) (n:Nat):List Nat:=l++List.replicate (n-l.length) 0
theorem tD {l:List Nat} {n:Nat} (h:l.length<=n):(kE l n).length=n:=by simp [kE];omega
theorem BF (l:List Nat) (n:Nat):nv (kE l n)=nv l:=by rw [kE,cj,iX];simp
theorem zA {l:List Nat} (h:U32 l) (n:Nat):U32 (kE l n):=h.append (U32.replicate _)
theorem BG {l:List Nat} {n t:Nat} (h:t<l.length) (h2:t<(kE l n).length):(kE l n)[t]=l[t]:=by simp only [kE];rw [List.getElem_append_left h]
theorem zB {l:List Nat} {n t:Nat} (h:¬t<l.length) (h2:t<(kE l n).length):(kE l n)[t]=0:=by simp only [kE];rw [List.getElem_append_right (by omega)];simp
theorem vZ {A B:List Nat} {t:Nat} (hA:t<A.length) (hAB:A.length=B.length) (v:Nat) (hv:v=A[t]):(A.take t++B.drop t).set t v=A.take (t+1)++B.drop (t+1):=by
 have ht:(A.take t).length=t:=by simp;omega
 rw [List.set_append_right _ _ (by omega),ht,Nat.sub_self,List.drop_eq_getElem_cons (show t<B.length by omega),List.set_cons_zero,List.take_succ_eq_append_getElem hA,hv,List.append_assoc]
 rfl
end Go.Proofs.YtkpfbekmaafehaaGreat
