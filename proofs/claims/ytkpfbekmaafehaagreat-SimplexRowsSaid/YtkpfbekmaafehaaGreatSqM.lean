/- The walk of a tableau's improve -/
import Derived.Test.YtkpfbekmaafehaaGreatSqD
import Derived.Test.YtkpfbekmaafehaaGreatSqB
import Derived.Test.YtkpfbekmaafehaaGreatSqL
namespace Go.Proofs.YtkpfbekmaafehaaGreat
set_option maxRecDepth 100000
open Go.RowKit
section
variable {m n most:Nat} {c:Nat→Rat} {T:Nat→Nat→Rat} {B:Nat→Nat}
theorem Cf {s:Nat}:∀f j,j≤s→s<j+f→cE m c T B s<0→(∀k,j≤k→k<s→0≤cE m c T B k)→fG m c T B f j=some s:=by
 intro f
 induction f with
 | zero=>intro j h1 h2;omega
 | succ f ih=>
   intro j h1 h2 h3 h4;rw [fG];by_cases h:j=s
   ·subst h;rw [if_pos h3]
   ·have:=h4 j (Nat.le_refl _) (by omega)
    rw [if_neg (by grind)]
    exact ih (j+1) (by omega) (by omega) h3 (fun k k1 k2=>h4 k (by omega) k2)
theorem Ai:∀f j,(∀k,j≤k→k<j+f→0≤cE m c T B k)→fG m c T B f j=none:=by
 intro f
 induction f with
 | zero=>intro j _;rfl
 | succ f ih=>
   intro j h;rw [fG];have:=h j (Nat.le_refl _) (by omega)
   rw [if_neg (by grind)]
   exact ih (j+1) (fun k k1 k2=>h k (by omega) (by omega))
theorem zQ {x:St} {t s i:Nat} (h:gZ m n most c (itP m n most c x t)=some (s,i)):itP m n most c x (t+1)=⟨bY (itP m n most c x t).T i s,cg (itP m n most c x t).B i s⟩:=by
 show ri m n most c (itP m n most c x t)=_
 rw [ri,h]
theorem xH {x:St} {s i:Nat} (he:fG m c x.T x.B most 0=some s) (hl:dw x.T x.B (n+m) s m=some i):gZ m n most c x=some (s,i):=by
 rw [gZ,he];simp only [hl]
theorem xI {x:St} (he:fG m c x.T x.B most 0=none):gZ m n most c x=none:=by rw [gZ,he]
theorem zE {x:St} {s:Nat} (he:fG m c x.T x.B most 0=some s) (hl:dw x.T x.B (n+m) s m=none):gZ m n most c x=none:=by
 rw [gZ,he];simp only [hl]
end
set_option maxHeartbeats 4000000 in
theorem ky (w:World) (B:Nat) (L:Lay) (x:St) (A:Option Addr) (cc:Nat) (vs:List Fx) (c:Nat→Rat) (most K:Nat) (h:Tw w B L x) (hc:Cl w A vs c) (hA:0<vs.length→∀ad,A=some ad→¬L.S ad.block) (hl:vs.length=L.n+L.gs.length) (hmost:most≤L.n) (hN:L.N≤1000)
 (hB:∀t,t≤K→∀i,i<L.gs.length→(itP L.gs.length L.n most c x t).B i<L.n+L.gs.length) (hf:∀t,t≤K→Fit L.gs.length L.n c (itP L.gs.length L.n most c x t)) (hK:gZ L.gs.length L.n most c (itP L.gs.length L.n most c x K)=none) :
 Calls Tryz.prog 52 #[.pointer (some ⟨L.G,0,none⟩), .slice A vs.length cc, .int .i64 (most:Int)] w fun e w'=>∃t,t≤K∧e = .returned (.int .i64 (rK (fG L.gs.length c (itP L.gs.length L.n most c x t).T (itP L.gs.length L.n most c x t).B most 0)))∧gZ L.gs.length L.n most c (itP L.gs.length L.n most c x t)=none∧Tw w' B L (itP L.gs.length L.n most c x t)∧Kp L.S w w':=by
 have HNL:Hid (L.N=L.n+L.gs.length+1):=ag rfl;have HT:=ag h;have HC:=ag hc;have HA:=ag hA;have HL:=ag hl;have HMO:=ag hmost;have HB:=ag hB;have HF:=ag hf;have HK:=ag hK;have hml:most≤1000:=by have:=HNL.out;omega
 obtain ⟨m,hm⟩:∃m,L.gs.length=m:=⟨_,rfl⟩;obtain ⟨X,hX⟩:∃X,itP L.gs.length L.n most c x=X:=⟨_,rfl⟩;rw [hX] at HB HF HK⊢;rw [hm] at HB HF HK HL HNL⊢;have HM:=ag hm;have HX:Hid (itP m L.n most c x=X):=ag (by rw [←hm];exact hX)
 have HX0:Hid (X 0=x):=ag (by rw [←HX.out];rfl)
 clear h hc hA hl hmost hB hf hK hm hX;go_enter Tryz.func52,Tryz.ntmps52;go_wp2_with fail
 go_loopg [7] (K*(most+2)+(most+1)) (fun kn jv wr=>∃t j:Nat,kn=(K-t)*(most+2)+(most+1-j)∧t≤K∧j≤most∧jv = .int .i64 j∧(∀k,k<j→0≤cE m c (X t).T (X t).B k)∧Tw wr B L (X t)∧Kp L.S w wr)
 case atStart=>exact ⟨0,0,by simp,by omega,by omega,rfl,(fun k hk=>by omega),by rw [HX0.out];exact HT.out,Kp.refl _ _⟩
 case round=>
  obtain ⟨t,j,hkn,ht,hj,rfl,hlow,tw,kp⟩:=hrel;have HKN:=ag hkn;have HLOW:=ag hlow;have HTW:=ag tw;have HKP:=ag kp;clear hkn hlow tw kp;by_cases hlt:j<most
  ·have hcall:=rj wr B L (X t) A cc vs c j HTW.out (HC.out.kp HKP.out HT.out.q.nl HA.out) (by rw [HM.out];exact HL.out) (by have:=HMO.out;omega) (by rw [HM.out];exact HB.out t ht) hN (by rw [HM.out];exact HF.out t ht)
   rw [HM.out] at hcall;have HCALL:=ag hcall;clear hcall;obtain ⟨z,hz⟩:∃z,bA (cE m c (X t).T (X t).B j) 0=z:=⟨_,rfl⟩;have HZ:=ag hz;have HSR:Hid (Sz (cE m c (X t).T (X t).B j) 128 128):=ag ((((HF.out t ht).cs j (by have:=HMO.out;omega)).sub ((HF.out t ht).dt j (by have:=HMO.out;omega) _ (Nat.le_refl _))).mono (by omega) (by omega))
   by_cases h0:0≤z
   ·have HN0:Hid (0≤cE m c (X t).T (X t).B j):=ag (by
     rcases du (cE m c (X t).T (X t).B j) 0 with ⟨k1,k2⟩|⟨k1,k2⟩|⟨k1,k2⟩
     ·rw [hz] at k2;omega
     ·grind
     ·grind)
    clear hz;go_wp2_with fail;refine HCALL.out.mono ?_;rintro e w4 ⟨y,rfl,el,bb⟩;go_wp2_with fail;refine (aU w4 y _ z el HSR.out HZ.out).mono ?_;rintro e w5 ⟨rfl,b5⟩;go_wp2_with fail
    go_roundg ((K-t)*(most+2)+(most+1-(j+1)))
    case rel=>exact ⟨t,j+1,rfl,ht,by omega,by go_num,(fun k hk=>by
     rcases Nat.lt_or_ge k j with k1|k1
     ·exact HLOW.out k k1
     ·obtain rfl:k=j:=by omega
      exact HN0.out),(HTW.out.below bb).below b5,(HKP.out.then bb).then b5⟩
    case measure=>have:=HKN.out;omega
   ·have HNEG:Hid (cE m c (X t).T (X t).B j<0):=ag (by
     rcases du (cE m c (X t).T (X t).B j) 0 with ⟨k1,k2⟩|⟨k1,k2⟩|⟨k1,k2⟩
     ·exact k1
     ·rw [hz] at k2;omega
     ·rw [hz] at k2;omega)
    clear hz;have HENT:Hid (fG m c (X t).T (X t).B most 0=some j):=ag (Cf most 0 (by omega) (by omega) HNEG.out (fun k _ k2=>HLOW.out k k2))
    have hb1:(decide (0≤z))=false:=decide_eq_false h0;go_wp2_with fail;refine HCALL.out.mono ?_;rintro e w4 ⟨y,rfl,el,bb⟩;go_wp2_with fail;refine (aU w4 y _ z el HSR.out HZ.out).mono ?_;rintro e w5 ⟨rfl,b5⟩;replace HTW:=ag ((HTW.out.below bb).below b5);replace HKP:=ag ((HKP.out.then bb).then b5)
    clear bb b5 el HCALL HZ;have hcall:=uD w5 B L (X t) j HTW.out (by have:=HMO.out;omega) hN (fun i hi=>by have:=HB.out t ht i (by rw [←HM.out];exact hi);have:=HNL.out;omega) (by rw [HM.out];exact (HF.out t ht).el)
    rw [HM.out] at hcall
    cases hla:dw (X t).T (X t).B (L.n+m) j m with
    | none=>
      rw [hla] at hcall;have HCALL:=ag hcall;have HLA:=ag hla;clear hcall hla;go_wp2_with fail;refine HCALL.out.mono ?_;rintro e w6 ⟨rfl,b6⟩;rw [show rK none = -1 from rfl];go_wp2_with fail;go_ret;exact ⟨t,ht,by rw [HENT.out];rfl,zE HENT.out HLA.out,HTW.out.below b6,HKP.out.then b6⟩
    | some i=>
      rw [hla,show rK (some i)=(i:Int) from rfl] at hcall;have HCALL:=ag hcall;have HNX:Hid (gZ m L.n most c (X t)=some (j,i)):=ag (xH HENT.out hla);obtain ⟨l1,l2,_,_⟩:=mI _ _ hla;have HTK:Hid (t<K):=ag (by
       rcases Nat.lt_or_ge t K with k1|k1
       ·exact k1
       ·exfalso
        have e:t=K:=by omega
        have:=HNX.out;rw [e,HK.out] at this;cases this)
      have HXN:Hid (X (t+1)=⟨bY (X t).T i j,cg (X t).B i j⟩):=ag (by
       have:=HNX.out;rw [←HX.out] at this⊢;exact zQ this)
      have HIM:Hid (i<m):=ag l1;have HNZ:Hid ((X t).T i j≠0):=ag (kt l2);have hi0:¬(i:Int)<0:=by omega
      clear hcall hla l1 l2;go_wp2_with fail;refine HCALL.out.mono ?_;rintro e w6 ⟨rfl,b6⟩;replace HTW:=ag (HTW.out.below b6);replace HKP:=ag (HKP.out.then b6)
      clear b6 HCALL;go_wp2_with fail;refine (oK w6 B L (X t) i j HTW.out (by rw [HM.out];exact HIM.out) (by have:=HMO.out;omega) HNZ.out hN (by rw [HM.out];exact (HF.out t ht).el) (by
       rw [HM.out];have:=(HF.out (t+1) HTK.out).el;rw [HXN.out] at this;exact this)).mono ?_
      rintro e w7 ⟨rfl,t7,k7⟩;have HT7:Hid (Tw w7 B L (X (t+1))):=ag (by rw [HXN.out];exact t7)
      have HK7:=ag (HKP.out.trans k7);clear t7 k7;go_wp2_with fail
      go_roundg ((K-(t+1))*(most+2)+(most+1))
      case rel=>exact ⟨t+1,0,rfl,HTK.out,by omega,by go_num,(fun k hk=>by omega),HT7.out,HK7.out⟩
      case measure=>
       have:=HKN.out;have e:K-t=(K-(t+1))+1:=by have:=HTK.out;omega
       rw [e,Nat.add_mul] at this;omega
  ·obtain rfl:j=most:=by omega
   have HENT:Hid (fG m c (X t).T (X t).B j 0=none):=ag (Ai j 0 (fun k _ k2=>HLOW.out k (by omega)))
   go_wp2_with fail;go_ret;exact ⟨t,ht,by rw [HENT.out];rfl,xI HENT.out,HTW.out,HKP.out⟩
set_option maxRecDepth 100000
open Go.RowKit
theorem BU {g:Nat→Rat} {s:Nat}:∀f j,j≤s→s<j+f→g s≠0→(∀k,j≤k→k<s→g k=0)→nw g f j=some s:=by
 intro f
 induction f with
 | zero=>intro j h1 h2;omega
 | succ f ih=>
   intro j h1 h2 h3 h4;rw [nw];by_cases h:j=s
   ·subst h;rw [if_neg h3]
   ·rw [if_pos (h4 j (Nat.le_refl _) (by omega))]
    exact ih (j+1) (by omega) (by omega) h3 (fun k k1 k2=>h4 k (by omega) k2)
theorem zW {g:Nat→Rat}:∀f j,(∀k,j≤k→k<j+f→g k=0)→nw g f j=none:=by
 intro f
 induction f with
 | zero=>intro j _;rfl
 | succ f ih=>
   intro j h;rw [nw,if_pos (h j (Nat.le_refl _) (by omega))]
   exact ih (j+1) (fun k k1 k2=>h k (by omega) (by omega))
theorem yf {n i:Nat} {x:St} (h:x.B i<n):iJ n x i=x:=by rw [iJ,if_neg (by omega)]
theorem yg {n i:Nat} {x:St} (h:∀k,k<n→x.T i k=0):iJ n x i=x:=by
 rw [iJ]
 split
 ·rw [zW n 0 (fun k _ k2=>h k (by omega))]
 ·rfl
theorem ye {n i j:Nat} {x:St} (hb:n≤x.B i) (hj:j<n) (h:∀k,k<j→x.T i k=0) (hn:x.T i j≠0):iJ n x i=⟨bY x.T i j,cg x.B i j⟩:=by
 rw [iJ,if_pos hb,BU n 0 (by omega) (by omega) hn (fun k _ k2=>h k k2)]
set_option maxHeartbeats 4000000 in
theorem uI (w:World) (B:Nat) (L:Lay) (x:St) (h:Tw w B L x) (hN:L.N≤1000) (hB:∀t,t≤L.gs.length→∀i,i<L.gs.length→(nA L.n x t).B i≤100000) (hf:∀t,t≤L.gs.length→∀i,i<L.gs.length→∀k,k≤L.n+L.gs.length→Sz ((nA L.n x t).T i k) 60 60) :
 Calls Tryz.prog 55 #[.pointer (some ⟨L.G,0,none⟩)] w fun e w'=>e = .returned (.tuple #[])∧Tw w' B L (nA L.n x L.gs.length)∧Kp L.S w w':=by
 have HNL:Hid (L.N=L.n+L.gs.length+1):=ag rfl;have HT:=ag h;have HB:=ag hB;have HF:=ag hf;have hnl:L.n≤1000:=by have:=HNL.out;omega
 have hml:L.gs.length≤1000:=by have:=HNL.out;omega
 have c0:=h.c0;clear h hB hf;go_enter Tryz.func55,Tryz.ntmps55;go_wp2_with fail;clear c0;go_loopw [9] (fun iv wr=>∃i:Nat,i≤L.gs.length∧iv = .int .i64 i∧Tw wr B L (nA L.n x i)∧Kp L.S w wr) (fun iv _=>L.gs.length-(intOf iv).toNat)
 case atStart=>exact ⟨0,by omega,rfl,HT.out,Kp.refl _ _⟩
 case round=>
  obtain ⟨i,hi,rfl,tw,kp⟩:=hrel;by_cases hlt:i<L.gs.length
  ·obtain ⟨y,hy⟩:∃y,nA L.n x i=y:=⟨_,rfl⟩;have HY:Hid (nA L.n x (i+1)=iJ L.n y i):=ag (by rw [←hy];rfl)
   have HYF:Hid (∀r,r<L.gs.length→∀k,k≤L.n+L.gs.length→Sz (y.T r k) 60 60):=ag (by rw [←hy];exact HF.out i hi)
   have HYB:Hid (y.B i≤100000):=ag (by rw [←hy];exact HB.out i hi i hlt)
   have HYG:Hid (∀r,r<L.gs.length→∀k,k≤L.n+L.gs.length→Sz ((iJ L.n y i).T r k) 60 60):=ag (by rw [←HY.out];exact HF.out (i+1) hlt)
   rw [hy] at tw;have HTW:=ag tw;have HKP:=ag kp;have HLT:=ag hlt;clear tw kp hy;obtain ⟨gi,hgi⟩:∃g,L.gs[i]=g:=⟨_,rfl⟩;have HGI:=ag hgi;clear hgi;go_wp2_with fail;go_loopw [3] (fun jv wr=>∃j:Nat,j≤L.n∧jv = .int .i64 j∧((Tw wr B L y∧(∀k,k<j→y.T i k=0))∨(Tw wr B L (iJ L.n y i)∧(iJ L.n y i).B i<L.n))∧Kp L.S w wr) (fun jv _=>L.n-(intOf jv).toNat)
   case atStart=>exact ⟨0,by omega,rfl, .inl ⟨HTW.out,fun k hk=>by omega⟩,HKP.out⟩
   case round=>
    clear HTW HKP;obtain ⟨j,hj,rfl,hor,kp⟩:=hrel;have HKP:=ag kp;clear kp;rcases hor with ⟨tw,hz⟩|⟨tw,hbl⟩
    ·obtain ⟨bi,hbi⟩:∃b,y.B i=b:=⟨_,rfl⟩;have HBI:=ag hbi;have c1:=tw.c1;have c2:=tw.c2;have cb:=(tw.q.bas HLT.out).1;rw [hbi] at cb;have HTW:=ag tw;have HZ0:=ag hz;have hb1:=HYB.out;rw [hbi] at hb1;clear tw hz hbi;by_cases hjn:j<L.n
     ·have q1:decide ((j:Int)<(L.n:Int))=true:=decide_eq_true (by omega)
      by_cases hbn:L.n≤bi
      ·have q2:decide ((L.n:Int)≤(bi:Int))=true:=decide_eq_true (by omega)
       go_upto_region 4 with fail
       go_cut [31] (fun v wx=>v = .bool true∧∃q,wx=wr.drewN q)
       case first=>
        go_quiet (fail)
        go_wp2
        go_meet
        case rel=>exact ⟨rfl,nq,rfl⟩
       case rest=>
        obtain ⟨rfl,nq,rfl⟩:=hcut;have hqb:=aJ (ah wr.heap.size wr) nq;replace HTW:=ag (HTW.out.below hqb);replace HKP:=ag (HKP.out.then hqb)
        clear q1 q2 c1 c2 cb hqb;generalize wr.drewN nq=wr at *;have hjN:j<L.N:=by have:=HNL.out;omega
        obtain ⟨xe,ev⟩:=HTW.out.elg HLT.out HGI.out hjN;have HEV:=ag ev;have c0:=HTW.out.c0;have cr:=HTW.out.rowg HLT.out HGI.out;have k0:=ev.c0;have k1:=ev.c1;have k2:=ev.c2;have HSE:Hid (Sz (y.T i j) 128 128):=ag (HYF.out i HLT.out j (by omega)).up
        clear ev;obtain ⟨z,hz⟩:∃z,bA (y.T i j) 0=z:=⟨_,rfl⟩;have HZ:=ag hz;by_cases h0:z=0
        ·subst h0;have HE:Hid (y.T i j=0):=ag ((aZ _).1 hz);clear hz;go_wp2_with fail;refine (aU wr xe _ 0 HEV.out.el HSE.out HZ.out).mono ?_;rintro e w5 ⟨rfl,bb⟩;go_wp2_with fail;go_roundw
         case rel=>exact ⟨j+1,by omega,by go_num, .inl ⟨HTW.out.below bb,fun k hk=>by
          rcases Nat.lt_or_ge k j with k1|k1
          ·exact HZ0.out k k1
          ·obtain rfl:k=j:=by omega
           exact HE.out⟩,HKP.out.then bb⟩
         case measure=>simp [intOf];omega
        ·have HNE:Hid (y.T i j≠0):=ag (fun hh=>h0 (by rw [←hz];exact (aZ _).2 hh))
         have HCL:Hid (iJ L.n y i=⟨bY y.T i j,cg y.B i j⟩):=ag (ye (by rw [HBI.out];exact hbn) hjn HZ0.out HNE.out)
         clear hz;have hb2:(z != 0)=true:=by simpa using h0
         go_wp2_with fail;refine (aU wr xe _ z HEV.out.el HSE.out HZ.out).mono ?_;rintro e w5 ⟨rfl,bb⟩;replace HTW:=ag (HTW.out.below bb);replace HKP:=ag (HKP.out.then bb)
         clear HZ bb HEV k0 k1 k2 c0 cr;go_wp2_with fail;refine (oK w5 B L y i j HTW.out HLT.out (by omega) HNE.out hN HYF.out (by have:=HYG.out;rw [HCL.out] at this;exact this)).mono ?_
         rintro e w7 ⟨rfl,t7,k7⟩;have HT7:Hid (Tw w7 B L (iJ L.n y i)):=ag (by rw [HCL.out];exact t7)
         have HBP:Hid ((iJ L.n y i).B i<L.n):=ag (by rw [HCL.out];show cg y.B i j i<L.n;rw [cg,if_pos rfl];exact hjn)
         have HK7:=ag (HKP.out.trans k7);clear t7 k7;go_wp2_with fail;go_roundw
         case rel=>exact ⟨j+1,by omega,by go_num, .inr ⟨HT7.out,HBP.out⟩,HK7.out⟩
         case measure=>simp [intOf];omega
      ·have q2:decide ((L.n:Int)≤(bi:Int))=false:=decide_eq_false (by omega)
       go_upto_region 4 with fail
       go_cut [31] (fun v wx=>v = .bool false∧∃q,wx=wr.drewN q)
       case first=>
        go_quiet (fail)
        go_wp2
        go_meet
        case rel=>exact ⟨rfl,nq,rfl⟩
       case rest=>
        obtain ⟨rfl,nq,rfl⟩:=hcut;have hqb:=aJ (ah wr.heap.size wr) nq;replace HTW:=ag (HTW.out.below hqb);replace HKP:=ag (HKP.out.then hqb)
        clear q1 q2 c1 c2 cb hqb;generalize wr.drewN nq=wr at *;have HCL:Hid (iJ L.n y i=y):=ag (yf (by rw [HBI.out];omega))
        go_wp2_with fail;go_roundw
        case rel=>exact ⟨i+1,by omega,by go_num,by rw [HY.out,HCL.out];exact HTW.out,HKP.out⟩
        case measure=>simp [intOf];omega
     ·have q1:decide ((j:Int)<(L.n:Int))=false:=decide_eq_false (by omega)
      go_upto_region 4 with fail
      go_cut [31] (fun v wx=>v = .bool false∧∃q,wx=wr.drewN q)
      case first=>
       go_quiet (fail)
       go_wp2
       go_meet
       case rel=>exact ⟨rfl,nq,rfl⟩
      case rest=>
       obtain ⟨rfl,nq,rfl⟩:=hcut;have hqb:=aJ (ah wr.heap.size wr) nq;replace HTW:=ag (HTW.out.below hqb);replace HKP:=ag (HKP.out.then hqb)
       clear q1 c1 c2 cb hqb;generalize wr.drewN nq=wr at *;have HCL:Hid (iJ L.n y i=y):=ag (yg (fun k hk=>HZ0.out k (by omega)))
       go_wp2_with fail;go_roundw
       case rel=>exact ⟨i+1,by omega,by go_num,by rw [HY.out,HCL.out];exact HTW.out,HKP.out⟩
       case measure=>simp [intOf];omega
    ·obtain ⟨y2,hy2⟩:∃y2,iJ L.n y i=y2:=⟨_,rfl⟩;rw [hy2] at tw hbl;have HY2:=ag hy2;obtain ⟨bi,hbi⟩:∃b,y2.B i=b:=⟨_,rfl⟩;have c1:=tw.c1;have c2:=tw.c2;have cb:=(tw.q.bas HLT.out).1;rw [hbi] at cb hbl;have HTW:=ag tw;clear tw hbi hy2;have hbn:¬L.n≤bi:=by omega
     have q2:decide ((L.n:Int)≤(bi:Int))=false:=decide_eq_false (by omega)
     go_upto_region 4 with fail
     go_cut [31] (fun v wx=>v = .bool false∧∃q,wx=wr.drewN q)
     case first=>
      by_cases hjn:j<L.n
      ·have q1:decide ((j:Int)<(L.n:Int))=true:=decide_eq_true (by omega)
       go_quiet (fail)
       go_wp2
       go_meet
       case rel=>exact ⟨rfl,nq,rfl⟩
      ·have q1:decide ((j:Int)<(L.n:Int))=false:=decide_eq_false (by omega)
       go_quiet (fail)
       go_wp2
       go_meet
       case rel=>exact ⟨rfl,nq,rfl⟩
     case rest=>
      obtain ⟨rfl,nq,rfl⟩:=hcut;have hqb:=aJ (ah wr.heap.size wr) nq;replace HTW:=ag (HTW.out.below hqb);replace HKP:=ag (HKP.out.then hqb)
      clear q2 c1 c2 cb hqb;generalize wr.drewN nq=wr at *;go_wp2_with fail;go_roundw
      case rel=>exact ⟨i+1,by omega,by go_num,by rw [HY.out,HY2.out];exact HTW.out,HKP.out⟩
      case measure=>simp [intOf];omega
  ·obtain rfl:i=L.gs.length:=by omega
   go_wp2_with fail
   go_end0
   exact ⟨rfl,tw,kp⟩
set_option maxRecDepth 100000
open Go.RowKit
theorem sF {α : Type} (f : α → Nat) (d : α) (l:List α):∀k,k≤l.length→((l.take k).map f).sum=bG (fun i=>f (l.getD i d)) k:=by
 intro k
 induction k with
 | zero=>intro _;rfl
 | succ k ih=>
   intro h;rw [List.take_succ_eq_append_getElem (by omega),List.map_append,List.sum_append,ih (by omega),bG,List.map_cons,List.map_nil,List.sum_cons,List.sum_nil,Nat.add_zero,bC _ _ _ (by omega)]
theorem xh (g:Nat→Nat→Nat) (n m:Nat):bG (fun i=>bG (g i) m) n=bG (fun j=>bG (fun i=>g i j) n) m:=by
 induction n with
 | zero=>
   have:∀m,bG (fun _=>0) m=0:=by
    intro m
    induction m with
    | zero=>rfl
    | succ m ih=>rw [bG,ih]
   show 0=bG (fun _=>0) m
   rw [this]
 | succ n ih=>
   have add:∀(a b:Nat→Nat) m,bG (fun j=>a j+b j) m=bG a m+bG b m:=by
    intro a b m
    induction m with
    | zero=>rfl
    | succ m ih=>rw [bG,bG,bG,ih];omega
   rw [bG,ih]
   show _=bG (fun j=>bG (fun i=>g i j) n+g n j) m
   rw [add]
theorem re {f g:Nat→Nat}:∀n,(∀i,i<n→f i=g i)→bG f n=bG g n:=by
 intro n
 induction n with
 | zero=>intro _;rfl
 | succ n ih=>intro h;rw [bG,bG,ih (fun i hi=>h i (by omega)),h n (by omega)]
theorem Bd (q:Rat):wgB (-q)=wgB q:=by
 unfold wgB;rw [Rat.neg_num,Rat.neg_den,Int.natAbs_neg];by_cases h:q=0
 ·rw [if_pos h,if_pos (by rw [h];rfl)]
 ·have e1:q = - -q:=by grind
  rw [if_neg h,if_neg (fun e=>h (by rw [e1,e];rfl))]
theorem vD (t:Bool) (q:Rat):wgB (sgT t*q)=wgB q:=by
 cases t
 ·rw [yK]
 ·rw [yJ,show ((0:Int):Rat)-q = -q by grind,Bd]
theorem qU (vs:List Fx):wlF vs=bG (fun i=>wgB (vs.getD i Fx.nil).q) vs.length:=by
 have:=sF (fun v:Fx=>wgB v.q) Fx.nil vs vs.length (Nat.le_refl _);rw [List.take_length] at this;exact this
theorem Pg.vd.wgt {p:Pg} (v:p.vd):Wgt p.rows.length p.cost.vs.length (dG p.rows.length p.cost.vs.length p.a p.b) p.c:=by
 refine ⟨iW,?_,v.r2⟩;have e1:wgA p.rows.length p.cost.vs.length (dG p.rows.length p.cost.vs.length p.a p.b)=(p.rows.map (fun r=>wlF r.vs)).sum:=by
  rw [wgA,xh];have h1:=sF (fun r:Sl=>wlF r.vs) ⟨none,0,[]⟩ p.rows p.rows.length (Nat.le_refl _);rw [List.take_length] at h1;rw [h1];refine re _ fun r hr=>?_;have hm:=List.getElem_mem hr;rw [qU,bC _ _ _ hr,v.la _ hm];refine re _ fun j hj=>?_;rw [kF hj,vD,Pg.a,bC _ _ _ hr]
 have e2:bG (fun r=>wgB (dG p.rows.length p.cost.vs.length p.a p.b r (p.cost.vs.length+p.rows.length))) p.rows.length=wlF p.right.vs:=by
  rw [qU,v.lb];refine re _ fun r hr=>?_;rw [oZ,vD,Pg.b]
 have e3:bG (fun j=>wgB (p.c j)) p.cost.vs.length=wlF p.cost.vs:=by rw [qU];rfl
 have w:=v.wt;omega
structure Sn where
 kind:Int
 X:Sl
 Y:Sl
 R:Sl
 v:Fx
abbrev Sn.cells (s:Sn):Array Value := #[.int .i64 s.kind,s.X.val,s.Y.val,s.R.val, .bool s.v.b, .slice s.v.A s.v.xs.length s.v.c, .slice s.v.D s.v.ys.length s.v.d]
abbrev Sn.val (s:Sn):Value := .agg s.cells
abbrev slN:Sl:=⟨none,0,[]⟩
structure Os (w:World) (B:Nat) (s:Sl) (N:Nat) (f:Nat→Rat):Prop where
 adr:∃g,s.A=some ⟨g,0,none⟩
 cap:s.c=N
 qr:Qr w B s.A s.vs
 len:s.vs.length=N
 rp:∀k (h:k<s.vs.length),Rp s.vs[k] (f k)
theorem Ou.os {w:World} {B g N:Nat} {f:Nat→Rat} (h:Ou w B g N (fun _=>True) f):∃vs:List Fx,vs.length=N∧Os w B ⟨some ⟨g,0,none⟩,N,vs⟩ N f:=by
 obtain ⟨vs,a,b,c⟩:=h.ex;exact ⟨vs,b,⟨g,rfl⟩,rfl,a,b,fun k hk=>c k hk trivial⟩
theorem Os.kp {w w':World} {B N:Nat} {s:Sl} {f:Nat→Rat} {S:Nat→Prop} (h:Os w B s N f) (k:Kp S w w') (nl:∀g,S g→NL w g) (hA:∀ad,s.A=some ad→¬S ad.block):Os w' B s N f:=⟨h.adr,h.cap,k.qr h.qr nl hA,h.len,h.rp⟩
theorem Os.mono {w:World} {B B' N:Nat} {s:Sl} {f:Nat→Rat} (h:Os w B s N f) (hB:B'≤B):Os w B' s N f:=by
 obtain ⟨g,hg⟩:=h.adr;refine ⟨h.adr,h.cap,⟨?_,h.qr.ok⟩,h.len,h.rp⟩;have:=h.qr.fr;unfold Fr at *;obtain ⟨h1,h2⟩:=this;refine ⟨h1,?_⟩;rcases h2 with h2|⟨g',cap,cur,hv,hb,r⟩
 ·exact .inl h2
 ·exact .inr ⟨g',cap,cur,hv,by omega,r⟩
inductive SolS (w:World) (B m n:Nat) (a:Nat→Nat→Rat) (b c:Nat→Rat) (s:Sn):Prop where
 | inf (y:St) (ok:Okx m n (dG m n a b) y) (nx:gZ m n n (bZ n) y=none) (pos:0<bV m (bZ n) y.T y.B (n+m)) (k:s.kind=2) (x:s.X=slN) (r:s.R=slN) (Y:Os w B s.Y m (kr m n b (bZ n) y)) (v:El w s.v 0)
 | opt (y:St) (ok:Okx m n (dG m n a b) y) (ar:Art m n m y) (nx:fG m (cV n c) y.T y.B n 0=none) (k:s.kind=1) (r:s.R=slN) (X:Os w B s.X n (jk m y.T y.B (n+m))) (Y:Os w B s.Y m (kr m n b (cV n c) y)) (v:El w s.v (bV m (cV n c) y.T y.B (n+m)))
 | unb (y:St) (ok:Okx m n (dG m n a b) y) (ar:Art m n m y) (t:Nat) (nx:fG m (cV n c) y.T y.B n 0=some t) (le:dw y.T y.B (n+m) t m=none) (k:s.kind=3) (y0:s.Y=slN) (X:Os w B s.X n (jk m y.T y.B (n+m))) (R:Os w B s.R n (fT m y.T y.B t)) (v:El w s.v 0)
structure Zs (w:World) (G:Nat):Prop where
 c0:w.cell? ⟨G,0,none⟩=some (.int .i64 0)
 c1:w.cell? ⟨G,1,none⟩=some (.slice none 0 0)
 c2:w.cell? ⟨G,2,none⟩=some (.slice none 0 0)
 c3:w.cell? ⟨G,3,none⟩=some (.slice none 0 0)
 c4:w.cell? ⟨G,4,none⟩=some (.bool false)
 c5:w.cell? ⟨G,5,none⟩=some (.slice none 0 0)
 c6:w.cell? ⟨G,6,none⟩=some (.slice none 0 0)
 fz:∀k,w.frozen? ⟨G,k,none⟩=false
 lt:G<w.heap.size
 nl:NL w G
theorem Zs.kp {w w':World} {G:Nat} {S:Nat→Prop} (h:Zs w G) (k:Kp S w w') (hG:¬S G):Zs w' G:=by
 have hc:∀o,w'.cell? ⟨G,o,none⟩=w.cell? ⟨G,o,none⟩:=fun o=>k.cell (p:=⟨G,o,none⟩) h.lt hG;obtain ⟨cur,t,e1,hn⟩:=h.nl;exact ⟨(hc 0).trans h.c0,(hc 1).trans h.c1,(hc 2).trans h.c2,(hc 3).trans h.c3,(hc 4).trans h.c4,(hc 5).trans h.c5,(hc 6).trans h.c6,fun o=>(k.frozen (p:=⟨G,o,none⟩) h.lt hG).trans (h.fz o),Nat.lt_of_lt_of_le h.lt k.size,cur,t,(k.block _ h.lt hG).trans e1,hn⟩
theorem Zs.below {w w':World} {G:Nat} (h:Zs w G) (hb:Below w.heap.size w w'):Zs w' G:=h.kp (fo (fun _=>False) hb) (fun h=>h)
theorem oC (w:World) (e:TypeId):Zs (w.alloc (.cells #[.int .i64 0, .slice none 0 0, .slice none 0 0, .slice none 0 0, .bool false, .slice none 0 0, .slice none 0 0] e)) w.heap.size:=by
 refine ⟨by go_simp,by go_simp,by go_simp,by go_simp,by go_simp,by go_simp,by go_simp,fun k=>by go_simp,by simp,_,_,heap_alloc_new w _,fun u hu=>?_⟩
 simp only [List.mem_cons,List.not_mem_nil,or_false] at hu;rcases hu with rfl|rfl|rfl|rfl|rfl|rfl|rfl <;> rfl
theorem Kp.set7 {S:Nat→Prop} {w w':World} {G:Nat} (h:Kp S w w') (hG:S G) (v0 v1 v2 v3 v4 v5 v6:Value) :
 Kp S w (((((((w'.setCell ⟨G,0,none⟩ v0).setCell ⟨G,1,none⟩ v1).setCell ⟨G,2,none⟩ v2).setCell ⟨G,3,none⟩ v3).setCell ⟨G,4,none⟩ v4).setCell ⟨G,5,none⟩ v5).setCell ⟨G,6,none⟩ v6):=
 ((((((h.set hG 0 v0).set hG 1 v1).set hG 2 v2).set hG 3 v3).set hG 4 v4).set hG 5 v5).set hG 6 v6
theorem SolS.kp {w w':World} {B m n:Nat} {a:Nat→Nat→Rat} {b c:Nat→Rat} {s:Sn} {S:Nat→Prop} (h:SolS w B m n a b c s) (k:Kp S w w') (nl:∀g,S g→NL w g) (hX:∀ad,s.X.A=some ad→¬S ad.block) (hY:∀ad,s.Y.A=some ad→¬S ad.block) (hR:∀ad,s.R.A=some ad→¬S ad.block):SolS w' B m n a b c s:=by
 rcases h with ⟨y,ok,nx,pos,kd,x,r,Y,v⟩|⟨y,ok,ar,nx,kd,r,X,Y,v⟩|⟨y,ok,ar,t,nx,le,kd,y0,X,R,v⟩
 ·exact .inf y ok nx pos kd x r (Y.kp k nl hY) ⟨k.ok v.ok nl,v.rp⟩
 ·exact .opt y ok ar nx kd r (X.kp k nl hX) (Y.kp k nl hY) ⟨k.ok v.ok nl,v.rp⟩
 ·exact .unb y ok ar t nx le kd y0 (X.kp k nl hX) (R.kp k nl hR) ⟨k.ok v.ok nl,v.rp⟩
theorem SolS.below {w w':World} {B m n:Nat} {a:Nat→Nat→Rat} {b c:Nat→Rat} {s:Sn} (h:SolS w B m n a b c s) (hb:Below w.heap.size w w'):SolS w' B m n a b c s:=
 h.kp (fo (fun _=>False) hb) (fun _ h=>h.elim) (fun _ _ h=>h) (fun _ _ h=>h) (fun _ _ h=>h)
end Go.Proofs.YtkpfbekmaafehaaGreat
