/- The walks of natural.subtract and natural.restore -/
import Derived.Test.YtkpfbekmaafehaaGreatNatG
import Derived.Test.YtkpfbekmaafehaaGreatNatD
import Derived.Test.YtkpfbekmaafehaaGreatBase
import Derived.Deep.RegionHeld3
namespace Go.Proofs.YtkpfbekmaafehaaGreat
open _root_.Go.Proofs.Tryz
set_option maxHeartbeats 8000000
set_option maxRecDepth 100000
open Go.RowKit
theorem kA {P S T:List Nat} {i x:Nat} (h:i<S.length):(P++S++T).set (P.length+i) x=P++S.set i x++T:=by
 rw [List.append_assoc,List.set_append_right _ _ (by omega),Nat.add_sub_cancel_left,List.set_append_left _ _ h,List.append_assoc]
theorem rP {P S T:List Nat} {i:Nat} (h:i<S.length) (h2:P.length+i<(P++S++T).length):(P++S++T)[P.length+i]=S[i]:=by
 rw [List.getElem_append_left (by simp;omega),List.getElem_append_right (by omega)]
 simp
theorem Cx (C:Nat) (h:C<18446744073709551616):bits .and .u64 (C:Int) 4294967295=((C % 4294967296:Nat):Int):=by
 have h1:=u64_and_nat C 4294967295 h (by omega)
 have h2:C &&& 4294967295=C % 4294967296:=Nat.and_two_pow_sub_one_eq_mod C 32;rw [h2] at h1;exact h1
theorem lC.last {S V O:List Nat} {f n C B:Nat} (h:lC S V f n C B O) (hn:n=V.length) (hS:S.length=n+1) (hnO:n<O.length) (x B':Nat) (hx:x<4294967296) (hs:x+C+B=O[n]+4294967296*B') :
 (O.set n x).length=n+1/\U32 (O.set n x)/\nv (O.set n x)+f*nv V=nv S+pw (n+1)*B':=by
 obtain ⟨h1,h2,h3,h4,h5,h6⟩:=h;subst hn;have e:=h5 V.length hnO (by omega) (Nat.le_refl _)
 rw [List.take_length] at h6;refine ⟨by simp;omega,h2.set _ hx,?_⟩
 have e1:=ij (O.set V.length x) V.length (by simpa using hnO)
 have e2:=ij S V.length (by omega)
 rw [List.drop_eq_nil_of_le (by simp;omega),aW,Nat.mul_zero,Nat.add_zero,List.take_set_of_le (Nat.le_refl _),List.getElem_set_self] at e1
 rw [List.drop_eq_nil_of_le (by omega),aW,Nat.mul_zero,Nat.add_zero,<-e] at e2
 rw [e1,e2,gM]
 grind
theorem lE.last {S V O:List Nat} {n C:Nat} (h:lE S V n C O) (hn:n=V.length) (hS:S.length=n+1) (hnO:n<O.length) :
 (O.set n ((O[n]+C) % 4294967296)).length=n+1/\U32 (O.set n ((O[n]+C) % 4294967296))/\∃k,nv (O.set n ((O[n]+C) % 4294967296))+pw (n+1)*k=nv S+nv V:=by
 obtain ⟨h1,h2,h3,h5,h6⟩:=h;subst hn;have e:=h5 V.length hnO (by omega) (Nat.le_refl _)
 rw [List.take_length] at h6;refine ⟨by simp;omega,h2.set _ (by omega),(O[V.length]+C)/4294967296,?_⟩
 have e1:=ij (O.set V.length ((O[V.length]+C) % 4294967296)) V.length (by simpa using hnO)
 have e2:=ij S V.length (by omega)
 rw [List.drop_eq_nil_of_le (by simp;omega),aW,Nat.mul_zero,Nat.add_zero,List.take_set_of_le (Nat.le_refl _),List.getElem_set_self] at e1
 rw [List.drop_eq_nil_of_le (by omega),aW,Nat.mul_zero,Nat.add_zero,<-e] at e2
 have hd:=Nat.div_add_mod (O[V.length]+C) 4294967296;rw [e1,e2,gM]
 grind
theorem eO {w w':World} {g:Nat} (h:w.grownBy w' (some g)) (i:Nat) (v:Value):w.grownBy (w'.setCell ⟨g,i,none⟩ v) (some g):=
 ⟨h.os,h.tape,h.output,by simpa [World.setCell] using h.size,fun k hk hne=>(Below.heap_setCell _ _ _ _ (fun e=>hne (by rw [e]))).trans (h.block k hk hne)⟩
theorem pW {x c b:Nat} (hx:x<4294967296) (hc:c<4294967296) (hb:b<=1):IntKind.u64.wrap (IntKind.u64.wrap ((x:Int)-c)-b)/9223372036854775808=((bor x c b:Nat):Int):=by
 rw [IntKind.wrap_u64,IntKind.wrap_u64];unfold bor;split <;> omega
theorem pV {x c b:Nat} (hx:x<4294967296) (hc:c<4294967296) (hb:b<=1):IntKind.u64.wrap (IntKind.u64.wrap ((x:Int)-c)-b) % 4294967296=((dig x c b:Nat):Int):=by
 rw [IntKind.wrap_u64,IntKind.wrap_u64];unfold dig bor;split <;> omega
theorem wK (v o p:Nat):((v:Int)+(o:Int)*p)=((v+o*p:Nat):Int):=by rw [Int.natCast_add,Int.natCast_mul]
theorem tZ (v o p:Nat):((v:Int)+(o:Int)*p)/4294967296=(((v+o*p)/4294967296:Nat):Int):=by rw [wK,iL]
theorem pO (a b c:Nat):((a:Int)+((b:Int)+c))/4294967296=(((a+(b+c))/4294967296:Nat):Int):=by omega
theorem pN (a b c:Nat):((a:Int)+((b:Int)+c)) % 4294967296=(((a+(b+c)) % 4294967296:Nat):Int):=by omega
theorem j6 (w:World) (B g j cap cc n f d:Nat) (D:Option Addr) (P S T V:List Nat) (hg:Gr lmv 58 w B (some ⟨g,0,none⟩) cap (P++S++T)) (hu:U32 (P++S++T)) (hv:Nt w D d V) (hne:∀ad,D=some ad->ad.block≠g)
 (hP:P.length=j) (hS:S.length=n+1) (hV:V.length=n) (hf:f<4294967296) (hn:n<=1000000) :
 Calls prog 125 #[.slice (some ⟨g,j,none⟩) (n+1) cc, .slice D n d, .int .u64 (f:Int)] w fun e w'=>∃(S':List Nat) (neg:Nat),e = .returned (.bool (decide (neg=1)))/\neg<=1/\S'.length=n+1/\U32 S' /\
  nv S'+f*nv V=nv S+pw (n+1)*neg/\Gr lmv 58 w' B (some ⟨g,0,none⟩) cap (P++S'++T)/\w.grownBy w' (some g):=by
 have HP:=ag hP;have HS:=ag hS;have HV:=ag hV;have hSu:U32 S:=fun x hx=>hu x (List.mem_append.2 (.inl (List.mem_append.2 (.inr hx))));clear hu hP hS hV;go_enter func125,ntmps125;go_wp2_with fail;go_loopw [7,8,15] (fun cy bo iv wr=>∃(i C b:Nat) (O:List Nat),i<=n/\iv = .int .i64 i/\cy = .int .u64 C/\bo = .int .u64 b/\lC S V f i C b O/\Gr lmv 58 wr B (some ⟨g,0,none⟩) cap (P++O++T)/\w.grownBy wr (some g)) (fun _ _ iv _=>n-(intOf iv).toNat)
 case atStart=>exact ⟨0,0,0,S,by omega,rfl,rfl,rfl,lC.start V f hSu,hg,World.grownBy.refl _ _⟩
 case round=>
  obtain ⟨i,C,b,O,hi,rfl,rfl,rfl,hinv,hgr,hgb⟩:=hrel;have HI:=ag hinv;have hC:C<4294967296:=hinv.2.2.1;have hb:b<=1:=hinv.2.2.2.1;have hOu:=hinv.2.1;have zO:=ag hinv.1;clear hinv;have HG:=ag hgr;have HB:=ag hgb;by_cases hlt:i<n
  ·have hiV:i<V.length:=by have:=HV.o;omega
   have hiO:i<O.length:=by have:=zO.o;have:=HS.o;omega
   obtain ⟨adV,hadV,hbV,hcV,hvV⟩:=(hv.grown hgb (fun _ ad e e2=>hne ad e (by injection e2))).at i hiV
   subst hadV;have hcell0:=hgr.cell (P.length+i) (by simp;omega)
   rw [rP hiO] at hcell0;rw [HP.o] at hcell0;have hfree:=hgr.free (j+i);have hxO:=hOu.at i hiO;have hbd:=sU hf hvV hC;obtain ⟨hbd1,hbd2⟩:=hbd;clear hgr hgb hOu;go_wp2_with fail;have hand:bits .and .u64 ((C:Int)+(f:Int)*V[i]) 4294967295=(((C+f*V[i]) % 4294967296:Nat):Int):=by
    rw [wK];exact Cx _ hbd1
   have hm:(C+f*V[i]) % 4294967296<4294967296:=Nat.mod_lt _ (by omega)
   have hbg:=io hxO hm hb;go_roundw
   case rel=>exact ⟨i+1,_,_,_,by omega,by go_num,by rw [tZ],by rw [hand,pW hxO hm hb],HI.o.step hf hv.u hiV hiO _ _ hbg.1 hbg.2.1 (by rw [<-hbg.2.2];omega),
    by rw [hand,pV hxO hm hb,<-kA hiO,HP.o];exact HG.o.store _ _,eO HB.o _ _⟩
   case measure=>simp [intOf];omega
  ·obtain rfl:i=n:=by omega
   have hiO:i<O.length:=by have:=zO.o;have:=HS.o;omega
   have hcell0:=hgr.cell (P.length+i) (by simp;omega)
   rw [rP hiO] at hcell0;rw [HP.o] at hcell0;have hfree:=hgr.free (j+i);have hxO:=hOu.at i hiO;clear hgr hgb hOu;go_wp2_with fail;go_ret;have hbg:=io hxO hC hb;have hlast:=HI.o.last HV.o.symm HS.o hiO _ _ hbg.1 (by rw [<-hbg.2.2];omega)
   refine ⟨_,bor O[i] C b,?_,hbg.2.1,hlast.1,hlast.2.1,hlast.2.2,?_,eO HB.o _ _⟩
   ·apply dz
    show (_ == _)=_
    rw [pW hxO hC hb];rcases Nat.lt_or_ge (bor O[i] C b) 1 with h1|h1
    ·have:bor O[i] C b=0:=by omega
     rw [this];rfl
    ·have:bor O[i] C b=1:=by omega
     rw [this];rfl
   ·rw [pV hxO hC hb,<-kA hiO,HP.o];exact HG.o.store _ _
theorem te (w:World) (B g j cap cc n d:Nat) (D:Option Addr) (P S T V:List Nat) (hg:Gr lmv 58 w B (some ⟨g,0,none⟩) cap (P++S++T)) (hu:U32 (P++S++T)) (hv:Nt w D d V) (hne:∀ad,D=some ad->ad.block≠g)
 (hP:P.length=j) (hS:S.length=n+1) (hV:V.length=n) (hn:n<=1000000) :
 Calls prog 126 #[.slice (some ⟨g,j,none⟩) (n+1) cc, .slice D n d] w fun e w'=>∃S':List Nat,e = .returned (.tuple #[])/\S'.length=n+1/\U32 S' /\
  (∃k,nv S'+pw (n+1)*k=nv S+nv V)/\Gr lmv 58 w' B (some ⟨g,0,none⟩) cap (P++S'++T)/\w.grownBy w' (some g):=by
 have HP:=ag hP;have HS:=ag hS;have HV:=ag hV;have hSu:U32 S:=fun x hx=>hu x (List.mem_append.2 (.inl (List.mem_append.2 (.inr hx))));clear hu hP hS hV;go_enter func126,ntmps126;go_wp2_with fail;go_loopw [4,9] (fun cy iv wr=>∃(i C:Nat) (O:List Nat),i<=n/\iv = .int .i64 i/\cy = .int .u64 C/\lE S V i C O/\Gr lmv 58 wr B (some ⟨g,0,none⟩) cap (P++O++T)/\w.grownBy wr (some g)) (fun _ iv _=>n-(intOf iv).toNat)
 case atStart=>exact ⟨0,0,S,by omega,rfl,rfl,lE.start V hSu,hg,World.grownBy.refl _ _⟩
 case round=>
  obtain ⟨i,C,O,hi,rfl,rfl,hinv,hgr,hgb⟩:=hrel;have HI:=ag hinv;have hC:C<=1:=hinv.2.2.1;have hOu:=hinv.2.1;have zO:=ag hinv.1;clear hinv;have HG:=ag hgr;have HB:=ag hgb;have hiO:i<O.length:=by have:=zO.o;have:=HS.o;omega
  have hcell0:=hgr.cell (P.length+i) (by simp;omega)
  rw [rP hiO] at hcell0;rw [HP.o] at hcell0;have hfree:=hgr.free (j+i);have hxO:=hOu.at i hiO;by_cases hlt:i<n
  ·have hiV:i<V.length:=by have:=HV.o;omega
   obtain ⟨adV,hadV,hbV,hcV,hvV⟩:=(hv.grown hgb (fun _ ad e e2=>hne ad e (by injection e2))).at i hiV
   subst hadV;clear hgr hgb hOu;go_wp2_with fail;go_roundw
   case rel=>exact ⟨i+1,_,_,by omega,by go_num,by rw [pO],HI.o.step hv.u hiV hiO,
    by rw [pN,<-kA hiO,HP.o];exact HG.o.store _ _,eO HB.o _ _⟩
   case measure=>simp [intOf];omega
  ·obtain rfl:i=n:=by omega
   clear hgr hgb hOu;go_wp2_with fail
   go_end0
   have hlast:=HI.o.last HV.o.symm HS.o hiO;exact ⟨_,rfl,hlast.1,hlast.2.1,hlast.2.2,by rw [iz,<-kA hiO,HP.o];exact HG.o.store _ _,eO HB.o _ _⟩
theorem uW {nS nV p top next u2 head guess rest:Nat} (_hp:0<p) (hv1:(top*4294967296+next)*p<=nV) (hS2:nS<(head*4294967296+u2+1)*p)
 (hg:guess*top+rest=head) (hbig:rest*4294967296+u2<guess*next):nS<guess*nV:=by
 have h1:head*4294967296+u2+1<=guess*(top*4294967296+next):=by
  rw [<-hg];have e:guess*(top*4294967296+next)=guess*top*4294967296+guess*next:=by grind
  rw [e];have e2:(guess*top+rest)*4294967296=guess*top*4294967296+rest*4294967296:=by grind
  omega
 have h2:(head*4294967296+u2+1)*p<=guess*(top*4294967296+next)*p:=Nat.mul_le_mul_right _ h1
 have h3:guess*(top*4294967296+next)*p<=guess*nV:=by rw [Nat.mul_assoc];exact Nat.mul_le_mul_left _ hv1
 omega
theorem qC {nS nV p top next u2 head guess rest:Nat} (_hp:0<p) (_hv1:(top*4294967296+next)*p<=nV) (hv2:nV<(top*4294967296+next+1)*p) (hS1:(head*4294967296+u2)*p<=nS)
 (htop:2147483648<=top) (hg:guess*top+rest=head) (hlt:guess<4294967296) (hok:guess*next<=rest*4294967296+u2) (hge:1<=guess):(guess-1)*nV<=nS:=by
 obtain ⟨k,rfl⟩:∃k,guess=k+1:=⟨guess-1,by omega⟩
 rw [Nat.add_sub_cancel];have h1:(k+1)*(top*4294967296+next)<=head*4294967296+u2:=by
  rw [<-hg];have e:(k+1)*(top*4294967296+next)=(k+1)*top*4294967296+(k+1)*next:=by grind
  rw [e];have e2:((k+1)*top+rest)*4294967296=(k+1)*top*4294967296+rest*4294967296:=by grind
  omega
 have h2:(k+1)*(top*4294967296+next)*p<=nS:=Nat.le_trans (Nat.mul_le_mul_right _ h1) hS1
 have h3:k*nV<=k*((top*4294967296+next+1)*p):=Nat.mul_le_mul_left _ (Nat.le_of_lt hv2)
 have e3:k*((top*4294967296+next+1)*p)=k*(top*4294967296+next)*p+k*p:=by grind
 have e4:(k+1)*(top*4294967296+next)*p=k*(top*4294967296+next)*p+(top*4294967296+next)*p:=by grind
 have h4:k*p<=(top*4294967296+next)*p:=Nat.mul_le_mul_right _ (by omega)
 omega
theorem Al {nS nV guess neg nR P1:Nat} (hV:0<nV) (h1:nS<(guess+1)*nV) (h2:(guess-1)*nV<=nS) (hge:1<=guess\/guess=0) (hneg:neg<=1) (hR:nR+guess*nV=nS+P1*neg) (hRlt:nR<P1) (hVP:nV<P1) :
 (neg=0->guess=nS/nV/\nR=nS % nV)/\(neg=1->1<=guess/\guess-1=nS/nV/\∀nR2 k,nR2<P1->nR2+P1*k=nR+nV->nR2=nS % nV):=by
 constructor
 ·intro h0;subst h0;rw [Nat.mul_zero,Nat.add_zero] at hR;have h3:nR<nV:=by
   have e:(guess+1)*nV=guess*nV+nV:=by grind
   omega
  have e:nS=nR+nV*guess:=by rw [Nat.mul_comm];omega
  rw [e,Nat.add_mul_div_left _ _ hV,Nat.add_mul_mod_self_left,Nat.div_eq_of_lt h3,Nat.mod_eq_of_lt h3];omega
 ·intro h0;subst h0;rw [Nat.mul_one] at hR;have hlt:nS<guess*nV:=by omega
  have hg1:1<=guess:=by
   rcases Nat.eq_zero_or_pos guess with h|h
   ·subst h;simp at hlt
   ·exact h
  obtain ⟨k,rfl⟩:∃k,guess=k+1:=⟨guess-1,by omega⟩
  rw [Nat.add_sub_cancel] at h2|-;have e:(k+1)*nV=k*nV+nV:=by grind
  have h3:nS-k*nV<nV:=by omega
  have e2:nS=(nS-k*nV)+nV*k:=by rw [Nat.mul_comm nV k];omega
  have hd:k=nS/nV:=by rw [e2,Nat.add_mul_div_left _ _ hV,Nat.div_eq_of_lt h3];omega
  have hm:nS % nV=nS-k*nV:=by
   have:nS % nV=((nS-k*nV)+nV*k) % nV:=by rw [<-e2]
   rw [this,Nat.add_mul_mod_self_left,Nat.mod_eq_of_lt h3]
  refine ⟨by omega,hd,fun nR2 c hlt2 hc=>?_⟩
  rw [hm];rcases Nat.eq_zero_or_pos c with h|h
  ·subst h;rw [Nat.mul_zero] at hc;omega
  ·rcases Nat.lt_or_ge c 2 with h4|h4
   ·obtain rfl:c=1:=by omega
    rw [Nat.mul_one] at hc;omega
   ·have:P1*2<=P1*c:=Nat.mul_le_mul_left _ h4;omega
theorem qs (M n:Nat) (r:List Nat) (hl:r.length=n) (h:∀i (hi:i<r.length),r[i]=M/pw i % 4294967296):nv r=M % pw n:=by
 subst hl
 induction r generalizing M with
 | nil=>simp [aW,iU,Nat.mod_one]
 | cons x r ih=>
   have h0:=h 0 (by simp)
   simp only [List.getElem_cons_zero,iU,Nat.div_one] at h0;have ih':=ih (M/4294967296) (fun i hi=>by
    have:=h (i+1) (by simp;omega)
    rw [List.getElem_cons_succ] at this;rw [this,gM,Nat.div_div_eq_div_mul])
   rw [aT,ih',h0,List.length_cons,gM,Nat.mod_mul]
theorem jA (xs:List Nat) (hu:U32 xs) (i:Nat) (hi:i<=xs.length):nv xs/pw i=nv (xs.drop i):=by
 rw [fO xs i hi];have h:=fk (hu.take i);rw [List.length_take,Nat.min_eq_left hi] at h;rw [Nat.add_mul_div_left _ _ (gE i),Nat.div_eq_of_lt h,Nat.zero_add]
theorem vG {s:Nat} (h:s<32):∃q,4294967296=2^s*q:=⟨2^(32-s),by rw [<-Nat.pow_add,show s+(32-s)=32 from by omega]⟩
theorem oL {x y rest s:Nat} (_hx:x<4294967296) (_hy:y<4294967296) (hs:s<32):(y*4294967296+x)/2^s % 4294967296=(x+4294967296*(y+4294967296*rest))/2^s % 4294967296:=by
 obtain ⟨q,hq⟩:=vG hs;have hp:0<2^s:=Nat.pow_pos (by omega)
 have e:x+4294967296*(y+4294967296*rest)=(y*4294967296+x)+2^s*(q*4294967296*rest):=by
  have:4294967296*(4294967296*rest)=2^s*(q*4294967296*rest):=by
   rw [<-Nat.mul_assoc,<-Nat.mul_assoc];have h2:4294967296*4294967296=2^s*(q*4294967296):=by
    rw [<-Nat.mul_assoc,<-hq]
   rw [h2]
  rw [Nat.mul_add,this];omega
 rw [e,Nat.add_mul_div_left _ _ hp];rw [show q*4294967296*rest=4294967296*(q*rest) from by grind,Nat.add_mul_mod_self_left]
structure df (U0:Nat) (V:List Nat) (n m jj:Nat) (U Qs:List Nat):Prop where
 len:U.length=m
 u:U32 U
 ql:Qs.length+jj+n=m
 qu:U32 Qs
 eq:U0=nv V*(pw jj*nv Qs)+nv U
 lt:nv (U.drop jj)<nv V
def seg (U:List Nat) (j n:Nat):List Nat:=(U.drop j).take (n+1)
theorem mq (U:List Nat) (j n:Nat):U=U.take j++seg U j n++U.drop (j+n+1):=by
 unfold seg;rw [List.append_assoc,show U.drop (j+n+1)=(U.drop j).drop (n+1) from by rw [List.drop_drop];rfl,List.take_append_drop,List.take_append_drop]
theorem iO {U:List Nat} {j n:Nat} (h:j+n+1<=U.length):(seg U j n).length=n+1:=by simp [seg];omega
theorem ro {U:List Nat} {j n i:Nat} (h:j+n+1<=U.length) (hi:i<=n):(seg U j n)[i]'(by rw [iO h];omega)=U[j+i]'(by omega):=by simp [seg]
theorem pZ {U:List Nat} (h:U32 U) (j n:Nat):U32 (seg U j n):=(h.drop j).take _
section
variable {U0 n m j:Nat} {U V Qs:List Nat}
theorem df.room (h:df U0 V n m (j+1) U Qs):j+n+1<=U.length:=by have:=h.ql;have:=h.len;omega
theorem df.rest0 (h:df U0 V n m (j+1) U Qs) (hV:U32 V) (hn:V.length=n):nv (U.drop (j+n+1))=0:=by
 have h1:=h.lt;have hr:=h.room;rw [fO (U.drop (j+1)) n (by simp;omega),List.drop_drop] at h1
 have h2:=fk hV;rw [hn] at h2;rw [show j+n+1=j+1+n from by omega]
 rcases Nat.eq_zero_or_pos (nv (U.drop (j+1+n))) with h3|h3
 ·exact h3
 ·have:pw n*1<=pw n*nv (U.drop (j+1+n)):=Nat.mul_le_mul_left _ h3;omega
theorem df.segv (h:df U0 V n m (j+1) U Qs) (hV:U32 V) (hn:V.length=n):nv (U.drop j)=nv (seg U j n):=by
 have hr:=h.room;have h0:=h.rest0 hV hn;have e:=fO (U.drop j) (n+1) (by simp;omega)
 have e2:(U.drop j).drop (n+1)=U.drop (j+n+1):=by rw [List.drop_drop,Nat.add_assoc]
 rw [e2,h0,Nat.mul_zero,Nat.add_zero] at e;exact e
theorem df.seg_lt (h:df U0 V n m (j+1) U Qs) (hV:U32 V) (hn:V.length=n):nv (seg U j n)<4294967296*nv V:=by
 have hr:=h.room;have h1:=h.lt;rw [<-h.segv hV hn,List.drop_eq_getElem_cons (by omega),aT]
 have h2:=h.u.at j (by omega)
 omega
theorem df.next (h:df U0 V n m (j+1) U Qs) (hV:U32 V) (hn:V.length=n) (hV0:0<nv V) {S':List Nat} (hl:S'.length=n+1) (hu:U32 S') (hv:nv S'=nv (seg U j n) % nv V) :
 df U0 V n m j (U.take j++S'++U.drop (j+n+1)) (nv (seg U j n)/nv V::Qs):=by
 have hr:=h.room;have h0:=h.rest0 hV hn;have hlt:=h.seg_lt hV hn;have hq:nv (seg U j n)/nv V<4294967296:=by rw [Nat.div_lt_iff_lt_mul hV0];exact hlt
 have hj:(U.take j).length=j:=by simp;omega
 refine ⟨by simp [hl];have:=h.len;omega,((h.u.take j).append hu).append (h.u.drop _),by have:=h.ql;simp;omega,U32.cons hq h.qu,?_,?_⟩
 ·have e:=h.eq;have e1:nv U=nv (U.take j)+pw j*nv (seg U j n):=by
   rw [fO U j (by omega),h.segv hV hn]
  have e2:nv (U.take j++S'++U.drop (j+n+1))=nv (U.take j)+pw j*nv S':=by
   rw [cj,cj,h0,hj];omega
  have e3:=Nat.div_add_mod (nv (seg U j n)) (nv V);rw [<-hv] at e3;rw [e2,aT,e,e1,gM,<-e3]
  grind
 ·have e:(U.take j++S'++U.drop (j+n+1)).drop j=S'++U.drop (j+n+1):=by
   rw [List.append_assoc,List.drop_append_of_le_length (by omega),List.drop_eq_nil_of_le (by omega),List.nil_append]
  rw [e,cj,h0,hv];have:=Nat.mod_lt (nv (seg U j n)) hV0;omega
theorem df.look (h:df U0 V n m (j+1) U Qs) (hV:U32 V) (hn:V.length=n) (h2:2<=n) (top next u0 u1 u2:Nat) (ht:V[n-1]'(by omega)=top) (hx:V[n-2]'(by omega)=next)
 (e0:U[j+n]'(by have:=h.room;omega)=u0) (e1:U[j+n-1]'(by have:=h.room;omega)=u1) (e2:U[j+n-2]'(by have:=h.room;omega)=u2) :
 (top*4294967296+next)*pw (n-2)<=nv V/\nv V<(top*4294967296+next+1)*pw (n-2)/\((u0*4294967296+u1)*4294967296+u2)*pw (n-2)<=nv (seg U j n) /\
   nv (seg U j n)<((u0*4294967296+u1)*4294967296+u2+1)*pw (n-2)/\u0<=top:=by
 have hr:=h.room;obtain ⟨k,rfl⟩:∃k,n=k+2:=⟨n-2,by omega⟩
 simp only [show k+2-1=k+1 from rfl,show k+2-2=k from rfl] at *;have hvs:=fO V k (by omega)
 rw [List.drop_eq_getElem_cons (show k<V.length by omega),List.drop_eq_getElem_cons (show k+1<V.length by omega),List.drop_eq_nil_of_le (by omega),aT,aT,aW,hx,ht] at hvs
 have hvl:=fk (hV.take k);rw [List.length_take,Nat.min_eq_left (by omega)] at hvl
 have hsl:(seg U j (k+2)).length=k+3:=iO hr;have hss:=fO (seg U j (k+2)) k (by omega)
 have hsu:=fk ((pZ h.u j (k+2)).take k);rw [List.length_take,Nat.min_eq_left (by omega)] at hsu
 rw [List.drop_eq_getElem_cons (show k<(seg U j (k+2)).length by omega),List.drop_eq_getElem_cons (show k+1<(seg U j (k+2)).length by omega),List.drop_eq_getElem_cons (show k+1+1<(seg U j (k+2)).length by omega),List.drop_eq_nil_of_le (by omega),
  aT,aT,aT,aW,ro hr (by omega),ro hr (by omega),ro hr (by omega)] at hss
 have a0:U[j+(k+1+1)]'(by omega)=u0:=e0
 have a1:U[j+(k+1)]'(by omega)=u1:=e1
 have a2:U[j+k]'(by omega)=u2:=e2
 rw [a0,a1,a2] at hss;have hlt:=h.lt;refine ⟨?_,?_,?_,?_,?_⟩
 ·rw [hvs];grind
 ·rw [hvs];grind
 ·rw [hss];grind
 ·rw [hss];grind
 ·rcases Nat.lt_or_ge top u0 with h3|h3
  ·exfalso
   have h4:=ij (U.drop (j+1)) (k+1) (by simp;omega)
   have h5:(U.drop (j+1))[k+1]'(by simp;omega)=u0:=by
    rw [List.getElem_drop];have:j+1+(k+1)=j+(k+2):=by omega
    simp only [this];exact e0
   rw [h5] at h4;have h6:pw (k+1)*(top+1)<=pw (k+1)*u0:=Nat.mul_le_mul_left _ h3;have h7:=ij V (k+1) (by omega)
   rw [List.drop_eq_nil_of_le (by omega),aW,ht] at h7
   have h8:=fk (hV.take (k+1));rw [List.length_take,Nat.min_eq_left (by omega)] at h8
   rw [Nat.mul_add] at h6;omega
  ·exact h3
end
def jK (w:World) (q r:Nat) (e:Ending) (w':World):Prop:=
 ∃A c D d,e = .returned (.tuple #[.slice A (lim q).length c, .slice D (lim r).length d])/\Nt w' A c (lim q)/\Nt w' D d (lim r)/\Below w.heap.size w w'
theorem tT (w:World) (A D:Option Addr) (c d M N:Nat) (h:Nt w A c (lim M)) (k:Nt w D d (lim N)) (hl:(lim M).length<=1000) (hlt:M<N) :
 Calls prog 120 #[.slice A (lim M).length c, .slice D (lim N).length d] w (jK w (M/N) (M % N)):=by
 have hc:=fY w A D c d _ _ (lim M) (lim N) (-1) h k rfl rfl (by rw [am,am];exact il hlt)
 have HC:=ag hc;clear hc;go_enter func120,ntmps120;go_wp2_with fail;refine HC.o.mono ?_;rintro e w1 ⟨rfl,q⟩;have ht:=jm w1 A c _ (lim M) (h.below q.keep) rfl (by rw [am];omega)
 rw [am] at ht;have HT:=ag ht;clear ht;go_wp2_with fail;refine HT.o.mono ?_;rintro e w2 ⟨A2,c2,rfl,g2,b2⟩;go_wp2_with fail
 go_ret2
 refine ⟨none,0,A2,c2,?_,?_,?_,qd q.keep b2⟩
 ·rw [Nat.div_eq_of_lt hlt,aV,Nat.mod_eq_of_lt hlt];rfl
 ·rw [Nat.div_eq_of_lt hlt,aV];exact Nt.nil _ _ _ (by omega)
 ·rw [Nat.mod_eq_of_lt hlt];exact g2.nt (aC _)
theorem rU (w:World) (A D:Option Addr) (c d M x:Nat) (h:Nt w A c (lim M)) (k:Nt w D d [x]) (hl:(lim M).length<=1000) (hx0:0<x) (hge:x<=M) :
 Calls prog 120 #[.slice A (lim M).length c, .slice D 1 d] w (jK w (M/x) (M % x)):=by
 obtain ⟨z,hz0,hz⟩:∃z:Int,0<=z/\i6 M x=z:=⟨_,by unfold i6;rw [if_neg (by omega)];split <;> omega,rfl⟩
 have hc:=fY w A D c d _ _ (lim M) [x] z h k rfl rfl (by rw [am];simpa [aT,aW] using hz)
 have HC:=ag hc;have hx:=k.u.at 0 (by simp)
 simp only [List.getElem_cons_zero] at hx;clear hc hz;go_enter func120,ntmps120;go_wp2_with fail;refine HC.o.mono ?_;rintro e w1 ⟨rfl,q⟩;obtain ⟨ad,rfl,hb,hcx,_⟩:=(k.below q.keep).at 0 (by simp)
 have hcx0:w1.cell? ad=some (.int .u32 (x:Int)):=hcx;clear hcx;go_wp2_with fail;refine (xn w1 A c _ x M (lim M) (h.below q.keep) rfl (am M) hx0 hx (by omega)).mono ?_
 rintro e w2 ⟨rfl,n2,b2,hs2⟩;have hm:M % x<4294967296:=by have:=Nat.mod_lt M hx0;omega
 have HM:=ag hm;obtain ⟨r,hr⟩:∃r,r=M % x:=⟨_,rfl⟩;rw [<-hr] at HM|-;have hr64:r<4294967296:=HM.o;have HR:=ag hr;clear hr hm HM;go_wp2_with fail;refine (jB w2 r (by omega)).mono ?_
 rintro e w3 ⟨A3,c3,rfl,n3,b3⟩;go_wp2_with fail
 go_ret2
 refine ⟨_,(lim M).length,A3,c3,?_,n2.below b3,?_,ai (qd q.keep b2) b3 (Nat.le_trans q.keep.size b2.size)⟩
 ·rw [<-HR.o];rfl
 ·rw [<-HR.o];exact n3
theorem jT (xs:List Nat) (hu:U32 xs) (k:Nat) (hk:xs.length=k+1) (h:k<xs.length):xs[k]*pw k<=nv xs/\nv xs<(xs[k]+1)*pw k:=by
 have e:=ij xs k h;rw [List.drop_eq_nil_of_le (by omega),aW,Nat.mul_zero,Nat.add_zero] at e
 have h2:=fk (hu.take k);rw [List.length_take,Nat.min_eq_left (by omega)] at h2
 constructor
 ·rw [e,Nat.mul_comm];omega
 ·rw [e,Nat.add_mul,Nat.one_mul,Nat.mul_comm];omega
theorem CW {x s:Nat} (hs:s<32) (h:x*2^s<4294967296):(x+1)*2^s<=4294967296:=by
 obtain ⟨q,hq⟩:=vG hs;have hp:0<2^s:=Nat.pow_pos (by omega)
 rw [hq,Nat.mul_comm] at h;have h1:x<q:=Nat.lt_of_mul_lt_mul_left h;rw [hq,Nat.mul_comm];exact Nat.mul_le_mul_left _ h1
theorem Dv {X O:List Nat} {n N s x:Nat} (hX:nv X=N) (hn:X.length=n+2) (hu:U32 X) (hl:n+1<X.length) (hx:x=X[n+1]) (hs:s<32) (hxs:x*2^s<4294967296) (h31:2147483648<=x*2^s)
 (hO:O.length=n+3) (hv:nv O=N*2^s) (hOu:U32 O):nv (O.take (n+2))=N*2^s/\(∀h:n+1<(O.take (n+2)).length,2147483648<=(O.take (n+2))[n+1])/\pw (n+1)*2^s<=N*2^s:=by
 have hp:0<2^s:=Nat.pow_pos (by omega)
 have hb:=jT X hu (n+1) (by omega) hl
 rw [<-hx,hX] at hb;have hup:=CW hs hxs;have hlt:nv O<pw (n+2):=by
  rw [hv,gM];have h1:N*2^s<(x+1)*pw (n+1)*2^s:=Nat.mul_lt_mul_of_pos_right hb.2 hp;have h2:(x+1)*2^s*pw (n+1)<=4294967296*pw (n+1):=Nat.mul_le_mul_right _ hup;have e:(x+1)*pw (n+1)*2^s=(x+1)*2^s*pw (n+1):=by rw [Nat.mul_right_comm]
  omega
 have hsp:=fO O (n+2) (by omega)
 have hz:nv (O.drop (n+2))=0:=by
  rcases Nat.eq_zero_or_pos (nv (O.drop (n+2))) with h|h
  ·exact h
  ·have:pw (n+2)*1<=pw (n+2)*nv (O.drop (n+2)):=Nat.mul_le_mul_left _ h;omega
 rw [hz,Nat.mul_zero,Nat.add_zero] at hsp;refine ⟨by rw [<-hsp,hv],fun h=>?_,?_⟩
 ·have hb2:=jT (O.take (n+2)) (hOu.take _) (n+1) (by rw [List.length_take];omega) h
  rw [<-hsp,hv] at hb2;have h3:x*2^s*pw (n+1)<=N*2^s:=by
   rw [Nat.mul_right_comm];exact Nat.mul_le_mul_right _ hb.1
  have h4:2147483648*pw (n+1)<=x*2^s*pw (n+1):=Nat.mul_le_mul_right _ h31;have h5:2147483648*pw (n+1)<((O.take (n+2))[n+1]+1)*pw (n+1):=by omega
  have h6:=Nat.lt_of_mul_lt_mul_right h5;omega
 ·apply Nat.mul_le_mul_right
  have hx0:0<x:=by
   rcases Nat.eq_zero_or_pos x with h|h
   ·subst h;simp at h31
   ·exact h
  have:1*pw (n+1)<=x*pw (n+1):=Nat.mul_le_mul_right _ hx0;omega
theorem df.start {V U:List Nat} {M n m K s:Nat} (hl:U.length=m+1) (hu:U32 U) (hK:m+1=n+2+K) (hv:nv U=M*2^s) (hM:M<pw m) (hV:pw (n+1)*2^s<=nv V):df (M*2^s) V (n+2) (m+1) K U []:=by
 refine ⟨hl,hu,by simp;omega,U32.nil,by rw [aW,Nat.mul_zero,Nat.mul_zero,Nat.zero_add,hv],?_⟩
 rw [<-jA U hu K (by omega),hv,Nat.div_lt_iff_lt_mul (gE K)]
 have hp:0<2^s:=Nat.pow_pos (by omega)
 have h1:M*2^s<pw m*2^s:=Nat.mul_lt_mul_of_pos_right hM hp;have h2:pw (n+1)*2^s*pw K<=nv V*pw K:=Nat.mul_le_mul_right _ hV;have e:pw m=pw (n+1)*pw K:=by rw [show m=n+1+K from by omega];unfold pw;exact Nat.pow_add _ _ _
 rw [e] at h1;have e2:pw (n+1)*pw K*2^s=pw (n+1)*2^s*pw K:=by rw [Nat.mul_right_comm]
 omega
theorem df.done {V U Qs:List Nat} {M N n m s:Nat} (h:df (M*2^s) V n m 0 U Qs) (hV:nv V=N*2^s):nv Qs=M/N/\nv U=M % N*2^s/\U32 Qs:=by
 have hp:0<2^s:=Nat.pow_pos (by omega)
 have h1:=h.eq;have h2:=h.lt;rw [List.drop_zero] at h2;rw [iU,Nat.one_mul] at h1;have h3:M*2^s/nv V=nv Qs:=by
  rw [h1,Nat.mul_add_div (by omega),Nat.div_eq_of_lt h2,Nat.add_zero]
 have h4:M*2^s % nv V=nv U:=by
  rw [h1,Nat.mul_add_mod,Nat.mod_eq_of_lt h2]
 rw [hV,Nat.mul_div_mul_right _ _ hp] at h3;rw [hV,Nat.mul_mod_mul_right] at h4;exact ⟨h3.symm,h4.symm,h.qu⟩
theorem xC {U:List Nat} (hu:U32 U) {R s i:Nat} (hv:nv U=R*2^s) (hs:s<32) (hi:i+1<U.length):(U[i+1]*4294967296+U[i])/2^s % 4294967296=R/pw i % 4294967296:=by
 have h1:=jA U hu i (by omega)
 rw [List.drop_eq_getElem_cons (show i<U.length by omega),List.drop_eq_getElem_cons hi,aT,aT,hv] at h1
 rw [oL (rest:=nv (U.drop (i+1+1))) (hu.at i (by omega)) (hu.at (i+1) hi) hs,<-h1]
 have hp:0<2^s:=Nat.pow_pos (by omega)
 rw [Nat.div_div_eq_div_mul,Nat.mul_comm (pw i),<-Nat.div_div_eq_div_mul,Nat.mul_div_cancel _ hp]
def bW (nS nV top hd:Nat) (g r:Int):Prop:=0<=g/\0<=r/\g*top+r=hd/\(nS:Int)<(g+1)*nV/\r<4294967296
theorem bW.start {nS nV p top next u2 hd:Nat} (_hp:0<p) (ht:0<top) (ht2:top<4294967296) (hv1:(top*4294967296+next)*p<=nV) (hS2:nS<(hd*4294967296+u2+1)*p) (h2:u2<4294967296):bW nS nV top hd ((hd:Int)/top) ((hd:Int) % top):=by
 have e1:(hd:Int)/top=((hd/top:Nat):Int):=(Int.natCast_ediv _ _).symm;have e2:(hd:Int) % top=((hd % top:Nat):Int):=(Int.natCast_emod _ _).symm;have h3:=Nat.mod_lt hd ht;have h4:=Nat.div_add_mod hd top;rw [e1,e2];refine ⟨Int.natCast_nonneg _,Int.natCast_nonneg _,?_,?_,by have:((hd % top:Nat):Int)<(top:Int):=Int.ofNat_lt.2 h3;omega⟩
 ·rw [Nat.mul_comm] at h4
  exact_mod_cast h4
 ·have h5:hd*4294967296+u2+1<=(hd/top+1)*(top*4294967296+next):=by
   have h6:hd+1<=(hd/top+1)*top:=by rw [Nat.add_mul,Nat.one_mul,Nat.mul_comm];omega
   have h7:(hd+1)*4294967296<=(hd/top+1)*top*4294967296:=Nat.mul_le_mul_right _ h6;rw [Nat.mul_add,<-Nat.mul_assoc];omega
  have h8:(hd*4294967296+u2+1)*p<=(hd/top+1)*nV:=Nat.le_trans (Nat.mul_le_mul_right _ h5) (by rw [Nat.mul_assoc];exact Nat.mul_le_mul_left _ hv1)
  have h9:nS<(hd/top+1)*nV:=by omega
  exact_mod_cast h9
theorem bW.less {nS nV p top next u2 hd:Nat} {g r:Int} (h:bW nS nV top hd g r) (hp:0<p) (hv1:(top*4294967296+next)*p<=nV) (hS2:nS<(hd*4294967296+u2+1)*p) (hlt:nS<4294967296*nV)
 (hc:4294967296<=g\/r*4294967296+u2<g*next):1<=g/\(nS:Int)<(g-1+1)*nV/\(g-1)*top+(r+top)=hd:=by
 obtain ⟨h0,h1,h2,h3,h4⟩:=h;obtain ⟨G,rfl⟩:∃G:Nat,g=G:=⟨g.toNat,by omega⟩
 obtain ⟨R,rfl⟩:∃R:Nat,r=R:=⟨r.toNat,by omega⟩
 have e2:G*top+R=hd:=by exact_mod_cast h2
 have hkey:nS<G*nV:=by
  rcases hc with hc|hc
  ·have:4294967296*nV<=G*nV:=Nat.mul_le_mul_right _ (by omega)
   omega
  ·exact uW hp hv1 hS2 e2 (by rw [<-Int.natCast_mul] at hc;omega)
 have hG:1<=G:=by
  rcases Nat.eq_zero_or_pos G with h|h
  ·subst h;simp at hkey
  ·exact h
 refine ⟨by omega,?_,?_⟩
 ·rw [Int.sub_add_cancel];exact_mod_cast hkey
 ·rw [<-h2];grind
theorem bW.again {nS nV top hd:Nat} {g r:Int} (hg:1<=g) (hr:0<=r) (h1:(nS:Int)<(g-1+1)*nV) (h2:(g-1)*top+(r+top)=hd) (hlt:r+top<4294967296):bW nS nV top hd (g-1) (r+top):=
 ⟨by omega,by omega,h2,h1,hlt⟩
def lF (nS nV:Nat) (g:Int):Prop:=∃G:Nat,g=G/\G<4294967296/\nS<(G+1)*nV/\(G-1)*nV<=nS
theorem bW.ok {nS nV p top next u2 hd:Nat} {g r:Int} (h:bW nS nV top hd g r) (hp:0<p) (hv1:(top*4294967296+next)*p<=nV) (hv2:nV<(top*4294967296+next+1)*p) (hS1:(hd*4294967296+u2)*p<=nS) (htop:2147483648<=top)
 (hlt:g<4294967296) (hc:g*next<=r*4294967296+u2):lF nS nV g:=by
 obtain ⟨h0,h1,h2,h3,h4⟩:=h;obtain ⟨G,rfl⟩:∃G:Nat,g=G:=⟨g.toNat,by omega⟩
 obtain ⟨R,rfl⟩:∃R:Nat,r=R:=⟨r.toNat,by omega⟩
 have e2:G*top+R=hd:=by exact_mod_cast h2
 refine ⟨G,rfl,by omega,by exact_mod_cast h3,?_⟩
 rcases Nat.eq_zero_or_pos G with h|h
 ·subst h;simp
 ·exact qC hp hv1 hv2 hS1 htop e2 (by omega) (by rw [<-Int.natCast_mul] at hc;omega) h
theorem bW.broke {nS nV p top next u0 u1 u2:Nat} {g r:Int} (hp:0<p) (hv1:(top*4294967296+next)*p<=nV) (hv2:nV<(top*4294967296+next+1)*p) (hS1:((u0*4294967296+u1)*4294967296+u2)*p<=nS) (htop:2147483648<=top) (hn:next<4294967296) (h1:u1<4294967296) (hu:u0<=top)
 (hg:1<=g) (hr:0<=r) (h3:(nS:Int)<(g-1+1)*nV) (h2:(g-1)*top+(r+top)=(u0*4294967296+u1:Nat)) (hbig:4294967296<=r+top):lF nS nV (g-1):=by
 obtain ⟨G,hG⟩:∃G:Nat,g-1=G:=⟨(g-1).toNat,by omega⟩
 obtain ⟨R,hR⟩:∃R:Nat,r+top=R:=⟨(r+top).toNat,by omega⟩
 rw [hG] at h2 h3|-;rw [hR] at h2 hbig;have e2:G*top+R=u0*4294967296+u1:=by exact_mod_cast h2
 have hGlt:G<4294967296:=by
  have h5:u0*4294967296<=top*4294967296:=Nat.mul_le_mul_right _ hu;have h6:G*top<4294967296*top:=by omega
  exact Nat.lt_of_mul_lt_mul_right h6
 refine ⟨G,rfl,hGlt,by exact_mod_cast h3,?_⟩
 rcases Nat.eq_zero_or_pos G with h|h
 ·subst h;simp
 ·refine qC hp hv1 hv2 hS1 htop e2 hGlt ?_ h;have h7:G*next<=4294967295*4294967295:=Nat.mul_le_mul (by omega) (by omega)
  omega
theorem bW.bound {nS nV top hd:Nat} {g r:Int} (h:bW nS nV top hd g r) (ht:0<top):g<=hd:=by
 obtain ⟨h0,h1,h2,h3,h4⟩:=h;have:g*1<=g*top:=Int.mul_le_mul_of_nonneg_left (by omega) h0
 omega
theorem vP {g:Int} {nxt:Nat} (h0:0<=g) (h:g<4294967296) (hn:nxt<4294967296):0<=g*nxt/\g*nxt<18446744073709551616:=by
 obtain ⟨G,rfl⟩:∃G:Nat,g=G:=⟨g.toNat,by omega⟩
 have h7:G*nxt<=4294967295*4294967295:=Nat.mul_le_mul (by omega) (by omega)
 rw [<-Int.natCast_mul];omega
theorem px (hd top:Nat):0<=(hd:Int)/top/\(hd:Int)/top<=hd:=by
 have e1:(hd:Int)/top=((hd/top:Nat):Int):=(Int.natCast_ediv _ _).symm;rw [e1];have:=Nat.div_le_self hd top;exact ⟨Int.natCast_nonneg _,Int.ofNat_le.2 this⟩
end Go.Proofs.YtkpfbekmaafehaaGreat
