/- The walks of simplex.common and short -/
import Derived.Test.YtkpfbekmaafehaaGreatSqM
namespace Go.Proofs.YtkpfbekmaafehaaGreat
open _root_.Go.Proofs.Tryz
set_option maxHeartbeats 8000000
set_option maxRecDepth 100000
open Go.RowKit
theorem tK:(lim 1).length<=32:=by
 rw [aA];exact Nat.lt_of_lt_of_le (show (1:Nat)<pw 1 by rw [mF];omega) (mT (by omega))
theorem sQ (w:World) (A D:Option Addr) (c d a b:Nat) (h:Nt w A c (lim a)) (k:Nt w D d (lim b)) (ha:(lim a).length<=200) (hb:(lim b).length<=200) (h0:0<a) :
 Calls prog 79 #[.slice A (lim a).length c, .slice D (lim b).length d] w fun e w'=>∃(E:Option Addr) (f:Nat),e = .returned (.slice E (lim (Nat.lcm a b)).length f)/\Nt w' E f (lim (Nat.lcm a b))/\Below w.heap.size w w':=by
 have hg0:0<Nat.gcd a b:=Nat.gcd_pos_of_pos_left _ h0;have hgb:Nat.gcd a b<=a:=Nat.le_of_dvd h0 (Nat.gcd_dvd_left a b);have hG:Hd (pk (nv (lim a)) (nv (lim b))=(lim (Nat.gcd a b),0)):=ag (by rw [am,am];exact jb (by omega) (by omega))
 have lg:=ao hgb;have hD:Hd (jE (nv (lim b)) (nv (lim (Nat.gcd a b)))=(lim (b/Nat.gcd a b),lim (b % Nat.gcd a b),0)):=ag (by rw [am,am,jE,if_neg (by omega),if_neg (by omega)])
 have lq:=ao (Nat.div_le_self b (Nat.gcd a b));have elc:a*(b/Nat.gcd a b)=Nat.lcm a b:=by
  rw [Nat.lcm,<-Nat.mul_div_assoc _ (Nat.gcd_dvd_right a b)]
 have lm:=aO (m:=a) (n:=b/Nat.gcd a b) (j:=200) (k:=200) ha (by omega)
 have hM:Hd (nh (nv (lim a)) (nv (lim (b/Nat.gcd a b)))=(lim (Nat.lcm a b),0)):=ag (by
  rw [am,am,iY (by omega) (by omega),elc,iC,if_neg (by rw [<-elc];omega)])
 clear elc lm hgb;generalize Nat.gcd a b=g at *;generalize b/g=q at *;generalize b % g=r at *;generalize Nat.lcm a b=l at *;have H1:=ag h;have H2:=ag k;clear h k hg0;go_enter func79,ntmps79;go_wp2_with fail;refine (rQ w A D c d _ _ (lim a) (lim b) (lim g) 0 H1.o H2.o rfl rfl hG.out).mono ?_;rintro e w1 ⟨A1,c1,rfl,n1,b1⟩;go_wp2_with fail;refine (oo w1 D A1 d c1 _ _ (lim b) (lim g) (lim q) (lim r) 0 (H2.o.below b1) n1 rfl rfl hD.out).mono ?_;rintro e w2 ⟨A2,c2,A3,c3,rfl,n2,_,b2⟩;have bw:=qd b1 b2;go_wp2_with fail;refine (rI w2 A A2 c c2 _ _ (lim a) (lim q) (lim l) 0 (H1.o.below bw) n2 rfl rfl hM.out).mono ?_
 rintro e w3 ⟨A4,c4,rfl,n4,b3⟩;go_wp2_with fail;go_ret;exact ⟨A4,c4,rfl,n4,qd bw b3⟩
def eV (f:Nat->Rat):Nat->Nat
 | 0=>1
 | k+1=>Nat.lcm (eV f k) (f k).den
theorem jD (f:Nat->Rat):∀k,0<eV f k
 | 0=>Nat.one_pos
 | k+1=>Nat.lcm_pos (jD f k) (f k).den_pos
theorem wE (f:Nat->Rat) {a b:Nat} (h:a<=b):eV f a<=eV f b:=by
 induction b with
 | zero=>rw [show a=0 from by omega];exact Nat.le_refl _
 | succ b ih=>
   rcases Nat.lt_or_ge b a with h1|h1
   ·rw [show a=b+1 from by omega];exact Nat.le_refl _
   ·exact Nat.le_trans (ih h1) (Nat.le_of_dvd (jD f (b+1)) (Nat.dvd_lcm_left _ _))
theorem zM (f:Nat->Rat):∀n k,k<n->(f k).den∣eV f n:=by
 intro n
 induction n with
 | zero=>intro k h;omega
 | succ n ih=>
   intro k h;rcases Nat.lt_or_ge k n with h1|h1
   ·exact Nat.dvd_trans (ih k h1) (Nat.dvd_lcm_left _ _)
   ·obtain rfl:k=n:=by omega
    exact Nat.dvd_lcm_right _ _
def fxV (vs:List Fx) (k:Nat):Rat:=(vs.getD k Fx.nil).q
structure Md (vs:List Fx):Prop where
 v:∀k (h:k<vs.length),vs[k].v/\Sz vs[k].q 32 32
 d:(lim (eV (fxV vs) vs.length)).length<=32
theorem ku {vs:List Fx} {k:Nat} (h:k<vs.length):fxV vs k=vs[k].q:=by rw [fxV,bC _ _ _ h]
theorem uw (w:World) (s:Sl) (h:s.ok w) (hl:s.vs.length<=1000) (hs:∀v∈s.vs,v.xs.length<=10000/\v.ys.length<=10000) :
 Calls prog 37 #[s.val] w fun e w'=>((Md s.vs/\∃(g:Nat) (vs:List Fx),vs.length=s.vs.length/\e = .returned (.tuple #[.slice (some ⟨g,0,none⟩) s.vs.length s.vs.length, .bool true])/\Os w' w.heap.size ⟨some ⟨g,0,none⟩,s.vs.length,vs⟩ s.vs.length (fxV s.vs))\/(¬Md s.vs/\e = .returned (.tuple #[.slice none 0 0, .bool false])))/\Below w.heap.size w w':=by
 have HS:=ag h;have bt:=ag hs;obtain ⟨A,c,us⟩:=s;clear h hs;replace hl:us.length<=1000:=hl
 show Calls prog 37 #[.slice A us.length c] w _
 replace bt:Hd (∀v∈us,v.xs.length<=10000/\v.ys.length<=10000):=bt;obtain ⟨N,hN⟩:∃N,us.length=N:=⟨_,rfl⟩;have HN:=ag hN;rw [hN] at hl|-;obtain ⟨i1,hi,hi0,hi1,hi2⟩:=info_parts dr;clear hN;go_enter func37,ntmps37;go_upto_region 2 with (refine wpList_make_full w rfl _ _ 22 rfl w.heap.size 29 i1 Fx.nil.val 3 underlying22 hi hi0 hi1 .i64 .i64 _ _ N rfl rfl (by omega) (by omega) (by rw [hi2];omega) (by simp only [maxLen];omega) (Nat.le_refl _) ?_;intro w2 hg2 hb2)
 have b12:Below w.heap.size w w2:=(ah _ _).grown hb2 (Nat.le_refl _) (by intro k hk;cases hk)
 have ou:Ou w2 w.heap.size w.heap.size N (fun a=>a<0) (fxV us):=by
  refine ⟨List.replicate N Fx.nil,⟨?_,fun v hv=>by rw [List.eq_of_mem_replicate hv];exact Fx.nil_ok _⟩,by simp,fun _ _ h=>absurd h (Nat.not_lt_zero _)⟩
  unfold Fr;rw [List.length_replicate,<-dm];exact hg2
 have eP:Hd (w.heap.size<=w2.heap.size):=ag b12.size;have rE:Hd (RdF w2 A us/\∀v∈us,v.ok w2):=ag ⟨HS.o.rd.below b12,fun v hv=>(HS.o.el v hv).below b12⟩;have wW:Hd (∀A vs c,Cl w A vs c->Cl w2 A vs c):=ag (fun _ _ _ h=>h.below b12);have kh:Hd (NL w2 w.heap.size):=ag ou.nl;have ko:=ag b12;clear hg2 hb2 b12 hi hi0 hi1 hi2;generalize hg:w.heap.size=g at *;have dn:Hd (w.heap.size<=g):=ag (Nat.le_of_eq hg);have f9:=ag hg;clear hg;have En:Hd (RdF w2 A us/\∀v∈us,v.ok w2):=rE;have HA:Hd (0<us.length->∀ad,A=some ad->¬ad.block=g):=ag (fun hn ad e=>by
  obtain ⟨ad',e',hl,_⟩:=HS.o.rd hn;rw [show (Sl.mk A c us).A=A from rfl,e] at e';injection e' with e';subst e';have:=dn.o;omega)
 go_wp2_with fail;refine (jB w2 1 (by omega)).mono ?_
 rintro e w3 ⟨D0,c0,rfl,n0,bb⟩;have kp0:=fo (fun a=>a=g) bb;replace ou:=ou.below bb;clear bb;go_wp2_with fail;go_loopw [5,16] (fun dv iv wr=>∃(k:Nat) (D:Option Addr) (d:Nat),k<=N/\iv = .int .i64 k/\dv = .slice D (lim (eV (fxV us) k)).length d/\Nt wr D d (lim (eV (fxV us) k))/\(lim (eV (fxV us) k)).length<=32/\(∀j (h:j<us.length),j<k->us[j].v/\Sz us[j].q 32 32)/\Ou wr g g N (fun a=>a<k) (fxV us)/\Kp (fun a=>a=g) w2 wr) (fun _ iv _=>N-(intOf iv).toNat)
 case atStart=>exact ⟨0,D0,c0,by omega,rfl,rfl,n0,tK,(fun j _ h=>absurd h (Nat.not_lt_zero _)),ou,kp0⟩
 case round=>
  clear ou n0 kp0;obtain ⟨k,D,d,hk,rfl,rfl,nd,hd32,hgood,ou,kp⟩:=hrel;by_cases hlt:k<N
  ·have hkl:k<us.length:=by rw [HN.o];exact hlt
   have m9:=ag nd;have bj:=ag ou;have ax:=ag kp;have kH:=ag hgood;have hnl:∀a,a=g->NL w2 a:=fun a e=>by rw [e];exact kh.o
   obtain ⟨ad,rfl,ef⟩:=(kp.rdf En.o.1 HA.o).at k hkl;have hme:=List.getElem_mem hkl;have ok:=kp.ok (En.o.2 _ hme) hnl;have HL:=ag (bt.o _ hme);have AB:Hd (Md us->us[k].v/\Sz us[k].q 32 32):=ag (fun h=>h.v k hkl);have u7:Hd (fxV us k=us[k].q):=ag (ku hkl);have nj:Hd (us[k].v->Sz us[k].q 32 32->∀j (h:j<us.length),j<k+1->us[j].v/\Sz us[j].q 32 32):=ag (fun h1 h2 j h hj=>by
    rcases Nat.lt_or_ge j k with h3|h3
    ·exact kH.o j h h3
    ·obtain rfl:j=k:=by omega
     exact ⟨h1,h2⟩)
   obtain ⟨x,hx⟩:∃x,us[k]=x:=⟨_,rfl⟩;have ef0:Ef wr (ad.add (k*3)) us[k]:=ef;rw [hx] at ef0 ok HL AB u7 nj;have yA:Hd (eV (fxV us) (k+1)=Nat.lcm (eV (fxV us) k) x.q.den):=ag (by rw [eV,u7.o])
   have CF:Hd (Md us->(lim (eV (fxV us) (k+1))).length<=32):=ag (fun h=>Nat.le_trans (ao (wE (fxV us) (by omega))) h.d)
   have Eo:=ag (jD (fxV us) k);obtain ⟨L,hL⟩:∃L,eV (fxV us) k=L:=⟨_,rfl⟩;rw [hL] at m9 hd32 yA Eo|-;have d0:=ef0.c0;have d1:=ef0.c1;have d2:=ef0.c2;clear hx hL ef ef0 nd ou kp hgood hme hnl;go_upto_region 6 with fail;have a1:=(au ok).1;have bb:=(au ok).2;replace m9:=ag (m9.o.below bb);replace bj:=ag (bj.o.below bb);replace ax:=ag (ax.o.then bb)
   clear d0 d1 d2 ok bb;generalize (wr.alloc (.cells #[.bool x.b, .slice x.A x.xs.length x.c, .slice x.D x.ys.length x.d] 29))=wm at a1 m9 bj ax|-;generalize wr.heap.size=g7 at a1|-;have d0:=a1.c0;have d1:=a1.c1;have d2:=a1.c2;have OK:=ag a1.ok;clear a1;by_cases hv:x.v
   ·have kf:Hd (gz x=okS x.q):=ag (gp hv);have HV:=ag hv;clear hv;go_wp2_with fail;refine (dZ wm x _ OK.o HL.o.1 HL.o.2 kf.o).mono ?_;rintro e wn ⟨y,rfl,hs1,ok1,bb⟩;have RP:=ag (Rp.of hs1);rw [show (okS x.q).2.2.2=0 from rfl];replace m9:=ag (m9.o.below bb);replace bj:=ag (bj.o.below bb);replace ax:=ag (ax.o.then bb)
    clear hs1 d0 d1 d2 bb;go_upto_region 7 with fail;have v1:Vl (wn.alloc (.cells y.cells 29)) wn.heap.size y x.q:=⟨(au ok1).1,RP.o⟩;have bb:=(au ok1).2;replace m9:=ag (m9.o.below bb);replace bj:=ag (bj.o.below bb);replace ax:=ag (ax.o.then bb)
    clear ok1 bb;generalize (wn.alloc (.cells #[.bool y.b, .slice y.A y.xs.length y.c, .slice y.D y.ys.length y.d] 29))=wm at v1 m9 bj ax|-;generalize wn.heap.size=g8 at v1|-;have d0:=v1.c0;have d1:=v1.c1;have d2:=v1.c2;have tv:=ag v1;have nE:Hd (y.xs.length=(lim x.q.num.natAbs).length):=ag (by rw [RP.o.n])
    have gK:Hd (y.ys.length=(lim x.q.den).length):=ag (by rw [RP.o.d])
    clear v1;by_cases hy1:32<y.xs.length
    ·have rT:Hd (¬Md us):=fun h=>by have:=(AB.o h).2.1;have:=nE.o;omega
     go_wp2_with fail
     go_ret2
     exact ⟨.inr ⟨rT.o,rfl⟩,by rw [f9.o];exact ax.o.up' ko.o (Nat.le_refl _) eP.o⟩
    ·by_cases hy2:32<y.ys.length
     ·have rT:Hd (¬Md us):=fun h=>by have:=(AB.o h).2.2;have:=gK.o;omega
      go_wp2_with fail
      go_ret2
      exact ⟨.inr ⟨rT.o,rfl⟩,by rw [f9.o];exact ax.o.up' ko.o (Nat.le_refl _) eP.o⟩
     ·have Ep:Hd (Sz x.q 32 32):=ag ⟨by have:=nE.o;omega,by have:=gK.o;omega⟩
      have a8:=sQ wm D y.D d y.d L x.q.den m9.o (by rw [<-RP.o.d];exact tv.o.fa.ok.den) (by omega) (by have:=Ep.o.2;omega) Eo.o
      rw [<-RP.o.d,<-yA.o] at a8;have bK:=ag a8;clear a8;go_wp2_with fail;refine bK.o.mono ?_;rintro e w9 ⟨E,f,rfl,ne,bb⟩;replace bj:=ag (bj.o.below bb);replace ax:=ag (ax.o.then bb)
      replace tv:=ag (tv.o.below bb);have iD:=ag ne;clear bb bK d0 d1 d2 ne m9;by_cases h10:32<(lim (eV (fxV us) (k+1))).length
      ·have rT:Hd (¬Md us):=fun h=>by have:=CF.o h;omega
       go_wp2_with fail
       go_ret2
       exact ⟨.inr ⟨rT.o,rfl⟩,by rw [f9.o];exact ax.o.up' ko.o (Nat.le_refl _) eP.o⟩
      ·obtain ⟨va,k0,k1,k2,aF,aG,aH⟩:=bj.o.slot hlt;have d0:=tv.o.c0;have d1:=tv.o.c1;have d2:=tv.o.c2;go_wp2_with fail;obtain ⟨p6,kk6⟩:=bj.o.put (i:=k) tv.o.el;go_roundw
       case rel=>exact ⟨k+1,E,f,by omega,by go_num,rfl,kk6.nt iD.o (fun a e=>by rw [e];exact bj.o.nl),by omega,nj.o HV.o Ep.o,p6.mono (fun a _ ha=>by omega) (fun a _ ha=>by
        by_cases e:a=k
        ·rw [if_pos e,e,u7.o]
        ·rw [if_neg e]),ax.o.trans kk6⟩
       case measure=>simp [intOf];omega
   ·have kf:Hd (gz x=kP 1):=ag (by rw [gz,if_neg hv])
    have rT:Hd (¬Md us):=fun h=>hv (AB.o h).1;clear hv;go_wp2_with fail;refine (dZ wm x _ OK.o HL.o.1 HL.o.2 kf.o).mono ?_;rintro e wn ⟨y,rfl,hs1,ok1,bb⟩;rw [show (kP 1).2.2.2=1 from rfl];replace ax:=ag ((ax.o.then bb).then (au ok1).2)
    clear bb hs1 d0 d1 d2;go_wp2_with fail
    go_ret2
    exact ⟨.inr ⟨rT.o,rfl⟩,by rw [f9.o];exact ax.o.up' ko.o (Nat.le_refl _) eP.o⟩
  ·obtain rfl:N=k:=by omega
   obtain ⟨vs,hvl,os⟩:=(ou.mono (D':=fun _=>True) (fun a ha _=>ha) (fun _ _ _=>rfl)).os;have CF:Hd (Md us):=ag ⟨fun j h=>hgood j h (by rw [<-HN.o];exact h),by rw [HN.o];exact hd32⟩
   go_wp2_with fail
   go_ret2
   exact ⟨.inl ⟨CF.o,g,vs,hvl,rfl,by rw [f9.o];exact os⟩,by rw [f9.o];exact kp.up' ko.o (Nat.le_refl _) eP.o⟩
structure Tl (w:World) (G P M D:Nat):Prop where
 ex:∃(A1:Option Addr) (c1:Nat) (A2:Option Addr) (c2:Nat) (A3:Option Addr) (c3:Nat),Bk3 w G (.slice A1 (lim P).length c1) (.slice A2 (lim M).length c2) (.slice A3 (lim D).length c3)/\Nt w A1 c1 (lim P)/\Nt w A2 c2 (lim M)/\Nt w A3 c3 (lim D)
section
variable {w w':World} {G P M D P':Nat} {A:Option Addr} {c:Nat}
theorem Tl.below (h:Tl w G P M D) (hb:Below w.heap.size w w'):Tl w' G P M D:=by
 obtain ⟨A1,c1,A2,c2,A3,c3,bk,n1,n2,n3⟩:=h.ex;exact ⟨A1,c1,A2,c2,A3,c3,bk.below hb,n1.below hb,n2.below hb,n3.below hb⟩
theorem Ax {v0 v1 v2 u:Value} (bk:Bk3 w G v0 v1 v2):Bk3 (w.setCell ⟨G,0,none⟩ u) G u v1 v2:=by
 obtain ⟨k0,k1,k2,f0,f1,f2,lt,t,fr,e⟩:=bk;refine ⟨?_,?_,?_,?_,?_,?_,by simp [World.setCell];exact lt,t,fr,fq _ _ _ _ _ _ _ e⟩ <;> simp [go_sem,k0,k1,k2,f0,f1,f2]
theorem Aw {v0 v1 v2 u:Value} (bk:Bk3 w G v0 v1 v2):Bk3 (w.setCell ⟨G,1,none⟩ u) G v0 u v2:=by
 obtain ⟨k0,k1,k2,f0,f1,f2,lt,t,fr,e⟩:=bk;refine ⟨?_,?_,?_,?_,?_,?_,by simp [World.setCell];exact lt,t,fr,fq _ _ _ _ _ _ _ e⟩ <;> simp [go_sem,k0,k1,k2,f0,f1,f2]
theorem Av {v0 v1 v2 u:Value} (bk:Bk3 w G v0 v1 v2):Bk3 (w.setCell ⟨G,2,none⟩ u) G v0 v1 u:=by
 obtain ⟨k0,k1,k2,f0,f1,f2,lt,t,fr,e⟩:=bk;refine ⟨?_,?_,?_,?_,?_,?_,by simp [World.setCell];exact lt,t,fr,fq _ _ _ _ _ _ _ e⟩ <;> simp [go_sem,k0,k1,k2,f0,f1,f2]
theorem Nt.offB {v0 v1 v2 u:Value} {xs:List Nat} (h:Nt w A c xs) (bk:Bk3 w G v0 v1 v2) (e0:dY v0=false) (e1:dY v1=false) (e2:dY v2=false) (k:Nat):Nt (w.setCell ⟨G,k,none⟩ u) A c xs:=by
 rcases Nat.eq_zero_or_pos xs.length with h0|h0
 ·exact h.nil_any h0 _
 ·exact dH h (h.sep3 bk e0 e1 e2 h0) _
theorem Tl.set0 (h:Tl w G P M D) (n:Nt w A c (lim P')):Tl (w.setCell ⟨G,0,none⟩ (.slice A (lim P').length c)) G P' M D:=by
 obtain ⟨A1,c1,A2,c2,A3,c3,bk,n1,n2,n3⟩:=h.ex;exact ⟨A,c,A2,c2,A3,c3,Ax bk,n.offB bk rfl rfl rfl 0,n2.offB bk rfl rfl rfl 0,n3.offB bk rfl rfl rfl 0⟩
theorem Tl.set1 (h:Tl w G P M D) (n:Nt w A c (lim P')):Tl (w.setCell ⟨G,1,none⟩ (.slice A (lim P').length c)) G P P' D:=by
 obtain ⟨A1,c1,A2,c2,A3,c3,bk,n1,n2,n3⟩:=h.ex;exact ⟨A1,c1,A,c,A3,c3,Aw bk,n1.offB bk rfl rfl rfl 1,n.offB bk rfl rfl rfl 1,n3.offB bk rfl rfl rfl 1⟩
theorem Tl.set2 (h:Tl w G P M D) (n:Nt w A c (lim P')):Tl (w.setCell ⟨G,2,none⟩ (.slice A (lim P').length c)) G P M P':=by
 obtain ⟨A1,c1,A2,c2,A3,c3,bk,n1,n2,n3⟩:=h.ex;exact ⟨A1,c1,A2,c2,A,c,Av bk,n1.offB bk rfl rfl rfl 2,n2.offB bk rfl rfl rfl 2,n.offB bk rfl rfl rfl 2⟩
theorem Tl.bk (h:Tl w G P M D):∃v0 v1 v2,Bk3 w G v0 v1 v2/\dY v0=false/\dY v1=false/\dY v2=false:=by
 obtain ⟨A1,c1,A2,c2,A3,c3,bk,n1,n2,n3⟩:=h.ex;exact ⟨_,_,_,bk,rfl,rfl,rfl⟩
theorem Tl.nt (h:Tl w G P M D) {xs:List Nat} (n:Nt w A c xs) (k:Nat) (u:Value):Nt (w.setCell ⟨G,k,none⟩ u) A c xs:=by
 obtain ⟨v0,v1,v2,bk,e0,e1,e2⟩:=h.bk;exact n.offB bk e0 e1 e2 k
end
structure Tv where
 P:Nat
 M:Nat
 D:Nat
def ie (t:Tv) (p q:Rat):Tv:=
 if p=0\/q=0 then t else
  let num:=p.num.natAbs*q.num.natAbs
  let den:=p.den*q.den
  let a:=den/Nat.gcd t.D den
  let b:=t.D/Nat.gcd t.D den
  if decide (p.num<0)=decide (q.num<0) then ⟨t.P*a+num*b,t.M*a,t.D*a⟩ else ⟨t.P*a,t.M*a+num*b,t.D*a⟩
theorem jV (w:World) (A D:Option Addr) (c d m n:Nat) (h:Nt w A c (lim m)) (k:Nt w D d (lim n)) (hm:(lim m).length<=250) (hn:(lim n).length<=250) :
 Calls prog 108 #[.slice A (lim m).length c, .slice D (lim n).length d] w fun e w'=>∃(E:Option Addr) (f:Nat),e = .returned (.tuple #[.slice E (lim (m*n)).length f, .int .i64 0])/\Nt w' E f (lim (m*n))/\Below w.heap.size w w':=by
 have:=aO hm hn;refine (rI w A D c d _ _ (lim m) (lim n) (lim (m*n)) 0 h k rfl rfl (by rw [am,am,iY (by omega) (by omega),iC,if_neg (by omega)])).mono ?_
 rintro e w' ⟨E,f,rfl,n',bb⟩;exact ⟨E,f,rfl,n',bb⟩
theorem nZ (w:World) (A D:Option Addr) (c d m n:Nat) (h:Nt w A c (lim m)) (k:Nt w D d (lim n)) (hm:(lim m).length<=500) (hn:(lim n).length<=500) :
 Calls prog 109 #[.slice A (lim m).length c, .slice D (lim n).length d] w fun e w'=>∃(E:Option Addr) (f:Nat),e = .returned (.tuple #[.slice E (lim (m+n)).length f, .int .i64 0])/\Nt w' E f (lim (m+n))/\Below w.heap.size w w':=by
 have:=jC hm hn;refine (wM w A D c d _ _ (lim m) (lim n) (lim (m+n)) 0 h k rfl rfl (by rw [am,am,pG,if_neg (by omega),iC,if_neg (by omega)])).mono ?_
 rintro e w' ⟨E,f,rfl,n',bb⟩;exact ⟨E,f,rfl,n',bb⟩
theorem BN (w:World) (A D:Option Addr) (c d m n:Nat) (h:Nt w A c (lim m)) (k:Nt w D d (lim n)) (hm:(lim m).length<=500) (hn:(lim n).length<=500) :
 Calls prog 106 #[.slice A (lim m).length c, .slice D (lim n).length d] w fun e w'=>∃(E:Option Addr) (f:Nat),e = .returned (.tuple #[.slice E (lim (Nat.gcd m n)).length f, .int .i64 0])/\Nt w' E f (lim (Nat.gcd m n))/\Below w.heap.size w w':=by
 refine (rQ w A D c d _ _ (lim m) (lim n) (lim (Nat.gcd m n)) 0 h k rfl rfl (by rw [am,am];exact jb (by omega) (by omega))).mono ?_
 rintro e w' ⟨E,f,rfl,n',bb⟩;exact ⟨E,f,rfl,n',bb⟩
theorem vW (w:World) (A D:Option Addr) (c d m n:Nat) (h:Nt w A c (lim m)) (k:Nt w D d (lim n)) (hm:(lim m).length<=500) (hn:(lim n).length<=500) (h0:n≠0) :
 Calls prog 107 #[.slice A (lim m).length c, .slice D (lim n).length d] w fun e w'=>∃(E:Option Addr) (f:Nat) (R:Value),e = .returned (.tuple #[.slice E (lim (m/n)).length f,R, .int .i64 0])/\Nt w' E f (lim (m/n))/\Below w.heap.size w w':=by
 refine (oo w A D c d _ _ (lim m) (lim n) (lim (m/n)) (lim (m % n)) 0 h k rfl rfl (by rw [am,am,jE,if_neg (by omega),if_neg h0])).mono ?_
 rintro e w' ⟨E,f,R,r,rfl,n',_,bb⟩;exact ⟨E,f,_,rfl,n',bb⟩
section
variable {w:World} {G P M D g k:Nat} {x:Fx} {q:Rat} {u:Value}
theorem Tl.vl (h:Tl w G P M D) (v:Vl w g x q) (hne:g≠G):Vl (w.setCell ⟨G,k,none⟩ u) g x q:=
 ⟨⟨v.fa.bk.kp ((Kp.refl (fun a=>a=G) w).set (S:=fun a=>a=G) rfl k u) hne,⟨h.nt v.fa.ok.num k u,h.nt v.fa.ok.den k u⟩⟩,v.rp⟩
theorem Tl.kp1 (G:Nat) (w:World) (k:Nat) (u:Value):Kp (fun a=>a=G) w (w.setCell ⟨G,k,none⟩ u):=(Kp.refl (fun a=>a=G) w).set (S:=fun a=>a=G) rfl k u
end
theorem qR {t:Tv} {p q:Rat} (h:p=0\/q=0):ie t p q=t:=by rw [ie,if_pos h]
theorem sW (w:World) (G:Nat) (t:Tv) (x y:Fx) (p q:Rat) (h:Tl w G t.P t.M t.D) (hx:El w x p) (hy:El w y q) (sp:Sz p 60 60) (sq:Sz q 60 60) (l1:(lim t.P).length<=130) (l2:(lim t.M).length<=130) (l3:(lim t.D).length<=100) (h0:0<t.D) :
 Calls prog 81 #[.pointer (some ⟨G,0,none⟩),x.val,y.val] w fun e w'=>e = .returned (.tuple #[])/\Tl w' G (ie t p q).P (ie t p q).M (ie t p q).D/\Kp (fun a=>a=G) w w':=by
 have yC:=ag h;have fy:Hd (G<w.heap.size):=ag (by obtain ⟨_,_,_,bk,_⟩:=h.bk;exact bk.lt)
 have vp:=ag hx.rp;have vq:=ag hy.rp;have a7:=ag sp;have c7:=ag sq;have sH:=ag l1;have sL:=ag l2;have yD:=ag l3;have H0:=ag h0;replace hx:=hx.ok;replace hy:=hy.ok;clear h sp sq l1 l2 l3 h0;go_enter func81,ntmps81;go_upto_region 1 with fail;have b0:=qc w (.cells x.cells 29);have bx:=az w (.bool x.b) (.slice x.A x.xs.length x.c) (.slice x.D x.ys.length x.d);have aa:=hx.below b0;have an:=hy.below b0;have sz0:=aB w (.cells x.cells 29);have bw:=b0;clear b0;generalize (w.alloc (.cells x.cells 29))=wa at bx aa an sz0 bw|-;have b1:=qc wa (.cells y.cells 29)
 have al:=az wa (.bool y.b) (.slice y.A y.xs.length y.c) (.slice y.D y.ys.length y.d);rw [sz0] at al;replace bx:=bx.below b1;replace aa:=aa.below b1;replace an:=an.below b1;replace bw:=qd bw b1;clear b1 sz0;generalize (wa.alloc (.cells y.cells 29))=w1 at bx al aa an bw|-;have br:=ag (yC.o.below bw);have ax:=ag (fo (fun a=>a=G) bw);obtain ⟨g4,hg4⟩:∃g,w.heap.size=g:=⟨_,rfl⟩;obtain ⟨g5,hg5⟩:∃g,w.heap.size+1=g:=⟨_,rfl⟩;have dc:Hd (Vl w1 g4 x p):=ag (by rw [<-hg4];exact ⟨⟨bx,aa⟩,vp.o⟩)
 have cv:Hd (Vl w1 g5 y q):=ag (by rw [<-hg5];exact ⟨⟨al,an⟩,vq.o⟩)
 have tE:Hd (g4≠G):=ag (by have:=fy.o;omega)
 have AC:Hd (g5≠G):=ag (by have:=fy.o;omega)
 rw [hg5,hg4];clear hg4 hg5 bx al aa an bw hx hy yC;have d0:=dc.o.c0;have d1:=dc.o.c1;have d2:=dc.o.c2;have e0:=cv.o.c0;have e1:=cv.o.c1;have e2:=cv.o.c2;obtain ⟨z1,hz1⟩:∃z,bA p 0=z:=⟨_,rfl⟩;obtain ⟨z2,hz2⟩:∃z,bA q 0=z:=⟨_,rfl⟩;have CH:=ag hz1;have mt:=ag hz2;by_cases h1:z1=0
 ·subst h1;have HE:=ag (qR (t:=t) (q:=q) (Or.inl ((aZ p).1 hz1)));clear hz1 hz2;go_wp2_with fail;refine (aU w1 x p 0 dc.o.el a7.o.up CH.o).mono ?_;rintro e w2 ⟨rfl,bb⟩;go_wp2_with fail;refine bodyPost_ret (v := .tuple #[]) (by simp [results,Tryz.results81,go_sem]) rfl ?_
  exact ⟨rfl,by rw [HE.o];exact br.o.below bb,ax.o.then bb⟩
 ·have hb1:(z1 == 0)=false:=beq_eq_false_iff_ne.2 h1;by_cases h2:z2=0
  ·subst h2;have HE:=ag (qR (t:=t) (p:=p) (Or.inr ((aZ q).1 hz2)));clear hz1 hz2;go_wp2_with fail;refine (aU w1 x p z1 dc.o.el a7.o.up CH.o).mono ?_;rintro e w2 ⟨rfl,bb⟩;replace br:=ag (br.o.below bb);replace dc:=ag (dc.o.below bb);replace cv:=ag (cv.o.below bb);replace ax:=ag (ax.o.then bb)
   clear bb d0 d1 d2 e0 e1 e2;have e0:=cv.o.c0;have e1:=cv.o.c1;have e2:=cv.o.c2;go_wp2_with fail;refine (aU w2 y q 0 cv.o.el c7.o.up mt.o).mono ?_;rintro e w3 ⟨rfl,bb⟩;go_wp2_with fail;refine bodyPost_ret (v := .tuple #[]) (by simp [results,Tryz.results81,go_sem]) rfl ?_
   exact ⟨rfl,by rw [HE.o];exact br.o.below bb,ax.o.then bb⟩
  ·have hb2:(z2 == 0)=false:=beq_eq_false_iff_ne.2 h2;have rD:Hd (¬(p=0\/q=0)):=by
    rintro (e|e)
    ·exact h1 (by rw [<-hz1];exact (aZ p).2 e)
    ·exact h2 (by rw [<-hz2];exact (aZ q).2 e)
   clear hz1 hz2;go_wp2_with fail;refine (aU w1 x p z1 dc.o.el a7.o.up CH.o).mono ?_;rintro e w2 ⟨rfl,bb⟩;replace br:=ag (br.o.below bb);replace dc:=ag (dc.o.below bb);replace cv:=ag (cv.o.below bb);replace ax:=ag (ax.o.then bb)
   clear bb d0 d1 d2 e0 e1 e2;have e0:=cv.o.c0;have e1:=cv.o.c1;have e2:=cv.o.c2;go_wp2_with fail;refine (aU w2 y q z2 cv.o.el c7.o.up mt.o).mono ?_;rintro e w3 ⟨rfl,bb⟩;replace br:=ag (br.o.below bb);replace dc:=ag (dc.o.below bb);replace cv:=ag (cv.o.below bb);replace ax:=ag (ax.o.then bb)
   clear bb e0 e1 e2;have d1:=dc.o.c1;have d2:=dc.o.c2;have e1:=cv.o.c1;have e2:=cv.o.c2;have a8:=jV w3 x.A y.A x.c y.c p.num.natAbs q.num.natAbs (by rw [<-vp.o.n];exact dc.o.fa.ok.num) (by rw [<-vq.o.n];exact cv.o.fa.ok.num) (by have:=a7.o.1;omega) (by have:=c7.o.1;omega)
   rw [<-vp.o.n,<-vq.o.n] at a8;obtain ⟨num,hnum⟩:∃z,p.num.natAbs*q.num.natAbs=z:=⟨_,rfl⟩;rw [hnum] at a8;have Fu:=ag hnum;have LNUM:Hd ((lim num).length<=120):=ag (by rw [<-hnum];exact aO a7.o.1 c7.o.1)
   have bK:=ag a8;clear a8 hnum;go_wp2_with fail;refine bK.o.mono ?_;rintro e w4 ⟨A6,c6,rfl,n6,bb⟩;have hI:=ag n6;replace br:=ag (br.o.below bb);replace dc:=ag (dc.o.below bb);replace cv:=ag (cv.o.below bb);replace ax:=ag (ax.o.then bb)
   clear bb d1 d2 e1 e2 n6 bK h1 h2 hb1 hb2;have d2:=dc.o.c2;have e2:=cv.o.c2;have a8:=jV w4 x.D y.D x.d y.d p.den q.den (by rw [<-vp.o.d];exact dc.o.fa.ok.den) (by rw [<-vq.o.d];exact cv.o.fa.ok.den) (by have:=a7.o.2;omega) (by have:=c7.o.2;omega)
   rw [<-vp.o.d,<-vq.o.d] at a8;obtain ⟨den,hden⟩:∃z,p.den*q.den=z:=⟨_,rfl⟩;rw [hden] at a8;have Fv:=ag hden;have LDEN:Hd ((lim den).length<=120):=ag (by rw [<-hden];exact aO a7.o.2 c7.o.2)
   have bK:=ag a8;clear a8 hden;go_wp2_with fail;refine bK.o.mono ?_;rintro e w5 ⟨A8,c8,rfl,n8,bb⟩;have yE:=ag n8;replace hI:=ag (hI.o.below bb);replace br:=ag (br.o.below bb);replace dc:=ag (dc.o.below bb);replace cv:=ag (cv.o.below bb);replace ax:=ag (ax.o.then bb)
   clear bb d2 e2 n8 bK;obtain ⟨A1,c1,A2,c2,A3,c3,bk,n1,n2,n3⟩:=br.o.ex;have N1:=ag n1;have N2:=ag n2;have N3:=ag n3;obtain ⟨k0,k1,k2,aF,aG,aH,_,_⟩:=bk;clear n1 n2 n3;have a8:=BN w5 A3 A8 c3 c8 t.D den N3.o yE.o (by have:=yD.o;omega) (by have:=LDEN.o;omega)
   obtain ⟨g,hg⟩:∃z,Nat.gcd t.D den=z:=⟨_,rfl⟩;rw [hg] at a8;have HG:=ag hg;have Er:Hd (g≠0):=ag (by rw [<-hg];exact Nat.ne_of_gt (Nat.gcd_pos_of_pos_left _ H0.o))
   have LG:Hd ((lim g).length<=100):=ag (Nat.le_trans (ao (by rw [<-hg];exact Nat.le_of_dvd H0.o (Nat.gcd_dvd_left _ _))) yD.o)
   have bK:=ag a8;clear a8 hg;go_wp2_with fail;refine bK.o.mono ?_;rintro e w6 ⟨A10,c10,rfl,n10,bb⟩;have yF:=ag n10;replace hI:=ag (hI.o.below bb);replace yE:=ag (yE.o.below bb);replace br:=ag (br.o.below bb);replace dc:=ag (dc.o.below bb);replace cv:=ag (cv.o.below bb);replace ax:=ag (ax.o.then bb)
   clear k0 k1 k2 aF aG aH;clear bb n10 bK N1 N2 N3;have a8:=vW w6 A8 A10 c8 c10 den g yE.o yF.o (by have:=LDEN.o;omega) (by have:=LG.o;omega) Er.o
   obtain ⟨a,ha⟩:∃z,den/g=z:=⟨_,rfl⟩;rw [ha] at a8;have HA:=ag ha;have LA:Hd ((lim a).length<=120):=ag (Nat.le_trans (ao (by rw [<-ha];exact Nat.div_le_self _ _)) LDEN.o)
   have bK:=ag a8;clear a8 ha;go_wp2_with fail;refine bK.o.mono ?_;rintro e w7 ⟨A12,c12,R12,rfl,n12,bb⟩;have i8:=ag n12;replace hI:=ag (hI.o.below bb);replace yF:=ag (yF.o.below bb);replace br:=ag (br.o.below bb);replace dc:=ag (dc.o.below bb);replace cv:=ag (cv.o.below bb);replace ax:=ag (ax.o.then bb)
   clear bb n12 bK yE;obtain ⟨A1,c1,A2,c2,A3,c3,bk,n1,n2,n3⟩:=br.o.ex;have N1:=ag n1;have N2:=ag n2;have N3:=ag n3;obtain ⟨k0,k1,k2,aF,aG,aH,_,_⟩:=bk;clear n1 n2 n3;have a8:=vW w7 A3 A10 c3 c10 t.D g N3.o yF.o (by have:=yD.o;omega) (by have:=LG.o;omega) Er.o
   obtain ⟨b,hb⟩:∃z,t.D/g=z:=⟨_,rfl⟩;rw [hb] at a8;have HB:=ag hb;have LB:Hd ((lim b).length<=100):=ag (Nat.le_trans (ao (by rw [<-hb];exact Nat.div_le_self _ _)) yD.o)
   have bK:=ag a8;clear a8 hb;go_wp2_with fail;refine bK.o.mono ?_;rintro e w8 ⟨A15,c15,R15,rfl,n15,bb⟩;have lT:=ag n15;replace hI:=ag (hI.o.below bb);replace i8:=ag (i8.o.below bb);replace br:=ag (br.o.below bb);replace dc:=ag (dc.o.below bb);replace cv:=ag (cv.o.below bb);replace ax:=ag (ax.o.then bb)
   clear k0 k1 k2 aF aG aH;clear bb n15 bK yF N1 N2 N3;obtain ⟨A1,c1,A2,c2,A3,c3,bk,n1,n2,n3⟩:=br.o.ex;have N1:=ag n1;have N2:=ag n2;have N3:=ag n3;obtain ⟨k0,k1,k2,aF,aG,aH,_,_⟩:=bk;clear n1 n2 n3;have a8:=jV w8 A1 A12 c1 c12 t.P a N1.o i8.o (by have:=sH.o;omega) (by have:=LA.o;omega)
   obtain ⟨p1,hnew⟩:∃z,t.P*a=z:=⟨_,rfl⟩;rw [hnew] at a8;have Es:=ag hnew;have bK:=ag a8;clear a8 hnew;go_wp2_with fail;refine bK.o.mono ?_;rintro e w9 ⟨E,f,rfl,ne,bb⟩;replace hI:=ag (hI.o.below bb);replace i8:=ag (i8.o.below bb);replace lT:=ag (lT.o.below bb);replace br:=ag (br.o.below bb);replace dc:=ag (dc.o.below bb);replace cv:=ag (cv.o.below bb);replace ax:=ag (ax.o.then bb)
   clear k0 k1 k2 aF aG aH;clear bb bK N1 N2 N3;obtain ⟨A1,c1,A2,c2,A3,c3,bk,n1,n2,n3⟩:=br.o.ex;have N1:=ag n1;have N2:=ag n2;have N3:=ag n3;obtain ⟨k0,k1,k2,aF,aG,aH,_,_⟩:=bk;clear n1 n2 n3;go_upto_region 8 with fail;clear k0 k1 k2 aF aG aH;clear N1 N2 N3;have t9:=br.o.set0 ne;have v4:=br.o.vl (k:=0) (u := .slice E (lim p1).length f) dc.o tE.o;have v5:=br.o.vl (k:=0) (u := .slice E (lim p1).length f) cv.o AC.o;have m6:=br.o.nt hI.o 0 (.slice E (lim p1).length f);have m12:=br.o.nt i8.o 0 (.slice E (lim p1).length f);have m15:=br.o.nt lT.o 0 (.slice E (lim p1).length f)
   have kp9:=ax.o.trans (Tl.kp1 G w9 0 (.slice E (lim p1).length f));clear br dc cv hI i8 lT ax ne;generalize (w9.setCell ⟨G,0,none⟩ (.slice E (lim p1).length f))=wq at *;have br:=ag t9;have dc:=ag v4;have cv:=ag v5;have hI:=ag m6;have i8:=ag m12;have lT:=ag m15;have ax:=ag kp9;clear t9 v4 v5 m6 m12 m15 kp9;obtain ⟨A1,c1,A2,c2,A3,c3,bk,n1,n2,n3⟩:=br.o.ex;have N1:=ag n1;have N2:=ag n2;have N3:=ag n3;obtain ⟨k0,k1,k2,aF,aG,aH,_,_⟩:=bk;clear n1 n2 n3;have a8:=jV wq A2 A12 c2 c12 t.M a N2.o i8.o (by have:=sL.o;omega) (by have:=LA.o;omega)
   obtain ⟨m1,hnew⟩:∃z,t.M*a=z:=⟨_,rfl⟩;rw [hnew] at a8;have rz:=ag hnew;have bK:=ag a8;clear a8 hnew;go_wp2_with fail;refine bK.o.mono ?_;rintro e w10 ⟨E,f,rfl,ne,bb⟩;replace hI:=ag (hI.o.below bb);replace i8:=ag (i8.o.below bb);replace lT:=ag (lT.o.below bb);replace br:=ag (br.o.below bb);replace dc:=ag (dc.o.below bb);replace cv:=ag (cv.o.below bb);replace ax:=ag (ax.o.then bb)
   clear k0 k1 k2 aF aG aH;clear bb bK N1 N2 N3;obtain ⟨A1,c1,A2,c2,A3,c3,bk,n1,n2,n3⟩:=br.o.ex;have N1:=ag n1;have N2:=ag n2;have N3:=ag n3;obtain ⟨k0,k1,k2,aF,aG,aH,_,_⟩:=bk;clear n1 n2 n3;go_upto_region 9 with fail;clear k0 k1 k2 aF aG aH;clear N1 N2 N3;have t9:=br.o.set1 ne;have v4:=br.o.vl (k:=1) (u := .slice E (lim m1).length f) dc.o tE.o;have v5:=br.o.vl (k:=1) (u := .slice E (lim m1).length f) cv.o AC.o;have m6:=br.o.nt hI.o 1 (.slice E (lim m1).length f);have m12:=br.o.nt i8.o 1 (.slice E (lim m1).length f);have m15:=br.o.nt lT.o 1 (.slice E (lim m1).length f)
   have kp9:=ax.o.trans (Tl.kp1 G w10 1 (.slice E (lim m1).length f));clear br dc cv hI i8 lT ax ne;generalize (w10.setCell ⟨G,1,none⟩ (.slice E (lim m1).length f))=wq at *;have br:=ag t9;have dc:=ag v4;have cv:=ag v5;have hI:=ag m6;have i8:=ag m12;have lT:=ag m15;have ax:=ag kp9;clear t9 v4 v5 m6 m12 m15 kp9;obtain ⟨A1,c1,A2,c2,A3,c3,bk,n1,n2,n3⟩:=br.o.ex;have N1:=ag n1;have N2:=ag n2;have N3:=ag n3;obtain ⟨k0,k1,k2,aF,aG,aH,_,_⟩:=bk;clear n1 n2 n3;have a8:=jV wq A3 A12 c3 c12 t.D a N3.o i8.o (by have:=yD.o;omega) (by have:=LA.o;omega)
   obtain ⟨d1,hnew⟩:∃z,t.D*a=z:=⟨_,rfl⟩;rw [hnew] at a8;have mo:=ag hnew;have bK:=ag a8;clear a8 hnew;go_wp2_with fail;refine bK.o.mono ?_;rintro e w11 ⟨E,f,rfl,ne,bb⟩;replace hI:=ag (hI.o.below bb);replace i8:=ag (i8.o.below bb);replace lT:=ag (lT.o.below bb);replace br:=ag (br.o.below bb);replace dc:=ag (dc.o.below bb);replace cv:=ag (cv.o.below bb);replace ax:=ag (ax.o.then bb)
   clear k0 k1 k2 aF aG aH;clear bb bK N1 N2 N3;obtain ⟨A1,c1,A2,c2,A3,c3,bk,n1,n2,n3⟩:=br.o.ex;have N1:=ag n1;have N2:=ag n2;have N3:=ag n3;obtain ⟨k0,k1,k2,aF,aG,aH,_,_⟩:=bk;clear n1 n2 n3;go_upto_region 10 with fail;clear k0 k1 k2 aF aG aH;clear N1 N2 N3;have t9:=br.o.set2 ne;have v4:=br.o.vl (k:=2) (u := .slice E (lim d1).length f) dc.o tE.o;have v5:=br.o.vl (k:=2) (u := .slice E (lim d1).length f) cv.o AC.o;have m6:=br.o.nt hI.o 2 (.slice E (lim d1).length f);have m12:=br.o.nt i8.o 2 (.slice E (lim d1).length f);have m15:=br.o.nt lT.o 2 (.slice E (lim d1).length f)
   have kp9:=ax.o.trans (Tl.kp1 G w11 2 (.slice E (lim d1).length f));clear br dc cv hI i8 lT ax ne;generalize (w11.setCell ⟨G,2,none⟩ (.slice E (lim d1).length f))=wq at *;have br:=ag t9;have dc:=ag v4;have cv:=ag v5;have hI:=ag m6;have i8:=ag m12;have lT:=ag m15;have ax:=ag kp9;clear t9 v4 v5 m6 m12 m15 kp9;have a8:=jV wq A6 A15 c6 c15 num b hI.o lT.o (by have:=LNUM.o;omega) (by have:=LB.o;omega)
   obtain ⟨nb,hnb⟩:∃z,num*b=z:=⟨_,rfl⟩;rw [hnb] at a8;have y5:=ag hnb;have LNB:Hd ((lim nb).length<=220):=ag (by rw [<-hnb];exact aO LNUM.o LB.o)
   have bK:=ag a8;clear a8 hnb;go_wp2_with fail;refine bK.o.mono ?_;rintro e w12 ⟨E7,f7,rfl,n7,bb⟩;have AF:=ag n7;replace br:=ag (br.o.below bb);replace dc:=ag (dc.o.below bb);replace cv:=ag (cv.o.below bb);replace ax:=ag (ax.o.then bb)
   clear bb n7 bK;have b0:=dc.o.c0;have b1:=cv.o.c0;have AH:Hd (ie t p q=if decide (p.num<0)=decide (q.num<0) then ⟨p1+nb,m1,d1⟩ else ⟨p1,m1+nb,d1⟩):=ag (by
    rw [ie,if_neg rD.o];simp only [Fu.o,Fv.o,HG.o,HA.o,HB.o,Es.o,rz.o,mo.o,y5.o])
   have LP1:Hd ((lim p1).length<=250):=ag (by rw [<-Es.o];exact aO sH.o LA.o)
   have LM1:Hd ((lim m1).length<=250):=ag (by rw [<-rz.o];exact aO sL.o LA.o)
   obtain ⟨s1,hs1⟩:∃s,x.b=s:=⟨_,rfl⟩;obtain ⟨s2,hs2⟩:∃s,y.b=s:=⟨_,rfl⟩;have l9:Hd ((decide (p.num<0)=decide (q.num<0))↔s1=s2):=ag (by rw [<-vp.o.b,<-vq.o.b,hs1,hs2])
   rw [hs1] at b0;rw [hs2] at b1;clear hs1 hs2;obtain ⟨A1,c1,A2,c2,A3,c3,bk,n1,n2,n3⟩:=br.o.ex;have N1:=ag n1;have N2:=ag n2;have N3:=ag n3;obtain ⟨k0,k1,k2,aF,aG,aH,_,_⟩:=bk;clear n1 n2 n3;cases s1 <;> cases s2
   ·have pf:Hd (ie t p q=⟨p1+nb,m1,d1⟩):=ag (by rw [AH.o,if_pos (l9.o.2 rfl)])
    have a8:=nZ w12 A1 E7 c1 f7 p1 nb N1.o AF.o (by have:=LP1.o;omega) (by have:=LNB.o;omega)
    have bK:=ag a8;obtain ⟨X,hX⟩:∃z,p1+nb=z:=⟨_,rfl⟩;rw [hX] at bK pf;clear a8 hX;go_wp2_with fail;refine bK.o.mono ?_;rintro e w13 ⟨E,f,rfl,ne,bb⟩;replace br:=ag (br.o.below bb);replace ax:=ag (ax.o.then bb)
    clear k0 k1 k2 aF aG aH;clear bb bK N1 N2 N3 b0 b1;obtain ⟨A1,c1,A2,c2,A3,c3,bk,n1,n2,n3⟩:=br.o.ex;have N1:=ag n1;have N2:=ag n2;have N3:=ag n3;obtain ⟨k0,k1,k2,aF,aG,aH,_,_⟩:=bk;clear n1 n2 n3;go_wp2_with fail;have t9:=br.o.set0 ne;have kp9:=ax.o.trans (Tl.kp1 G w13 0 (.slice E (lim X).length f))
    go_end0
    exact ⟨rfl,by rw [pf.o];exact t9,kp9⟩
   ·have pf:Hd (ie t p q=⟨p1,m1+nb,d1⟩):=ag (by rw [AH.o,if_neg (fun e=>Bool.noConfusion (l9.o.1 e))])
    have a8:=nZ w12 A2 E7 c2 f7 m1 nb N2.o AF.o (by have:=LM1.o;omega) (by have:=LNB.o;omega)
    have bK:=ag a8;obtain ⟨X,hX⟩:∃z,m1+nb=z:=⟨_,rfl⟩;rw [hX] at bK pf;clear a8 hX;go_wp2_with fail;refine bK.o.mono ?_;rintro e w13 ⟨E,f,rfl,ne,bb⟩;replace br:=ag (br.o.below bb);replace ax:=ag (ax.o.then bb)
    clear k0 k1 k2 aF aG aH;clear bb bK N1 N2 N3 b0 b1;obtain ⟨A1,c1,A2,c2,A3,c3,bk,n1,n2,n3⟩:=br.o.ex;have N1:=ag n1;have N2:=ag n2;have N3:=ag n3;obtain ⟨k0,k1,k2,aF,aG,aH,_,_⟩:=bk;clear n1 n2 n3;go_wp2_with fail;have t9:=br.o.set1 ne;have kp9:=ax.o.trans (Tl.kp1 G w13 1 (.slice E (lim X).length f))
    go_end0
    exact ⟨rfl,by rw [pf.o];exact t9,kp9⟩
   ·have pf:Hd (ie t p q=⟨p1,m1+nb,d1⟩):=ag (by rw [AH.o,if_neg (fun e=>Bool.noConfusion (l9.o.1 e))])
    have a8:=nZ w12 A2 E7 c2 f7 m1 nb N2.o AF.o (by have:=LM1.o;omega) (by have:=LNB.o;omega)
    have bK:=ag a8;obtain ⟨X,hX⟩:∃z,m1+nb=z:=⟨_,rfl⟩;rw [hX] at bK pf;clear a8 hX;go_wp2_with fail;refine bK.o.mono ?_;rintro e w13 ⟨E,f,rfl,ne,bb⟩;replace br:=ag (br.o.below bb);replace ax:=ag (ax.o.then bb)
    clear k0 k1 k2 aF aG aH;clear bb bK N1 N2 N3 b0 b1;obtain ⟨A1,c1,A2,c2,A3,c3,bk,n1,n2,n3⟩:=br.o.ex;have N1:=ag n1;have N2:=ag n2;have N3:=ag n3;obtain ⟨k0,k1,k2,aF,aG,aH,_,_⟩:=bk;clear n1 n2 n3;go_wp2_with fail;have t9:=br.o.set1 ne;have kp9:=ax.o.trans (Tl.kp1 G w13 1 (.slice E (lim X).length f))
    go_end0
    exact ⟨rfl,by rw [pf.o];exact t9,kp9⟩
   ·have pf:Hd (ie t p q=⟨p1+nb,m1,d1⟩):=ag (by rw [AH.o,if_pos (l9.o.2 rfl)])
    have a8:=nZ w12 A1 E7 c1 f7 p1 nb N1.o AF.o (by have:=LP1.o;omega) (by have:=LNB.o;omega)
    have bK:=ag a8;obtain ⟨X,hX⟩:∃z,p1+nb=z:=⟨_,rfl⟩;rw [hX] at bK pf;clear a8 hX;go_wp2_with fail;refine bK.o.mono ?_;rintro e w13 ⟨E,f,rfl,ne,bb⟩;replace br:=ag (br.o.below bb);replace ax:=ag (ax.o.then bb)
    clear k0 k1 k2 aF aG aH;clear bb bK N1 N2 N3 b0 b1;obtain ⟨A1,c1,A2,c2,A3,c3,bk,n1,n2,n3⟩:=br.o.ex;have N1:=ag n1;have N2:=ag n2;have N3:=ag n3;obtain ⟨k0,k1,k2,aF,aG,aH,_,_⟩:=bk;clear n1 n2 n3;go_wp2_with fail;have t9:=br.o.set0 ne;have kp9:=ax.o.trans (Tl.kp1 G w13 0 (.slice E (lim X).length f))
    go_end0
    exact ⟨rfl,by rw [pf.o];exact t9,kp9⟩
end Go.Proofs.YtkpfbekmaafehaaGreat
