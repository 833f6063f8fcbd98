/- The walks of drydockref01: divide for all numbers, Div, Gcd -/
import Derived.Test.YtkpfbekmaafehaaGreatRefI
import Derived.Test.YtkpfbekmaafehaaGreatFrA
import Derived.Test.YtkpfbekmaafehaaGreatFrG
import Derived.Test.YtkpfbekmaafehaaGreatRefF
namespace Go.Proofs.YtkpfbekmaafehaaGreat
open _root_.Go.Proofs.Tryz
set_option maxHeartbeats 8000000
set_option maxRecDepth 100000
open Go.RowKit
theorem mR (w:World) (A D:Option Addr) (c d M N:Nat) (h:Nt w A c (lim M)) (k:Nt w D d (lim N)) (hl:(lim M).length<=1000) (hl2:(lim N).length<=1000) (hN:0<N) :
 Calls prog 111 #[.slice A (lim M).length c, .slice D (lim N).length d] w (jK w (M/N) (M % N)):=by
 rcases Nat.lt_or_ge M N with hlt|hge
 ·exact ru w A D c d M N h k hl hl2 hlt
 ·have h1:0<(lim N).length:=aX.2 (by omega)
  rcases Nat.lt_or_ge 1 (lim N).length with h2|h2
  ·obtain ⟨n,hn⟩:∃n,(lim N).length=n+2:=⟨(lim N).length-2,by omega⟩
   have:=rq w A D c d M N n _ h k rfl hl hn hge;rw [hn];exact this
  ·obtain ⟨x,hx⟩:∃x,lim N = [x]:=by
    rcases hL:lim N with _|⟨x,_|⟨y,l⟩⟩
    ·rw [hL] at h1;simp at h1
    ·exact ⟨x,rfl⟩
    ·rw [hL] at h2;simp at h2
   have hv:x=N:=by
    have:=am N;rw [hx] at this;simpa [aT,aW] using this
   subst hv;have:=pH w A D c d M x h (by rw [<-hx];exact k) hl hN hge
   rw [hx];exact this
theorem jx (w:World) (A D:Option Addr) (c d n m:Nat) (xs ys Q R:List Nat) (E:Int) (h:Nt w A c xs) (k:Nt w D d ys) (hn:n=xs.length) (hm:m=ys.length) (hl:xs.length<=10000) (hl2:ys.length<=10000) (hr:jE (nv xs) (nv ys)=(Q,R,E)) :
 Calls prog 85 #[.slice A n c, .slice D m d] w (wO w Q R E):=by
 subst hn hm;have HR:=ag hr;clear hr;have hl1:=ak h.u;have hl2:=ak k.u;have hl3:(lim (nv xs)).length<=1000000:=by omega
 have hl4:(lim (nv ys)).length<=1000000:=by omega
 have h3:=h.cap;have h4:=h.max;have k3:=k.cap;have k4:=k.max;by_cases hb:512<(lim (nv xs)).length
 ·go_enter func85,ntmps85;go_wp2_with fail;refine (aE _ A c _ xs true h rfl hl3 (by simp <;> omega)).mono ?_
  rintro e wn ⟨rfl,bb⟩;replace h:=h.below bb;replace k:=k.below bb;have bw:=bb;clear bb;go_wp2_with fail
  go_ret3
  have e:=HR.o;rw [qL hb] at e;simp only [Prod.mk.injEq] at e;obtain ⟨rfl,rfl,rfl⟩:=e;exact ⟨_,_,_,_,rfl,Nt.nil _ _ _ (by omega),Nt.nil _ _ _ (by omega),bw⟩
 ·by_cases hb2:512<(lim (nv ys)).length
  ·go_enter func85,ntmps85;go_wp2_with fail;refine (aE _ A c _ xs false h rfl hl3 (by simp <;> omega)).mono ?_
   rintro e wn ⟨rfl,bb⟩;replace h:=h.below bb;replace k:=k.below bb;have bw:=bb;clear bb;go_wp2_with fail;refine (aE _ D d _ ys true k rfl hl4 (by simp <;> omega)).mono ?_
   rintro e wn ⟨rfl,bb⟩;replace h:=h.below bb;replace k:=k.below bb;replace bw:=qd bw bb;clear bb;go_wp2_with fail
   go_ret3
   have e:=HR.o;rw [qK hb2] at e;simp only [Prod.mk.injEq] at e;obtain ⟨rfl,rfl,rfl⟩:=e;exact ⟨_,_,_,_,rfl,Nt.nil _ _ _ (by omega),Nt.nil _ _ _ (by omega),bw⟩
  ·by_cases h0:nv ys=0
   ·have hz:(((lim (nv ys)).length:Int) == 0)=true:=by rw [h0,aV];rfl
    have H0:=ag h0;clear h0;go_enter func85,ntmps85;go_wp2_with fail;refine (aE _ A c _ xs false h rfl hl3 (by simp <;> omega)).mono ?_
    rintro e wn ⟨rfl,bb⟩;replace h:=h.below bb;replace k:=k.below bb;have bw:=bb;clear bb;go_wp2_with fail;refine (aE _ D d _ ys false k rfl hl4 (by simp <;> omega)).mono ?_
    rintro e wn ⟨rfl,bb⟩;replace h:=h.below bb;replace k:=k.below bb;replace bw:=qd bw bb;clear bb;go_wp2_with fail;refine (aL _ D d _ ys k rfl hl4).mono ?_;rintro e wn ⟨A2,c2,rfl,g2,bb⟩;replace bw:=qd bw bb;clear g2;go_wp2_with fail
    go_ret3
    have e:=HR.o;rw [qJ hb hb2 H0.o] at e;simp only [Prod.mk.injEq] at e;obtain ⟨rfl,rfl,rfl⟩:=e;exact ⟨_,_,_,_,rfl,Nt.nil _ _ _ (by omega),Nt.nil _ _ _ (by omega),bw⟩
   ·have hp:=aX.2 h0;have hz:(((lim (nv ys)).length:Int) == 0)=false:=beq_eq_false_iff_ne.2 (by omega)
    have H0:Hd (nv ys≠0):=h0;clear h0;go_enter func85,ntmps85;go_wp2_with fail;refine (aE _ A c _ xs false h rfl hl3 (by simp <;> omega)).mono ?_
    rintro e wn ⟨rfl,bb⟩;replace h:=h.below bb;replace k:=k.below bb;have bw:=bb;clear bb;go_wp2_with fail;refine (aE _ D d _ ys false k rfl hl4 (by simp <;> omega)).mono ?_
    rintro e wn ⟨rfl,bb⟩;replace h:=h.below bb;replace k:=k.below bb;replace bw:=qd bw bb;clear bb;go_wp2_with fail;refine (aL _ D d _ ys k rfl hl4).mono ?_;rintro e wn ⟨A0,c0,rfl,g0,bb⟩;replace h:=h.below bb;replace k:=k.below bb;replace bw:=qd bw bb;clear g0 bb;go_wp2_with fail;refine (aL _ A c _ xs h rfl hl3).mono ?_;rintro e wn ⟨A1,c1,rfl,g1,bb⟩;have n1:=g1.nt (aC _);replace k:=k.below bb;replace bw:=qd bw bb;clear g1 bb;go_wp2_with fail;refine (aL _ D d _ ys k rfl hl4).mono ?_;rintro e wn ⟨A2,c2,rfl,g2,bb⟩;have n2:=g2.nt (aC _);replace n1:=n1.below bb;replace bw:=qd bw bb
    clear g2 bb;go_wp2_with fail;refine (mR _ A1 A2 c1 c2 _ _ n1 n2 (by omega) (by omega) (Nat.pos_of_ne_zero H0.o)).mono ?_
    rintro e wn ⟨A3,c3,A4,c4,rfl,n3,n4,bb⟩;replace bw:=qd bw bb;clear bb;go_wp2_with fail
    go_ret3
    have e:=HR.o;rw [jW hb hb2 H0.o] at e;simp only [Prod.mk.injEq] at e;obtain ⟨rfl,rfl,rfl⟩:=e;exact ⟨_,_,_,_,rfl,n3,n4,bw⟩
theorem sZ (w:World) (A D:Option Addr) (c d n m:Nat) (xs ys R:List Nat) (E:Int) (h:Nt w A c xs) (k:Nt w D d ys) (hn:n=xs.length) (hm:m=ys.length) (hl:xs.length<=10000) (hl2:ys.length<=10000) (hr:pk (nv xs) (nv ys)=(R,E)) :
 Calls prog 84 #[.slice A n c, .slice D m d] w (jJ w R E):=by
 subst hn hm;have HR:=ag hr;clear hr;have hl1:=ak h.u;have hl2:=ak k.u;have hl3:(lim (nv xs)).length<=1000000:=by omega
 have hl4:(lim (nv ys)).length<=1000000:=by omega
 have h3:=h.cap;have h4:=h.max;have k3:=k.cap;have k4:=k.max;by_cases hb:512<(lim (nv xs)).length
 ·go_enter func84,ntmps84;go_wp2_with fail;refine (aE _ A c _ xs true h rfl hl3 (by simp <;> omega)).mono ?_
  rintro e wn ⟨rfl,bb⟩;replace h:=h.below bb;replace k:=k.below bb;have bw:=bb;clear bb;go_wp2_with fail
  go_ret2
  have e:=HR.o;rw [qE hb] at e;obtain ⟨rfl,rfl⟩:=Prod.mk.inj e;exact ⟨_,_,rfl,Nt.nil _ _ _ (by omega),bw⟩
 ·by_cases hb2:512<(lim (nv ys)).length
  ·go_enter func84,ntmps84;go_wp2_with fail;refine (aE _ A c _ xs false h rfl hl3 (by simp <;> omega)).mono ?_
   rintro e wn ⟨rfl,bb⟩;replace h:=h.below bb;replace k:=k.below bb;have bw:=bb;clear bb;go_wp2_with fail;refine (aE _ D d _ ys true k rfl hl4 (by simp <;> omega)).mono ?_
   rintro e wn ⟨rfl,bb⟩;replace h:=h.below bb;replace k:=k.below bb;replace bw:=qd bw bb;clear bb;go_wp2_with fail
   go_ret2
   have e:=HR.o;rw [qD hb2] at e;obtain ⟨rfl,rfl⟩:=Prod.mk.inj e;exact ⟨_,_,rfl,Nt.nil _ _ _ (by omega),bw⟩
  ·go_enter func84,ntmps84;go_wp2_with fail;refine (aE _ A c _ xs false h rfl hl3 (by simp <;> omega)).mono ?_
   rintro e wn ⟨rfl,bb⟩;replace h:=h.below bb;replace k:=k.below bb;have bw:=bb;clear bb;go_wp2_with fail;refine (aE _ D d _ ys false k rfl hl4 (by simp <;> omega)).mono ?_
   rintro e wn ⟨rfl,bb⟩;replace h:=h.below bb;replace k:=k.below bb;replace bw:=qd bw bb;clear bb;go_wp2_with fail;refine (aL _ A c _ xs h rfl hl3).mono ?_;rintro e wn ⟨A1,c1,rfl,g1,bb⟩;have n1:=g1.nt (aC _);replace k:=k.below bb;replace bw:=qd bw bb;clear g1 bb;go_wp2_with fail;refine (aL _ D d _ ys k rfl hl4).mono ?_;rintro e wn ⟨A2,c2,rfl,g2,bb⟩;have n2:=g2.nt (aC _);replace n1:=n1.below bb;replace bw:=qd bw bb;clear g2 bb;go_wp2_with fail
   go_loopg [6,7] (nv ys) (fun kn a b wr=>∃(M N:Nat) (A B:Option Addr) (c d:Nat),N=kn/\a = .slice A (lim M).length c/\b = .slice B (lim N).length d/\Nt wr A c (lim M)/\Nt wr B d (lim N)/\(lim M).length<=512/\(lim N).length<=512/\Nat.gcd M N=Nat.gcd (nv xs) (nv ys)/\Below w.heap.size w wr)
   case atStart=>exact ⟨nv xs,nv ys,A1,A2,c1,c2,rfl,rfl,rfl,n1,n2,by omega,by omega,rfl,bw⟩
   case round=>
    obtain ⟨M,N,AM,AN,cM,cN,rfl,rfl,rfl,nM,nN,lM,lN,hg,bb⟩:=hrel;have HG:=ag hg;clear hg n1 n2 bw;by_cases hN:N=0
    ·have hN1:(lim N).length=0:=by rw [hN,aV];rfl
     have hN2:decide ((0:Int)<((lim N).length:Int))=false:=decide_eq_false (by omega)
     have hN3:decide (0<(lim N).length)=false:=decide_eq_false (by omega)
     have HN:=ag hN;clear hN hN1;go_wp2_with fail
     go_ret2
     have e:=HR.o;rw [jb hb hb2,<-HG.o,HN.o,Nat.gcd_zero_right] at e;obtain ⟨rfl,rfl⟩:=Prod.mk.inj e;exact ⟨_,_,rfl,nM,bb⟩
    ·have hN1:0<(lim N).length:=aX.2 hN;have HN:Hd (0<N):=ag (by omega)
     clear hN;go_wp2_with fail;refine (mR _ AM AN cM cN M N nM nN (by omega) (by omega) HN.o).mono ?_
     rintro e w1 ⟨A3,c3,D3,d3,rfl,n3,n4,b3⟩;have nN2:=nN.below b3;clear nM nN n3;go_wp2_with fail
     go_roundg (M % N)
     case measure=>exact Nat.mod_lt _ HN.o
     case rel=>
      refine ⟨N,M % N,AN,D3,cN,d3,rfl,rfl,rfl,nN2,n4,lN,?_,?_,qd bb b3⟩
      ·have:=ao (Nat.le_of_lt (Nat.mod_lt M HN.o));omega
      ·rw [<-HG.o,Nat.gcd_comm N (M % N),<-Nat.gcd_rec,Nat.gcd_comm]
theorem bF (w:World) (x:Fx) (b:Bool) (hx:x.ok w) (hl:x.xs.length<=10000) (hl2:x.ys.length<=10000) (hb:decide x.v=b):Calls prog 32 #[x.val] w fun e w'=>e = .returned (.bool b)/\Below w.heap.size w w':=by
 have ll1:=Nat.le_trans (ak hx.num.u) hl;have ll2:=Nat.le_trans (ak hx.den.u) hl2;have e0:0<(lim (nv x.ys)).length↔nv x.ys≠0:=by
  rw [Nat.pos_iff_ne_zero,ne_eq,ne_eq,List.length_eq_zero_iff,iZ]
 have hv:x.v↔(0<(lim (nv x.ys)).length/\(lim (nv x.ys)).length<=128/\(lim (nv x.xs)).length<=128):=⟨fun ⟨a,b,c⟩=>⟨e0.2 a,b,c⟩,fun ⟨a,b,c⟩=>⟨e0.1 a,b,c⟩⟩;have HB:Hd (decide (0<(lim (nv x.ys)).length/\(lim (nv x.ys)).length<=128/\(lim (nv x.xs)).length<=128)=b):=ag (by rw [<-hb];exact decide_eq_decide.2 hv.symm)
 clear hb hv e0;obtain ⟨L,hL⟩:∃L,(lim (nv x.ys)).length=L:=⟨_,rfl⟩;obtain ⟨M,hM⟩:∃M,(lim (nv x.xs)).length=M:=⟨_,rfl⟩;rw [hL,hM] at HB;rw [hL] at ll2;rw [hM] at ll1;have T1:∀w',Nt w' x.D x.d x.ys->Calls prog 75 #[.slice x.D x.ys.length x.d] w' fun e w2=>∃A c,e = .returned (.slice A L c)/\Below w'.heap.size w' w2:=fun w' h=>(aL w' x.D x.d _ x.ys h rfl (by omega)).mono fun e w2 ⟨A,c,he,_,hb⟩=>⟨A,c,by rw [he,hL],hb⟩
 have T2:∀w',Nt w' x.A x.c x.xs->Calls prog 75 #[.slice x.A x.xs.length x.c] w' fun e w2=>∃A c,e = .returned (.slice A M c)/\Below w'.heap.size w' w2:=fun w' h=>(aL w' x.A x.c _ x.xs h rfl (by omega)).mono fun e w2 ⟨A,c,he,_,hb⟩=>⟨A,c,by rw [he,hM],hb⟩
 have H1:=ag T1;have H2:=ag T2;clear T1 T2 hL hM;have b0:=qc w (.cells x.cells 29);have bx0:=az w (.bool x.b) (.slice x.A x.xs.length x.c) (.slice x.D x.ys.length x.d);have okx0:=hx.below b0;by_cases h0:0<L
 ·by_cases h4:L<=128
  ·have g4:(L:Int)<=128:=by omega
   by_cases h5:M<=128
   ·have g5:(M:Int)<=128:=by omega
    skip
    go_enter func32,ntmps32;go_wp2_with fail;have bx:=bx0;have aa:=okx0;have bw:=b0;clear bx0 okx0 b0;generalize (w.alloc (.cells x.cells 29))=w1 at bx aa bw|-;have tx:=bx;obtain ⟨x0,x1,x2,xf0,xf1,xf2,xlt,xb⟩:=tx;clear xb;go_wp2_with fail;clear x0 x1 x2 xf0 xf1 xf2 xlt;refine (H1.o _ aa.den).mono ?_;rintro e wn ⟨AT,cT,rfl,bb⟩;replace bx:=bx.below bb;replace aa:=aa.below bb;replace bw:=qd bw bb;clear bb;have tx:=bx;obtain ⟨x0,x1,x2,xf0,xf1,xf2,xlt,xb⟩:=tx;clear xb;go_wp2_with fail;clear x0 x1 x2 xf0 xf1 xf2 xlt;refine (H1.o _ aa.den).mono ?_;rintro e wn ⟨AT,cT,rfl,bb⟩
    replace bx:=bx.below bb;replace aa:=aa.below bb;replace bw:=qd bw bb;clear bb;have tx:=bx;obtain ⟨x0,x1,x2,xf0,xf1,xf2,xlt,xb⟩:=tx;clear xb;go_wp2_with fail;clear x0 x1 x2 xf0 xf1 xf2 xlt;refine (H2.o _ aa.num).mono ?_;rintro e wn ⟨AT,cT,rfl,bb⟩;replace bx:=bx.below bb;replace aa:=aa.below bb;replace bw:=qd bw bb;clear bb;have tx:=bx;obtain ⟨x0,x1,x2,xf0,xf1,xf2,xlt,xb⟩:=tx;clear xb;go_wp2_with fail;clear x0 x1 x2 xf0 xf1 xf2 xlt;go_ret;refine ⟨?_,bw⟩;rw [<-HB.o];simp [h0,h4,h5]
   ·have g5:¬(M:Int)<=128:=by omega
    skip
    go_enter func32,ntmps32;go_wp2_with fail;have bx:=bx0;have aa:=okx0;have bw:=b0;clear bx0 okx0 b0;generalize (w.alloc (.cells x.cells 29))=w1 at bx aa bw|-;have tx:=bx;obtain ⟨x0,x1,x2,xf0,xf1,xf2,xlt,xb⟩:=tx;clear xb;go_wp2_with fail;clear x0 x1 x2 xf0 xf1 xf2 xlt;refine (H1.o _ aa.den).mono ?_;rintro e wn ⟨AT,cT,rfl,bb⟩;replace bx:=bx.below bb;replace aa:=aa.below bb;replace bw:=qd bw bb;clear bb;have tx:=bx;obtain ⟨x0,x1,x2,xf0,xf1,xf2,xlt,xb⟩:=tx;clear xb;go_wp2_with fail;clear x0 x1 x2 xf0 xf1 xf2 xlt;refine (H1.o _ aa.den).mono ?_;rintro e wn ⟨AT,cT,rfl,bb⟩
    replace bx:=bx.below bb;replace aa:=aa.below bb;replace bw:=qd bw bb;clear bb;have tx:=bx;obtain ⟨x0,x1,x2,xf0,xf1,xf2,xlt,xb⟩:=tx;clear xb;go_wp2_with fail;clear x0 x1 x2 xf0 xf1 xf2 xlt;refine (H2.o _ aa.num).mono ?_;rintro e wn ⟨AT,cT,rfl,bb⟩;replace bx:=bx.below bb;replace aa:=aa.below bb;replace bw:=qd bw bb;clear bb;have tx:=bx;obtain ⟨x0,x1,x2,xf0,xf1,xf2,xlt,xb⟩:=tx;clear xb;go_wp2_with fail;clear x0 x1 x2 xf0 xf1 xf2 xlt;go_ret;refine ⟨?_,bw⟩;rw [<-HB.o];simp [h0,h4,h5,g5]
  ·have g4:¬(L:Int)<=128:=by omega
   skip
   go_enter func32,ntmps32;go_wp2_with fail;have bx:=bx0;have aa:=okx0;have bw:=b0;clear bx0 okx0 b0;generalize (w.alloc (.cells x.cells 29))=w1 at bx aa bw|-;have tx:=bx;obtain ⟨x0,x1,x2,xf0,xf1,xf2,xlt,xb⟩:=tx;clear xb;go_wp2_with fail;clear x0 x1 x2 xf0 xf1 xf2 xlt;refine (H1.o _ aa.den).mono ?_;rintro e wn ⟨AT,cT,rfl,bb⟩;replace bx:=bx.below bb;replace aa:=aa.below bb;replace bw:=qd bw bb;clear bb;have tx:=bx;obtain ⟨x0,x1,x2,xf0,xf1,xf2,xlt,xb⟩:=tx;clear xb;go_wp2_with fail;clear x0 x1 x2 xf0 xf1 xf2 xlt;refine (H1.o _ aa.den).mono ?_;rintro e wn ⟨AT,cT,rfl,bb⟩;replace bx:=bx.below bb
   replace aa:=aa.below bb;replace bw:=qd bw bb;clear bb;have tx:=bx;obtain ⟨x0,x1,x2,xf0,xf1,xf2,xlt,xb⟩:=tx;clear xb;go_wp2_with fail;clear x0 x1 x2 xf0 xf1 xf2 xlt;go_ret;refine ⟨?_,bw⟩;rw [<-HB.o];simp [h0,h4]
 ·skip
  go_enter func32,ntmps32;go_wp2_with fail;have bx:=bx0;have aa:=okx0;have bw:=b0;clear bx0 okx0 b0;generalize (w.alloc (.cells x.cells 29))=w1 at bx aa bw|-;have tx:=bx;obtain ⟨x0,x1,x2,xf0,xf1,xf2,xlt,xb⟩:=tx;clear xb;go_wp2_with fail;clear x0 x1 x2 xf0 xf1 xf2 xlt;refine (H1.o _ aa.den).mono ?_;rintro e wn ⟨AT,cT,rfl,bb⟩;replace bx:=bx.below bb;replace aa:=aa.below bb;replace bw:=qd bw bb;clear bb;have tx:=bx;obtain ⟨x0,x1,x2,xf0,xf1,xf2,xlt,xb⟩:=tx;clear xb;go_wp2_with fail;clear x0 x1 x2 xf0 xf1 xf2 xlt;go_ret;refine ⟨?_,bw⟩;rw [<-HB.o];simp [h0]
theorem mQ (w:World) (x:Fx) (b:Bool) (hl:x.xs.length<=10000) (hl2:x.ys.length<=10000) (hb:decide (128<x.xs.length\/128<x.ys.length)=b):Calls prog 99 #[x.val] w fun e w'=>e = .returned (.bool b)/\Below w.heap.size w w':=by
 have HB:=ag hb;clear hb;by_cases h:128<x.xs.length
 ·have g:(128:Int)<(x.xs.length:Int):=by omega
  go_enter func99,ntmps99;go_wp2_with fail;go_ret;refine ⟨?_,(ah _ _).alloc (Nat.le_refl _) _⟩;rw [<-HB.o];simp [h]
 ·have g:¬(128:Int)<(x.xs.length:Int):=by omega
  go_enter func99,ntmps99;go_wp2_with fail;go_ret;refine ⟨?_,(ah _ _).alloc (Nat.le_refl _) _⟩;rw [<-HB.o];simp [h];omega
theorem eU (w:World) (A D:Option Addr) (c d n m:Nat) (xs ys:List Nat) (h:Nt w A c xs) (k:Nt w D d ys) (hn:n=xs.length) (hm:m=ys.length) (l1:xs.length<=10000) (l2:ys.length<=10000) (h1:(lim (nv xs)).length<=128) (h2:(lim (nv ys)).length<=128) :
 Calls prog 70 #[.slice A n c, .slice D m d] w fun e w'=>∃A' c',e = .returned (.slice A' (lim (nv xs*nv ys)).length c')/\Nt w' A' c' (lim (nv xs*nv ys))/\Below w.heap.size w w':=by
 have HR:=ag (zI h1 h2);subst hn hm;go_enter func70,ntmps70;go_wp2_with fail;refine (sY w A D c d _ _ xs ys _ 0 h k rfl rfl l1 l2 HR.o).mono ?_;rintro e wn ⟨A',c',rfl,n',bb⟩;go_wp2_with fail;go_ret;exact ⟨A',c',rfl,n',bb⟩
def fP (q:Rat):Bool×List Nat×List Nat:=(decide (q.num<0),lim q.num.natAbs,lim q.den)
theorem xK (b:Bool) {d:Nat} (hd:d≠0):fP (qv b 0 d)=(false,[],[1]):=by
 rw [(vN hd).2 rfl];have h1:lim 1 = [1]:=by rw [lim];simp [aV]
 simp [fP,aV,h1]
theorem BO {b:Bool} {n d:Nat} (hd:d≠0) (hn:n≠0):fP (qv b n d)=(b,lim (n/Nat.gcd n d),lim (d/Nat.gcd n d)):=by
 have h:n/Nat.gcd n d≠0:=Nat.pos_iff_ne_zero.1 (Nat.div_pos (Nat.gcd_le_left _ (Nat.pos_of_ne_zero hn)) (Nat.gcd_pos_of_pos_left _ (Nat.pos_of_ne_zero hn)));rw [fP,vO hd,mE hd,mB hd];simp [h]
theorem uG {w:World} {G:Nat} {v0 v1 v2 a b c:Value} (bk:Bk3 w G v0 v1 v2) (o:Obj) :
 ((((w.setCell ⟨G,0,none⟩ a).setCell ⟨G,1,none⟩ b).setCell ⟨G,2,none⟩ c).alloc o).cell? ⟨G,0,none⟩=some a/\((((w.setCell ⟨G,0,none⟩ a).setCell ⟨G,1,none⟩ b).setCell ⟨G,2,none⟩ c).alloc o).cell? ⟨G,1,none⟩=some b/\((((w.setCell ⟨G,0,none⟩ a).setCell ⟨G,1,none⟩ b).setCell ⟨G,2,none⟩ c).alloc o).cell? ⟨G,2,none⟩=some c:=by
 obtain ⟨k0,k1,k2,_,_,_,lt,_⟩:=bk;have hs:G<(((w.setCell ⟨G,0,none⟩ a).setCell ⟨G,1,none⟩ b).setCell ⟨G,2,none⟩ c).heap.size:=by simp [World.setCell];exact lt
 have hb:=(ah (((w.setCell ⟨G,0,none⟩ a).setCell ⟨G,1,none⟩ b).setCell ⟨G,2,none⟩ c).heap.size (((w.setCell ⟨G,0,none⟩ a).setCell ⟨G,1,none⟩ b).setCell ⟨G,2,none⟩ c)).alloc (Nat.le_refl _) o;rw [hb.cell (p:=⟨G,0,none⟩) hs,hb.cell (p:=⟨G,1,none⟩) hs,hb.cell (p:=⟨G,2,none⟩) hs];refine ⟨?_,?_,?_⟩ <;> simp [go_sem,k0,k1,k2]
theorem eo (w:World) (b:Bool) (A D:Option Addr) (c d n m:Nat) (xs ys:List Nat) (h:Nt w A c xs) (k:Nt w D d ys) (hn:n=xs.length) (hm:m=ys.length) (hd:nv ys≠0) (_l1:xs.length<=10000) (_l2:ys.length<=10000) (l3:(lim (nv xs)).length<=512) (l4:(lim (nv ys)).length<=512) :
 Calls prog 66 #[.bool b, .slice A n c, .slice D m d] w (wP w (fP (qv b (nv xs) (nv ys)))):=by
 subst hn hm;have HY:Hd (nv ys≠0):=hd;clear hd;go_enter func66,ntmps66;go_wp2_with fail;have bk:=aK w;have bw:=qc w (.cells #[.bool false, .slice none 0 0, .slice none 0 0] 29);have na:=h.below bw;have nb:=k.below bw
 revert bk bw na nb
 generalize (w.alloc (.cells #[.bool false, .slice none 0 0, .slice none 0 0] 29))=w1;intro bk bw na nb;clear h k;refine (aL w1 A c _ xs na rfl (by omega)).mono ?_
 rintro e wn ⟨AN,cN,rfl,gn,bb⟩;have nc:=gn.nt (aC _);clear gn;replace bk:=bk.below bb;replace na:=na.below bb;replace nb:=nb.below bb;replace bw:=qd bw bb;clear bb;go_wp2_with fail;refine (aL wn D d _ ys nb rfl (by omega)).mono ?_
 rintro e wn ⟨AD,cD,rfl,gn,bb⟩;have nd:=gn.nt (aC _);clear gn;replace bk:=bk.below bb;replace na:=na.below bb;replace nb:=nb.below bb;replace nc:=nc.below bb;replace bw:=qd bw bb;clear bb;clear na nb
 revert l3 l4 nd nc
 generalize nv xs=N at *;generalize nv ys=M at *;intro l3 l4 nd nc;by_cases hN:N=0
 ·have hl:(lim N).length=0:=by rw [hN,aV];rfl
  have HL:Hd (fP (qv b N M)=(false,[],[1])):=ag (by rw [hN];exact xK b HY.o)
  clear hN;have tk:=bk;obtain ⟨k0,k1,k2,aF,aG,aH,klt,kb⟩:=tk;clear kb;go_wp2_with fail;have cc:=uG (a := .bool false) (b := .slice none 0 0) (c := .slice (some ⟨wn.heap.size,0,none⟩) 1 1) bk (.cells #[.int .u32 1] 58);obtain ⟨cc0,cc1,cc2⟩:=cc;refine bodyPost_ret (v:=(⟨false,none,0,[],some ⟨wn.heap.size,0,none⟩,1,[1]⟩:Fx).val) (by simp [results,Tryz.results66,go_sem,cc0,cc1,cc2]) rfl ?_
  rw [HL.o];have hsz:(((wn.setCell ⟨w.heap.size,0,none⟩ (.bool false)).setCell ⟨w.heap.size,1,none⟩ (.slice none 0 0)).setCell ⟨w.heap.size,2,none⟩ (.slice (some ⟨wn.heap.size,0,none⟩) 1 1)).heap.size=wn.heap.size:=by simp [World.setCell]
  have bw2:=aR (a := .bool false) (b := .slice none 0 0) (c := .slice (some ⟨wn.heap.size,0,none⟩) 1 1) bw (Nat.le_refl _);have hg:=Gr.lit (mk:=lmv) (e:=58) (B:=w.heap.size) (((wn.setCell ⟨w.heap.size,0,none⟩ (.bool false)).setCell ⟨w.heap.size,1,none⟩ (.slice none 0 0)).setCell ⟨w.heap.size,2,none⟩ (.slice (some ⟨wn.heap.size,0,none⟩) 1 1)) [1] #[.int .u32 1] rfl (by simp [maxLen]) bw2.size
  rw [hsz] at hg;exact ⟨⟨false,none,0,[],some ⟨wn.heap.size,0,none⟩,1,[1]⟩,rfl,⟨rfl,rfl,rfl⟩,⟨Nt.nil _ _ _ (by show 0<=_;omega),hg.nt (U32.one (by omega))⟩,bw2.alloc bw2.size _⟩
 ·have l6:=ag (BO (b:=b) HY.o hN);have hl:(lim N).length≠0:=fun h=>hN (iZ.1 (List.length_eq_zero_iff.1 h));have hlp:0<(lim N).length:=by omega
  have hlb:(((lim N).length:Int) == 0)=false:=beq_eq_false_iff_ne.2 (by omega)
  obtain ⟨G,hG⟩:∃G,G=Nat.gcd N M:=⟨_,rfl⟩;rw [<-hG] at l6;have hG0:0<G:=by rw [hG];exact Nat.gcd_pos_of_pos_left _ (Nat.pos_of_ne_zero hN)
  have lG:(lim G).length<=512:=by
   have:=ao (Nat.gcd_le_left M (Nat.pos_of_ne_zero hN));rw [<-hG] at this;omega
  have z9:=ag hG0;have hgc:pk (nv (lim N)) (nv (lim M))=(lim G,0):=by rw [am,am,jb (by omega) (by omega),hG]
  have hd1:jE (nv (lim N)) (nv (lim G))=(lim (N/G),lim (N % G),0):=by rw [am,am,jW (by omega) (by omega) (by omega)]
  have hd2:jE (nv (lim M)) (nv (lim G))=(lim (M/G),lim (M % G),0):=by rw [am,am,jW (by omega) (by omega) (by omega)]
  have Fi:=ag hgc;have mo:=ag hd1;have zU:=ag hd2;clear hN hG hG0 hgc hd1 hd2;go_wp2_with fail;refine (sZ _ AN AD cN cD _ _ (lim N) (lim M) (lim G) 0 nc nd rfl rfl (by omega) (by omega) Fi.o).mono ?_
  rintro e wn ⟨AG,cG,rfl,ng,bb⟩;replace bk:=bk.below bb;replace nc:=nc.below bb;replace nd:=nd.below bb;replace bw:=qd bw bb;clear bb;by_cases h1:1<(lim G).length
  ·have h1i:(1:Int)<((lim G).length:Int):=by omega
   go_wp2_with fail;refine (jx _ AN AG cN cG _ _ (lim N) (lim G) (lim (N/G)) (lim (N % G)) 0 nc ng rfl rfl (by omega) (by omega) mo.o).mono ?_
   rintro e wn ⟨A1,c1,AR,cR,rfl,na,_,bb⟩;replace ng:=ng.below bb;replace bk:=bk.below bb;replace nc:=nc.below bb;replace nd:=nd.below bb;replace bw:=qd bw bb;clear bb;go_wp2_with fail;refine (jx _ AD AG cD cG _ _ (lim M) (lim G) (lim (M/G)) (lim (M % G)) 0 nd ng rfl rfl (by omega) (by omega) zU.o).mono ?_
   rintro e wn ⟨A2,c2,AR2,cR2,rfl,nb,_,bb⟩;replace bk:=bk.below bb;replace na:=na.below bb;replace nc:=nc.below bb;replace nd:=nd.below bb;replace bw:=qd bw bb;clear bb;have tk:=bk;obtain ⟨k0,k1,k2,aF,aG,aH,klt,kb⟩:=tk;clear kb;go_wp2_with fail;refine bodyPost_ret (v:=(⟨b,A1,c1,(lim (N/G)),A2,c2,(lim (M/G))⟩:Fx).val) (by simp [results,Tryz.results66,go_sem,k0,k1,k2]) rfl ?_
   rw [l6.o];exact ⟨⟨b,A1,c1,lim (N/G),A2,c2,lim (M/G)⟩,rfl,⟨rfl,rfl,rfl⟩,bD (x:=⟨b,A1,c1,lim (N/G),A2,c2,lim (M/G)⟩) ⟨na,nb⟩ bk rfl rfl rfl,aR bw (by omega)⟩
  ·have h1i:¬(1:Int)<((lim G).length:Int):=by omega
   have hlG:(lim G).length=1:=by
    have:=aX.2 (Nat.pos_iff_ne_zero.1 z9.o);omega
   obtain ⟨ad,rfl,had,hcell,hlt⟩:=ng.at 0 (by omega)
   have hGv:(lim G)[0]=G:=by
    have e:=am G;obtain ⟨z,hz⟩:=List.length_eq_one_iff.1 hlG;simp only [hz,aT,aW] at e|-;simp at e|-;exact e
   rw [hGv,show ad.add 0=ad by unfold Addr.add;simp] at hcell
   have hpos:0<(lim G).length:=by omega
   clear hlt hGv hlG;by_cases h2:1<G
   ·have h2i:(1:Int)<(G:Int):=by omega
    go_wp2_with fail;refine (jx _ AN (some ad) cN cG _ _ (lim N) (lim G) (lim (N/G)) (lim (N % G)) 0 nc ng rfl rfl (by omega) (by omega) mo.o).mono ?_
    rintro e wn ⟨A1,c1,AR,cR,rfl,na,_,bb⟩;replace ng:=ng.below bb;replace bk:=bk.below bb;replace nc:=nc.below bb;replace nd:=nd.below bb;replace bw:=qd bw bb;clear bb;go_wp2_with fail;refine (jx _ AD (some ad) cD cG _ _ (lim M) (lim G) (lim (M/G)) (lim (M % G)) 0 nd ng rfl rfl (by omega) (by omega) zU.o).mono ?_
    rintro e wn ⟨A2,c2,AR2,cR2,rfl,nb,_,bb⟩;replace bk:=bk.below bb;replace na:=na.below bb;replace nc:=nc.below bb;replace nd:=nd.below bb;replace bw:=qd bw bb;clear bb;have tk:=bk;obtain ⟨k0,k1,k2,aF,aG,aH,klt,kb⟩:=tk;clear kb;go_wp2_with fail;refine bodyPost_ret (v:=(⟨b,A1,c1,(lim (N/G)),A2,c2,(lim (M/G))⟩:Fx).val) (by simp [results,Tryz.results66,go_sem,k0,k1,k2]) rfl ?_
    rw [l6.o];exact ⟨⟨b,A1,c1,lim (N/G),A2,c2,lim (M/G)⟩,rfl,⟨rfl,rfl,rfl⟩,bD (x:=⟨b,A1,c1,lim (N/G),A2,c2,lim (M/G)⟩) ⟨na,nb⟩ bk rfl rfl rfl,aR bw (by omega)⟩
   ·have h2i:¬(1:Int)<(G:Int):=by omega
    have fl:Hd (G=1):=ag (by have:=z9.o;omega)
    have tk:=bk;obtain ⟨k0,k1,k2,aF,aG,aH,klt,kb⟩:=tk;clear kb;go_wp2_with fail;refine bodyPost_ret (v:=(⟨b,AN,cN,lim N,AD,cD,lim M⟩:Fx).val) (by simp [results,Tryz.results66,go_sem,k0,k1,k2]) rfl ?_
    rw [l6.o,fl.o,Nat.div_one,Nat.div_one];exact ⟨⟨b,AN,cN,lim N,AD,cD,lim M⟩,rfl,⟨rfl,rfl,rfl⟩,bD (x:=⟨b,AN,cN,lim N,AD,cD,lim M⟩) ⟨nc,nd⟩ bk rfl rfl rfl,aR bw (by omega)⟩
def Ag (s:Bool×List Nat×List Nat):Bool×List Nat×List Nat×Int:=if 128<s.2.1.length\/128<s.2.2.length then kP 2 else (s.1,s.2.1,s.2.2,0)
theorem Af (q:Rat):Ag (fP q)=frS q:=rfl
theorem iR (w:World) (x:Fx) (S:Bool×List Nat×List Nat×Int) (hx:x.ok w) (l1:x.xs.length<=10000) (l2:x.ys.length<=10000) (hs:Ag (x.b,x.xs,x.ys)=S):Calls prog 69 #[x.val] w (eQ w S):=by
 have HS:=ag hs;clear hs;by_cases hl:128<x.xs.length\/128<x.ys.length
 ·have HL:=ag hl;clear hl;go_enter func69,ntmps69;go_wp2_with fail;have hs1:w.heap.size<(w.alloc (.cells x.cells 29)).heap.size:=by simp
  have b0:=qc w (.cells x.cells 29);have b1:=(ah (w.alloc (.cells x.cells 29)).heap.size (w.alloc (.cells x.cells 29))).alloc (Nat.le_refl _) (.cells #[.bool false, .slice none 0 0, .slice none 0 0] 29);have bx:=(az w (.bool x.b) (.slice x.A x.xs.length x.c) (.slice x.D x.ys.length x.d)).below b1;have bk:=aK (w.alloc (.cells x.cells 29));rw [aB] at bk;have aa:=(hx.below b0).below b1;have bw:=ai b0 b1 (Nat.le_of_lt hs1);clear hs1 b0 b1
  revert bx bk aa bw
  generalize ((w.alloc (.cells x.cells 29)).alloc (.cells #[.bool false, .slice none 0 0, .slice none 0 0] 29))=w1;intro bx bk aa bw;have tx:=bx;obtain ⟨x0,x1,x2,xf0,xf1,xf2,xlt,xb⟩:=tx;clear xb;go_wp2_with fail;clear x0 x1 x2 xf0 xf1 xf2 xlt;refine (mQ w1 x true l1 l2 (decide_eq_true HL.o)).mono ?_;rintro e wn ⟨rfl,bb⟩
  try replace bx:=bx.below bb
  try replace al:=al.below bb
  try replace bk:=bk.below bb
  try replace aa:=aa.below bb
  try replace an:=an.below bb
  try replace na:=na.below bb
  try replace nb:=nb.below bb
  try replace nc:=nc.below bb
  try replace nd:=nd.below bb
  try replace ne:=ne.below bb
  replace bw:=qd bw bb;clear bb;have tk:=bk;obtain ⟨k0,k1,k2,aF,aG,aH,klt,kb⟩:=tk;clear kb;go_wp2_with fail;refine bodyPost_ret (v := .tuple #[(Fx.nil:Fx).val, .int .i64 2]) (by simp [results,Tryz.results69,go_sem,k0,k1,k2]) rfl ?_
  rw [<-HS.o,Ag,if_pos HL.o];exact ⟨Fx.nil,rfl,⟨rfl,rfl,rfl⟩,Fx.nil_ok _,aR bw (by omega)⟩
 ·have HL:Hd (¬(128<x.xs.length\/128<x.ys.length)):=hl;clear hl;go_enter func69,ntmps69;go_wp2_with fail;have hs1:w.heap.size<(w.alloc (.cells x.cells 29)).heap.size:=by simp
  have b0:=qc w (.cells x.cells 29);have b1:=(ah (w.alloc (.cells x.cells 29)).heap.size (w.alloc (.cells x.cells 29))).alloc (Nat.le_refl _) (.cells #[.bool false, .slice none 0 0, .slice none 0 0] 29);have bx:=(az w (.bool x.b) (.slice x.A x.xs.length x.c) (.slice x.D x.ys.length x.d)).below b1;have bk:=aK (w.alloc (.cells x.cells 29));rw [aB] at bk;have aa:=(hx.below b0).below b1;have bw:=ai b0 b1 (Nat.le_of_lt hs1);clear hs1 b0 b1
  revert bx bk aa bw
  generalize ((w.alloc (.cells x.cells 29)).alloc (.cells #[.bool false, .slice none 0 0, .slice none 0 0] 29))=w1;intro bx bk aa bw;have tx:=bx;obtain ⟨x0,x1,x2,xf0,xf1,xf2,xlt,xb⟩:=tx;clear xb;go_wp2_with fail;clear x0 x1 x2 xf0 xf1 xf2 xlt;refine (mQ w1 x false l1 l2 (decide_eq_false HL.o)).mono ?_;rintro e wn ⟨rfl,bb⟩
  try replace bx:=bx.below bb
  try replace al:=al.below bb
  try replace bk:=bk.below bb
  try replace aa:=aa.below bb
  try replace an:=an.below bb
  try replace na:=na.below bb
  try replace nb:=nb.below bb
  try replace nc:=nc.below bb
  try replace nd:=nd.below bb
  try replace ne:=ne.below bb
  replace bw:=qd bw bb;clear bb;have tx:=bx;obtain ⟨x0,x1,x2,xf0,xf1,xf2,xlt,xb⟩:=tx;clear xb;have tk:=bk;obtain ⟨k0,k1,k2,aF,aG,aH,klt,kb⟩:=tk;clear kb;go_wp2_with fail;refine bodyPost_ret (v := .tuple #[(x:Fx).val, .int .i64 0]) (by simp [results,Tryz.results69,go_sem,k0,k1,k2]) rfl ?_
  rw [<-HS.o,Ag,if_neg HL.o];exact ⟨x,rfl,⟨rfl,rfl,rfl⟩,bD aa bk rfl rfl rfl,aR bw (by omega)⟩
theorem yO {x:Fx} (hv:x.v):gz x=((fP x.q).1,(fP x.q).2.1,(fP x.q).2.2,0):=by
 rw [gz,if_pos hv,frS,if_neg,fP];have h1:=ao (Nat.div_le_self (nv x.xs) (Nat.gcd (nv x.xs) (nv x.ys)));have h2:=ao (Nat.div_le_self (nv x.ys) (Nat.gcd (nv x.xs) (nv x.ys)));have h3:=hv.2.1;have h4:=hv.2.2;rw [vu,Fx.q,mE hv.1,mB hv.1];omega
theorem iQ (w:World) (x:Fx) (S:Bool×List Nat×List Nat×Int) (hx:x.ok w) (l1:x.xs.length<=10000) (l2:x.ys.length<=10000) (hs:gz x=S):Calls prog 58 #[x.val] w (eQ w S):=by
 by_cases hv:x.v
 ·have HS:Hd (((fP x.q).1,(fP x.q).2.1,(fP x.q).2.2,0)=S):=ag ((yO hv).symm.trans hs);have HV:=ag hv;have hv1:=hv.1;have gL:Hd (nv x.ys≠0):=hv1;have lx:(lim (nv x.xs)).length<=128:=hv.2.2;have ly:(lim (nv x.ys)).length<=128:=hv.2.1;clear hv hv1 hs;go_enter func58,ntmps58;go_wp2_with fail;have hs1:w.heap.size<(w.alloc (.cells x.cells 29)).heap.size:=by simp
  have b0:=qc w (.cells x.cells 29);have b1:=(ah (w.alloc (.cells x.cells 29)).heap.size (w.alloc (.cells x.cells 29))).alloc (Nat.le_refl _) (.cells #[.bool false, .slice none 0 0, .slice none 0 0] 29);have bx:=(az w (.bool x.b) (.slice x.A x.xs.length x.c) (.slice x.D x.ys.length x.d)).below b1;have bk:=aK (w.alloc (.cells x.cells 29));rw [aB] at bk;have aa:=(hx.below b0).below b1;have bw:=ai b0 b1 (Nat.le_of_lt hs1);clear hs1 b0 b1
  revert bx bk aa bw
  generalize ((w.alloc (.cells x.cells 29)).alloc (.cells #[.bool false, .slice none 0 0, .slice none 0 0] 29))=w1;intro bx bk aa bw;have tx:=bx;obtain ⟨x0,x1,x2,xf0,xf1,xf2,xlt,xb⟩:=tx;clear xb;go_wp2_with fail;clear x0 x1 x2 xf0 xf1 xf2 xlt;refine (bF w1 x true aa l1 l2 (decide_eq_true HV.o)).mono ?_;rintro e wn ⟨rfl,bb⟩
  try replace bx:=bx.below bb
  try replace al:=al.below bb
  try replace bk:=bk.below bb
  try replace aa:=aa.below bb
  try replace an:=an.below bb
  try replace ok1:=ok1.below bb
  try replace na:=na.below bb
  try replace nb:=nb.below bb
  try replace nc:=nc.below bb
  try replace nd:=nd.below bb
  try replace ne:=ne.below bb
  replace bw:=qd bw bb;clear bb;have tx:=bx;obtain ⟨x0,x1,x2,xf0,xf1,xf2,xlt,xb⟩:=tx;clear xb;go_wp2_with fail;clear x0 x1 x2 xf0 xf1 xf2 xlt;refine (eo wn x.b x.A x.D x.c x.d _ _ x.xs x.ys aa.num aa.den rfl rfl gL.o l1 l2 (by omega) (by omega)).mono ?_
  rintro e wn ⟨x1,rfl,hs1,ok1,bb⟩;have cI:=ag hs1;clear hs1
  try replace bx:=bx.below bb
  try replace al:=al.below bb
  try replace bk:=bk.below bb
  try replace aa:=aa.below bb
  try replace an:=an.below bb
  try replace ok1:=ok1.below bb
  try replace na:=na.below bb
  try replace nb:=nb.below bb
  try replace nc:=nc.below bb
  try replace nd:=nd.below bb
  try replace ne:=ne.below bb
  replace bw:=qd bw bb;clear bb;have tk:=bk;obtain ⟨k0,k1,k2,aF,aG,aH,klt,kb⟩:=tk;clear kb;go_wp2_with fail;refine bodyPost_ret (v := .tuple #[(x1:Fx).val, .int .i64 0]) (by simp [results,Tryz.results58,go_sem,k0,k1,k2]) rfl ?_
  rw [<-HS.o];exact ⟨x1,rfl,cI.o,bD ok1 bk rfl rfl rfl,aR bw (by omega)⟩
 ·have HS:=ag hs;have HV:Hd (¬x.v):=hv;clear hv hs;go_enter func58,ntmps58;go_wp2_with fail;have hs1:w.heap.size<(w.alloc (.cells x.cells 29)).heap.size:=by simp
  have b0:=qc w (.cells x.cells 29);have b1:=(ah (w.alloc (.cells x.cells 29)).heap.size (w.alloc (.cells x.cells 29))).alloc (Nat.le_refl _) (.cells #[.bool false, .slice none 0 0, .slice none 0 0] 29);have bx:=(az w (.bool x.b) (.slice x.A x.xs.length x.c) (.slice x.D x.ys.length x.d)).below b1;have bk:=aK (w.alloc (.cells x.cells 29));rw [aB] at bk;have aa:=(hx.below b0).below b1;have bw:=ai b0 b1 (Nat.le_of_lt hs1);clear hs1 b0 b1
  revert bx bk aa bw
  generalize ((w.alloc (.cells x.cells 29)).alloc (.cells #[.bool false, .slice none 0 0, .slice none 0 0] 29))=w1;intro bx bk aa bw;have tx:=bx;obtain ⟨x0,x1,x2,xf0,xf1,xf2,xlt,xb⟩:=tx;clear xb;go_wp2_with fail;clear x0 x1 x2 xf0 xf1 xf2 xlt;refine (bF w1 x false aa l1 l2 (decide_eq_false HV.o)).mono ?_;rintro e wn ⟨rfl,bb⟩
  try replace bx:=bx.below bb
  try replace al:=al.below bb
  try replace bk:=bk.below bb
  try replace aa:=aa.below bb
  try replace an:=an.below bb
  try replace ok1:=ok1.below bb
  try replace na:=na.below bb
  try replace nb:=nb.below bb
  try replace nc:=nc.below bb
  try replace nd:=nd.below bb
  try replace ne:=ne.below bb
  replace bw:=qd bw bb;clear bb;have tk:=bk;obtain ⟨k0,k1,k2,aF,aG,aH,klt,kb⟩:=tk;clear kb;go_wp2_with fail;refine bodyPost_ret (v := .tuple #[(Fx.nil:Fx).val, .int .i64 1]) (by simp [results,Tryz.results58,go_sem,k0,k1,k2]) rfl ?_
  rw [<-HS.o,gz,if_neg HV.o];exact ⟨Fx.nil,rfl,⟨rfl,rfl,rfl⟩,Fx.nil_ok _,aR bw (by omega)⟩
end Go.Proofs.YtkpfbekmaafehaaGreat
