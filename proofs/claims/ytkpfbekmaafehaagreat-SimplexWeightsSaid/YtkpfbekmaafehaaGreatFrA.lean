/- The walks of natural.divide for all numbers, natural.Div and natural.Gcd -/
import Derived.Test.YtkpfbekmaafehaaGreatNatJ
import Derived.Test.YtkpfbekmaafehaaGreatNatD
import Derived.Deep.CutBlock
import Derived.Deep.DeepCutAuto
namespace Go.Proofs.YtkpfbekmaafehaaGreat
open _root_.Go.Proofs.Tryz
set_option maxHeartbeats 8000000
set_option maxRecDepth 100000
open Go.RowKit
theorem pq (w:World) (A D:Option Addr) (c d M N:Nat) (h:Nt w A c (lim M)) (k:Nt w D d (lim N)) (hl:(lim M).length<=1000) (hN:0<N) :
 Calls prog 120 #[.slice A (lim M).length c, .slice D (lim N).length d] w (jK w (M/N) (M % N)):=by
 rcases Nat.lt_or_ge M N with hlt|hge
 ·exact tT w A D c d M N h k hl hlt
 ·have h1:0<(lim N).length:=aX.2 (by omega)
  rcases Nat.lt_or_ge 1 (lim N).length with h2|h2
  ·obtain ⟨n,hn⟩:∃n,(lim N).length=n+2:=⟨(lim N).length-2,by omega⟩
   have:=tS w A D c d M N n _ (lim N) h k rfl hl hn (am N) (fun hk=>Nat.pos_of_ne_zero (ph N (n+1) (by omega))) hge
   rw [hn];exact this
  ·obtain ⟨x,hx⟩:∃x,lim N = [x]:=by
    rcases hL:lim N with _|⟨x,_|⟨y,l⟩⟩
    ·rw [hL] at h1;simp at h1
    ·exact ⟨x,rfl⟩
    ·rw [hL] at h2;simp at h2
   have hv:x=N:=by
    have:=am N;rw [hx] at this;simpa [aT,aW] using this
   subst hv;have:=rU w A D c d M x h (by rw [<-hx];exact k) hl hN hge
   rw [hx];exact this
def jE (m n:Nat):List Nat×List Nat×Int:=if 512<(lim m).length\/512<(lim n).length then ([],[],2) else if n=0 then ([],[],3) else (lim (m/n),lim (m % n),0)
theorem qL {m n:Nat} (h:512<(lim m).length):jE m n=([],[],2):=by simp [jE,h]
theorem qK {m n:Nat} (h:512<(lim n).length):jE m n=([],[],2):=by simp [jE,h]
theorem qJ {m n:Nat} (h:¬ 512<(lim m).length) (h2:¬ 512<(lim n).length) (h3:n=0):jE m n=([],[],3):=by rw [jE,if_neg (by omega),if_pos h3]
theorem jW {m n:Nat} (h:¬ 512<(lim m).length) (h2:¬ 512<(lim n).length) (h3:n≠0):jE m n=(lim (m/n),lim (m % n),0):=by simp [jE,h,h2,h3]
def wO (w:World) (Q R:List Nat) (E:Int) (e:Ending) (w':World):Prop:=
 ∃A c D d,e = .returned (.tuple #[.slice A Q.length c, .slice D R.length d, .int .i64 E])/\Nt w' A c Q/\Nt w' D d R/\Below w.heap.size w w'
def pk (m n:Nat):List Nat×Int:=if 512<(lim m).length\/512<(lim n).length then ([],2) else (lim (Nat.gcd m n),0)
theorem qE {m n:Nat} (h:512<(lim m).length):pk m n=([],2):=by simp [pk,h]
theorem qD {m n:Nat} (h:512<(lim n).length):pk m n=([],2):=by simp [pk,h]
theorem jb {m n:Nat} (h:¬ 512<(lim m).length) (h2:¬ 512<(lim n).length):pk m n=(lim (Nat.gcd m n),0):=by simp [pk,h,h2]
theorem oo (w:World) (A D:Option Addr) (c d n m:Nat) (xs ys Q R:List Nat) (E:Int) (h:Nt w A c xs) (k:Nt w D d ys) (hn:n=xs.length) (hm:m=ys.length) (hr:jE (nv xs) (nv ys)=(Q,R,E)) :
 Calls prog 107 #[.slice A n c, .slice D m d] w (wO w Q R E):=by
 subst hn hm;have HR:=ag hr;clear hr;have h1:=h.lim;have h2:=ak h.u;have h3:=h.cap;have h4:=h.max;have k1:=k.lim;have k2:=ak k.u;have k3:=k.cap;have k4:=k.max;obtain ⟨i0,hi,hz0,hz1,hz2⟩:=info_parts ch;by_cases hl:512<(lim (nv xs)).length
 ·go_enter func107,ntmps107;go_wp2_with fail;refine (aN w A c _ xs true h rfl (by simpa using hl)).mono ?_
  rintro e w' ⟨rfl,rfl⟩;go_wp2_with fail
  go_ret3
  have e:=HR.o;rw [qL hl] at e;simp only [Prod.mk.injEq] at e;obtain ⟨rfl,rfl,rfl⟩:=e;exact ⟨_,_,_,_,rfl,Nt.nil _ _ _ (by omega),Nt.nil _ _ _ (by omega),ah _ _⟩
 ·by_cases hl2:512<(lim (nv ys)).length
  ·go_enter func107,ntmps107;go_wp2_with fail;refine (aN w A c _ xs false h rfl (by simpa using hl)).mono ?_
   rintro e w' ⟨rfl,rfl⟩;go_wp2_with fail;refine (aN w D d _ ys true k rfl (by simpa using hl2)).mono ?_
   rintro e w' ⟨rfl,rfl⟩;go_wp2_with fail
   go_ret3
   have e:=HR.o;rw [qK hl2] at e;simp only [Prod.mk.injEq] at e;obtain ⟨rfl,rfl,rfl⟩:=e;exact ⟨_,_,_,_,rfl,Nt.nil _ _ _ (by omega),Nt.nil _ _ _ (by omega),ah _ _⟩
  ·by_cases h0:nv ys=0
   ·have hz1:(((lim (nv ys)).length:Int) == 0)=true:=by rw [h0,aV];rfl
    have H0:=ag h0;clear h0;go_enter func107,ntmps107;go_wp2_with fail;refine (aN w A c _ xs false h rfl (by simpa using hl)).mono ?_
    rintro e w' ⟨rfl,rfl⟩;go_wp2_with fail;refine (aN w D d _ ys false k rfl (by simpa using hl2)).mono ?_
    rintro e w' ⟨rfl,rfl⟩;go_wp2_with fail;refine (bT w D d _ ys k rfl).mono ?_;rintro e w' ⟨rfl,rfl⟩;go_wp2_with fail
    go_ret3
    have e:=HR.o;rw [qJ hl hl2 H0.o] at e;simp only [Prod.mk.injEq] at e;obtain ⟨rfl,rfl,rfl⟩:=e;exact ⟨_,_,_,_,rfl,Nt.nil _ _ _ (by omega),Nt.nil _ _ _ (by omega),ah _ _⟩
   ·have hpos:=aX.2 h0;have hz1:(((lim (nv ys)).length:Int) == 0)=false:=beq_eq_false_iff_ne.2 (by omega)
    have H0:Hd (nv ys≠0):=h0;clear h0;go_enter func107,ntmps107;go_wp2_with fail;refine (aN w A c _ xs false h rfl (by simpa using hl)).mono ?_
    rintro e w' ⟨rfl,rfl⟩;go_wp2_with fail;refine (aN w D d _ ys false k rfl (by simpa using hl2)).mono ?_
    rintro e w' ⟨rfl,rfl⟩;go_wp2_with fail;refine (bT w D d _ ys k rfl).mono ?_;rintro e w' ⟨rfl,rfl⟩;go_wp2_with fail
    go_region_with (first
     | (go_at_call 105
        with_reducible refine (bT _ A c _ xs (jU h) rfl).mono ?_
        rintro e w' ⟨rfl,rfl⟩)
     | (go_at_call 105
        with_reducible refine (bT _ D d _ ys (jU k) rfl).mono ?_
        rintro e w' ⟨rfl,rfl⟩)
     | (go_at_call 120
        with_reducible refine (pq _ A D c d _ _ (jU h1) (jU k1) (by omega) (Nat.pos_of_ne_zero H0.o)).mono ?_
        rintro e w1 ⟨A1,c1,D1,d1,rfl,n1,n2,bb⟩))
    all_goals
     go_wp2_with fail
     go_ret3
     have e:=HR.o;rw [jW hl hl2 H0.o] at e;simp only [Prod.mk.injEq] at e;obtain ⟨rfl,rfl,rfl⟩:=e;exact ⟨_,_,_,_,rfl,n1,n2,iA bb⟩
theorem rQ (w:World) (A D:Option Addr) (c d n m:Nat) (xs ys R:List Nat) (E:Int) (h:Nt w A c xs) (k:Nt w D d ys) (hn:n=xs.length) (hm:m=ys.length) (hr:pk (nv xs) (nv ys)=(R,E)) :
 Calls prog 106 #[.slice A n c, .slice D m d] w (jJ w R E):=by
 subst hn hm;have HR:=ag hr;clear hr;have h1:=h.lim;have h2:=ak h.u;have h3:=h.cap;have h4:=h.max;have k1:=k.lim;have k2:=ak k.u;have k3:=k.cap;have k4:=k.max;obtain ⟨i0,hi,hz0,hz1,hz2⟩:=info_parts ch;by_cases hl:512<(lim (nv xs)).length
 ·go_enter func106,ntmps106;go_wp2_with fail;refine (aN w A c _ xs true h rfl (by simpa using hl)).mono ?_
  rintro e w' ⟨rfl,rfl⟩;go_wp2_with fail
  go_ret2
  have e:=HR.o;rw [qE hl] at e;obtain ⟨rfl,rfl⟩:=Prod.mk.inj e;exact ⟨_,_,rfl,Nt.nil _ _ _ (by omega),ah _ _⟩
 ·by_cases hl2:512<(lim (nv ys)).length
  ·go_enter func106,ntmps106;go_wp2_with fail;refine (aN w A c _ xs false h rfl (by simpa using hl)).mono ?_
   rintro e w' ⟨rfl,rfl⟩;go_wp2_with fail;refine (aN w D d _ ys true k rfl (by simpa using hl2)).mono ?_
   rintro e w' ⟨rfl,rfl⟩;go_wp2_with fail
   go_ret2
   have e:=HR.o;rw [qD hl2] at e;obtain ⟨rfl,rfl⟩:=Prod.mk.inj e;exact ⟨_,_,rfl,Nt.nil _ _ _ (by omega),ah _ _⟩
  ·go_enter func106,ntmps106;go_wp2_with fail;refine (aN w A c _ xs false h rfl (by simpa using hl)).mono ?_
   rintro e w' ⟨rfl,rfl⟩;go_wp2_with fail;refine (aN w D d _ ys false k rfl (by simpa using hl2)).mono ?_
   rintro e w' ⟨rfl,rfl⟩;go_wp2_with fail;refine (jm w A c _ xs h rfl (by omega)).mono ?_
   rintro e wa ⟨A1,c1,rfl,g1,b1⟩;have na:=g1.nt (aC _);have k5:=k.below b1;clear g1;go_wp2_with fail;refine (jm _ D d _ ys k5 rfl (by omega)).mono ?_
   rintro e wb ⟨A2,c2,rfl,g2,b2⟩;have nb:=g2.nt (aC _);have na2:=na.below b2;have bw:=qd b1 b2;clear g2 na k5 b1 b2;go_wp2_with fail
   go_loopg [0,1] (nv ys) (fun kn a b wr=>∃(M N:Nat) (A B:Option Addr) (c d:Nat),N=kn/\a = .slice A (lim M).length c/\b = .slice B (lim N).length d/\Nt wr A c (lim M)/\Nt wr B d (lim N)/\(lim M).length<=512/\(lim N).length<=512/\Nat.gcd M N=Nat.gcd (nv xs) (nv ys)/\Below w.heap.size w wr)
   case atStart=>exact ⟨nv xs,nv ys,A1,A2,c1,c2,rfl,rfl,rfl,na2,nb,by omega,by omega,rfl,bw⟩
   case round=>
    obtain ⟨M,N,AM,AN,cM,cN,rfl,rfl,rfl,nM,nN,lM,lN,hg,bb⟩:=hrel;have HG:=ag hg;clear hg na2 nb bw;by_cases hN:N=0
    ·have hN1:(lim N).length=0:=by rw [hN,aV];rfl
     have hN2:decide ((0:Int)<((lim N).length:Int))=false:=decide_eq_false (by omega)
     have hN3:decide (0<(lim N).length)=false:=decide_eq_false (by omega)
     have HN:=ag hN;clear hN hN1;go_wp2_with fail
     go_ret2
     have e:=HR.o;rw [jb hl hl2,<-HG.o,HN.o,Nat.gcd_zero_right] at e;obtain ⟨rfl,rfl⟩:=Prod.mk.inj e;exact ⟨_,_,rfl,nM,bb⟩
    ·have hN1:0<(lim N).length:=aX.2 hN;have HN:Hd (0<N):=ag (by omega)
     clear hN;go_wp2_with fail;refine (pq _ AM AN cM cN M N nM nN (by omega) HN.o).mono ?_
     rintro e w1 ⟨A3,c3,D3,d3,rfl,n3,n4,b3⟩;have nN2:=nN.below b3;clear nM nN n3;go_wp2_with fail
     go_roundg (M % N)
     case measure=>exact Nat.mod_lt _ HN.o
     case rel=>
      refine ⟨N,M % N,AN,D3,cN,d3,rfl,rfl,rfl,nN2,n4,lN,?_,?_,qd bb b3⟩
      ·have:=ao (Nat.le_of_lt (Nat.mod_lt M HN.o));omega
      ·rw [<-HG.o,Nat.gcd_comm N (M % N),<-Nat.gcd_rec,Nat.gcd_comm]
structure Bk3 (w:World) (G:Nat) (v0 v1 v2:Value):Prop where
 c0:w.cell? ⟨G,0,none⟩=some v0
 c1:w.cell? ⟨G,1,none⟩=some v1
 c2:w.cell? ⟨G,2,none⟩=some v2
 f0:w.frozen? ⟨G,0,none⟩=false
 f1:w.frozen? ⟨G,1,none⟩=false
 f2:w.frozen? ⟨G,2,none⟩=false
 lt:G<w.heap.size
 blk:∃t fr,w.heap[G]? = some (.cells #[v0,v1,v2] t fr)
theorem Bk3.below {w w':World} {G:Nat} {v0 v1 v2:Value} (h:Bk3 w G v0 v1 v2) (hb:Below w.heap.size w w'):Bk3 w' G v0 v1 v2:=
 ⟨(hb.cell (p:=⟨G,0,none⟩) h.lt).trans h.c0,(hb.cell (p:=⟨G,1,none⟩) h.lt).trans h.c1,(hb.cell (p:=⟨G,2,none⟩) h.lt).trans h.c2,
  (hb.frozen (p:=⟨G,0,none⟩) h.lt).trans h.f0,(hb.frozen (p:=⟨G,1,none⟩) h.lt).trans h.f1,(hb.frozen (p:=⟨G,2,none⟩) h.lt).trans h.f2,Nat.lt_of_lt_of_le h.lt hb.size,
  by obtain ⟨t,fr,e⟩:=h.blk;exact ⟨t,fr,(hb.block G h.lt).trans e⟩⟩
def dY:Value->Bool | .int _ _=>true|_=>false
theorem Nt.sep3 {w:World} {A:Option Addr} {c G:Nat} {xs:List Nat} {v0 v1 v2:Value} (h:Nt w A c xs) (bk:Bk3 w G v0 v1 v2) (e0:dY v0=false) (e1:dY v1=false) (e2:dY v2=false) (hx:0<xs.length):∀ad,A=some ad->ad.block≠G:=fun ad e hG=>by
 obtain ⟨ad',e',_,hc,_⟩:=h.at 0 hx;rw [e] at e';injection e' with e';subst e';obtain ⟨t,fr,hblk⟩:=bk.blk;have hb0:(ad.add 0).block=G:=by rw [aM];exact hG
 unfold World.cell? at hc;rw [hb0,hblk] at hc;simp only at hc
 split at hc
 ·cases hc
 ·have:∀v ∈ [v0,v1,v2],dY v=false:=by intro v hv;simp at hv;rcases hv with rfl|rfl|rfl <;> assumption
  have hm:=Array.mem_of_getElem? hc;have:=this (.int .u32 (xs[0]:Int)) (by simpa using hm)
  simp [dY] at this
theorem Nt.nil_any {w:World} {A:Option Addr} {c:Nat} {xs:List Nat} (h:Nt w A c xs) (hx:xs.length=0) (w':World):Nt w' A c xs:=by
 obtain rfl:=List.eq_nil_of_length_eq_zero hx;exact ⟨h.cap,h.max,h.u,Rd.nil⟩
theorem ve (w:World) (x:Fx):Calls prog 113 #[x.val] w fun e w'=>e = .returned ({ x with b := !x.b}:Fx).val/\Below w.heap.size w w':=by
 go_enter func113,ntmps113;go_wp2_with fail;exact bodyPost_ret (v:=({ x with b := !x.b}:Fx).val) (by simp [results,Tryz.results113,go_sem]) rfl ⟨rfl,((ah _ _).alloc (Nat.le_refl _) _).alloc (by simp) _⟩
theorem fw (w:World) (x:Fx) (b:Bool) (hx:Nt w x.A x.c x.xs) (hl:x.xs.length<=10000) (hb:decide (nv x.xs=0)=b):Calls prog 122 #[x.val] w fun e w'=>e = .returned (.bool b)/\Below w.heap.size w w':=by
 have hbb:((aI (nv x.xs):Int) == 0)=b:=by
  rw [<-hb,Bool.eq_iff_iff,beq_iff_eq,decide_eq_true_eq];have:aI (nv x.xs)=0↔nv x.xs=0:=by unfold aI;split <;> omega
  omega
 have HB:=ag hbb;clear hb hbb;go_enter func122,ntmps122;go_wp2_with fail;have bb:=qc w (.cells x.cells 29);refine (fB _ x.A x.c _ x.xs (hx.below bb) rfl (by omega)).mono ?_
 rintro e wn ⟨rfl,rfl⟩;go_wp2_with fail;go_ret;exact ⟨dz HB.o,bb⟩
theorem uY (w:World) (A D:Option Addr) (c d n m:Nat) (xs ys R:List Nat) (E:Int) (h:Nt w A c xs) (k:Nt w D d ys) (hn:n=xs.length) (hm:m=ys.length) (hr:nh (nv xs) (nv ys)=(R,E)) :
 Calls prog 117 #[.slice A n c, .slice D m d] w fun e w'=>∃A' c',e = .returned (.slice A' R.length c')/\Nt w' A' c' R/\Below w.heap.size w w':=by
 have HR:=ag hr;clear hr;subst hn hm;go_enter func117,ntmps117;go_wp2_with fail;refine (rI w A D c d _ _ xs ys R E h k rfl rfl HR.o).mono ?_;rintro e wn ⟨A',c',rfl,n',bb⟩;go_wp2_with fail;go_ret;exact ⟨A',c',rfl,n',bb⟩
theorem aO {m n j k:Nat} (hm:(lim m).length<=j) (hn:(lim n).length<=k):(lim (m*n)).length<=j+k:=by
 rw [aA] at *;rw [jz];exact Nat.mul_lt_mul'' hm hn
theorem jC {m n k:Nat} (hm:(lim m).length<=k) (hn:(lim n).length<=k):(lim (m+n)).length<=k+1:=by
 rw [aA] at *;rw [gM];omega
theorem zI {m n:Nat} (hm:(lim m).length<=128) (hn:(lim n).length<=128):nh m n=(lim (m*n),0):=by
 have:=aO hm hn;rw [iY (by omega) (by omega),iC,if_neg (by omega)]
theorem ew (w:World) (A D:Option Addr) (c d n m:Nat) (xs ys:List Nat) (h:Nt w A c xs) (k:Nt w D d ys) (hn:n=xs.length) (hm:m=ys.length) (h1:(lim (nv xs)).length<=128) (h2:(lim (nv ys)).length<=128) :
 Calls prog 117 #[.slice A n c, .slice D m d] w fun e w'=>∃A' c',e = .returned (.slice A' (lim (nv xs*nv ys)).length c')/\Nt w' A' c' (lim (nv xs*nv ys))/\Below w.heap.size w w':=
 uY w A D c d n m xs ys _ 0 h k hn hm (zI h1 h2)
theorem aP (w:World) (x:Fx) (b:Bool) (hx:x.ok w) (hl:x.xs.length<=10000) (hl2:x.ys.length<=10000) (hb:decide x.v=b):Calls prog 90 #[x.val] w fun e w'=>e = .returned (.bool b)/\Below w.heap.size w w':=by
 have bb:=qc w (.cells x.cells 29);have nx:=hx.num.below bb;have ny:=hx.den.below bb;have e0:0<aI (nv x.ys)↔nv x.ys≠0:=by unfold aI;split <;> omega
 have e1:=dh (nv x.ys) 128;have e2:=dh (nv x.xs) 128;have hv:x.v↔(0<aI (nv x.ys)/\aI (nv x.ys)<=4096/\aI (nv x.xs)<=4096):=⟨fun ⟨a,b,c⟩=>⟨e0.2 a,e1.2 b,e2.2 c⟩,fun ⟨a,b,c⟩=>⟨e0.1 a,e1.1 b,e2.1 c⟩⟩;have HB:Hd (decide (0<aI (nv x.ys)/\aI (nv x.ys)<=4096/\aI (nv x.xs)<=4096)=b):=ag (by rw [<-hb];exact decide_eq_decide.2 hv.symm)
 have hb1:(aI (nv x.ys):Int)<=400000:=by
  have h1:=ak hx.den.u;have h2:=(dh (nv x.ys) 10000).2 (by omega)
  omega
 have hb2:(aI (nv x.xs):Int)<=400000:=by
  have h1:=ak hx.num.u;have h2:=(dh (nv x.xs) 10000).2 (by omega)
  omega
 clear e0 e1 e2 hb hx hv;obtain ⟨al,hby⟩:∃t,t=aI (nv x.ys):=⟨_,rfl⟩;obtain ⟨bx,hbx⟩:∃t,t=aI (nv x.xs):=⟨_,rfl⟩;have C1:=fun w' (h':Nt w' x.D x.d x.ys)=>fB w' x.D x.d _ x.ys h' rfl (by omega)
 have C2:=fun w' (h':Nt w' x.A x.c x.xs)=>fB w' x.A x.c _ x.xs h' rfl (by omega)
 rw [<-hby] at HB hb1 C1;rw [<-hbx] at HB hb2 C2;have H1:=ag C1;have H2:=ag C2;clear hby hbx C1 C2;by_cases h0:0<al
 ·by_cases h4:al<=4096
  ·by_cases h5:bx<=4096
   ·go_enter func90,ntmps90;go_wp2_with fail;refine (H1.o _ ny).mono ?_;rintro e wn ⟨rfl,rfl⟩;go_wp2_with fail;refine (H2.o _ nx).mono ?_;rintro e wn ⟨rfl,rfl⟩;go_wp2_with fail;go_ret;exact ⟨dz (by rw [<-HB.o];simp [h0,h4,h5];omega),bb⟩
   ·have h5':decide ((bx:Int)<=4096)=false:=decide_eq_false (by omega)
    have h5'':decide (bx<=4096)=false:=decide_eq_false h5;go_enter func90,ntmps90;go_wp2_with fail;refine (H1.o _ ny).mono ?_;rintro e wn ⟨rfl,rfl⟩;go_wp2_with fail;refine (H2.o _ nx).mono ?_;rintro e wn ⟨rfl,rfl⟩;go_wp2_with fail;go_ret;exact ⟨dz (by rw [<-HB.o];simp [h0,h4,h5]),bb⟩
  ·have h4':decide ((al:Int)<=4096)=false:=decide_eq_false (by omega)
   have h4'':decide (al<=4096)=false:=decide_eq_false h4;go_enter func90,ntmps90;go_wp2_with fail;refine (H1.o _ ny).mono ?_;rintro e wn ⟨rfl,rfl⟩;go_wp2_with fail;go_ret;exact ⟨dz (by rw [<-HB.o];simp [h0,h4]),bb⟩
 ·have h0':decide (0<(al:Int))=false:=decide_eq_false (by omega)
  have h0'':decide (0<al)=false:=decide_eq_false h0;go_enter func90,ntmps90;go_wp2_with fail;refine (H1.o _ ny).mono ?_;rintro e wn ⟨rfl,rfl⟩;go_wp2_with fail;go_ret;exact ⟨dz (by rw [<-HB.o];simp [h0'']),bb⟩
theorem aK (w:World):Bk3 (w.alloc (.cells #[.bool false, .slice none 0 0, .slice none 0 0] 29)) w.heap.size (.bool false) (.slice none 0 0) (.slice none 0 0):=
 ⟨by go_simp,by go_simp,by go_simp,by go_simp,by go_simp,by go_simp,by simp,_,(0,0),heap_alloc_new w _⟩
theorem rZ (n:Nat):1<aI n↔1<n:=by
 have:=bP n 1;rw [show (2:Nat)^1=2 from rfl] at this;omega
theorem yj (n:Nat):0<aI n↔n≠0:=by unfold aI;split <;> omega
theorem oN {w wc:World} {a b c:Value} (h:Below w.heap.size w wc):Below w.heap.size w (((wc.setCell ⟨w.heap.size,0,none⟩ a).setCell ⟨w.heap.size,1,none⟩ b).setCell ⟨w.heap.size,2,none⟩ c):=
 ((h.setCell (p:=⟨w.heap.size,0,none⟩) (Nat.le_refl _) _).setCell (p:=⟨w.heap.size,1,none⟩) (Nat.le_refl _) _).setCell (p:=⟨w.heap.size,2,none⟩) (Nat.le_refl _) _
theorem ik {w:World} {A:Option Addr} {c G:Nat} {xs:List Nat} {v0 v1 v2:Value} (h:Nt w A c xs) (hne:∀ad,A=some ad->ad.block≠G):Nt (((w.setCell ⟨G,0,none⟩ v0).setCell ⟨G,1,none⟩ v1).setCell ⟨G,2,none⟩ v2) A c xs:=
 dH (dH (dH h (fun a e=>hne a e) _) (fun a e=>hne a e) _) (fun a e=>hne a e) _
theorem i7 (w:World) (b:Bool) (A D:Option Addr) (c d n m:Nat) (xs ys:List Nat) (h:Nt w A c xs) (k:Nt w D d ys) (hn:n=xs.length) (hm:m=ys.length) (hd:nv ys≠0) (l1:xs.length<=10000) (l2:ys.length<=10000) (l3:(lim (nv xs)).length<=512) (l4:(lim (nv ys)).length<=512) :
 Calls prog 91 #[.bool b, .slice A n c, .slice D m d] w (eQ w (frS (qv b (nv xs) (nv ys)))):=by
 subst hn hm;obtain ⟨G,hG⟩:∃G,G=Nat.gcd (nv xs) (nv ys):=⟨_,rfl⟩;have hG0:0<G:=by rw [hG];exact Nat.gcd_pos_of_pos_right _ (Nat.pos_of_ne_zero hd)
 have hGl:(lim G).length<=512:=by
  have:=ao (Nat.gcd_le_right (nv xs) (Nat.pos_of_ne_zero hd));rw [<-hG] at this;omega
 obtain ⟨N,hN⟩:∃N,N=nv xs/G:=⟨_,rfl⟩;obtain ⟨M,hM⟩:∃M,M=nv ys/G:=⟨_,rfl⟩;have hqa:=mE (b:=b) (n:=nv xs) (d:=nv ys) hd;have hqd:=mB (b:=b) (n:=nv xs) (d:=nv ys) hd;have hqn:=vO (b:=b) (n:=nv xs) (d:=nv ys) hd;rw [<-hG,<-hN] at hqa hqn;rw [<-hG,<-hM] at hqd;have hF:frS (qv b (nv xs) (nv ys))=if 128<(lim N).length\/128<(lim M).length then (false,[],[],2) else (b && decide (N≠0),lim N,lim M,0):=by
  unfold frS vu;simp only [hqa,hqd,hqn]
 obtain ⟨S,hS⟩:∃S,S=frS (qv b (nv xs) (nv ys)):=⟨_,rfl⟩;rw [<-hS];rw [hF] at hS;have HS:=ag hS;have HG:=ag hG;have HN:=ag hN;have HM:=ag hM;have z9:=ag hG0;have lN:(lim N).length<=512:=by have:=ao (Nat.div_le_self (nv xs) G);rw [<-hN] at this;omega
 have lM:(lim M).length<=512:=by have:=ao (Nat.div_le_self (nv ys) G);rw [<-hM] at this;omega
 have hd':Hd (nv ys≠0):=hd;clear hqa hqd hqn hF hG hN hM hG0 hd hS;go_enter func91,ntmps91;go_wp2_with fail;have bk:=aK w;have bw:=qc w (.cells #[.bool false, .slice none 0 0, .slice none 0 0] 29);have na:=h.below bw;have nd:=k.below bw
 revert bk bw na nd
 generalize (w.alloc (.cells #[.bool false, .slice none 0 0, .slice none 0 0] 29))=w1;intro bk bw na nd;clear h k;refine (rQ w1 A D c d _ _ xs ys (lim G) 0 na nd rfl rfl (by rw [jb (by omega) (by omega),HG.o])).mono ?_
 rintro e w2 ⟨AG,cG,rfl,ng,bb⟩;replace bk:=bk.below bb
 try replace na:=na.below bb
 try replace nd:=nd.below bb
 replace bw:=qd bw bb;clear bb;go_wp2_with fail;refine (fB w2 AG cG _ (lim G) ng rfl (by omega)).mono ?_
 rintro e wn ⟨rfl,rfl⟩;rw [am];obtain ⟨tg,htg⟩:∃tg,tg=aI G:=⟨_,rfl⟩;rw [<-htg];have htg1:1<tg↔1<G:=by rw [htg];exact rZ G
 clear htg
 go_upto_if 18 with fail
 go_cut [1,2] (fun s1 s2 wx=>∃(A1 D1:Option Addr) (c1 d1:Nat) (xs1 ys1:List Nat),s1 = .slice A1 xs1.length c1/\s2 = .slice D1 ys1.length d1/\xs1.length<=10000/\ys1.length<=10000/\nv xs1=N/\nv ys1=M/\Nt wx A1 c1 xs1/\Nt wx D1 d1 ys1/\Below w2.heap.size w2 wx)
 case first=>
  by_cases hg:1<G
  ·have hg1:(1:Int)<tg:=by have:=htg1.2 hg;omega
   have fl:=ag hg;clear hg htg1;go_wp2_with fail;refine (oo w2 A AG c cG _ _ xs (lim G) (lim N) (lim (nv xs % G)) 0 na ng rfl rfl (by rw [am,jW (by omega) (by omega) (by have:=fl.o;omega),HN.o])).mono ?_
   rintro e w3 ⟨A1,c1,A2,c2,rfl,n1,n2,b3⟩;have ng3:=ng.below b3;have nd3:=nd.below b3;clear n2;go_wp2_with fail;refine (oo w3 D AG d cG _ _ ys (lim G) (lim M) (lim (nv ys % G)) 0 nd3 ng3 rfl rfl (by rw [am,jW (by omega) (by omega) (by have:=fl.o;omega),HM.o])).mono ?_
   rintro e w4 ⟨D1,d1,A4,c4,rfl,n3,n4,b4⟩;have n1':=n1.below b4;clear n4 n1 nd3 ng3;go_wp2_with fail;go_meet
   case rel=>exact ⟨A1,D1,c1,d1,lim N,lim M,rfl,rfl,by omega,by omega,am N,am M,n1',n3,qd b3 b4⟩
  ·have hg1:decide ((1:Int)<tg)=false:=decide_eq_false (by omega)
   have hg2:decide (1<tg)=false:=decide_eq_false (by omega)
   have hg3:tg<=1:=by omega
   have fl:Hd (G=1):=ag (by have:=z9.o;omega)
   clear hg htg1;go_wp2_with fail;go_meet
   case rel=>exact ⟨A,D,c,d,xs,ys,rfl,rfl,l1,l2,by rw [HN.o,fl.o,Nat.div_one],by rw [HM.o,fl.o,Nat.div_one],na,nd,ah _ _⟩
 case rest=>
  obtain ⟨A1,D1,c1,d1,xs1,ys1,rfl,rfl,m1,m2,hv1,hv2,n1,n2,b2⟩:=hcut;replace bk:=bk.below b2;replace bw:=qd bw b2;have hN1:(lim (nv xs1)).length<=512:=by rw [hv1];exact lN
  have hM1:(lim (nv ys1)).length<=512:=by rw [hv2];exact lM
  have C1:=fun w' (h':Nt w' A1 c1 xs1)=>fB w' A1 c1 _ xs1 h' rfl (by omega)
  have C2:=fun w' (h':Nt w' D1 d1 ys1)=>fB w' D1 d1 _ ys1 h' rfl (by omega)
  have T1:=fun w' (h':Nt w' A1 c1 xs1)=>jm w' A1 c1 _ xs1 h' rfl (by omega)
  have T2:=fun w' (h':Nt w' D1 d1 ys1)=>jm w' D1 d1 _ ys1 h' rfl (by omega)
  rw [hv1] at C1 T1;rw [hv2] at C2 T2;obtain ⟨bn,hbn⟩:∃t,t=aI N:=⟨_,rfl⟩;obtain ⟨bm,hbm⟩:∃t,t=aI M:=⟨_,rfl⟩;have q1:=dh N 128;have q2:=dh M 128;have q3:=yj N;rw [<-hbn] at C1 q1 q3;rw [<-hbm] at C2 q2;have iB:=ag C1;have fm:=ag C2;have gq:=ag T1;have gC:=ag T2;have Q1:=ag q1;have Q2:=ag q2;have Q3:=ag q3;have NA:=ag na;clear hv1 hv2 hbn hbm C1 C2 T1 T2 q1 q2 q3 na nd ng hN1 hM1 b2;obtain ⟨k0,k1,k2,f0,f1,f2,klt,kblk⟩:=bk;by_cases e1:4096<bn
  ·have e1':(4096:Int)<bn:=by omega
   have HE:Hd (128<(lim N).length\/128<(lim M).length):=ag (.inl (by have:=Q1.o;omega))
   go_wp2_with fail;refine (iB.o _ n1).mono ?_;rintro e wn ⟨rfl,rfl⟩;go_wp2_with fail;refine bodyPost_ret (v := .tuple #[Fx.nil.val, .int .i64 2]) (by simp [results,Tryz.results91,go_sem,k0,k1,k2]) rfl ?_
   rw [HS.o,if_pos HE.o];exact ⟨Fx.nil,rfl,⟨rfl,rfl,rfl⟩,Fx.nil_ok _,oN bw⟩
  ·have e1':decide ((4096:Int)<bn)=false:=decide_eq_false (by omega)
   have e1'':decide (4096<bn)=false:=decide_eq_false e1;by_cases e2:4096<bm
   ·have e2':(4096:Int)<bm:=by omega
    have HE:Hd (128<(lim N).length\/128<(lim M).length):=ag (.inr (by have:=Q2.o;omega))
    go_wp2_with fail;refine (iB.o _ n1).mono ?_;rintro e wn ⟨rfl,rfl⟩;go_wp2_with fail;refine (fm.o _ n2).mono ?_;rintro e wn ⟨rfl,rfl⟩;go_wp2_with fail;refine bodyPost_ret (v := .tuple #[Fx.nil.val, .int .i64 2]) (by simp [results,Tryz.results91,go_sem,k0,k1,k2]) rfl ?_
    rw [HS.o,if_pos HE.o];exact ⟨Fx.nil,rfl,⟨rfl,rfl,rfl⟩,Fx.nil_ok _,oN bw⟩
   ·have e2':decide ((4096:Int)<bm)=false:=decide_eq_false (by omega)
    have e2'':decide (4096<bm)=false:=decide_eq_false e2;have e1l:bn<=4096:=by omega
    have e2l:bm<=4096:=by omega
    have HE:Hd (¬(128<(lim N).length\/128<(lim M).length)):=ag (by have:=Q1.o;have:=Q2.o;omega)
    clear e1 e2;cases b
    ·skip
     go_wp2_with fail;refine (iB.o _ n1).mono ?_;rintro e wn ⟨rfl,rfl⟩;go_wp2_with fail;refine (fm.o _ n2).mono ?_;rintro e wn ⟨rfl,rfl⟩;go_wp2_with fail;have n2':=n2;refine (gq.o _ n1).mono ?_;rintro e w5 ⟨A5,c5,rfl,g5,b5⟩;have n5:=g5.nt (aC _);have h5:∀ad:Addr,A5=some ad->ad.block≠w.heap.size:=fun ad e=>by have:=(g5.form.2.2 ad e).1;omega
     have n2b:=n2'.below b5;have bk5:Bk3 w5 w.heap.size _ _ _:=(Bk3.mk k0 k1 k2 f0 f1 f2 klt kblk).below b5;have bw5:=qd bw b5;clear g5 b5 k0 k1 k2 f0 f1 f2 n2' n2 n1 bw klt kblk;go_wp2_with fail;refine (gC.o _ n2b).mono ?_;rintro e w6 ⟨A6,c6,rfl,g6,b6⟩;have n6:=g6.nt (aC _);have n5b:=n5.below b6;have h6:∀ad:Addr,A6=some ad->ad.block≠w.heap.size:=fun ad e=>by have:=(g6.form.2.2 ad e).1;have:=bk5.lt;omega
     obtain ⟨k0,k1,k2,f0,f1,f2,klt,_⟩:=bk5.below b6;have bw6:=qd bw5 b6;have H5:=ag h5;have H6:=ag h6;clear g6 b6 n5 bk5 bw5 h5 h6;go_wp2_with fail;refine bodyPost_ret (v := .tuple #[(⟨false,A5,c5,lim N,A6,c6,lim M⟩:Fx).val, .int .i64 0]) (by simp [results,Tryz.results91,go_sem,k0,k1,k2]) rfl ?_
     rw [HS.o,if_neg HE.o];exact ⟨⟨false,A5,c5,lim N,A6,c6,lim M⟩,rfl,⟨rfl,rfl,rfl⟩,⟨ik n5b H5.o,ik n6 H6.o⟩,oN bw6⟩
    ·by_cases h0:0<bn
     ·have h0':(0:Int)<bn:=by omega
      have hb0:(true && decide (N≠0))=true:=by rw [decide_eq_true (Q3.o.1 h0)];rfl
      have sP:=ag hb0;clear hb0
      skip
      go_wp2_with fail;refine (iB.o _ n1).mono ?_;rintro e wn ⟨rfl,rfl⟩;go_wp2_with fail;refine (fm.o _ n2).mono ?_;rintro e wn ⟨rfl,rfl⟩;go_wp2_with fail;refine (iB.o _ n1).mono ?_;rintro e wn ⟨rfl,rfl⟩;go_wp2_with fail;have n2':=n2;refine (gq.o _ n1).mono ?_;rintro e w5 ⟨A5,c5,rfl,g5,b5⟩;have n5:=g5.nt (aC _);have h5:∀ad:Addr,A5=some ad->ad.block≠w.heap.size:=fun ad e=>by have:=(g5.form.2.2 ad e).1;omega
      have n2b:=n2'.below b5;have bk5:Bk3 w5 w.heap.size _ _ _:=(Bk3.mk k0 k1 k2 f0 f1 f2 klt kblk).below b5;have bw5:=qd bw b5;clear g5 b5 k0 k1 k2 f0 f1 f2 n2' n2 n1 bw klt kblk;go_wp2_with fail;refine (gC.o _ n2b).mono ?_;rintro e w6 ⟨A6,c6,rfl,g6,b6⟩;have n6:=g6.nt (aC _);have n5b:=n5.below b6;have h6:∀ad:Addr,A6=some ad->ad.block≠w.heap.size:=fun ad e=>by have:=(g6.form.2.2 ad e).1;have:=bk5.lt;omega
      obtain ⟨k0,k1,k2,f0,f1,f2,klt,_⟩:=bk5.below b6;have bw6:=qd bw5 b6;have H5:=ag h5;have H6:=ag h6;clear g6 b6 n5 bk5 bw5 h5 h6;go_wp2_with fail;refine bodyPost_ret (v := .tuple #[(⟨true,A5,c5,lim N,A6,c6,lim M⟩:Fx).val, .int .i64 0]) (by simp [results,Tryz.results91,go_sem,k0,k1,k2]) rfl ?_
      rw [HS.o,if_neg HE.o];exact ⟨⟨true,A5,c5,lim N,A6,c6,lim M⟩,rfl,⟨sP.o.symm,rfl,rfl⟩,⟨ik n5b H5.o,ik n6 H6.o⟩,oN bw6⟩
     ·have h0':decide ((0:Int)<bn)=false:=decide_eq_false (by omega)
      have h0'':decide (0<bn)=false:=decide_eq_false h0;have h0l:bn<=0:=by omega
      have hb0:(true && decide (N≠0))=false:=by rw [decide_eq_false (fun h=>h0 (Q3.o.2 h))];rfl
      have sP:=ag hb0;clear hb0 h0
      skip
      go_wp2_with fail;refine (iB.o _ n1).mono ?_;rintro e wn ⟨rfl,rfl⟩;go_wp2_with fail;refine (fm.o _ n2).mono ?_;rintro e wn ⟨rfl,rfl⟩;go_wp2_with fail;refine (iB.o _ n1).mono ?_;rintro e wn ⟨rfl,rfl⟩;go_wp2_with fail;have n2':=n2;refine (gq.o _ n1).mono ?_;rintro e w5 ⟨A5,c5,rfl,g5,b5⟩;have n5:=g5.nt (aC _);have h5:∀ad:Addr,A5=some ad->ad.block≠w.heap.size:=fun ad e=>by have:=(g5.form.2.2 ad e).1;omega
      have n2b:=n2'.below b5;have bk5:Bk3 w5 w.heap.size _ _ _:=(Bk3.mk k0 k1 k2 f0 f1 f2 klt kblk).below b5;have bw5:=qd bw b5;clear g5 b5 k0 k1 k2 f0 f1 f2 n2' n2 n1 bw klt kblk;go_wp2_with fail;refine (gC.o _ n2b).mono ?_;rintro e w6 ⟨A6,c6,rfl,g6,b6⟩;have n6:=g6.nt (aC _);have n5b:=n5.below b6;have h6:∀ad:Addr,A6=some ad->ad.block≠w.heap.size:=fun ad e=>by have:=(g6.form.2.2 ad e).1;have:=bk5.lt;omega
      obtain ⟨k0,k1,k2,f0,f1,f2,klt,_⟩:=bk5.below b6;have bw6:=qd bw5 b6;have H5:=ag h5;have H6:=ag h6;clear g6 b6 n5 bk5 bw5 h5 h6;go_wp2_with fail;refine bodyPost_ret (v := .tuple #[(⟨false,A5,c5,lim N,A6,c6,lim M⟩:Fx).val, .int .i64 0]) (by simp [results,Tryz.results91,go_sem,k0,k1,k2]) rfl ?_
      rw [HS.o,if_neg HE.o];exact ⟨⟨false,A5,c5,lim N,A6,c6,lim M⟩,rfl,⟨sP.o.symm,rfl,rfl⟩,⟨ik n5b H5.o,ik n6 H6.o⟩,oN bw6⟩
end Go.Proofs.YtkpfbekmaafehaaGreat
