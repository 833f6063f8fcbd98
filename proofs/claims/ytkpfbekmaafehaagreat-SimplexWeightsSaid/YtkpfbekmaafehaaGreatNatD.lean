/- Weights: how great the numbers of a tableau are for a program of a given weight -/
import Derived.Test.YtkpfbekmaafehaaGreatNatA
import Derived.Test.YtkpfbekmaafehaaGreatNatG
namespace Go.Proofs.YtkpfbekmaafehaaGreat
open _root_.Go.Proofs.Tryz
set_option maxHeartbeats 8000000
set_option maxRecDepth 100000
def wgB (x:Rat):Nat:=if x=0 then 0 else aI x.num.natAbs+if 1<aI x.den then aI x.den else 0
theorem ww (n:Nat):n<2^aI n:=(bP n (aI n)).1 (Nat.le_refl _)
theorem uT {a b:Nat} (ha:1<=a) (hb:1<=b):2^a+2^b<=2^(a+b)+2:=by
 obtain ⟨x,hx⟩:∃x,2^a=x+2:=⟨2^a-2,by have:=Nat.pow_le_pow_right (n:=2) (by omega) ha;omega⟩
 obtain ⟨y,hy⟩:∃y,2^b=y+2:=⟨2^b-2,by have:=Nat.pow_le_pow_right (n:=2) (by omega) hb;omega⟩
 rw [Nat.pow_add,hx,hy];have e:(x+2)*(y+2)=x*y+2*x+2*y+4:=by grind
 rw [e];have:=Nat.zero_le (x*y);omega
theorem lI (x:Rat):wtR x<=2^wgB x:=by
 unfold wtR wgB;by_cases h:x=0
 ·subst h;rw [if_pos rfl]
  show 1+0<=2^0
  omega
 ·rw [if_neg h];have h1:=ww x.num.natAbs;have h2:=ww x.den;have hn:x.num.natAbs≠0:=by
   have:x.num≠0:=fun k=>h (Rat.num_eq_zero.1 k);omega
  have hb:1<=aI x.num.natAbs:=by
   rcases Nat.eq_zero_or_pos (aI x.num.natAbs) with k|k
   ·rw [k] at h1;omega
   ·exact k
  have hd:=x.den_pos;by_cases h3:1<aI x.den
  ·rw [if_pos h3];have:=uT hb (show 1<=aI x.den by omega)
   omega
  ·rw [if_neg h3,Nat.add_zero];have h4:2^aI x.den<=2^1:=Nat.pow_le_pow_right (by omega) (by omega)
   omega
theorem rF (f:Nat->Nat) (n:Nat):pr1 (fun i=>2^f i) n=2^bG f n:=by
 induction n with
 | zero=>rfl
 | succ n ih=>rw [pr1,bG,ih,Nat.pow_add]
theorem oq (m:Nat) (O:Nat->Nat->Rat) (j:Nat):bh m O j<=2^bG (fun r=>wgB (O r j)) m:=by
 rw [<-rF];exact fN m fun r _=>lI _
theorem pC {m n:Nat} {O:Nat->Nat->Rat} (hO:∀r,r<m->∀k,k<m->O r (n+k)=if r=k then 1 else 0) {k:Nat} (hk:k<m):bh m O (n+k)=2:=by
 have e1:wtR 1=2:=rfl;have e0:wtR 0=1:=rfl;unfold bh;rw [dl _ hk,hO k hk k hk,if_pos rfl,e1];have:pr1 (fun j=>if j=k then 1 else wtR (O j (n+k))) m=pr1 (fun _=>1) m:=d8 m fun j hj=>by
  by_cases h:j=k
  ·rw [if_pos h]
  ·rw [if_neg h,hO j hj k hk,if_neg h,e0]
 rw [this];have:∀M,pr1 (fun _=>1) M=1:=by
  intro M
  induction M with
  | zero=>rfl
  | succ M ih=>rw [pr1,ih]
 rw [this]
theorem Bz (f:Nat->Nat) (n m:Nat):pr1 f (n+m)=pr1 f n*pr1 (fun k=>f (n+k)) m:=by
 induction m with
 | zero=>show pr1 f n=pr1 f n*1;omega
 | succ m ih=>rw [<-Nat.add_assoc,pr1,ih,pr1,Nat.mul_assoc]
theorem wL {m n W:Nat} {O:Nat->Nat->Rat} (hO:∀r,r<m->∀k,k<m->O r (n+k)=if r=k then 1 else 0) (hW:bG (fun j=>bG (fun r=>wgB (O r j)) m) n<=W):pr1 (bh m O) (n+m)<=2^(W+m):=by
 rw [Bz,Nat.pow_add];refine Nat.mul_le_mul ?_ ?_
 ·refine Nat.le_trans (fN n fun j _=>oq m O j) ?_;rw [rF];exact Nat.pow_le_pow_right (by omega) hW
 ·have:pr1 (fun k=>bh m O (n+k)) m=pr1 (fun _=>2^1) m:=d8 m fun k hk=>pC hO hk;rw [this,rF];have:∀M,bG (fun _=>1) M=M:=by
   intro M
   induction M with
   | zero=>rfl
   | succ M ih=>rw [bG,ih]
  rw [this];exact Nat.le_refl _
theorem sJ (g:Nat->Nat) {n k:Nat} (hk:k<n):g k<=bG g n:=by
 induction n with
 | zero=>omega
 | succ n ih=>
   rw [bG];rcases Nat.lt_or_ge k n with h|h
   ·exact Nat.le_trans (ih h) (Nat.le_add_right _ _)
   ·obtain rfl:k=n:=by omega
    exact Nat.le_add_left _ _
def BdR (x:Rat) (a b:Nat):Prop:=x.num.natAbs<=a/\x.den<=b
theorem kO {x:Rat} {d N:Int} (hd:d≠0) (h:((d:Int):Rat)*x=((N:Int):Rat)):BdR x N.natAbs d.natAbs:=by
 have h1:=dE x;have e:d*x.num=N*(x.den:Int):=by
  have e2:((d*x.num:Int):Rat)=((N*(x.den:Int):Int):Rat):=by
   rw [Rat.intCast_mul,Rat.intCast_mul,<-h,<-h1];have c:(((x.den:Nat):Int):Rat)=((x.den:Nat):Rat):=rfl;rw [c];grind
  exact_mod_cast e2
 have e3:d.natAbs*x.num.natAbs=N.natAbs*x.den:=by
  have:=congrArg Int.natAbs e;rw [Int.natAbs_mul,Int.natAbs_mul,Int.natAbs_natCast] at this;exact this
 have hdv:x.den∣d.natAbs:=by
  have h2:x.den∣d.natAbs*x.num.natAbs:=⟨N.natAbs,by rw [e3,Nat.mul_comm]⟩
  exact Nat.Coprime.dvd_of_dvd_mul_right x.reduced.symm h2
 obtain ⟨k,hk⟩:=hdv;have hd0:0<d.natAbs:=by omega
 have hk0:0<k:=by
  rcases Nat.eq_zero_or_pos k with h2|h2
  ·rw [h2,Nat.mul_zero] at hk;omega
  ·exact h2
 refine ⟨?_,by rw [hk];exact Nat.le_mul_of_pos_right _ hk0⟩
 have h3:x.den*(k*x.num.natAbs)=x.den*N.natAbs:=by rw [<-Nat.mul_assoc,<-hk,e3,Nat.mul_comm]
 have h4:=Nat.eq_of_mul_eq_mul_left x.den_pos h3;rw [<-h4];exact Nat.le_mul_of_pos_left _ hk0
section
variable {m n:Nat} {O:Nat->Nat->Rat} {x:St} {c:Nat->Rat}
theorem Da (h:Okx m n O x) {i j:Nat} (hi:i<m) (hj:j<=n+m):BdR (x.T i j) (pr1 (bh m O) (n+m)*bh m O j) (pr1 (bh m O) (n+m)*bh m O j):=by
 obtain ⟨N2,h0,h1,h2⟩:=sw h.tab h.nz;obtain ⟨N,h3,h4⟩:=h2 i hi j hj;have hc:=gJ m O j;have h5:=kO (x:=x.T i j) (d:=N2*(da m O j:Int)) (N:=N) (by
  intro e;rcases Int.mul_eq_zero.1 e with k|k
  ·exact h0 k
  ·omega) (by rw [Rat.intCast_mul];exact h3)
 refine ⟨Nat.le_trans h5.1 h4,Nat.le_trans h5.2 ?_⟩;rw [Int.natAbs_mul,Int.natAbs_natCast];exact Nat.mul_le_mul h1 (jf m O j)
theorem Ak (h:Okx m n O x) {j:Nat} (hj:j<=n+m) (M:Nat) (hM:M<=m) :
 BdR (aj (fun i=>c (x.B i)*x.T i j) M) (M*(pr1 (fun i=>wtR (c (x.B i))) m*(pr1 (bh m O) (n+m)*bh m O j))) (pr1 (fun i=>wtR (c (x.B i))) m*(pr1 (bh m O) (n+m)*bh m O j)):=by
 obtain ⟨N2,h0,h1,h2⟩:=sw h.tab h.nz;have hc:=gJ m O j;have hN:∀i,∃N:Int,i<m->((N2:Int):Rat)*((da m O j:Nat):Rat)*x.T i j=((N:Int):Rat)/\N.natAbs<=pr1 (bh m O) (n+m)*bh m O j:=fun i=>by
  by_cases hi:i<m
  ·obtain ⟨N,k⟩:=h2 i hi j hj;exact ⟨N,fun _=>k⟩
  ·exact ⟨0,fun k=>absurd k hi⟩
 obtain ⟨Nf,hN⟩:=Classical.axiomOfChoice hN;obtain ⟨Dc,hDc⟩:∃Dc,Dc=pr1 (fun i=>(c (x.B i)).den) m:=⟨_,rfl⟩;have hDp:0<Dc:=by rw [hDc];exact jS m fun i _=>(c (x.B i)).den_pos
 have hDw:Dc<=pr1 (fun i=>wtR (c (x.B i))) m:=by rw [hDc];exact fN m fun i _=>Nat.le_add_right _ _
 obtain ⟨Q,hQ⟩:∃Q:Nat->Nat,Q=fun i=>pr1 (fun k=>if k=i then 1 else (c (x.B k)).den) m:=⟨_,rfl⟩
 have hDQ:∀i,i<m->Dc=(c (x.B i)).den*Q i:=fun i hi=>by rw [hDc,dl (fun k=>(c (x.B k)).den) hi,hQ]
 have hQw:∀i,i<m->(c (x.B i)).num.natAbs*Q i<=pr1 (fun i=>wtR (c (x.B i))) m:=fun i hi=>by
  rw [dl (fun i=>wtR (c (x.B i))) hi,hQ];refine Nat.mul_le_mul (Nat.le_add_left _ _) (fN m fun k _=>?_)
  split
  ·exact Nat.le_refl _
  ·exact Nat.le_add_right _ _
 have key:((((Dc:Nat):Int)*(N2*(da m O j:Int)):Int):Rat)*aj (fun i=>c (x.B i)*x.T i j) M=((sI (fun i=>(c (x.B i)).num*(Q i:Int)*Nf i) M:Int):Rat):=by
  rw [mh,<-bJ];refine ay fun i hi=>?_;have k1:=(hN i (by omega)).1
  have k2:=dE (c (x.B i));rw [Rat.intCast_mul,Rat.intCast_mul,Rat.intCast_mul,Rat.intCast_mul,<-k1,<-k2,hDQ i (by omega)]
  have c1:((((c (x.B i)).den*Q i:Nat):Int):Rat)=(((c (x.B i)).den:Nat):Rat)*((Q i:Nat):Rat):=by
   show (((c (x.B i)).den*Q i:Nat):Rat)=_
   rw [Rat.natCast_mul]
  have c2:(((Q i:Nat):Int):Rat)=((Q i:Nat):Rat):=rfl;have c3:(((da m O j:Nat):Int):Rat)=((da m O j:Nat):Rat):=rfl;rw [c1,c2,c3];generalize (((c (x.B i)).den:Nat):Rat)=a1;generalize ((Q i:Nat):Rat)=a2;generalize ((da m O j:Nat):Rat)=a3;generalize ((N2:Int):Rat)=a4;generalize c (x.B i)=a5;generalize x.T i j=a6
  grind
 have hb:=kO (by
  intro e;rcases Int.mul_eq_zero.1 e with k|k
  ·omega
  ·rcases Int.mul_eq_zero.1 k with k|k
   ·exact h0 k
   ·omega) key
 constructor
 ·refine Nat.le_trans hb.1 (Nat.le_trans (oJ _ _) ?_);have b1:∀i,i<M->((c (x.B i)).num*(Q i:Int)*Nf i).natAbs<=pr1 (fun i=>wtR (c (x.B i))) m*(pr1 (bh m O) (n+m)*bh m O j):=fun i hi=>by
   rw [Int.natAbs_mul,Int.natAbs_mul,Int.natAbs_natCast];exact Nat.mul_le_mul (hQw i (by omega)) (hN i (by omega)).2
  refine Nat.le_trans (qZ (g:=fun _=>pr1 (fun i=>wtR (c (x.B i))) m*(pr1 (bh m O) (n+m)*bh m O j)) M b1) ?_;have:∀(K:Nat) M,bG (fun _=>K) M=M*K:=by
   intro K M
   induction M with
   | zero=>show 0=0*K;omega
   | succ M ih=>rw [bG,ih,Nat.add_mul,Nat.one_mul]
  rw [this];exact Nat.le_refl _
 ·refine Nat.le_trans hb.2 ?_;rw [Int.natAbs_mul,Int.natAbs_mul,Int.natAbs_natCast,Int.natAbs_natCast];exact Nat.mul_le_mul hDw (Nat.mul_le_mul h1 (jf m O j))
theorem rV (h:Okx m n O x) {N:Nat} (hN:n+m<=N):pr1 (fun i=>wtR (c (x.B i))) m<=pr1 (fun j=>wtR (c j)) N:=
 kL m x.B (fun j=>wtR (c j)) N (fun i hi=>by have:=h.tab.lt i hi;omega) (fun i hi r hr e=>i9 h.tab hi hr e) (fun j=>by have:=(c j).den_pos;unfold wtR;omega)
end
structure LPx (m n:Nat) (A:Nat->Nat->Rat) (b x:Nat->Rat):Prop where
 nn:∀j,j<n->0<=x j
 eq:∀r,r<m->aj (fun j=>A r j*x j) n=b r
structure ug (m n:Nat) (A:Nat->Nat->Rat) (b c x y:Nat->Rat) (v:Rat):Prop where
 pt:LPx m n A b x
 le:∀j,j<n->aj (fun r=>y r*A r j) m<=c j
 vx:aj (fun j=>c j*x j) n=v
 vy:aj (fun r=>y r*b r) m=v
structure Bb (m n:Nat) (A:Nat->Nat->Rat) (b y:Nat->Rat):Prop where
 le:∀j,j<n->aj (fun r=>y r*A r j) m<=0
 pos:0<aj (fun r=>y r*b r) m
structure Ba (m n:Nat) (A:Nat->Nat->Rat) (b c x u:Nat->Rat):Prop where
 pt:LPx m n A b x
 dir:LPx m n A (fun _=>0) u
 neg:aj (fun j=>c j*u j) n<0
section
variable {m n:Nat} {A:Nat->Nat->Rat} {b c x y x' y' u:Nat->Rat} {v v':Rat}
theorem kJ (hx:LPx m n A b x) (hy:∀j,j<n->aj (fun r=>y r*A r j) m<=c j):aj (fun r=>y r*b r) m<=aj (fun j=>c j*x j) n:=by
 have e1:aj (fun r=>y r*b r) m=aj (fun j=>aj (fun r=>y r*A r j) m*x j) n:=by
  have e2:aj (fun r=>y r*b r) m=aj (fun r=>aj (fun j=>y r*A r j*x j) n) m:=ay fun r hr'=>by
   rw [<-hx.eq r hr',<-bJ];exact ay fun j _=>by grind
  rw [e2,fF];exact ay fun j _=>mO _ _ _
 rw [e1];exact yv fun j hj=>Rat.mul_le_mul_of_nonneg_right (hy j hj) (hx.nn j hj)
theorem zJ (h:ug m n A b c x y v) (h':ug m n A b c x' y' v'):v=v':=by
 have h1:=kJ h.pt h'.le;have h2:=kJ h'.pt h.le;rw [h'.vy,h.vx] at h1;rw [h.vy,h'.vx] at h2
 grind
theorem iF (h:LPx m n A b x) (h':Bb m n A b y):False:=by
 have h1:=kJ (c:=fun _=>0) h h'.le;have h2:=h'.pos;have h3:aj (fun j=>(fun _:Nat=>(0:Rat)) j*x j) n=0:=bu fun j _=>by grind
 rw [h3] at h1
 grind
theorem pg (h:ug m n A b c x y v) (h':Ba m n A b c x' u):False:=by
 have h1:=kJ h'.dir h.le;have h2:=h'.neg;have h3:aj (fun r=>y r*(fun _:Nat=>(0:Rat)) r) m=0:=bu fun r _=>by grind
 rw [h3] at h1
 grind
def sgT (t:Bool):Rat:=if t then -1 else 1
theorem Di (t:Bool):sgT t*sgT t=1:=by
 cases t with
 | true=>rw [sgT,if_pos rfl];grind
 | false=>rw [sgT,if_neg (by decide)];grind
theorem j8 (t:Bool) {g:Nat->Rat} {n:Nat} {v:Rat} (h:aj (fun j=>sgT t*g j) n=sgT t*v):aj g n=v:=by
 rw [bJ] at h;have h1:=Di t;have h2:sgT t*(sgT t*aj g n)=sgT t*(sgT t*v):=by rw [h]
 have h3:sgT t*sgT t*aj g n=sgT t*sgT t*v:=by grind
 rw [h1] at h3
 grind
end
def dG (m n:Nat) (A:Nat->Nat->Rat) (b:Nat->Rat) (r j:Nat):Rat:=
 if j<n then sgT (decide (b r<0))*A r j else if j<n+m then (if r=j-n then 1 else 0) else sgT (decide (b r<0))*b r
section
variable {m n:Nat} {A:Nat->Nat->Rat} {b c:Nat->Rat} {x:St}
theorem iW:∀r,r<m->∀k,k<m->dG m n A b r (n+k)=if r=k then 1 else 0:=by
 intro r _ k hk;rw [dG,if_neg (by omega),if_pos (by omega),show n+k-n=k by omega]
theorem kF {j:Nat} (hj:j<n) (r:Nat):dG m n A b r j=sgT (decide (b r<0))*A r j:=if_pos hj
theorem oZ (r:Nat):dG m n A b r (n+m)=sgT (decide (b r<0))*b r:=by rw [dG,if_neg (by omega),if_neg (by omega)]
theorem Dq (r:Nat):0<=dG m n A b r (n+m):=by
 rw [oZ];by_cases h:b r<0
 ·rw [decide_eq_true h,sgT,if_pos rfl];grind
 ·rw [decide_eq_false h,sgT,if_neg (by decide)];grind
def DM (m n:Nat) (A:Nat->Nat->Rat) (b:Nat->Rat):St:=⟨dG m n A b,fun i=>n+i⟩
theorem DL:Okx m n (dG m n A b) (DM m n A b):=by
 refine ⟨Tab.start iW,?_,fun i _=>Dq i⟩
 show cZ m (cW (dG m n A b) (fun i=>n+i))≠0
 rw [xT iW]
 decide
def kr (m n:Nat) (b c:Nat->Rat) (x:St) (r:Nat):Rat:=sgT (decide (b r<0))*nf m n c x.T x.B r
theorem vQ {j:Nat} (hj:j<n):aj (fun r=>kr m n b c x r*A r j) m=aj (fun r=>nf m n c x.T x.B r*dG m n A b r j) m:=ay fun r _=>by
 rw [kF hj,kr];grind
theorem zm:aj (fun r=>kr m n b c x r*b r) m=aj (fun r=>nf m n c x.T x.B r*dG m n A b r (n+m)) m:=ay fun r _=>by
 rw [oZ,kr];grind
theorem tF {v:Nat->Rat} {r:Nat} (h:aj (fun j=>dG m n A b r j*v j) n=dG m n A b r (n+m)):aj (fun j=>A r j*v j) n=b r:=by
 refine j8 (decide (b r<0)) ?_;rw [<-oZ (m:=m) (n:=n) (A:=A),<-h];exact ay fun j hj=>by rw [kF hj];grind
theorem xG {v:Nat->Rat} {r:Nat} (h:aj (fun j=>dG m n A b r j*v j) n=0):aj (fun j=>A r j*v j) n=0:=by
 refine j8 (decide (b r<0)) ?_;rw [Rat.mul_zero,<-h];exact ay fun j hj=>by rw [kF hj];grind
theorem Ci (h:Okx m n (dG m n A b) x) (hx:gZ m n n (bZ n) x=none) (hp:0<bV m (bZ n) x.T x.B (n+m)):Bb m n A b (kr m n b (bZ n) x):=by
 obtain ⟨h1,h2⟩:=BE h (BD hx) hp;exact ⟨fun j hj=>by rw [vQ hj];exact h1 j hj,by rw [zm (A:=A)];exact h2⟩
theorem Ch (h:Okx m n (dG m n A b) x) (ha:Art m n m x) (he:fG m (cV n c) x.T x.B n 0=none) :
 ug m n A b c (jk m x.T x.B (n+m)) (kr m n b (cV n c) x) (bV m (cV n c) x.T x.B (n+m)):=by
 obtain ⟨h1,h2,h3,h4,h5⟩:=BC h ha he;exact ⟨⟨fun j _=>h1 j,fun r hr=>tF (h2 r hr)⟩,fun j hj=>by rw [vQ hj];exact h3 j hj,h4,by rw [zm (A:=A)];exact h5⟩
theorem Cg (h:Okx m n (dG m n A b) x) (ha:Art m n m x) {s:Nat} (he:fG m (cV n c) x.T x.B n 0=some s) (hl:dw x.T x.B (n+m) s m=none) :
 Ba m n A b c (jk m x.T x.B (n+m)) (fT m x.T x.B s):=by
 obtain ⟨_,h1,h2,h3⟩:=BA h ha he hl;exact ⟨⟨fun j _=>zo h.fe j,fun r hr=>tF (tC h.tab ha.z hr)⟩,⟨fun j _=>h1 j,fun r hr=>xG (h2 r hr)⟩,h3⟩
end
def nw (g:Nat->Rat):Nat->Nat->Option Nat
 | 0,_=>none
 | f+1,j=>if g j=0 then nw g f (j+1) else some j
theorem xN {g:Nat->Rat}:∀f j,nw g f j=none->∀k,j<=k->k<j+f->g k=0:=by
 intro f
 induction f with
 | zero=>intro j _ k h1 h2;omega
 | succ f ih=>
   intro j h k h1 h2;rw [nw] at h;by_cases h0:g j=0
   ·rw [if_pos h0] at h;rcases Nat.lt_or_ge j k with h3|h3
    ·exact ih (j+1) h k h3 (by omega)
    ·obtain rfl:k=j:=by omega
     exact h0
   ·rw [if_neg h0] at h;exact absurd h (by simp)
theorem xM {g:Nat->Rat}:∀f j s,nw g f j=some s->j<=s/\s<j+f/\g s≠0/\∀k,j<=k->k<s->g k=0:=by
 intro f
 induction f with
 | zero=>intro j s h;exact absurd h (by simp [nw])
 | succ f ih=>
   intro j s h;rw [nw] at h;by_cases h0:g j=0
   ·rw [if_pos h0] at h;obtain ⟨k1,k2,k3,k4⟩:=ih (j+1) s h;refine ⟨by omega,by omega,k3,fun k h1 h2=>?_⟩
    rcases Nat.lt_or_ge j k with h3|h3
    ·exact k4 k h3 h2
    ·obtain rfl:k=j:=by omega
     exact h0
   ·rw [if_neg h0] at h;obtain rfl:j=s:=by simpa using h
    exact ⟨by omega,by omega,h0,fun k h1 h2=>by omega⟩
def iJ (n:Nat) (x:St) (i:Nat):St:=
 if n<=x.B i then match nw (x.T i) n 0 with
  | none=>x
  | some j=>⟨bY x.T i j,cg x.B i j⟩
 else x
def j5 (n:Nat) (x:St):Nat->St
 | 0=>x
 | i+1=>iJ n (j5 n x i) i
section
variable {m n:Nat} {O:Nat->Nat->Rat} {x:St}
theorem Cu (h:Okx m n O x) {i:Nat} (hi:i<m) (ha:Art m n i x):Okx m n O (iJ n x i)/\Art m n (i+1) (iJ n x i):=by
 rw [iJ];by_cases hb:n<=x.B i
 ·rw [if_pos hb]
  cases hf:nw (x.T i) n 0 with
  | none=>
    have h0:=xN n 0 hf;refine ⟨h,ha.z,fun k hk hbk j hj=>?_⟩;rcases Nat.lt_or_ge k i with h1|h1
    ·exact ha.r k h1 hbk j hj
    ·obtain rfl:k=i:=by omega
     exact h0 j (by omega) (by omega)
  | some j=>
    obtain ⟨_,j1,j2,_⟩:=xM n 0 j hf;obtain ⟨c1,c2,c3⟩:=vn h hi ha (show j<n by omega) hb j2
    refine ⟨c1,c2.z,fun k hk hbk l hl=>?_⟩;rcases Nat.lt_or_ge k i with h1|h1
    ·exact c2.r k h1 hbk l hl
    ·obtain rfl:k=i:=by omega
     have hbk:n<=cg x.B k j k:=hbk;rw [c3] at hbk;omega
 ·rw [if_neg hb];refine ⟨h,ha.z,fun k hk hbk j hj=>?_⟩;rcases Nat.lt_or_ge k i with h1|h1
  ·exact ha.r k h1 hbk j hj
  ·obtain rfl:k=i:=by omega
   exact absurd hbk hb
theorem Cv (h:Okx m n O x) (hz:∀i,i<m->n<=x.B i->x.T i (n+m)=0):∀M,M<=m->Okx m n O (j5 n x M)/\Art m n M (j5 n x M):=by
 intro M
 induction M with
 | zero=>intro _;exact ⟨h,hz,fun i hi=>by omega⟩
 | succ M ih=>
   intro hM;obtain ⟨h1,h2⟩:=ih (by omega)
   exact Cu h1 (by omega) h2
end
theorem dh (n k:Nat):aI n<=32*k↔(lim n).length<=k:=by rw [bP,aA,jy]
def sg (b:Bool) (n:Nat):Int:=if b then -(n:Int) else n
def qv (b:Bool) (n d:Nat):Rat:=mkRat (sg b n) d
theorem jP (b:Bool) (n:Nat):(sg b n).natAbs=n:=by cases b <;> simp [sg]
theorem De (b:Bool) (n:Nat):sg (!b) n = - sg b n:=by cases b <;> simp [sg]
theorem uF {b:Bool} {n:Nat}:sg b n=0↔n=0:=by cases b <;> simp [sg]
theorem sg_lt (b:Bool) (n:Nat):decide (sg b n<0)=(b && decide (n≠0)):=by
 cases b
 ·simp [sg]
 ·simp only [sg,if_true,Bool.true_and,decide_eq_decide];omega
theorem Dg {b:Bool} {n g:Nat} (h:g∣n):sg b n/(g:Int)=sg b (n/g):=by
 obtain ⟨k,rfl⟩:=h;rcases Nat.eq_zero_or_pos g with h0|h0
 ·subst h0;simp [sg]
 ·rw [Nat.mul_div_cancel_left _ h0];cases b
  ·simp only [sg];rw [Int.natCast_mul];exact Int.mul_ediv_cancel_left _ (by omega)
  ·simp only [sg,if_true];rw [Int.natCast_mul,<-Int.mul_neg];exact Int.mul_ediv_cancel_left _ (by omega)
theorem Df (a b:Bool) (m n:Nat):sg a m*sg b n=sg (a != b) (m*n):=by
 cases a <;> cases b <;> simp [sg,Int.neg_mul,Int.mul_neg]
theorem Dh (b:Bool) (m n:Nat):sg b m+sg b n=sg b (m+n):=by cases b <;> simp [sg];omega
theorem Dd {a b:Bool} (h:a≠b) {m n:Nat} (hle:n<=m):sg a m+sg b n=sg a (m-n):=by
 cases a <;> cases b <;> simp [sg] at * <;> omega
theorem yT {b:Bool} {n d:Nat} (hd:d≠0):(qv b n d).num=sg b (n/Nat.gcd n d):=by
 rw [qv,Rat.num_mkRat,if_neg hd,jP,Nat.gcd_comm,Dg (Nat.gcd_dvd_left n d)]
theorem mE {b:Bool} {n d:Nat} (hd:d≠0):(qv b n d).num.natAbs=n/Nat.gcd n d:=by rw [yT hd,jP]
theorem mB {b:Bool} {n d:Nat} (hd:d≠0):(qv b n d).den=d/Nat.gcd n d:=by
 rw [qv,Rat.den_mkRat,if_neg hd,jP,Nat.gcd_comm]
theorem vO {b:Bool} {n d:Nat} (hd:d≠0):decide ((qv b n d).num<0)=(b && decide (n/Nat.gcd n d≠0)):=by rw [yT hd,sg_lt]
def vu (q:Rat):Prop:=128<(lim q.num.natAbs).length\/128<(lim q.den).length
instance (q:Rat):Decidable (vu q):=inferInstanceAs (Decidable (_\/_))
def frS (q:Rat):Bool×List Nat×List Nat×Int:=if vu q then (false,[],[],2) else (decide (q.num<0),lim q.num.natAbs,lim q.den,0)
def Vf (n d:Nat):Prop:=d≠0/\(lim d).length<=128/\(lim n).length<=128
instance (n d:Nat):Decidable (Vf n d):=inferInstanceAs (Decidable (_/\_))
theorem Dl (b:Bool) (n d:Nat):qv (!b) n d = - qv b n d:=by rw [qv,qv,De,Rat.neg_mkRat]
theorem mS {b:Bool} {n d n' d':Nat} (h:d≠0) (h':d'≠0):qv b n d+qv b n' d'=qv b (n*d'+n'*d) (d*d'):=by
 rw [qv,qv,Rat.mkRat_add_mkRat _ _ h h',qv,<-Dh]
 congr 1
 cases b <;> simp [sg,Int.natCast_mul,Int.neg_mul]
theorem nK (b:Bool) (n d:Nat):sg b n*(d:Int)=sg b (n*d):=by cases b <;> simp [sg,Int.neg_mul]
theorem mC {b b':Bool} {n d n' d':Nat} (h:d≠0) (h':d'≠0) (hb:b≠b') (hle:n'*d<=n*d'):qv b n d+qv b' n' d'=qv b (n*d'-n'*d) (d*d'):=by
 rw [qv,qv,Rat.mkRat_add_mkRat _ _ h h',qv,<-Dd hb hle,nK,nK]
theorem qo {b b':Bool} {n d n' d':Nat} (h:d≠0) (h':d'≠0) (hb:b≠b') (hle:n*d'<=n'*d):qv b n d+qv b' n' d'=qv b' (n'*d-n*d') (d*d'):=by
 rw [Rat.add_comm,mC h' h hb.symm hle,Nat.mul_comm d' d]
theorem uQ (b b':Bool) (n d n' d':Nat):qv b n d*qv b' n' d'=qv (b != b') (n*n') (d*d'):=by
 rw [qv,qv,Rat.mkRat_mul_mkRat,qv,Df]
theorem yU {b:Bool} {n d:Nat} (_hn:n≠0):(qv b n d)⁻¹ = qv b d n:=by
 rw [qv,qv,<-Rat.divInt_ofNat,Rat.inv_divInt,<-Rat.divInt_ofNat];cases b
 ·simp [sg]
 ·simp only [sg,if_true];rw [Rat.divInt_neg']
theorem Dk {b b':Bool} {n d n' d':Nat} (hn:n'≠0):qv b n d/qv b' n' d'=qv (b != b') (n*d') (d*n'):=by
 rw [Rat.div_def,yU hn,uQ]
theorem vN {b:Bool} {n d:Nat} (hd:d≠0):qv b n d=0↔n=0:=by
 rw [qv,Rat.mkRat_eq_zero hd,uF]
def bA (p q:Rat):Int:=if p<q then -1 else if q<p then 1 else 0
theorem CG {b b':Bool} {n d n' d':Nat} (h:d≠0) (h':d'≠0):qv b n d<qv b' n' d'↔sg b (n*d')<sg b' (n'*d):=by
 rw [Rat.lt_iff_sub_pos];have e:qv b' n' d'-qv b n d=mkRat (sg b' n'*d-sg b n*d') (d'*d):=by
  rw [qv,qv,<-Rat.divInt_ofNat,<-Rat.divInt_ofNat,Rat.divInt_sub_divInt _ _ (by omega) (by omega),<-Int.natCast_mul,Rat.divInt_ofNat]
 rw [e,nK,nK,Rat.lt_iff_le_and_ne,<-Rat.divInt_ofNat];have hp:(0:Int)<((d'*d:Nat):Int):=by have:=Nat.mul_pos (Nat.pos_of_ne_zero h') (Nat.pos_of_ne_zero h);omega
 rw [Rat.divInt_nonneg_iff_of_pos_right hp,Rat.divInt_ofNat];have hne:(0:Rat)≠mkRat (sg b' (n'*d)-sg b (n*d')) (d'*d)↔sg b' (n'*d)-sg b (n*d')≠0:=by
  rw [ne_comm];exact Rat.mkRat_ne_zero (by have:=Nat.mul_pos (Nat.pos_of_ne_zero h') (Nat.pos_of_ne_zero h);omega)
 rw [hne];omega
theorem Co {b b':Bool} {n d n' d':Nat} (h:d≠0) (h':d'≠0):bA (qv b n d) (qv b' n' d')=if sg b (n*d')<sg b' (n'*d) then -1 else if sg b' (n'*d)<sg b (n*d') then 1 else 0:=by
 unfold bA;simp only [CG h h',CG h' h]
theorem mM {b b':Bool} {n d n' d':Nat} (h:d≠0) (h':d'≠0) :
 bA (qv b n d) (qv b' n' d')=if (b && decide (n≠0)) && (b' && decide (n'≠0)) then-i6 (n*d') (n'*d) else if b && decide (n≠0) then -1 else if b' && decide (n'≠0) then 1 else i6 (n*d') (n'*d):=by
 rw [Co h h'];have e1:n*d'=0↔n=0:=by rw [Nat.mul_eq_zero];omega
 have e2:n'*d=0↔n'=0:=by rw [Nat.mul_eq_zero];omega
 have hc:=Nat.lt_trichotomy (n*d') (n'*d);generalize n*d'=x at *;generalize n'*d=y at *;unfold i6;cases b <;> cases b' <;> simp only [sg,Bool.false_and,Bool.true_and,Bool.and_false,if_true,if_false,Bool.false_eq_true,decide_eq_true_eq,ne_eq,Bool.and_eq_true] <;> (repeat' split) <;> omega
open Go.RowKit
structure Fx where
 b:Bool
 A:Option Addr
 c:Nat
 xs:List Nat
 D:Option Addr
 d:Nat
 ys:List Nat
abbrev Fx.val (x:Fx):Value := .agg #[.bool x.b, .slice x.A x.xs.length x.c, .slice x.D x.ys.length x.d]
abbrev Fx.cells (x:Fx):Array Value := #[.bool x.b, .slice x.A x.xs.length x.c, .slice x.D x.ys.length x.d]
abbrev Fx.nil:Fx:=⟨false,none,0,[],none,0,[]⟩
structure Fx.ok (x:Fx) (w:World):Prop where
 num:Nt w x.A x.c x.xs
 den:Nt w x.D x.d x.ys
theorem Fx.ok.below {x:Fx} {w w':World} (h:x.ok w) (hb:Below w.heap.size w w'):x.ok w':=⟨h.num.below hb,h.den.below hb⟩
theorem Fx.nil_ok (w:World):Fx.nil.ok w:=⟨Nt.nil _ _ _ (by show 0<=_;omega),Nt.nil _ _ _ (by show 0<=_;omega)⟩
def Fx.v (x:Fx):Prop:=Vf (nv x.xs) (nv x.ys)
instance (x:Fx):Decidable x.v:=inferInstanceAs (Decidable (Vf _ _))
def Fx.q (x:Fx):Rat:=qv x.b (nv x.xs) (nv x.ys)
def eQ (w:World) (s:Bool×List Nat×List Nat×Int) (e:Ending) (w':World):Prop:=
 ∃x:Fx,e = .returned (.tuple #[x.val, .int .i64 s.2.2.2])/\(x.b=s.1/\x.xs=s.2.1/\x.ys=s.2.2.1)/\x.ok w'/\Below w.heap.size w w'
def wP (w:World) (s:Bool×List Nat×List Nat) (e:Ending) (w':World):Prop:=
 ∃x:Fx,e = .returned x.val/\(x.b=s.1/\x.xs=s.2.1/\x.ys=s.2.2)/\x.ok w'/\Below w.heap.size w w'
def nh (m n:Nat):List Nat×Int:=if 512<(lim m).length\/512<(lim n).length then ([],2) else iC (m*n)
theorem qx {m n:Nat} (h:512<(lim m).length):nh m n=([],2):=by simp [nh,h]
theorem qw {m n:Nat} (h:512<(lim n).length):nh m n=([],2):=by simp [nh,h]
theorem iY {m n:Nat} (h:¬ 512<(lim m).length) (h2:¬ 512<(lim n).length):nh m n=iC (m*n):=by simp [nh,h,h2]
def jh (X Y:List Nat) (j:Nat) (O:List Nat):Prop:=O.length=X.length+Y.length/\U32 O/\nv O=nv (X.take j)*nv Y/\∀k (hk:k<O.length),j+Y.length<=k->O[k]=0
theorem jh.start (X Y:List Nat):jh X Y 0 (List.replicate (X.length+Y.length) 0):=
 ⟨by simp,U32.replicate _,by simp [iX,aW],by intro k hk _;simp⟩
def mV (X Y:List Nat) (x j i C:Nat) (O:List Nat):Prop:=O.length=X.length+Y.length/\U32 O/\C<4294967296/\nv O+pw (j+i)*C=nv (X.take j)*nv Y+pw j*(x*nv (Y.take i))/\∀k (hk:k<O.length),j+Y.length<=k->O[k]=0
theorem jh.in_ {X Y:List Nat} {j:Nat} {O:List Nat} (h:jh X Y j O) (x:Nat):mV X Y x j 0 0 O:=by
 obtain ⟨h1,h2,h3,h4⟩:=h;exact ⟨h1,h2,by omega,by simp [h3,aW],h4⟩
theorem mG {x y z c:Nat} (hx:x<4294967296) (hy:y<4294967296) (hz:z<4294967296) (hc:c<4294967296):x*y+z+c<18446744073709551616:=by
 have h1:x*y<=4294967295*4294967295:=Nat.mul_le_mul (by omega) (by omega)
 omega
theorem mV.step {X Y:List Nat} {x j i C:Nat} {O:List Nat} (h:mV X Y x j i C O) (hY:U32 Y) (hx:x<4294967296) (hi:i<Y.length) (_hj:j<X.length) (ho:j+i<O.length) :
 mV X Y x j (i+1) ((C+(x*Y[i]+O[j+i]))/4294967296) (O.set (j+i) ((C+(x*Y[i]+O[j+i])) % 4294967296)):=by
 obtain ⟨h1,h2,h3,h4,h5⟩:=h;have b:=mG hx (hY.at i hi) (h2.at (j+i) ho) h3;refine ⟨by simpa using h1,h2.set _ (by omega),by omega,?_,?_⟩
 ·have hs:=zF O (j+i) ((C+(x*Y[i]+O[j+i])) % 4294967296) ho;have hd:=Nat.div_add_mod (C+(x*Y[i]+O[j+i])) 4294967296;rw [bB Y i hi,show j+(i+1)=(j+i)+1 from by omega,gM]
  have hp:=jz j i
  grind
 ·intro k hk hle;rw [List.getElem_set_ne (by omega)]
  exact h5 k (by simpa using hk) hle
theorem mV.done {X Y:List Nat} {j C:Nat} {O:List Nat} (hj:j<X.length) (h:mV X Y X[j] j Y.length C O):jh X Y (j+1) (O.set (j+Y.length) C):=by
 obtain ⟨h1,h2,h3,h4,h5⟩:=h;have ho:j+Y.length<O.length:=by omega
 refine ⟨by simpa using h1,h2.set _ h3,?_,?_⟩
 ·have hs:=zF O (j+Y.length) C ho;rw [h5 _ ho (Nat.le_refl _)] at hs;rw [List.take_length] at h4;rw [bB X j hj,Nat.add_mul]
  grind
 ·intro k hk hle;rw [List.getElem_set_ne (by omega)]
  exact h5 k (by simpa using hk) (by omega)
theorem uf (a x y z:Nat):((a:Int)+((x:Int)*y+z))=((a+(x*y+z):Nat):Int):=by
 rw [Int.natCast_add,Int.natCast_add,Int.natCast_mul]
theorem rX (a x y z:Nat):((a:Int)+((x:Int)*y+z)) % 4294967296=(((a+(x*y+z)) % 4294967296:Nat):Int):=by rw [uf,kZ]
theorem rY (a x y z:Nat):((a:Int)+((x:Int)*y+z))/4294967296=(((a+(x*y+z))/4294967296:Nat):Int):=by rw [uf,iL]
theorem rI (w:World) (A D:Option Addr) (c d n m:Nat) (xs ys R:List Nat) (E:Int) (h:Nt w A c xs) (k:Nt w D d ys) (hn:n=xs.length) (hm:m=ys.length) (hr:nh (nv xs) (nv ys)=(R,E)) :
 Calls prog 108 #[.slice A n c, .slice D m d] w (jJ w R E):=by
 subst hn hm;have HR:=ag hr;clear hr;have h1:=h.lim;have h2:=ak h.u;have h3:=h.cap;have h4:=h.max;have k1:=k.lim;have k2:=ak k.u;have k3:=k.cap;have k4:=k.max;obtain ⟨i0,hi,hz0,hz1,hz2⟩:=info_parts ch;by_cases hl:512<(lim (nv xs)).length
 ·go_enter func108,ntmps108;go_wp2_with fail;refine (aN w A c _ xs true h rfl (by simpa using hl)).mono ?_
  rintro e w' ⟨rfl,rfl⟩;go_wp2_with fail
  go_ret2
  have e:=HR.o;rw [qx hl] at e;obtain ⟨rfl,rfl⟩:=Prod.mk.inj e;exact ⟨_,_,rfl,Nt.nil _ _ _ (by omega),ah _ _⟩
 ·by_cases hl2:512<(lim (nv ys)).length
  ·go_enter func108,ntmps108;go_wp2_with fail;refine (aN w A c _ xs false h rfl (by simpa using hl)).mono ?_
   rintro e w' ⟨rfl,rfl⟩;go_wp2_with fail;refine (aN w D d _ ys true k rfl (by simpa using hl2)).mono ?_
   rintro e w' ⟨rfl,rfl⟩;go_wp2_with fail
   go_ret2
   have e:=HR.o;rw [qw hl2] at e;obtain ⟨rfl,rfl⟩:=Prod.mk.inj e;exact ⟨_,_,rfl,Nt.nil _ _ _ (by omega),ah _ _⟩
  ·go_enter func108,ntmps108;go_wp2_with fail;refine (aN w A c _ xs false h rfl (by simpa using hl)).mono ?_
   rintro e w' ⟨rfl,rfl⟩;go_wp2_with fail;refine (aN w D d _ ys false k rfl (by simpa using hl2)).mono ?_
   rintro e w' ⟨rfl,rfl⟩;go_wp2_with fail
   go_quiet ((first|with_reducible exact fA h|with_reducible exact fA k))
   have hX:=h1.below (aJ (ah w.heap.size w) nq);have hY:=k1.below (aJ (ah w.heap.size w) nq);have hb0:=aJ (ah w.heap.size w) nq
   revert hX hY hb0
   generalize w.drewN nq=w0;intro hX hY hb0;have hs0:=hb0.size;generalize hXe:lim (nv xs)=X at *;generalize hYe:lim (nv ys)=Y at *;have HX:=ag hXe;have HY:=ag hYe;clear hXe hYe h k h1 k1;go_wp2_with (refine bp w0 (mk:=lmv) 0 rfl _ _ 27 rfl 58 i0 4 underlying27 hi hz0 hz1 hz2 rfl .i64 .i64 _ _ (X.length+Y.length) rfl rfl (by omega) (by omega) (by omega) (by simp only [maxLen];omega) ?_;intro w1 hg1 hb1 hs1)
   go_loopw [34] (fun i wr=>∃(j:Nat) (O:List Nat),j<=X.length/\i = .int .i64 j/\jh X Y j O/\Gr lmv 58 wr w0.heap.size (some ⟨w0.heap.size,0,none⟩) (X.length+Y.length) O/\Below w0.heap.size w0 wr) (fun i _=>X.length-(intOf i).toNat)
   case atStart=>exact ⟨0,_,by omega,rfl,jh.start _ _,by simpa using hg1,hb1⟩
   case round=>
    obtain ⟨j,O,hj,rfl,hinv,hgr,hbr⟩:=hrel;have HI:=ag hinv;have HO:=ag hinv.1;clear hinv hg1 hb1 hs1;have hsz:=hbr.size;have HB:=ag hbr;have HG:=ag hgr;by_cases hlt:j<X.length
    ·obtain ⟨adX,hadX,hbX,hcX,hvX⟩:=(hX.below hbr).at j hlt;subst hadX;clear hbr hgr;go_wp2_with fail;obtain ⟨w2,hw2⟩:∃w2:World,w2=wr:=⟨_,rfl⟩;rw [<-hw2] at HB HG hsz hcX|-;clear hw2;go_loopw [9,41] (fun cy i wr=>∃(m C:Nat) (O:List Nat),m<=Y.length/\i = .int .i64 m/\cy = .int .u64 C/\mV X Y X[j] j m C O/\Gr lmv 58 wr w0.heap.size (some ⟨w0.heap.size,0,none⟩) (X.length+Y.length) O/\Below w0.heap.size w0 wr) (fun _ i _=>Y.length-(intOf i).toNat)
     case atStart=>exact ⟨0,0,O,by omega,rfl,rfl,HI.o.in_ _,HG.o,HB.o⟩
     case round=>
      obtain ⟨m,C,O',hm,rfl,rfl,hinv,hgr,hbr⟩:=hrel;have ix:=ag hinv;have wv:=ag hinv.1;have hC:C<4294967296:=hinv.2.2.1;have hOu:=hinv.2.1;clear hinv;have hsz2:=hbr.size;have jn:=ag hbr;have mD:=ag hgr;by_cases hlt2:m<Y.length
      ·obtain ⟨adY,hadY,hbY,hcY,hvY⟩:=(hY.below hbr).at m hlt2;subst hadY;have ho:j+m<O'.length:=by have:=wv.o;omega
       have hcell:=hgr.cell (j+m) ho;have hfree:=hgr.free (j+m);have hz:=hOu.at (j+m) ho;have hmul:X[j]*Y[m]+O'[j+m]+C<18446744073709551616:=mG hvX hvY hz hC;clear hbr hgr hOu;go_wp2_with fail;go_roundw
       case rel=>exact ⟨m+1,_,_,by omega,by go_num,by rw [rY],ix.o.step hY.u hvX hlt2 hlt ho,by rw [rX];exact mD.o.store _ _,jn.o.setCell (Nat.le_refl _) _⟩
       case measure=>simp [intOf];omega
      ·obtain rfl:m=Y.length:=by omega
       have ho:j+Y.length<O'.length:=by have:=wv.o;omega
       have hcell:=hgr.cell (j+Y.length) ho;have hfree:=hgr.free (j+Y.length);have hYl:Y.length<=512:=by omega
       clear hbr hgr hOu;go_wp2_with fail;go_roundw
       case rel=>exact ⟨j+1,_,by omega,by go_num,ix.o.done hlt,mD.o.store _ _,jn.o.setCell (Nat.le_refl _) _⟩
       case measure=>simp [intOf];omega
    ·obtain rfl:j=X.length:=by omega
     have hXn:nv X=nv xs:=by rw [<-HX.o,am]
     have hYn:nv Y=nv ys:=by rw [<-HY.o,am]
     have hfin:U32 O/\nv O=nv xs*nv ys:=⟨HI.o.2.1,by rw [HI.o.2.2.1,List.take_length,hXn,hYn]⟩
     rw [show X.length+Y.length=O.length from HO.o.symm] at hgr;have hnt:=hgr.nt hfin.1;have HF:=ag hfin;rw [show O.length=X.length+Y.length from HO.o] at hnt;clear hfin hgr hbr hXn hYn;go_wp2_with fail;refine (jO _ _ _ _ O R E hnt HO.o.symm (by rw [HF.o.2,<-HR.o,iY (by rw [HX.o];exact hl) (by rw [HY.o];exact hl2)])).mono ?_
     rintro e w' ⟨⟨A',c',rfl,hnt'⟩,rfl⟩;clear hnt;go_wp2_with fail
     go_ret2
     exact ⟨A',c',rfl,hnt',ai hb0 HB.o hs0⟩
end Go.Proofs.YtkpfbekmaafehaaGreat
