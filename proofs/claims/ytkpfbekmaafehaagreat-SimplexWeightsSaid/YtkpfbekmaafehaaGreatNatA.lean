/- The rounds of improve, as a function, and that they end -/
import Derived.Test.YtkpfbekmaafehaaGreatSpF
import Derived.Test.YtkpfbekmaafehaaGreatProg
import Derived.Test.YtkpfbekmaafehaaGreatBase
import Derived.BigQuiet
import Derived.Deep.QuietTactic
namespace Go.Proofs.YtkpfbekmaafehaaGreat
open _root_.Go.Proofs.Tryz
set_option maxRecDepth 100000
def dw (T:Nat->Nat->Rat) (B:Nat->Nat) (L s:Nat):Nat->Option Nat
 | 0=>none
 | i+1=>if T i s<=0 then dw T B L s i else match dw T B L s i with
   | none=>some i
   | some a=>if T i L/T i s<T a L/T a s\/(T i L/T i s=T a L/T a s/\B i<B a) then some i else some a
theorem mJ {T:Nat->Nat->Rat} {B:Nat->Nat} {L s:Nat}:∀M,dw T B L s M=none->∀i,i<M->T i s<=0:=by
 intro M
 induction M with
 | zero=>intro _ i hi;omega
 | succ M ih=>
   intro h i hi;rw [dw] at h;by_cases h0:T M s<=0
   ·rw [if_pos h0] at h;rcases Nat.lt_or_ge i M with h1|h1
    ·exact ih h i h1
    ·obtain rfl:i=M:=by omega
     exact h0
   ·rw [if_neg h0] at h
    split at h
    ·exact absurd h (by simp)
    ·split at h <;> exact absurd h (by simp)
theorem mI {T:Nat->Nat->Rat} {B:Nat->Nat} {L s:Nat}:∀M a,dw T B L s M=some a->a<M/\0<T a s/\(∀r,r<M->0<T r s->T a L/T a s<=T r L/T r s)/\(∀r,r<M->0<T r s->T a L/T a s=T r L/T r s->B a<=B r):=by
 intro M
 induction M with
 | zero=>intro a h;exact absurd h (by simp [dw])
 | succ M ih=>
   intro a h;rw [dw] at h;by_cases h0:T M s<=0
   ·rw [if_pos h0] at h;obtain ⟨k1,k2,k3,k4⟩:=ih a h;have hr:∀r,r<M+1->0<T r s->r<M:=fun r hr hp=>by
     rcases Nat.lt_or_ge r M with h1|h1
     ·exact h1
     ·obtain rfl:r=M:=by omega
      grind
    exact ⟨by omega,k2,fun r h1 h2=>k3 r (hr r h1 h2) h2,fun r h1 h2 h3=>k4 r (hr r h1 h2) h2 h3⟩
   ·rw [if_neg h0] at h;have hM:0<T M s:=by grind
    cases hp:dw T B L s M with
    | none=>
      rw [hp] at h;obtain rfl:M=a:=by simpa using h
      have hn:=mJ M hp;have hr:∀r,r<M+1->0<T r s->r=M:=fun r hr hpos=>by
       rcases Nat.lt_or_ge r M with h1|h1
       ·have:=hn r h1
        grind
       ·omega
      exact ⟨by omega,hM,fun r h1 h2=>by rw [hr r h1 h2];exact Rat.le_refl,fun r h1 h2 _=>by rw [hr r h1 h2];exact Nat.le_refl _⟩
    | some b=>
      rw [hp] at h;obtain ⟨k1,k2,k3,k4⟩:=ih b hp;have h:(if T M L/T M s<T b L/T b s\/(T M L/T M s=T b L/T b s/\B M<B b) then some M else some b)=some a:=h
      by_cases hc:T M L/T M s<T b L/T b s\/(T M L/T M s=T b L/T b s/\B M<B b)
      ·rw [if_pos hc] at h;obtain rfl:M=a:=by simpa using h
       refine ⟨by omega,hM,fun r h1 h2=>?_,fun r h1 h2 h3=>?_⟩
       ·rcases Nat.lt_or_ge r M with h4|h4
        ·have:=k3 r h4 h2;rcases hc with hc|hc <;> grind
        ·obtain rfl:r=M:=by omega
         exact Rat.le_refl
       ·rcases Nat.lt_or_ge r M with h4|h4
        ·have h5:=k3 r h4 h2;rcases hc with hc|hc
         ·exact absurd h5 (by grind)
         ·have:=k4 r h4 h2 (by rw [<-hc.1,h3])
          omega
        ·obtain rfl:r=M:=by omega
         exact Nat.le_refl _
      ·rw [if_neg hc] at h;obtain rfl:b=a:=by simpa using h
       have hc1:¬T M L/T M s<T b L/T b s:=fun e=>hc (Or.inl e);refine ⟨by omega,k2,fun r h1 h2=>?_,fun r h1 h2 h3=>?_⟩
       ·rcases Nat.lt_or_ge r M with h4|h4
        ·exact k3 r h4 h2
        ·obtain rfl:r=M:=by omega
         grind
       ·rcases Nat.lt_or_ge r M with h4|h4
        ·exact k4 r h4 h2 h3
        ·obtain rfl:r=M:=by omega
         rcases Nat.lt_or_ge (B r) (B b) with h5|h5
         ·exact absurd (Or.inr ⟨h3.symm,h5⟩) hc
         ·exact h5
def fG (m:Nat) (c:Nat->Rat) (T:Nat->Nat->Rat) (B:Nat->Nat):Nat->Nat->Option Nat
 | 0,_=>none
 | f+1,j=>if cE m c T B j<0 then some j else fG m c T B f (j+1)
theorem qH {m:Nat} {c:Nat->Rat} {T:Nat->Nat->Rat} {B:Nat->Nat}:∀f j,fG m c T B f j=none->∀k,j<=k->k<j+f->0<=cE m c T B k:=by
 intro f
 induction f with
 | zero=>intro j _ k h1 h2;omega
 | succ f ih=>
   intro j h k h1 h2;rw [fG] at h;by_cases h0:cE m c T B j<0
   ·rw [if_pos h0] at h;exact absurd h (by simp)
   ·rw [if_neg h0] at h;rcases Nat.lt_or_ge j k with h3|h3
    ·exact ih (j+1) h k h3 (by omega)
    ·obtain rfl:k=j:=by omega
     exact Rat.not_lt.1 h0
theorem iH {m:Nat} {c:Nat->Rat} {T:Nat->Nat->Rat} {B:Nat->Nat}:∀f j s,fG m c T B f j=some s->j<=s/\s<j+f/\cE m c T B s<0/\∀k,j<=k->k<s->0<=cE m c T B k:=by
 intro f
 induction f with
 | zero=>intro j s h;exact absurd h (by simp [fG])
 | succ f ih=>
   intro j s h;rw [fG] at h;by_cases h0:cE m c T B j<0
   ·rw [if_pos h0] at h;obtain rfl:j=s:=by simpa using h
    exact ⟨by omega,by omega,h0,fun k h1 h2=>by omega⟩
   ·rw [if_neg h0] at h;obtain ⟨k1,k2,k3,k4⟩:=ih (j+1) s h;refine ⟨by omega,by omega,k3,fun k h1 h2=>?_⟩
    rcases Nat.lt_or_ge j k with h3|h3
    ·exact k4 k h3 h2
    ·obtain rfl:k=j:=by omega
     exact Rat.not_lt.1 h0
structure St where
 T:Nat->Nat->Rat
 B:Nat->Nat
def gZ (m n most:Nat) (c:Nat->Rat) (x:St):Option (Nat×Nat):=
 match fG m c x.T x.B most 0 with
 | none=>none
 | some s=>match dw x.T x.B (n+m) s m with
   | none=>none
   | some i=>some (s,i)
def ri (m n most:Nat) (c:Nat->Rat) (x:St):St:=
 match gZ m n most c x with
 | none=>x
 | some (s,i)=>⟨bY x.T i s,cg x.B i s⟩
def itP (m n most:Nat) (c:Nat->Rat) (x:St):Nat->St
 | 0=>x
 | k+1=>ri m n most c (itP m n most c x k)
section
variable {m n most:Nat} {O:Nat->Nat->Rat} {c:Nat->Rat}
theorem rG {x:St} {s i:Nat} (h:gZ m n most c x=some (s,i)):Piv m n most c x.T x.B s i:=by
 rw [gZ] at h
 cases he:fG m c x.T x.B most 0 with
 | none=>rw [he] at h;exact absurd h (by simp)
 | some s'=>
   rw [he] at h
   cases hl:dw x.T x.B (n+m) s' m with
   | none=>simp only [hl] at h;exact absurd h (by simp)
   | some i'=>
     simp only [hl] at h;obtain ⟨rfl,rfl⟩:s'=s/\i'=i:=by simpa using h
     obtain ⟨_,e1,e2,e3⟩:=iH most 0 s' he;obtain ⟨l1,l2,l3,l4⟩:=mI m i' hl;exact ⟨by omega,e2,fun j hj=>e3 j (by omega) hj,l1,l2,l3,l4⟩
structure Okx (m n:Nat) (O:Nat->Nat->Rat) (x:St):Prop where
 tab:Tab m n O x.T x.B
 nz:cZ m (cW O x.B)≠0
 fe:∀i,i<m->0<=x.T i (n+m)
theorem Okx.pivot {x:St} (h:Okx m n O x) (hm:most<=n) {s i:Nat} (hp:Piv m n most c x.T x.B s i):Okx m n O ⟨bY x.T i s,cg x.B i s⟩:=by
 have hs:=hp.sm;refine ⟨h.tab.pivot hp.im (by omega) (kt hp.pos),?_,po hp h.fe⟩
 show cZ m (cW O (cg x.B i s))≠0
 rw [qM h.tab hp.im (by omega)]
 intro e;rcases Rat.mul_eq_zero.1 e with k|k
 ·exact kt hp.pos k
 ·exact h.nz k
theorem Okx.step {x:St} (h:Okx m n O x) (hm:most<=n):Okx m n O (ri m n most c x):=by
 rw [ri]
 split
 ·exact h
 ·rename_i s i e
  exact h.pivot hm (rG e)
theorem Okx.it {x:St} (h:Okx m n O x) (hm:most<=n):∀k,Okx m n O (itP m n most c x k):=by
 intro k
 induction k with
 | zero=>exact h
 | succ k ih=>exact ih.step hm
theorem tN {x:St} (h:Okx m n O x) (hm:most<=n):∃k,gZ m n most c (itP m n most c x k)=none:=by
 apply Classical.byContradiction
 intro hno;have hs:∀k,∃p:Nat×Nat,gZ m n most c (itP m n most c x k)=some p:=fun k=>by
  cases hx:gZ m n most c (itP m n most c x k) with
  | none=>exact absurd ⟨k,hx⟩ hno
  | some p=>exact ⟨p,rfl⟩
 obtain ⟨f,hf⟩:=Classical.axiomOfChoice hs;have hn:∀k,itP m n most c x (k+1)=⟨bY (itP m n most c x k).T (f k).2 (f k).1,cg (itP m n most c x k).B (f k).2 (f k).1⟩:=fun k=>by
  show ri m n most c (itP m n most c x k)=_
  rw [ri,hf k]
 refine Run.false (m:=m) (n:=n) (most:=most) (O:=O) (c:=c) (T:=fun k=>(itP m n most c x k).T) (B:=fun k=>(itP m n most c x k).B) (s:=fun k=>(f k).1) (l:=fun k=>(f k).2) ⟨fun t=>(h.it hm t).tab,fun t=>rG (hf t),fun t=>?_,fun t=>?_,h.fe⟩ hm
 ·show (itP m n most c x (t+1)).T=_
  rw [hn]
 ·show (itP m n most c x (t+1)).B=_
  rw [hn]
end
def bZ (n:Nat) (j:Nat):Rat:=if j<n then 0 else 1
def cV (n:Nat) (cost:Nat->Rat) (j:Nat):Rat:=if j<n then cost j else 0
section
variable {m n:Nat} {O:Nat->Nat->Rat} {cost:Nat->Rat} {x:St}
theorem wH (n j:Nat):0<=bZ n j:=by unfold bZ;split <;> grind
theorem BD (hx:gZ m n n (bZ n) x=none):∀j,j<n->0<=cE m (bZ n) x.T x.B j:=by
 intro j hj;rw [gZ] at hx
 cases he:fG m (bZ n) x.T x.B n 0 with
 | none=>exact qH n 0 he j (by omega) (by omega)
 | some s=>
   rw [he] at hx
   cases hl:dw x.T x.B (n+m) s m with
   | some i=>simp only [hl] at hx;exact absurd hx (by simp)
   | none=>
     obtain ⟨_,h2,h3,_⟩:=iH n 0 s he;have hn:=mJ m hl;have h4:0<=cE m (bZ n) x.T x.B s:=by
      unfold cE bV;have e1:bZ n s=0:=if_pos (by omega)
      have e2:0<=aj (fun i => - (bZ n (x.B i)*x.T i s)) m:=kx fun i hi=>by
       have a:=wH n (x.B i);have b:=hn i hi;have:=Rat.mul_nonneg a (show 0 <= - x.T i s by grind)
       grind
      have e3:∀M,aj (fun i => - (bZ n (x.B i)*x.T i s)) M = - aj (fun i=>bZ n (x.B i)*x.T i s) M:=by
       intro M
       induction M with
       | zero=>show (0:Rat) = -0;grind
       | succ M ih=>rw [aj,aj,ih];grind
      rw [e3] at e2;rw [e1];grind
     exact absurd h3 (by grind)
theorem BE (h:Okx m n O x) (hr:∀j,j<n->0<=cE m (bZ n) x.T x.B j) (hp:0<bV m (bZ n) x.T x.B (n+m)) :
 (∀j,j<n->aj (fun r=>nf m n (bZ n) x.T x.B r*O r j) m<=0)/\0<aj (fun r=>nf m n (bZ n) x.T x.B r*O r (n+m)) m:=by
 refine ⟨fun j hj=>?_,by rw [nP h.tab (Nat.le_refl _)];exact hp⟩
 rw [nP h.tab (by omega)]
 have h1:=hr j hj;unfold cE at h1;have e1:bZ n j=0:=if_pos hj;rw [e1] at h1
 grind
theorem zw (h:Okx m n O x) (hp:¬ 0<bV m (bZ n) x.T x.B (n+m)):∀i,i<m->n<=x.B i->x.T i (n+m)=0:=by
 intro i hi hb;have h1:0<=aj (fun l=>if l=i then 0 else bZ n (x.B l)*x.T l (n+m)) m:=kx fun l hl=>by
  split
  ·exact Rat.le_refl
  ·exact Rat.mul_nonneg (wH n _) (h.fe l hl)
 have h2:bV m (bZ n) x.T x.B (n+m)=bZ n (x.B i)*x.T i (n+m)+aj (fun l=>if l=i then 0 else bZ n (x.B l)*x.T l (n+m)) m:=bM _ hi
 have e1:bZ n (x.B i)=1:=if_neg (by omega)
 rw [e1] at h2;have h3:=h.fe i hi
 grind
structure Art (m n:Nat) (M:Nat) (x:St):Prop where
 z:∀i,i<m->n<=x.B i->x.T i (n+m)=0
 r:∀i,i<M->n<=x.B i->∀j,j<n->x.T i j=0
theorem vn (h:Okx m n O x) {M:Nat} (hM:M<m) (ha:Art m n M x) {j:Nat} (hj:j<n) (hb:n<=x.B M) (hne:x.T M j≠0) :
 Okx m n O ⟨bY x.T M j,cg x.B M j⟩/\Art m n M ⟨bY x.T M j,cg x.B M j⟩/\cg x.B M j M=j:=by
 have hz:=ha.z M hM hb;have hq:x.T M (n+m)/x.T M j=0:=by rw [hz,Rat.div_def];grind
 have eL:∀r,r<m->bY x.T M j r (n+m)=x.T r (n+m):=fun r _=>by
  rw [bY,hq];by_cases hr:r=M
  ·rw [if_pos hr,hr,hz]
  ·rw [if_neg hr];grind
 refine ⟨⟨h.tab.pivot hM (by omega) hne,?_,fun r hr=>?_⟩,⟨fun i hi hbi=>?_,fun i hi hbi k hk=>?_⟩,by rw [cg,if_pos rfl]⟩
 ·show cZ m (cW O (cg x.B M j))≠0
  rw [qM h.tab hM (by omega)]
  intro e;rcases Rat.mul_eq_zero.1 e with k|k
  ·exact hne k
  ·exact h.nz k
 ·show 0<=bY x.T M j r (n+m)
  rw [eL r hr];exact h.fe r hr
 ·show bY x.T M j i (n+m)=0
  rw [eL i hi];have hbi:n<=cg x.B M j i:=hbi;rw [cg] at hbi;by_cases hiM:i=M
  ·rw [if_pos hiM] at hbi;omega
  ·rw [if_neg hiM] at hbi;exact ha.z i hi hbi
 ·show bY x.T M j i k=0
  have hbi:n<=cg x.B M j i:=hbi;rw [cg,if_neg (by omega)] at hbi
  rw [bY,if_neg (by omega),ha.r i hi hbi k hk,ha.r i hi hbi j hj];grind
theorem yl (ha:Art m n m x) {s i:Nat} (hs:s<n) (hi:i<m) (hp:0<x.T i s):Art m n m ⟨bY x.T i s,cg x.B i s⟩:=by
 have hb:¬n<=x.B i:=fun e=>by
  have:=ha.r i hi e s hs
  grind
 have key:∀l,n<=cg x.B i s l->l≠i/\n<=x.B l:=fun l h=>by
  rw [cg] at h;by_cases hl:l=i
  ·rw [if_pos hl] at h;omega
  ·rw [if_neg hl] at h;exact ⟨hl,h⟩
 refine ⟨fun l hl h=>?_,fun l hl h j hj=>?_⟩
 ·obtain ⟨k1,k2⟩:=key l h
  show bY x.T i s l (n+m)=0
  rw [bY,if_neg k1,ha.z l hl k2,ha.r l hl k2 s hs];grind
 ·obtain ⟨k1,k2⟩:=key l h
  show bY x.T i s l j=0
  rw [bY,if_neg k1,ha.r l hl k2 j hj,ha.r l hl k2 s hs];grind
theorem AW {c:Nat->Rat} (ha:Art m n m x):Art m n m (ri m n n c x):=by
 rw [ri]
 split
 ·exact ha
 ·rename_i s i e
  have p:=rG e;exact yl ha p.sm p.im p.pos
theorem DO {c:Nat->Rat} (ha:Art m n m x):∀k,Art m n m (itP m n n c x k):=by
 intro k
 induction k with
 | zero=>exact ha
 | succ k ih=>exact AW ih
theorem BC (h:Okx m n O x) (ha:Art m n m x) (he:fG m (cV n cost) x.T x.B n 0=none) :
 (∀j,0<=jk m x.T x.B (n+m) j)/\(∀r,r<m->aj (fun j=>O r j*jk m x.T x.B (n+m) j) n=O r (n+m)) /\
 (∀j,j<n->aj (fun r=>nf m n (cV n cost) x.T x.B r*O r j) m<=cost j) /\
 aj (fun j=>cost j*jk m x.T x.B (n+m) j) n=bV m (cV n cost) x.T x.B (n+m) /\
 aj (fun r=>nf m n (cV n cost) x.T x.B r*O r (n+m)) m=bV m (cV n cost) x.T x.B (n+m):=by
 refine ⟨fun j=>zo h.fe j,fun r hr=>tC h.tab ha.z hr,fun j hj=>?_,?_,nP h.tab (Nat.le_refl _)⟩
 ·rw [nP h.tab (by omega)]
  have h1:=qH n 0 he j (by omega) (by omega)
  unfold cE at h1;have e1:cV n cost j=cost j:=if_pos hj;rw [e1] at h1
  grind
 ·rw [<-zp (c:=cV n cost) (fun i hi hb=>by rw [ha.z i hi hb];grind)]
  exact ay fun j hj=>by rw [cV,if_pos hj]
theorem BA (h:Okx m n O x) (ha:Art m n m x) {s:Nat} (he:fG m (cV n cost) x.T x.B n 0=some s) (hl:dw x.T x.B (n+m) s m=none) :
 s<n/\(∀j,0<=fT m x.T x.B s j)/\(∀r,r<m->aj (fun j=>O r j*fT m x.T x.B s j) n=0)/\aj (fun j=>cost j*fT m x.T x.B s j) n<0:=by
 obtain ⟨_,h2,h3,_⟩:=iH n 0 s he;have hs:s<n:=by omega
 have hn:=mJ m hl;have hz:∀i,i<m->n<=x.B i->x.T i s=0:=fun i hi hb=>ha.r i hi hb s hs;refine ⟨hs,fun j=>Dj h.tab h3 hn j,fun r hr=>yQ h.tab hs hz hr,?_⟩;have e:aj (fun j=>cost j*fT m x.T x.B s j) n=aj (fun j=>cV n cost j*fT m x.T x.B s j) n:=ay fun j hj=>by rw [cV,if_pos hj]
 rw [e,yR hs hz];exact h3
end
open Go.RowKit
theorem yt {xs:List Nat} {k:Nat} (hk:k<xs.length) (h:xs[k]=0):tl xs (k+1)=tl xs k:=by
 simp [tl,List.getD_eq_getElem?_getD,hk,h]
theorem CB {xs:List Nat} {k:Nat} (hk:k<xs.length) (h:xs[k]≠0):tl xs (k+1)=k+1:=by
 simp [tl,List.getD_eq_getElem?_getD,hk,h]
theorem bT (w:World) (A:Option Addr) (c n:Nat) (xs:List Nat) (h:Nt w A c xs) (hn:n=xs.length) :
 Calls prog 105 #[.slice A n c] w fun e w'=>e = .returned (.int .i64 (lim (nv xs)).length)/\w=w':=by
 subst hn;have h1:=h.cap;have h2:=h.max;have HT:=ag (jN h.u);go_enter func105,ntmps105
 go_wp2
 go_loop [3] (fun i=>∃k:Nat,k<=xs.length/\i = .int .i64 k/\tl xs k=tl xs xs.length) (fun i=>(intOf i).toNat)
 case atStart=>exact ⟨xs.length,Nat.le_refl _,rfl,rfl⟩
 case round=>
  obtain ⟨k,hk,rfl,ht⟩:=hrel;have gC:=ag ht;clear ht;rcases k with _|k
  ·go_wp2
   go_ret;exact ⟨by rw [<-HT.o,<-gC.o];rfl,rfl⟩
  ·obtain ⟨ad,rfl,hb,hc,hlt⟩:=h.at k (by omega)
   clear h;by_cases hz:xs[k]=0
   ·have hz':((xs[k]:Int) == 0)=true:=by simp [hz]
    have HZ:=ag hz;clear hz
    go_wp2
    go_round
    case rel=>exact ⟨k,by omega,by go_num,by rw [<-gC.o,yt (by omega) HZ.o]⟩
    case measure=>simp [intOf]
   ·have hz':((xs[k]:Int) == 0)=false:=by simp;omega
    go_wp2
    go_ret;exact ⟨by rw [<-HT.o,<-gC.o,CB (by omega) hz];go_num,rfl⟩
theorem aN (w:World) (A:Option Addr) (c n:Nat) (xs:List Nat) (b:Bool) (h:Nt w A c xs) (hn:n=xs.length) (hb:decide (512<(lim (nv xs)).length)=b) :
 Calls prog 119 #[.slice A n c] w fun e w'=>e = .returned (.bool b)/\w=w':=by
 have HB:=ag hb;clear hb;subst hn;go_enter func119,ntmps119;go_wp2_with fail;refine (bT w A c _ xs h rfl).mono ?_;rintro e w' ⟨rfl,rfl⟩;go_wp2_with fail;go_ret;exact ⟨dz (by rw [<-HB.o];apply decide_eq_decide.2;omega),rfl⟩
theorem il {m n:Nat} (h:m<n):i6 m n = -1:=by simp [i6,h]
theorem kU {m n:Nat} (h:n<m):i6 m n=1:=by
 have:¬m<n:=by omega
 simp [i6,h,this]
theorem wJ {m n:Nat} (h:m=n):i6 m n=0:=by subst h;simp [i6]
theorem fW {m n:Nat} (h:(lim m).length<(lim n).length):m<n:=by
 rcases Nat.lt_or_ge m n with h1|h1
 ·exact h1
 ·have:=ao h1;omega
def jZ (xs ys:List Nat) (k:Nat):Prop:=∀j (h1:j<xs.length) (h2:j<ys.length),k<=j->xs[j]=ys[j]
theorem jZ.start (xs ys:List Nat):jZ xs ys xs.length:=fun j h1 _ h=>absurd h (by omega)
theorem jZ.step {xs ys:List Nat} {k:Nat} (h:jZ xs ys (k+1)) (hk:k<xs.length) (hk2:k<ys.length) (e:xs[k]=ys[k]):jZ xs ys k:=fun j h1 h2 h3=>by
 rcases Nat.lt_or_ge k j with h4|h4
 ·exact h j h1 h2 h4
 ·have:j=k:=by omega
  subst this;exact e
theorem jZ.lt {m n k:Nat} (h:jZ (lim m) (lim n) (k+1)) (hl:(lim m).length=(lim n).length) (h1:k<(lim m).length) (h2:k<(lim n).length) (hlt:(lim m)[k]<(lim n)[k]):m<n:=by
 have:=zG (aC m) hl k h1 hlt (fun j hj hkj=>h j hj (by omega) hkj)
 rwa [am,am] at this
theorem jZ.symm {xs ys:List Nat} {k:Nat} (h:jZ xs ys k):jZ ys xs k:=fun j h1 h2 h3=>(h j h2 h1 h3).symm
theorem jZ.eq {m n:Nat} (h:jZ (lim m) (lim n) 0) (hl:(lim m).length=(lim n).length):m=n:=by
 have:lim m=lim n:=List.ext_getElem hl fun j h1 h2=>h j h1 h2 (by omega)
 rw [<-am m,<-am n,this]
theorem fY (w:World) (A D:Option Addr) (c d n m:Nat) (xs ys:List Nat) (z:Int) (h:Nt w A c xs) (k:Nt w D d ys) (hn:n=xs.length) (hm:m=ys.length) (hz:i6 (nv xs) (nv ys)=z) :
 Calls prog 82 #[.slice A n c, .slice D m d] w fun e w'=>e = .returned (.int .i64 z)/\Qt w w':=by
 have HZ:=ag hz;clear hz;subst hn hm;have hx:=h.lim;have hy:=k.lim;have hxl:=hx.len;have hyl:=hy.len;have hx1:=ak h.u;have hy1:=ak k.u;have hc:=h.cap;have hd:=k.cap;have hc2:=h.max;have hd2:=k.max;go_enter func82,ntmps82;go_wp2_with fail;refine (bT w A c _ xs h rfl).mono ?_;rintro e w' ⟨rfl,rfl⟩;go_wp2_with fail;refine (bT w D d _ ys k rfl).mono ?_;rintro e w' ⟨rfl,rfl⟩;clear h k;rcases Nat.lt_trichotomy (lim (nv xs)).length (lim (nv ys)).length with hl|hl|hl
 ·go_wp2_with fail;go_ret;exact ⟨dV (by rw [<-HZ.o,il (fW hl)]),Qt.refl _⟩
 ·have HL:=ag hl;have hl1:decide ((lim (nv xs)).length<(lim (nv ys)).length)=false:=by simp;omega
  have hl2:decide ((lim (nv ys)).length<(lim (nv xs)).length)=false:=by simp;omega
  clear hl;go_wp2_with fail;go_loopw [7] (fun i wr=>∃k:Nat,k<=(lim (nv xs)).length/\i = .int .i64 ((k:Int)-1)/\jZ (lim (nv xs)) (lim (nv ys)) k/\Qt w wr) (fun i _=>(intOf i+1).toNat)
  case atStart=>exact ⟨(lim (nv xs)).length,Nat.le_refl _,by go_num,jZ.start _ _,Qt.refl _⟩
  case round=>
   obtain ⟨k,hk,rfl,ht,q⟩:=hrel;have HT:=ag ht;clear ht;rcases k with _|k
   ·go_wp2_with fail;go_ret;exact ⟨dV (by rw [<-HZ.o,wJ (HT.o.eq HL.o)]),q⟩
   ·have hk2:k<(lim (nv ys)).length:=by have:=HL.o;omega
    obtain ⟨ad,rfl,hb,hcx,hlt⟩:=(hx.below (q.below _)).at k (by omega)
    obtain ⟨ad2,rfl,hb2,hcy,hlt2⟩:=(hy.below (q.below _)).at k hk2;have hk1:k<(lim (nv xs)).length:=by omega
    clear hx hy;rcases Nat.lt_trichotomy (lim (nv xs))[k] (lim (nv ys))[k] with he|he|he
    ·have he1:((lim (nv xs))[k]:Int)<(lim (nv ys))[k]:=by omega
     go_wp2_with fail
     go_quiet (fail)
     go_wp2_with fail;go_ret;exact ⟨dV (by rw [<-HZ.o,il (HT.o.lt HL.o hk1 hk2 he)]),by first|exact q.drewN _|exact (q.drewN _).drewN _⟩
    ·have HE:=ag he;have he1:¬((lim (nv xs))[k]:Int)<(lim (nv ys))[k]:=by omega
     have he2:¬((lim (nv ys))[k]:Int)<(lim (nv xs))[k]:=by omega
     clear he;go_wp2_with fail
     go_quiet (fail)
     go_wp2_with fail
     go_quiet (fail)
     go_wp2_with fail;go_roundw
     case rel=>exact ⟨k,by omega,by go_num,HT.o.step hk1 hk2 HE.o,by first|exact q.drewN _|exact (q.drewN _).drewN _⟩
     case measure=>simp [intOf]
    ·have he1:¬((lim (nv xs))[k]:Int)<(lim (nv ys))[k]:=by omega
     have he2:((lim (nv ys))[k]:Int)<(lim (nv xs))[k]:=by omega
     go_wp2_with fail
     go_quiet (fail)
     go_wp2_with fail
     go_quiet (fail)
     go_wp2_with fail;go_ret;exact ⟨dV (by rw [<-HZ.o,kU (HT.o.symm.lt HL.o.symm hk2 hk1 he)]),by first|exact q.drewN _|exact (q.drewN _).drewN _⟩
 ·go_wp2_with fail;go_ret;exact ⟨dV (by rw [<-HZ.o,kU (fW hl)]),Qt.refl _⟩
end Go.Proofs.YtkpfbekmaafehaaGreat
