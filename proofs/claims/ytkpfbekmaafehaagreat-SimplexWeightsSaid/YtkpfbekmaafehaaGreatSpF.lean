/- What a tableau without a negative reduced cost proves -/
import Derived.Test.YtkpfbekmaafehaaGreatSpB
namespace Go.Proofs.YtkpfbekmaafehaaGreat
set_option maxRecDepth 100000
def jk (m:Nat) (T:Nat->Nat->Rat) (B:Nat->Nat) (L j:Nat):Rat:=aj (fun i=>if B i=j then T i L else 0) m
def nf (m n:Nat) (c:Nat->Rat) (T:Nat->Nat->Rat) (B:Nat->Nat) (r:Nat):Rat:=bV m c T B (n+r)
section
variable {m n:Nat} {O T:Nat->Nat->Rat} {B:Nat->Nat} {c:Nat->Rat}
theorem mO (g:Nat->Rat) (c:Rat) (n:Nat):aj (fun i=>g i*c) n=aj g n*c:=by
 induction n with
 | zero=>show (0:Rat)=0*c;grind
 | succ n ih=>rw [aj,aj,ih];grind
theorem nP (h:Tab m n O T B) {k:Nat} (hk:k<=n+m):aj (fun r=>nf m n c T B r*O r k) m=bV m c T B k:=by
 unfold nf bV;have e1:aj (fun i=>c (B i)*T i k) m=aj (fun i=>aj (fun r=>c (B i)*T i (n+r)*O r k) m) m:=ay fun i hi=>by
  rw [h.inv i hi k hk,<-bJ];exact ay fun r _=>by grind
 rw [e1,fF];exact ay fun r _=>(mO (fun i=>c (B i)*T i (n+r)) (O r k) m).symm
theorem nU (g:Nat->Rat) (v:Nat->Rat) (B:Nat->Nat) (M N:Nat):aj (fun j=>g j*aj (fun i=>if B i=j then v i else 0) M) N=aj (fun i=>if B i<N then g (B i)*v i else 0) M:=by
 have e1:aj (fun j=>g j*aj (fun i=>if B i=j then v i else 0) M) N=aj (fun j=>aj (fun i=>g j*(if B i=j then v i else 0)) M) N:=ay fun j _=>(bJ _ _ _).symm
 rw [e1,fF];refine ay fun i _=>?_;by_cases h:B i<N
 ·rw [if_pos h,bM _ h,if_pos rfl,bu]
  ·grind
  ·intro j _;by_cases hj:j=B i
   ·rw [if_pos hj]
   ·rw [if_neg hj,if_neg (fun e=>hj e.symm)];grind
 ·rw [if_neg h];exact bu fun j hj=>by rw [if_neg (by omega)];grind
theorem tC (h:Tab m n O T B) (ha:∀i,i<m->n<=B i->T i (n+m)=0) {r:Nat} (hr:r<m):aj (fun j=>O r j*jk m T B (n+m) j) n=O r (n+m):=by
 unfold jk;rw [nU (O r) (fun i=>T i (n+m)) B m n,h.back r hr (n+m) (Nat.le_refl _)];refine ay fun i hi=>?_;by_cases hb:B i<n
 ·rw [if_pos hb]
 ·rw [if_neg hb,ha i hi (by omega)];grind
theorem zp (ha:∀i,i<m->n<=B i->c (B i)*T i (n+m)=0):aj (fun j=>c j*jk m T B (n+m) j) n=bV m c T B (n+m):=by
 unfold jk bV;rw [nU c (fun i=>T i (n+m)) B m n];refine ay fun i hi=>?_;by_cases hb:B i<n
 ·rw [if_pos hb]
 ·rw [if_neg hb,ha i hi (by omega)]
theorem zo (hf:∀i,i<m->0<=T i (n+m)) (j:Nat):0<=jk m T B (n+m) j:=kx fun i hi=>by
 split
 ·exact hf i hi
 ·exact Rat.le_refl
def fT (m:Nat) (T:Nat->Nat->Rat) (B:Nat->Nat) (s j:Nat):Rat:=(if j=s then 1 else 0)-aj (fun i=>if B i=j then T i s else 0) m
theorem yQ (h:Tab m n O T B) {s:Nat} (hs:s<n) (ha:∀i,i<m->n<=B i->T i s=0) {r:Nat} (hr:r<m):aj (fun j=>O r j*fT m T B s j) n=0:=by
 have e:aj (fun j=>O r j*fT m T B s j) n=aj (fun j=>O r j*(if j=s then 1 else 0)) n-aj (fun j=>O r j*aj (fun i=>if B i=j then T i s else 0) m) n:=by
  have:∀M,aj (fun j=>O r j*fT m T B s j) M=aj (fun j=>O r j*(if j=s then 1 else 0)) M-aj (fun j=>O r j*aj (fun i=>if B i=j then T i s else 0) m) M:=by
   intro M
   induction M with
   | zero=>show (0:Rat)=0-0;grind
   | succ M ih=>rw [aj,aj,aj,ih,fT];grind
  exact this n
 have e1:aj (fun j=>O r j*(if j=s then (1:Rat) else 0)) n=O r s:=by
  rw [bM _ hs,if_pos rfl,bu]
  ·grind
  ·intro j _;by_cases hj:j=s
   ·rw [if_pos hj]
   ·rw [if_neg hj,if_neg hj];grind
 rw [e,e1,nU (O r) (fun i=>T i s) B m n,h.back r hr s (by omega)]
 have e2:aj (fun i=>if B i<n then O r (B i)*T i s else 0) m=aj (fun i=>O r (B i)*T i s) m:=ay fun i hi=>by
  by_cases hb:B i<n
  ·rw [if_pos hb]
  ·rw [if_neg hb,ha i hi (by omega)];grind
 rw [e2];grind
theorem yR {s:Nat} (hs:s<n) (ha:∀i,i<m->n<=B i->T i s=0):aj (fun j=>c j*fT m T B s j) n=cE m c T B s:=by
 have e:aj (fun j=>c j*fT m T B s j) n=aj (fun j=>c j*(if j=s then 1 else 0)) n-aj (fun j=>c j*aj (fun i=>if B i=j then T i s else 0) m) n:=by
  have:∀M,aj (fun j=>c j*fT m T B s j) M=aj (fun j=>c j*(if j=s then 1 else 0)) M-aj (fun j=>c j*aj (fun i=>if B i=j then T i s else 0) m) M:=by
   intro M
   induction M with
   | zero=>show (0:Rat)=0-0;grind
   | succ M ih=>rw [aj,aj,aj,ih,fT];grind
  exact this n
 have e1:aj (fun j=>c j*(if j=s then (1:Rat) else 0)) n=c s:=by
  rw [bM _ hs,if_pos rfl,bu]
  ·grind
  ·intro j _;by_cases hj:j=s
   ·rw [if_pos hj]
   ·rw [if_neg hj,if_neg hj];grind
 rw [e,e1,nU c (fun i=>T i s) B m n,cE,bV]
 congr 1
 refine ay fun i hi=>?_;by_cases hb:B i<n
 ·rw [if_pos hb]
 ·rw [if_neg hb,ha i hi (by omega)];grind
theorem Dj {s:Nat} (_h:Tab m n O T B) (_hneg:cE m c T B s<0) (hs:∀i,i<m->T i s<=0) (j:Nat):0<=fT m T B s j:=by
 have h1:0<=aj (fun i => - (if B i=j then T i s else 0)) m:=kx fun i hi=>by
  have:=hs i hi
  split <;> grind
 have e:∀M,aj (fun i => - (if B i=j then T i s else 0)) M = - aj (fun i=>if B i=j then T i s else 0) M:=by
  intro M
  induction M with
  | zero=>show (0:Rat) = -0;grind
  | succ M ih=>rw [aj,aj,ih];grind
 rw [e] at h1;rw [fT]
 split <;> grind
end
def je (V:Nat->Nat->Rat) (k:Nat):Nat->Nat->Rat:=fun j r=>V (if j<k then j else j+1) (r+1)
def mj (k:Nat):Rat:=if k % 2=0 then 1 else -1
theorem xw (k:Nat):mj (k+1) = - mj k:=by
 unfold mj;by_cases h:k % 2=0
 ·rw [if_neg (by omega),if_pos h]
 ·rw [if_pos (by omega),if_neg h];grind
def cZ:Nat->(Nat->Nat->Rat)->Rat
 | 0,_=>1
 | m+1,V=>aj (fun k=>mj k*V k 0*cZ m (je V k)) (m+1)
theorem kw:∀m (V W:Nat->Nat->Rat),(∀k,k<m->∀r,r<m->V k r=W k r)->cZ m V=cZ m W:=by
 intro m
 induction m with
 | zero=>intro _ _ _;rfl
 | succ m ih=>
   intro V W h;refine ay fun k hk=>?_;rw [h k hk 0 (by omega),ih (je V k) (je W k) fun j hj r hr=>?_]
   show V _ _=W _ _
   exact h _ (by split <;> omega) _ (by omega)
def bQ (V:Nat->Nat->Rat) (i:Nat) (w:Nat->Rat):Nat->Nat->Rat:=fun j=>if j=i then w else V j
theorem cA (V:Nat->Nat->Rat) (i:Nat) (w:Nat->Rat):bQ V i w i=w:=if_pos rfl
theorem bS (V:Nat->Nat->Rat) {i j:Nat} (w:Nat->Rat) (h:j≠i):bQ V i w j=V j:=if_neg h
theorem jG (V:Nat->Nat->Rat) (i:Nat) (w:Nat->Rat):je (bQ V i w) i=je V i:=by
 funext j r
 show bQ V i w _ _=V _ _
 rw [bS]
 split <;> omega
theorem jF (V:Nat->Nat->Rat) {i k:Nat} (w:Nat->Rat) (h:i≠k):je (bQ V i w) k=bQ (je V k) (if i<k then i else i-1) (fun r=>w (r+1)):=by
 funext j r
 show bQ V i w (if j<k then j else j+1) (r+1)=bQ (je V k) (if i<k then i else i-1) (fun r=>w (r+1)) j r
 by_cases hj:(if j<k then j else j+1)=i
 ·have e:j=if i<k then i else i-1:=by
   by_cases h1:j<k
   ·rw [if_pos h1] at hj;rw [if_pos (by omega)];omega
   ·rw [if_neg h1] at hj;rw [if_neg (by omega)];omega
  rw [hj,cA,<-e,cA]
 ·have e:j≠if i<k then i else i-1:=by
   intro e
   apply hj
   rw [e];by_cases h1:i<k
   ·rw [if_pos h1,if_pos h1]
   ·rw [if_neg h1,if_neg (by omega)];omega
  rw [bS _ _ hj,bS _ _ e];rfl
theorem kQ:∀m (V:Nat->Nat->Rat) (i:Nat) (a b:Rat) (w u:Nat->Rat),i<m->cZ m (bQ V i (fun r=>a*w r+b*u r))=a*cZ m (bQ V i w)+b*cZ m (bQ V i u):=by
 intro m
 induction m with
 | zero=>intro V i a b w u hi;omega
 | succ m ih=>
   intro V i a b w u hi
   show aj _ _=a*aj _ _+b*aj _ _
   rw [<-bJ,<-bJ,<-pS];refine ay fun k hk=>?_;by_cases h:i=k
   ·subst h;rw [cA,cA,cA,jG,jG,jG];grind
   ·rw [bS _ _ (fun e=>h e.symm),bS _ _ (fun e=>h e.symm),bS _ _ (fun e=>h e.symm),jF _ _ h,jF _ _ h,jF _ _ h,ih _ _ a b (fun r=>w (r+1)) (fun r=>u (r+1)) (by split <;> omega)]
    grind
theorem tU:∀m (V:Nat->Nat->Rat) (k:Nat),k+1<m->V k=V (k+1)->cZ m V=0:=by
 intro m
 induction m with
 | zero=>intro V k h _;omega
 | succ m ih=>
   intro V k hk he
   show aj (fun j=>mj j*V j 0*cZ m (je V j)) (m+1)=0
   rw [bM _ (show k<m+1 by omega),bM (fun i=>if i=k then 0 else mj i*V i 0*cZ m (je V i)) hk,if_neg (by omega),bu]
   ·have e1:je V k=je V (k+1):=by
     funext j r
     show V (if j<k then j else j+1) (r+1)=V (if j<k+1 then j else j+1) (r+1)
     by_cases h1:j<k
     ·rw [if_pos h1,if_pos (by omega)]
     ·by_cases h2:j=k
      ·subst h2;rw [if_neg h1,if_pos (by omega),he]
      ·rw [if_neg h1,if_neg (by omega)]
    rw [xw,e1,he];grind
   ·intro j hj;by_cases h1:j=k+1
    ·rw [if_pos h1]
    ·by_cases h2:j=k
     ·rw [if_neg h1,if_pos h2]
     ·rw [if_neg h1,if_neg h2];have h0:cZ m (je V j)=0:=by
       by_cases h3:j<k
       ·refine ih (je V j) (k-1) (by omega) ?_
        funext r
        show V (if k-1<j then k-1 else k-1+1) (r+1)=V (if k-1+1<j then k-1+1 else k-1+1+1) (r+1)
        rw [if_neg (by omega),if_neg (by omega),show k-1+1=k by omega,he]
       ·refine ih (je V j) k (by omega) ?_
        funext r
        show V (if k<j then k else k+1) (r+1)=V (if k+1<j then k+1 else k+1+1) (r+1)
        rw [if_pos (by omega),if_pos (by omega),he]
      rw [h0];grind
theorem mm (V:Nat->Nat->Rat) (i:Nat):bQ V i (V i)=V:=by
 funext j
 by_cases h:j=i
 ·rw [h,cA]
 ·rw [bS _ _ h]
theorem mp (V:Nat->Nat->Rat) {i j:Nat} (w u:Nat->Rat) (h:i≠j):bQ (bQ V i w) j u=bQ (bQ V j u) i w:=by
 funext k
 by_cases h1:k=i
 ·subst h1;rw [bS _ _ h,cA,cA]
 ·by_cases h2:k=j
  ·subst h2;rw [cA,bS _ _ h1,cA]
  ·rw [bS _ _ h2,bS _ _ h1,bS _ _ h1,bS _ _ h2]
theorem xV {m:Nat} (V:Nat->Nat->Rat) {k:Nat} (hk:k+1<m) (a b:Nat->Rat):cZ m (bQ (bQ V k a) (k+1) b) = - cZ m (bQ (bQ V k b) (k+1) a):=by
 have hne:k≠k+1:=by omega
 have z:∀w:Nat->Rat,cZ m (bQ (bQ V k w) (k+1) w)=0:=fun w=>tU m _ k hk (by rw [bS _ _ hne,cA,cA])
 have l1:∀w:Nat->Rat,cZ m (bQ (bQ V k w) (k+1) (fun r=>1*a r+1*b r))=1*cZ m (bQ (bQ V k w) (k+1) a)+1*cZ m (bQ (bQ V k w) (k+1) b):=fun w=>kQ m _ _ 1 1 a b hk;have l2:∀u:Nat->Rat,cZ m (bQ (bQ V k (fun r=>1*a r+1*b r)) (k+1) u)=1*cZ m (bQ (bQ V k a) (k+1) u)+1*cZ m (bQ (bQ V k b) (k+1) u):=fun u=>by
  rw [mp _ _ _ hne,mp _ _ _ hne,mp _ _ _ hne];exact kQ m _ _ 1 1 a b (by omega)
 have h:=z (fun r=>1*a r+1*b r);rw [l2,l1,l1,z a,z b] at h
 grind
theorem wG {m:Nat}:∀d (V:Nat->Nat->Rat) (j:Nat),j+d+1<m->V j=V (j+d+1)->cZ m V=0:=by
 intro d
 induction d with
 | zero=>intro V j h e;exact tU m V j h e
 | succ d ih=>
   intro V j h e;have hV:V=bQ (bQ V (j+d+1) (V (j+d+1))) (j+d+1+1) (V (j+d+1+1)):=by rw [mm,mm]
   rw [hV,xV V (k:=j+d+1) (by omega),ih _ j (by omega)]
   ·grind
   ·rw [bS _ _ (by omega),bS _ _ (by omega),bS _ _ (by omega),cA]
    exact e
theorem Ao {m:Nat} (V:Nat->Nat->Rat) {i j:Nat} (hi:i<m) (hj:j<m) (hne:i≠j) (e:V i=V j):cZ m V=0:=by
 rcases Nat.lt_or_gt_of_ne hne with h|h
 ·obtain ⟨d,rfl⟩:=Nat.exists_eq_add_of_le (show i+1<=j from h);exact wG d V i (by omega) (by rw [e];congr 1;omega)
 ·obtain ⟨d,rfl⟩:=Nat.exists_eq_add_of_le (show j+1<=i from h);exact wG d V j (by omega) (by rw [<-e];congr 1;omega)
theorem xU {m:Nat} (V:Nat->Nat->Rat) {i:Nat} (hi:i<m):cZ m (bQ V i (fun _=>0))=0:=by
 have h:=kQ m V i 0 0 (fun _=>0) (fun _=>0) hi;have e:(fun r:Nat=>(0:Rat)*(fun _:Nat=>(0:Rat)) r+0*(fun _:Nat=>(0:Rat)) r)=fun _=>0:=by funext r;grind
 rw [e] at h
 grind
theorem DF {m:Nat} (V:Nat->Nat->Rat) (y:Nat->Rat) {i:Nat} (hi:i<m):cZ m (bQ V i (fun r=>aj (fun k=>y k*V k r) m))=y i*cZ m V:=by
 have key:∀M,cZ m (bQ V i (fun r=>aj (fun k=>y k*V k r) M))=aj (fun k=>y k*cZ m (bQ V i (V k))) M:=by
  intro M
  induction M with
  | zero=>exact xU V hi
  | succ M ih=>
    have e:(fun r=>aj (fun k=>y k*V k r) (M+1))=fun r=>1*aj (fun k=>y k*V k r) M+y M*V M r:=by
     funext r
     rw [aj];grind
    rw [e,kQ m V i 1 (y M) (fun r=>aj (fun k=>y k*V k r) M) (V M) hi,ih,aj];grind
 rw [key,bM _ hi,mm,bu]
 ·grind
 ·intro k hk;by_cases h:k=i
  ·rw [if_pos h]
  ·rw [if_neg h,Ao (bQ V i (V k)) hi hk (fun e=>h e.symm) (by rw [cA,bS _ _ h])];grind
theorem Am:∀m,cZ m (fun k r=>if r=k then 1 else 0)=1:=by
 intro m
 induction m with
 | zero=>rfl
 | succ m ih=>
   show aj _ _=1
   rw [bM _ (show 0<m+1 by omega),bu]
   ·have e:cZ m (je (fun k r=>if r=k then 1 else 0) 0)=1:=by
     refine Eq.trans (kw m _ _ fun k _ r _=>?_) ih
     show (if r+1=(if k<0 then k else k+1) then (1:Rat) else 0)=_
     rw [if_neg (show ¬k<0 by omega)]
     by_cases h:r=k
     ·rw [if_pos (by omega),if_pos h]
     ·rw [if_neg (by omega),if_neg h]
    rw [e]
    show mj 0*(if 0=0 then (1:Rat) else 0)*1+0=1
    rw [if_pos rfl,mj,if_pos rfl];grind
   ·intro k hk;by_cases h:k=0
    ·rw [if_pos h]
    ·rw [if_neg h]
     show mj k*(if 0=k then (1:Rat) else 0)*_=0
     rw [if_neg (fun e=>h e.symm)];grind
def pr1 (f:Nat->Nat):Nat->Nat
 | 0=>1
 | n+1=>pr1 f n*f n
theorem d8 {f g:Nat->Nat}:∀n,(∀i,i<n->f i=g i)->pr1 f n=pr1 g n:=by
 intro n
 induction n with
 | zero=>intro _;rfl
 | succ n ih=>intro h;rw [pr1,pr1,ih fun i hi=>h i (by omega),h n (by omega)]
theorem fN {f g:Nat->Nat}:∀n,(∀i,i<n->f i<=g i)->pr1 f n<=pr1 g n:=by
 intro n
 induction n with
 | zero=>intro _;exact Nat.le_refl _
 | succ n ih=>intro h;exact Nat.mul_le_mul (ih fun i hi=>h i (by omega)) (h n (by omega))
theorem vT (f g:Nat->Nat) (n:Nat):pr1 (fun i=>f i*g i) n=pr1 f n*pr1 g n:=by
 induction n with
 | zero=>rfl
 | succ n ih=>rw [pr1,pr1,pr1,ih];grind
theorem j7 (f:Nat->Nat) (n:Nat):pr1 f (n+1)=f 0*pr1 (fun i=>f (i+1)) n:=by
 induction n with
 | zero=>show 1*f 0=f 0*1;omega
 | succ n ih=>rw [pr1,ih,pr1];grind
theorem dl (f:Nat->Nat) {n k:Nat} (hk:k<n):pr1 f n=f k*pr1 (fun j=>if j=k then 1 else f j) n:=by
 induction n with
 | zero=>omega
 | succ n ih=>
   rw [pr1,pr1];by_cases h:k=n
   ·subst h;rw [if_pos rfl,d8 (g:=fun j=>if j=k then 1 else f j) k fun i hi=>by rw [if_neg (by omega)]]
    grind
   ·rw [ih (by omega),if_neg (by omega)];grind
theorem tm (F:Nat->Nat) (k:Nat):∀m,k<=m->pr1 (fun j=>F (if j<k then j else j+1)) m=pr1 (fun j=>if j=k then 1 else F j) (m+1):=by
 intro m
 induction m with
 | zero=>
   intro h;obtain rfl:k=0:=by omega
   show 1=1*(if 0=0 then 1 else F 0)
   rw [if_pos rfl]
 | succ m ih=>
   intro h;by_cases h1:k<=m
   ·rw [pr1,ih h1,pr1.eq_2 _ (m+1),if_neg (by omega),if_neg (by omega)]
   ·obtain rfl:k=m+1:=by omega
    rw [pr1.eq_2 _ (m+1),if_pos rfl,Nat.mul_one];exact d8 _ fun i hi=>by rw [if_pos (by omega),if_neg (by omega)]
def bG (g:Nat->Nat):Nat->Nat
 | 0=>0
 | n+1=>bG g n+g n
theorem qZ {f g:Nat->Nat}:∀n,(∀i,i<n->f i<=g i)->bG f n<=bG g n:=by
 intro n
 induction n with
 | zero=>intro _;exact Nat.le_refl _
 | succ n ih=>intro h;exact Nat.add_le_add (ih fun i hi=>h i (by omega)) (h n (by omega))
theorem sK (g:Nat->Nat) (c n:Nat):bG (fun i=>g i*c) n=bG g n*c:=by
 induction n with
 | zero=>show 0=0*c;omega
 | succ n ih=>rw [bG,bG,ih];grind
theorem wZ (q a:Nat->Nat):∀n,bG (fun k=>a k*pr1 (fun j=>if j=k then 1 else q j) n) n+pr1 q n<=pr1 (fun j=>q j+a j) n:=by
 intro n
 induction n with
 | zero=>show 0+1<=1;omega
 | succ n ih=>
   have e1:bG (fun k=>a k*pr1 (fun j=>if j=k then 1 else q j) (n+1)) n=bG (fun k=>a k*pr1 (fun j=>if j=k then 1 else q j) n) n*q n:=by
    rw [<-sK];have:∀M,M<=n->bG (fun k=>a k*pr1 (fun j=>if j=k then 1 else q j) (n+1)) M=bG (fun k=>a k*pr1 (fun j=>if j=k then 1 else q j) n*q n) M:=by
     intro M
     induction M with
     | zero=>intro _;rfl
     | succ M ih=>intro hM;rw [bG,bG,ih (by omega),pr1,if_neg (by omega),Nat.mul_assoc]
    exact this n (Nat.le_refl _)
   have e2:pr1 (fun j=>if j=n then 1 else q j) (n+1)=pr1 q n:=by
    rw [pr1,if_pos rfl,Nat.mul_one];exact d8 n fun i hi=>by rw [if_neg (by omega)]
   rw [bG,e1,e2,pr1,pr1];have h1:=Nat.mul_le_mul_right (q n) ih;have h2:a n*pr1 q n<=a n*pr1 (fun j=>q j+a j) n:=Nat.mul_le_mul_left _ (Nat.le_trans (Nat.le_add_left _ _) ih);rw [Nat.add_mul] at h1;rw [Nat.mul_add,Nat.mul_comm _ (a n)];omega
def sI (g:Nat->Int):Nat->Int
 | 0=>0
 | n+1=>sI g n+g n
theorem mh (g:Nat->Int) (n:Nat):((sI g n:Int):Rat)=aj (fun i=>((g i:Int):Rat)) n:=by
 induction n with
 | zero=>rfl
 | succ n ih=>rw [sI,aj,Rat.intCast_add,ih]
theorem oJ (g:Nat->Int) (n:Nat):(sI g n).natAbs<=bG (fun i=>(g i).natAbs) n:=by
 induction n with
 | zero=>exact Nat.le_refl _
 | succ n ih=>rw [sI,bG];exact Nat.le_trans (Int.natAbs_add_le _ _) (Nat.add_le_add_right ih _)
def xp (k:Nat):Int:=if k % 2=0 then 1 else -1
theorem xo (k:Nat):((xp k:Int):Rat)=mj k:=by
 unfold xp mj
 split <;> rfl
theorem yH (k:Nat):(xp k).natAbs=1:=by unfold xp;split <;> rfl
theorem kS:∀m (V:Nat->Nat->Rat) (q:Nat->Nat->Nat) (a:Nat->Nat->Int),(∀k r,((q k r:Nat):Rat)*V k r=((a k r:Int):Rat)) ->
 ∃N:Int,((pr1 (fun k=>pr1 (fun r=>q k r) m) m:Nat):Rat)*cZ m V=(N:Rat)/\N.natAbs<=pr1 (fun k=>pr1 (fun r=>q k r+(a k r).natAbs) m) m:=by
 intro m
 induction m with
 | zero=>intro V q a _;exact ⟨1,by show ((1:Nat):Rat)*1=((1:Int):Rat);rw [Rat.mul_one];rfl,Nat.le_refl _⟩
 | succ m ih=>
   intro V q a h;have hk:=fun k=>ih (je V k) (fun j r=>q (if j<k then j else j+1) (r+1)) (fun j r=>a (if j<k then j else j+1) (r+1)) (fun j r=>h _ _)
   obtain ⟨Nf,hN⟩:=Classical.axiomOfChoice hk
-- the parts
   obtain ⟨R,hR⟩:∃R:Nat->Nat,R=fun k=>pr1 (fun r=>q k (r+1)) m:=⟨_,rfl⟩;obtain ⟨W,hW⟩:∃W:Nat->Nat,W=fun k=>pr1 (fun r=>q k (r+1)+(a k (r+1)).natAbs) m:=⟨_,rfl⟩;have eD:pr1 (fun k=>pr1 (fun r=>q k r) (m+1)) (m+1)=pr1 (fun k=>q k 0) (m+1)*pr1 R (m+1):=by
    rw [<-vT,hR];exact d8 _ fun k _=>j7 _ _
   have eW:pr1 (fun k=>pr1 (fun r=>q k r+(a k r).natAbs) (m+1)) (m+1)=pr1 (fun k=>q k 0+(a k 0).natAbs) (m+1)*pr1 W (m+1):=by
    rw [<-vT,hW];exact d8 _ fun k _=>j7 _ _
   have dR:∀k,k<m+1->pr1 R (m+1)=R k*pr1 (fun j=>pr1 (fun r=>q (if j<k then j else j+1) (r+1)) m) m:=fun k hk=>by
    rw [dl R hk,<-tm R k m (by omega),hR]
   have dW:∀k,k<m+1->pr1 W (m+1)=W k*pr1 (fun j=>pr1 (fun r=>q (if j<k then j else j+1) (r+1)+(a (if j<k then j else j+1) (r+1)).natAbs) m) m:=fun k hk=>by
    rw [dl W hk,<-tm W k m (by omega),hW]
   obtain ⟨Q,hQ⟩:∃Q:Nat->Nat,Q=fun k=>pr1 (fun j=>if j=k then 1 else q j 0) (m+1):=⟨_,rfl⟩
   have dQ:∀k,k<m+1->pr1 (fun j=>q j 0) (m+1)=q k 0*Q k:=fun k hk=>by rw [dl (fun j=>q j 0) hk,hQ]
   refine ⟨sI (fun k=>xp k*(a k 0*(Q k:Int))*((R k:Int)*Nf k)) (m+1),?_,?_⟩
   ·rw [mh]
    show _*aj (fun k=>mj k*V k 0*cZ m (je V k)) (m+1)=_
    rw [<-bJ];refine ay fun k hk=>?_;have h1:=h k 0;have h2:=(hN k).1;rw [eD,dQ k hk,dR k hk];rw [Rat.intCast_mul,Rat.intCast_mul,Rat.intCast_mul,Rat.intCast_mul,xo,<-h1,<-h2];rw [Rat.natCast_mul,Rat.natCast_mul,Rat.natCast_mul];have c1:(((Q k:Nat):Int):Rat)=((Q k:Nat):Rat):=rfl;have c2:(((R k:Nat):Int):Rat)=((R k:Nat):Rat):=rfl;rw [c1,c2];generalize ((q k 0:Nat):Rat)=x1;generalize ((Q k:Nat):Rat)=x2;generalize ((R k:Nat):Rat)=x3;generalize ((pr1 (fun j=>pr1 (fun r=>q (if j<k then j else j+1) (r+1)) m) m:Nat):Rat)=x4
    generalize V k 0=x5;generalize cZ m (je V k)=x6;generalize mj k=x7
    grind
   ·refine Nat.le_trans (oJ _ _) ?_;have b1:∀k,k<m+1->(xp k*(a k 0*(Q k:Int))*((R k:Int)*Nf k)).natAbs<=(a k 0).natAbs*Q k*pr1 W (m+1):=fun k hk=>by
     rw [Int.natAbs_mul,Int.natAbs_mul,Int.natAbs_mul,Int.natAbs_mul,yH,Nat.one_mul,Int.natAbs_natCast,Int.natAbs_natCast];refine Nat.mul_le_mul_left _ ?_;rw [dW k hk];refine Nat.mul_le_mul ?_ (hN k).2;rw [hR,hW];exact fN _ fun r _=>Nat.le_add_right _ _
    refine Nat.le_trans (qZ _ b1) ?_;rw [sK,eW];refine Nat.mul_le_mul_right _ ?_;have b2:=wZ (fun k=>q k 0) (fun k=>(a k 0).natAbs) (m+1);rw [hQ];exact Nat.le_trans (Nat.le_add_right _ _) b2
def wtR (x:Rat):Nat:=x.den+x.num.natAbs
def da (m:Nat) (O:Nat->Nat->Rat) (j:Nat):Nat:=pr1 (fun r=>(O r j).den) m
def bh (m:Nat) (O:Nat->Nat->Rat) (j:Nat):Nat:=pr1 (fun r=>wtR (O r j)) m
theorem jS {f:Nat->Nat} (n:Nat) (h:∀i,i<n->0<f i):0<pr1 f n:=by
 induction n with
 | zero=>exact Nat.one_pos
 | succ n ih=>exact Nat.mul_pos (ih fun i hi=>h i (by omega)) (h n (by omega))
theorem gJ (m:Nat) (O:Nat->Nat->Rat) (j:Nat):0<da m O j:=jS m fun r _=>(O r j).den_pos
theorem jf (m:Nat) (O:Nat->Nat->Rat) (j:Nat):da m O j<=bh m O j:=fN m fun _ _=>Nat.le_add_right _ _
theorem pB (m:Nat) (O:Nat->Nat->Rat) (j:Nat):0<bh m O j:=Nat.lt_of_lt_of_le (gJ m O j) (jf m O j)
theorem dE (x:Rat):((x.den:Nat):Rat)*x=((x.num:Int):Rat):=by
 have h:=Rat.mkRat_eq_div x.num x.den;rw [Rat.mkRat_self] at h;have h2:((x.den:Nat):Rat)≠0:=by exact_mod_cast x.den_nz
 have h3:=Rat.div_mul_cancel (a:=((x.num:Int):Rat)) h2;have h4:x*((x.den:Nat):Rat)=((x.num:Int):Rat):=by
  have:x*((x.den:Nat):Rat)=((x.num:Int):Rat)/((x.den:Nat):Rat)*((x.den:Nat):Rat):=congrArg (· * ((x.den:Nat):Rat)) h;rw [this,h3]
 rw [Rat.mul_comm];exact h4
theorem kL:∀m (B:Nat->Nat) (w:Nat->Nat) (M:Nat),(∀i,i<m->B i<M)->(∀i,i<m->∀r,r<m->B i=B r->i=r)->(∀j,0<w j)->pr1 (fun k=>w (B k)) m<=pr1 w M:=by
 intro m
 induction m with
 | zero=>intro B w M _ _ hw;exact jS M fun i _=>hw i
 | succ m ih=>
   intro B w M hB hi hw;rw [pr1,dl w (hB m (by omega)),Nat.mul_comm]
   refine Nat.mul_le_mul_left _ ?_;have h1:=ih B (fun j=>if j=B m then 1 else w j) M (fun i h=>hB i (by omega)) (fun i h r h' e=>hi i (by omega) r (by omega) e) (fun j=>by split;exact Nat.one_pos;exact hw j)
   refine Nat.le_trans (Nat.le_of_eq (d8 m fun k hk=>?_)) h1;rw [if_neg];intro e;exact absurd (hi k (by omega) m (by omega) e) (by omega)
section
variable {m n:Nat} {O T:Nat->Nat->Rat} {B:Nat->Nat}
def cW (O:Nat->Nat->Rat) (B:Nat->Nat):Nat->Nat->Rat:=fun k r=>O r (B k)
theorem AJ (i j:Nat):cW O (cg B i j)=bQ (cW O B) i (fun r=>O r j):=by
 funext k r
 show O r (cg B i j k)=bQ (cW O B) i (fun r=>O r j) k r
 by_cases h:k=i
 ·subst h;rw [cA,cg,if_pos rfl]
 ·rw [bS _ _ h,cg,if_neg h];rfl
theorem kj (h:Tab m n O T B) {i j:Nat} (hi:i<m) (hj:j<=n+m):cZ m (bQ (cW O B) i (fun r=>O r j))=T i j*cZ m (cW O B):=by
 rw [<-DF (cW O B) (fun k=>T k j) hi];refine kw m _ _ fun k hk r hr=>?_;by_cases hki:k=i
 ·subst hki;rw [cA,cA,h.back r hr j hj];exact ay fun l _=>by rw [Rat.mul_comm];rfl
 ·rw [bS _ _ hki,bS _ _ hki]
theorem xT (hO:∀r,r<m->∀k,k<m->O r (n+k)=if r=k then 1 else 0):cZ m (cW O (fun i=>n+i))=1:=
 Eq.trans (kw m _ _ fun k hk r hr=>hO r hr k hk) (Am m)
theorem qM (h:Tab m n O T B) {i j:Nat} (hi:i<m) (hj:j<=n+m):cZ m (cW O (cg B i j))=T i j*cZ m (cW O B):=by
 rw [AJ];exact kj h hi hj
theorem sw (h:Tab m n O T B) (hz:cZ m (cW O B)≠0):∃N2:Int,N2≠0/\N2.natAbs<=pr1 (bh m O) (n+m) /\
 ∀i,i<m->∀j,j<=n+m->∃N:Int,((N2:Int):Rat)*((da m O j:Nat):Rat)*T i j=((N:Int):Rat)/\N.natAbs<=pr1 (bh m O) (n+m)*bh m O j:=by
 have hq:∀(V:Nat->Nat->Rat) k r,(((V k r).den:Nat):Rat)*V k r=(((V k r).num:Int):Rat):=fun V k r=>dE (V k r);obtain ⟨N2,h1,h2⟩:=kS m (cW O B) (fun k r=>(cW O B k r).den) (fun k r=>(cW O B k r).num) (hq _);have hD:pr1 (fun k=>pr1 (fun r=>(cW O B k r).den) m) m=pr1 (fun k=>da m O (B k)) m:=rfl;have hW:pr1 (fun k=>pr1 (fun r=>(cW O B k r).den+(cW O B k r).num.natAbs) m) m=pr1 (fun k=>bh m O (B k)) m:=rfl;rw [hD] at h1;rw [hW] at h2;have hBi:∀i,i<m->∀r,r<m->B i=B r->i=r:=fun i hi r hr e=>i9 h hi hr e;have hinj:=kL m B (bh m O) (n+m) h.lt hBi (pB m O);have hDp:0<pr1 (fun k=>da m O (B k)) m:=jS m fun k _=>gJ m O (B k)
 refine ⟨N2,?_,Nat.le_trans h2 hinj,fun i hi j hj=>?_⟩
 ·rintro rfl;rcases Rat.mul_eq_zero.1 h1 with k|k
  ·have:pr1 (fun k=>da m O (B k)) m=0:=by exact_mod_cast k
   omega
  ·exact hz k
 ·obtain ⟨N1,k1,k2⟩:=kS m (bQ (cW O B) i (fun r=>O r j)) (fun k r=>(bQ (cW O B) i (fun r=>O r j) k r).den) (fun k r=>(bQ (cW O B) i (fun r=>O r j) k r).num) (hq _);have part:∀f:Rat->Nat,∀k,pr1 (fun r=>f (bQ (cW O B) i (fun r=>O r j) k r)) m=if k=i then pr1 (fun r=>f (O r j)) m else pr1 (fun r=>f (O r (B k))) m:=fun f k=>by
   by_cases hk:k=i
   ·subst hk;rw [if_pos rfl,cA]
   ·rw [if_neg hk,bS _ _ hk];rfl
  have eD:pr1 (fun k=>pr1 (fun r=>(bQ (cW O B) i (fun r=>O r j) k r).den) m) m=da m O j*pr1 (fun k=>if k=i then 1 else da m O (B k)) m:=by
   rw [d8 (g:=fun k=>if k=i then da m O j else da m O (B k)) m fun k _=>part Rat.den k,dl _ hi,if_pos rfl]
   congr 1
   exact d8 m fun k _=>by split <;> rfl
  have eW:pr1 (fun k=>pr1 (fun r=>(bQ (cW O B) i (fun r=>O r j) k r).den+(bQ (cW O B) i (fun r=>O r j) k r).num.natAbs) m) m=bh m O j*pr1 (fun k=>if k=i then 1 else bh m O (B k)) m:=by
   show pr1 (fun k=>pr1 (fun r=>wtR (bQ (cW O B) i (fun r=>O r j) k r)) m) m=_
   rw [d8 (g:=fun k=>if k=i then bh m O j else bh m O (B k)) m fun k _=>part wtR k,dl _ hi,if_pos rfl]
   congr 1
   exact d8 m fun k _=>by split <;> rfl
  rw [eD,kj h hi hj] at k1;rw [eW] at k2;have oD:=dl (fun k=>da m O (B k)) hi;have oW:=dl (fun k=>bh m O (B k)) hi;refine ⟨N1*(da m O (B i):Int),?_,?_⟩
  ·rw [<-h1,oD,Rat.intCast_mul,<-k1,Rat.natCast_mul,Rat.natCast_mul];have c1:(((da m O (B i):Nat):Int):Rat)=((da m O (B i):Nat):Rat):=rfl;rw [c1];generalize ((da m O (B i):Nat):Rat)=x1;generalize ((da m O j:Nat):Rat)=x2;generalize ((pr1 (fun k=>if k=i then 1 else da m O (B k)) m:Nat):Rat)=x3
   generalize cZ m (cW O B)=x4
   grind
  ·rw [Int.natAbs_mul,Int.natAbs_natCast];have a1:=Nat.mul_le_mul k2 (jf m O (B i));refine Nat.le_trans a1 ?_;have a2:bh m O j*pr1 (fun k=>if k=i then 1 else bh m O (B k)) m*bh m O (B i)=pr1 (fun k=>bh m O (B k)) m*bh m O j:=by rw [oW];grind
   rw [a2];exact Nat.mul_le_mul_right _ hinj
end
end Go.Proofs.YtkpfbekmaafehaaGreat
