/- Short words for the summaries of a region's ops -/
import Derived.Test.YtkpfbekmaafehaaGreatTk
namespace Go.Proofs.YtkpfbekmaafehaaGreat
set_option maxRecDepth 100000
open Go.RowKit
def sE (n:Nat) (a b:List Nat):dC:=(some n,a,b,none)
def sG (n:Nat) (a b:List Nat) (k:Nat) (v:Bool):dC:=(some n,a,b,some (k,v))
set_option maxRecDepth 100000
theorem bC {α : Type} (xs:List α) (i:Nat) (d : α) (h:i<xs.length):xs.getD i d=xs[i]:=by
 rw [List.getD_eq_getElem?_getD,List.getElem?_eq_getElem h];rfl
set_option maxRecDepth 100000
def aj (g:Nat→Rat):Nat→Rat
 | 0=>0
 | n+1=>aj g n+g n
theorem ay {g h:Nat→Rat} {n:Nat} (e:∀i,i<n→g i=h i):aj g n=aj h n:=by
 induction n with
 | zero=>rfl
 | succ n ih=>rw [aj,aj,ih (fun i hi=>e i (by omega)),e n (by omega)]
theorem yv {g h:Nat→Rat} {n:Nat} (e:∀i,i<n→g i≤h i):aj g n≤aj h n:=by
 induction n with
 | zero=>exact Rat.le_refl
 | succ n ih=>
   have h1:=ih (fun i hi=>e i (by omega))
   have h2:=e n (by omega)
   rw [aj,aj];grind
theorem pS (g h:Nat→Rat) (n:Nat):aj (fun i=>g i+h i) n=aj g n+aj h n:=by
 induction n with
 | zero=>show (0:Rat)=0+0;grind
 | succ n ih=>rw [aj,aj,aj,ih];grind
set_option maxRecDepth 100000
theorem bJ (c:Rat) (g:Nat→Rat) (n:Nat):aj (fun i=>c*g i) n=c*aj g n:=by
 induction n with
 | zero=>show (0:Rat)=c*0;grind
 | succ n ih=>rw [aj,aj,ih];grind
theorem bu {g:Nat→Rat} {n:Nat} (h:∀i,i<n→g i=0):aj g n=0:=by
 induction n with
 | zero=>rfl
 | succ n ih=>rw [aj,ih fun i hi=>h i (by omega),h n (by omega)];grind
theorem bM (g:Nat→Rat) {n k:Nat} (hk:k<n):aj g n=g k+aj (fun i=>if i=k then 0 else g i) n:=by
 induction n with
 | zero=>omega
 | succ n ih=>
   rw [aj,aj];by_cases h:k=n
   ·subst h;rw [if_pos rfl,ay (h:=fun i=>if i=k then 0 else g i) fun i hi=>by rw [if_neg (by omega)]]
    grind
   ·rw [ih (by omega),if_neg (by omega)];grind
theorem fF (g:Nat→Nat→Rat) (n m:Nat):aj (fun i=>aj (g i) m) n=aj (fun j=>aj (fun i=>g i j) n) m:=by
 induction n with
 | zero=>exact (bu fun _ _=>rfl).symm
 | succ n ih=>
   rw [aj,ih,←pS];exact ay fun j _=>rfl
theorem kx {g:Nat→Rat} {n:Nat} (h:∀i,i<n→0≤g i):0≤aj g n:=by
 induction n with
 | zero=>exact Rat.le_refl
 | succ n ih=>
   have h1:=ih fun i hi=>h i (by omega)
   have h2:=h n (by omega)
   rw [aj];grind
theorem ut {g:Nat→Rat} {n:Nat} (h:0<aj g n):∃i,i<n∧0<g i:=by
 induction n with
 | zero=>exact absurd h (by show ¬(0:Rat)<0;grind)
 | succ n ih=>
   rw [aj] at h;by_cases h1:0<g n
   ·exact ⟨n,by omega,h1⟩
   ·obtain ⟨i,hi,h2⟩:=ih (by grind)
    exact ⟨i,by omega,h2⟩
def bY (T:Nat→Nat→Rat) (i j:Nat):Nat→Nat→Rat:=fun r k=>if r=i then T i k/T i j else T r k-T r j*(T i k/T i j)
def cg (B:Nat→Nat) (i j:Nat):Nat→Nat:=fun r=>if r=i then j else B r
structure Tab (m n:Nat) (O T:Nat→Nat→Rat) (B:Nat→Nat):Prop where
 inv:∀i,i<m→∀k,k≤n+m→T i k=aj (fun r=>T i (n+r)*O r k) m
 back:∀r,r<m→∀k,k≤n+m→O r k=aj (fun i=>O r (B i)*T i k) m
 unit:∀i,i<m→∀r,r<m→T i (B r)=if i=r then 1 else 0
 lt:∀i,i<m→B i<n+m
section
variable {m n:Nat} {O T T':Nat→Nat→Rat} {B:Nat→Nat}
theorem Tab.start (hO:∀r,r<m→∀k,k<m→O r (n+k)=if r=k then 1 else 0):Tab m n O O (fun i=>n+i):=by
 refine ⟨fun i hi k _=>?_,fun r hr k _=>?_,fun i hi r hr=>hO i hi r hr,fun i hi=>by omega⟩
 ·rw [bM _ hi,hO i hi i hi,if_pos rfl,bu]
  ·grind
  ·intro r hr;by_cases h:r=i
   ·rw [if_pos h]
   ·rw [if_neg h,hO i hi r hr,if_neg (fun e=>h e.symm)];grind
 ·rw [bM _ hr,hO r hr r hr,if_pos rfl,bu]
  ·grind
  ·intro i hi;by_cases h:i=r
   ·rw [if_pos h]
   ·rw [if_neg h,hO r hr i hi,if_neg (fun e=>h e.symm)];grind
theorem Tab.pivot (h:Tab m n O T B) {i j:Nat} (hi:i<m) (hj:j<n+m) (hp:T i j≠0):Tab m n O (bY T i j) (cg B i j):=by
 have hpp:∀k,T i k/T i j*T i j=T i k:=fun k=>Rat.div_mul_cancel hp;refine ⟨fun r hr k hk=>?_,fun r hr k hk=>?_,fun r hr s hs=>?_,fun r hr=>?_⟩
 ·-- the rows stay combinations of the original ones
  have e:∀r,r<m→∀c:Rat,aj (fun l=>c*T r (n+l)*O l k) m=c*T r k:=fun r hr c=>by
   rw [h.inv r hr k hk,←bJ];exact ay fun l _=>by grind
  by_cases hri:r=i
  ·subst hri
   show (if r=r then T r k/T r j else _)=aj (fun l=>(if r=r then T r (n+l)/T r j else _)*O l k) m
   rw [if_pos rfl];have e2:=e r hr (1/T r j);have e3:aj (fun l=>(if r=r then T r (n+l)/T r j else T r (n+l)-T r j*(T r (n+l)/T r j))*O l k) m=aj (fun l=>1/T r j*T r (n+l)*O l k) m:=ay fun l _=>by
    rw [if_pos rfl,Rat.div_def,Rat.div_def];grind
   rw [e3,e2,Rat.div_def,Rat.div_def];grind
  ·show (if r=i then _ else T r k-T r j*(T i k/T i j))=aj (fun l=>(if r=i then _ else T r (n+l)-T r j*(T i (n+l)/T i j))*O l k) m
   rw [if_neg hri];have e2:=e r hr 1;have e3:=e i hi (T r j*(1/T i j));have e4:aj (fun l=>(if r=i then T i (n+l)/T i j else T r (n+l)-T r j*(T i (n+l)/T i j))*O l k) m=aj (fun l=>1*T r (n+l)*O l k) m-aj (fun l=>T r j*(1/T i j)*T i (n+l)*O l k) m:=by
    have:∀M,aj (fun l=>(if r=i then T i (n+l)/T i j else T r (n+l)-T r j*(T i (n+l)/T i j))*O l k) M=aj (fun l=>1*T r (n+l)*O l k) M-aj (fun l=>T r j*(1/T i j)*T i (n+l)*O l k) M:=by
     intro M
     induction M with
     | zero=>show (0:Rat)=0-0;grind
     | succ M ih=>rw [aj,aj,aj,ih,if_neg hri,Rat.div_def,Rat.div_def];grind
    exact this m
   rw [e4,e2,e3,Rat.div_def,Rat.div_def];grind
 ·-- and the original ones combinations of the rows
  have e1:=h.back r hr k hk;have e2:=h.back r hr j (by omega)
  rw [bM _ hi] at e1 e2;have e3:aj (fun l=>O r (cg B i j l)*bY T i j l k) m=O r j*(T i k/T i j)+aj (fun l=>if l=i then 0 else O r (B l)*(T l k-T l j*(T i k/T i j))) m:=by
   rw [bM _ hi];have a:O r (cg B i j i)*bY T i j i k=O r j*(T i k/T i j):=by rw [cg,if_pos rfl,bY,if_pos rfl]
   rw [a]
   congr 1
   refine ay fun l _=>?_;by_cases hl:l=i
   ·rw [if_pos hl,if_pos hl]
   ·rw [if_neg hl,if_neg hl,cg,if_neg hl,bY,if_neg hl]
  have e4:∀M,aj (fun l=>if l=i then 0 else O r (B l)*(T l k-T l j*(T i k/T i j))) M=aj (fun l=>if l=i then 0 else O r (B l)*T l k) M-aj (fun l=>if l=i then 0 else O r (B l)*T l j) M*(T i k/T i j):=by
   intro M
   induction M with
   | zero=>show (0:Rat)=0-0*_;grind
   | succ M ih=>
     rw [aj,aj,aj,ih];by_cases hl:M=i
     ·rw [if_pos hl,if_pos hl,if_pos hl];grind
     ·rw [if_neg hl,if_neg hl,if_neg hl];grind
  rw [e3,e4,e1];have hpk:=hpp k;generalize T i k/T i j=q at *;generalize aj (fun l=>if l=i then 0 else O r (B l)*T l k) m=a at *
  generalize aj (fun l=>if l=i then 0 else O r (B l)*T l j) m=b at *
  rw [e2,←hpk];grind
 ·show bY T i j r (cg B i j s)=_
  by_cases hsi:s=i
  ·subst hsi;rw [cg,if_pos rfl,bY];by_cases hrs:r=s
   ·rw [if_pos hrs,if_pos hrs];have:=hpp j;rw [Rat.div_def];exact Rat.mul_inv_cancel _ hp
   ·rw [if_neg hrs,if_neg hrs];have e:T s j/T s j=1:=by rw [Rat.div_def];exact Rat.mul_inv_cancel _ hp
    rw [e];grind
  ·rw [cg,if_neg hsi,bY];have e0:T i (B s)=0:=by rw [h.unit i hi s hs,if_neg (fun e=>hsi e.symm)]
   have e:T i (B s)/T i j=0:=by rw [e0,Rat.div_def];grind
   by_cases hri:r=i
   ·rw [if_pos hri,e,if_neg (by omega)]
   ·rw [if_neg hri,e,h.unit r hr s hs]
    grind
 ·rw [cg];split
  ·exact hj
  ·exact h.lt r hr
theorem Tab.unique (h:Tab m n O T B) (h':Tab m n O T' B) {i k:Nat} (hi:i<m) (hk:k≤n+m):T i k=T' i k:=by
 rw [h.inv i hi k hk];have e1:aj (fun r=>T i (n+r)*O r k) m=aj (fun r=>aj (fun l=>T i (n+r)*(O r (B l)*T' l k)) m) m:=ay fun r hr=>by
  rw [bJ,←h'.back r hr k hk]
 have e2:aj (fun l=>aj (fun r=>T i (n+r)*(O r (B l)*T' l k)) m) m=aj (fun l=>T i (B l)*T' l k) m:=ay fun l hl=>by
  have e3:=h.inv i hi (B l) (by have:=h.lt l hl;omega)
  rw [e3,Rat.mul_comm,←bJ];exact ay fun r _=>by grind
 rw [e1,fF,e2,bM _ hi,h.unit i hi i hi,if_pos rfl,bu]
 ·grind
 ·intro l hl;by_cases hli:l=i
  ·rw [if_pos hli]
  ·rw [if_neg hli,h.unit i hi l hl,if_neg (fun e=>hli e.symm)];grind
end
set_option maxRecDepth 100000
def bV (m:Nat) (c:Nat→Rat) (T:Nat→Nat→Rat) (B:Nat→Nat) (k:Nat):Rat:=aj (fun i=>c (B i)*T i k) m
def cE (m:Nat) (c:Nat→Rat) (T:Nat→Nat→Rat) (B:Nat→Nat) (k:Nat):Rat:=c k-bV m c T B k
structure Piv (m n most:Nat) (c:Nat→Rat) (T:Nat→Nat→Rat) (B:Nat→Nat) (s i:Nat):Prop where
 sm:s<most
 neg:cE m c T B s<0
 first:∀j,j<s→0≤cE m c T B j
 im:i<m
 pos:0<T i s
 least:∀r,r<m→0<T r s→T i (n+m)/T i s≤T r (n+m)/T r s
 tie:∀r,r<m→0<T r s→T i (n+m)/T i s=T r (n+m)/T r s→B i≤B r
section
variable {m n most:Nat} {O T T':Nat→Nat→Rat} {B B':Nat→Nat} {c:Nat→Rat}
theorem xS {i s:Nat} (hi:i<m) (hp:T i s≠0) (k:Nat):bV m c (bY T i s) (cg B i s) k=bV m c T B k+cE m c T B s*(T i k/T i s):=by
 have hpk:T i k/T i s*T i s=T i k:=Rat.div_mul_cancel hp;unfold bV cE bV;rw [bM (fun l=>c (cg B i s l)*bY T i s l k) hi,bM (fun l=>c (B l)*T l k) hi,bM (fun l=>c (B l)*T l s) hi];have a:c (cg B i s i)*bY T i s i k=c s*(T i k/T i s):=by rw [cg,if_pos rfl,bY,if_pos rfl]
 have e:∀M,aj (fun l=>if l=i then 0 else c (cg B i s l)*bY T i s l k) M=aj (fun l=>if l=i then 0 else c (B l)*T l k) M-aj (fun l=>if l=i then 0 else c (B l)*T l s) M*(T i k/T i s):=by
  intro M
  induction M with
  | zero=>show (0:Rat)=0-0*_;grind
  | succ M ih=>
    rw [aj,aj,aj,ih];by_cases hl:M=i
    ·rw [if_pos hl,if_pos hl,if_pos hl];grind
    ·rw [if_neg hl,if_neg hl,if_neg hl,cg,if_neg hl,bY,if_neg hl];grind
 rw [a,e];generalize T i k/T i s=q at *;rw [←hpk];grind
theorem vi {a b:Rat} (ha:0≤a) (hb:0<b):0≤a/b:=by
 rw [Rat.div_def];exact Rat.mul_nonneg ha (Rat.le_of_lt (Rat.inv_pos.2 hb))
theorem kt {a:Rat} (h:0<a):a≠0:=by grind
theorem po {s i:Nat} (h:Piv m n most c T B s i) (hf:∀r,r<m→0≤T r (n+m)):∀r,r<m→0≤bY T i s r (n+m):=by
 intro r hr;have hq:=vi (hf i h.im) h.pos;rw [bY]
 split
 ·exact hq
 ·have h1:=hf r hr;by_cases hp:0<T r s
  ·have h2:=Rat.mul_le_mul_of_nonneg_right (h.least r hr hp) (Rat.le_of_lt hp);rw [Rat.div_mul_cancel (kt hp)] at h2
   grind
  ·have h2:=Rat.mul_nonneg (show 0 ≤ - T r s by grind) hq
   grind
theorem jQ (h:Tab m n O T B) {i:Nat} (hi:i<m):cE m c T B (B i)=0:=by
 unfold cE bV;rw [bM _ hi,h.unit i hi i hi,if_pos rfl,bu]
 ·grind
 ·intro l hl;by_cases hli:l=i
  ·rw [if_pos hli]
  ·rw [if_neg hli,h.unit l hl i hi,if_neg hli];grind
theorem eG (h:Tab m n O T B) {i r:Nat} (hi:i<m) (hr:r<m) (e:B i=B r):i=r:=by
 have h1:=h.unit i hi i hi;rw [if_pos rfl,e,h.unit i hi r hr] at h1;by_cases hir:i=r
 ·exact hir
 ·rw [if_neg hir] at h1;exact absurd h1 (by decide)
theorem Bq (h:Tab m n O T B) (h':Tab m n O T' B') {s:Nat} (hs:s<n+m) :
 cE m c T' B' s-aj (fun i=>cE m c T' B' (B i)*T i s) m=cE m c T B s:=by
-- y = c_B' B'^-1
 have dot:∀k,k≤n+m→bV m c T' B' k=aj (fun r=>aj (fun i=>c (B' i)*T' i (n+r)) m*O r k) m:=by
  intro k hk;unfold bV;have e1:aj (fun i=>c (B' i)*T' i k) m=aj (fun i=>aj (fun r=>c (B' i)*T' i (n+r)*O r k) m) m:=ay fun i hi=>by
   rw [h'.inv i hi k hk,←bJ];exact ay fun r _=>by grind
  rw [e1,fF];refine ay fun r _=>?_;have:∀M,aj (fun i=>c (B' i)*T' i (n+r)*O r k) M=aj (fun i=>c (B' i)*T' i (n+r)) M*O r k:=by
   intro M
   induction M with
   | zero=>show (0:Rat)=0*_;grind
   | succ M ih=>rw [aj,aj,ih];grind
  exact this m
 obtain ⟨y,hy⟩:∃y:Nat→Rat,y=fun r=>aj (fun i=>c (B' i)*T' i (n+r)) m:=⟨_,rfl⟩;have dot2:∀k,k≤n+m→bV m c T' B' k=aj (fun r=>y r*O r k) m:=fun k hk=>by rw [dot k hk,hy]
 have e1:aj (fun i=>cE m c T' B' (B i)*T i s) m=bV m c T B s-aj (fun r=>y r*O r s) m:=by
  have e2:aj (fun i=>cE m c T' B' (B i)*T i s) m=aj (fun i=>c (B i)*T i s) m-aj (fun i=>aj (fun r=>y r*(O r (B i)*T i s)) m) m:=by
   have:∀M,M≤m→aj (fun i=>cE m c T' B' (B i)*T i s) M=aj (fun i=>c (B i)*T i s) M-aj (fun i=>aj (fun r=>y r*(O r (B i)*T i s)) m) M:=by
    intro M
    induction M with
    | zero=>intro _;show (0:Rat)=0-0;grind
    | succ M ih=>
      intro hM;have e3:aj (fun r=>y r*(O r (B M)*T M s)) m=aj (fun r=>y r*O r (B M)) m*T M s:=by
       have:∀K,aj (fun r=>y r*(O r (B M)*T M s)) K=aj (fun r=>y r*O r (B M)) K*T M s:=by
        intro K
        induction K with
        | zero=>show (0:Rat)=0*_;grind
        | succ K ih=>rw [aj,aj,ih];grind
       exact this m
      rw [aj,aj,aj,ih (by omega),e3,←dot2 (B M) (by have:=h.lt M (by omega);omega),cE]
      grind
   exact this m (Nat.le_refl _)
  rw [e2,fF]
  congr 1
  refine ay fun r hr=>?_;rw [bJ,←h.back r hr s (by omega)]
 rw [e1,cE,dot2 s (by omega),cE]
 grind
theorem Dp:∀K (f:Nat→Nat),(∀t,f t<K)→∃a b,a<b∧f a=f b:=by
 intro K
 induction K with
 | zero=>intro f h;exact absurd (h 0) (by omega)
 | succ K ih=>
   intro f h;by_cases h1:∃t,f t=K
   ·obtain ⟨t0,h1⟩:=h1;by_cases h2:∃t,t0<t∧f t=K
    ·obtain ⟨t1,h2,h3⟩:=h2;exact ⟨t0,t1,h2,by rw [h1,h3]⟩
    ·obtain ⟨a,b,h3,h4⟩:=ih (fun t=>f (t+t0+1)) fun t=>by
      have h5:=h (t+t0+1);have h6:f (t+t0+1)≠K:=fun e=>h2 ⟨t+t0+1,by omega,e⟩
      show f (t+t0+1)<K
      omega
     exact ⟨a+t0+1,b+t0+1,by omega,h4⟩
   ·exact ih f fun t=>by
     have h5:=h t;have h6:f t≠K:=fun e=>h1 ⟨t,e⟩;omega
def gO (K:Nat) (B:Nat→Nat):Nat→Nat
 | 0=>0
 | i+1=>gO K B i*K+B i
theorem Ar {K:Nat} {B:Nat→Nat}:∀m,(∀i,i<m→B i<K)→gO K B m<K^m:=by
 intro m
 induction m with
 | zero=>intro _;exact Nat.one_pos
 | succ m ih=>
   intro h;have h1:=ih fun i hi=>h i (by omega)
   have h2:=h m (by omega)
   rw [gO,Nat.pow_succ];have h3:(gO K B m+1)*K≤K^m*K:=Nat.mul_le_mul_right _ h1;rw [Nat.add_mul,Nat.one_mul] at h3;omega
theorem xW {K:Nat} {B B':Nat→Nat}:∀m,(∀i,i<m→B i<K)→(∀i,i<m→B' i<K)→gO K B m=gO K B' m→∀i,i<m→B i=B' i:=by
 intro m
 induction m with
 | zero=>intro _ _ _ i hi;omega
 | succ m ih=>
   intro h h' e i hi;have b1:=h m (by omega)
   have b2:=h' m (by omega)
   rw [gO,gO] at e;have e1:B m=B' m:=by
    have a1:(gO K B m*K+B m) % K=B m:=by rw [Nat.mul_comm,Nat.mul_add_mod,Nat.mod_eq_of_lt b1]
    have a2:(gO K B' m*K+B' m) % K=B' m:=by rw [Nat.mul_comm,Nat.mul_add_mod,Nat.mod_eq_of_lt b2]
    rw [←a1,←a2,e]
   have e2:gO K B m=gO K B' m:=by
    have:gO K B m*K=gO K B' m*K:=by omega
    exact Nat.eq_of_mul_eq_mul_right (by omega) this
   rcases Nat.lt_or_ge i m with h1|h1
   ·exact ih (fun i hi=>h i (by omega)) (fun i hi=>h' i (by omega)) e2 i h1
   ·obtain rfl:i=m:=by omega
    exact e1
theorem great (f:Nat→Nat) (a:Nat):∀k,∃t,a≤t∧t≤a+k∧∀u,a≤u→u≤a+k→f u≤f t:=by
 intro k
 induction k with
 | zero=>exact ⟨a,by omega,by omega,fun u h1 h2=>by obtain rfl:u=a:=(by omega);exact Nat.le_refl _⟩
 | succ k ih=>
   obtain ⟨t,h1,h2,h3⟩:=ih;by_cases h:f t≤f (a+(k+1))
   ·refine ⟨a+(k+1),by omega,by omega,fun u h4 h5=>?_⟩
    rcases Nat.lt_or_ge u (a+(k+1)) with h6|h6
    ·exact Nat.le_trans (h3 u h4 (by omega)) h
    ·obtain rfl:u=a+(k+1):=by omega
     exact Nat.le_refl _
   ·refine ⟨t,h1,by omega,fun u h4 h5=>?_⟩
    rcases Nat.lt_or_ge u (a+(k+1)) with h6|h6
    ·exact h3 u h4 (by omega)
    ·obtain rfl:u=a+(k+1):=by omega
     omega
end
section
variable {m n most:Nat} {O:Nat→Nat→Rat} {c:Nat→Rat} {T:Nat→Nat→Nat→Rat} {B:Nat→Nat→Nat} {s l:Nat→Nat}
structure Run (m n most:Nat) (O:Nat→Nat→Rat) (c:Nat→Rat) (T:Nat→Nat→Nat→Rat) (B:Nat→Nat→Nat) (s l:Nat→Nat):Prop where
 tab:∀t,Tab m n O (T t) (B t)
 piv:∀t,Piv m n most c (T t) (B t) (s t) (l t)
 nT:∀t,T (t+1)=bY (T t) (l t) (s t)
 nB:∀t,B (t+1)=cg (B t) (l t) (s t)
 feas:∀i,i<m→0≤T 0 i (n+m)
theorem Run.fe (h:Run m n most O c T B s l):∀t i,i<m→0≤T t i (n+m):=by
 intro t
 induction t with
 | zero=>exact h.feas
 | succ t ih=>rw [h.nT];exact po (h.piv t) ih
theorem Run.val (h:Run m n most O c T B s l) (t:Nat):bV m c (T (t+1)) (B (t+1)) (n+m)=bV m c (T t) (B t) (n+m)+cE m c (T t) (B t) (s t)*(T t (l t) (n+m)/T t (l t) (s t)):=by
 rw [h.nT,h.nB];exact xS (h.piv t).im (kt (h.piv t).pos) _
theorem Run.le (h:Run m n most O c T B s l) (t:Nat):bV m c (T (t+1)) (B (t+1)) (n+m)≤bV m c (T t) (B t) (n+m):=by
 rw [h.val t];have h1:=vi (h.fe t _ (h.piv t).im) (h.piv t).pos;have h2:=Rat.mul_nonneg (show 0 ≤ - cE m c (T t) (B t) (s t) by have:=(h.piv t).neg;grind) h1
 grind
theorem Run.le' (h:Run m n most O c T B s l) (a:Nat):∀k,bV m c (T (a+k)) (B (a+k)) (n+m)≤bV m c (T a) (B a) (n+m):=by
 intro k
 induction k with
 | zero=>exact Rat.le_refl
 | succ k ih=>exact Rat.le_trans (h.le (a+k)) ih
theorem Run.still (h:Run m n most O c T B s l) {a b:Nat} (he:bV m c (T a) (B a) (n+m)=bV m c (T b) (B b) (n+m)) {t:Nat} (h1:a≤t) (h2:t<b) :
 T t (l t) (n+m)=0∧∀r,r<m→T (t+1) r (n+m)=T t r (n+m):=by
 obtain ⟨k,rfl⟩:=Nat.exists_eq_add_of_le h1;obtain ⟨d,hd⟩:=Nat.exists_eq_add_of_le (show a+k+1≤b from h2);have a1:=h.le' a k;have a2:=h.le' (a+k+1) d;rw [←hd,←he] at a2;have a3:=h.val (a+k);have hneg:=(h.piv (a+k)).neg;have hpos:=(h.piv (a+k)).pos;have hq:=vi (h.fe (a+k) _ (h.piv (a+k)).im) hpos;have hq0:T (a+k) (l (a+k)) (n+m)/T (a+k) (l (a+k)) (s (a+k))=0:=by
  generalize T (a+k) (l (a+k)) (n+m)/T (a+k) (l (a+k)) (s (a+k))=q at *;have e:cE m c (T (a+k)) (B (a+k)) (s (a+k))*q ≥ 0:=by grind
  have e2:=Rat.mul_nonneg (show 0 ≤ - cE m c (T (a+k)) (B (a+k)) (s (a+k)) by grind) hq
  have e3:cE m c (T (a+k)) (B (a+k)) (s (a+k))*q=0:=by grind
  rcases Rat.mul_eq_zero.1 e3 with h|h
  ·grind
  ·exact h
 have hz:T (a+k) (l (a+k)) (n+m)=0:=by
  have:=Rat.div_mul_cancel (a:=T (a+k) (l (a+k)) (n+m)) (kt hpos);rw [hq0] at this;grind
 refine ⟨hz,fun r hr=>?_⟩;rw [h.nT,bY,hq0]
 split
 ·rename_i e;rw [e,hz]
 ·grind
theorem Run.false (h:Run m n most O c T B s l) (hm:most≤n):False:=by
-- two equal bases
 obtain ⟨a,b,hab,hc⟩:=Dp ((n+m)^m) (fun t=>gO (n+m) (B t) m) fun t=>Ar m fun i hi=>(h.tab t).lt i hi;have hB:∀i,i<m→B a i=B b i:=xW m (fun i hi=>(h.tab a).lt i hi) (fun i hi=>(h.tab b).lt i hi) hc;have tb:Tab m n O (T b) (B a):=by
  have k:=h.tab b;refine ⟨k.inv,fun r hr j hj=>?_,fun i hi r hr=>?_,fun i hi=>by rw [hB i hi];exact k.lt i hi⟩
  ·rw [k.back r hr j hj];exact ay fun i hi=>by rw [hB i hi]
  ·rw [hB r hr];exact k.unit i hi r hr
 have hTT:∀i,i<m→∀j,j≤n+m→T a i j=T b i j:=fun i hi j hj=>(h.tab a).unique tb hi hj;have hv:bV m c (T a) (B a) (n+m)=bV m c (T b) (B b) (n+m):=ay fun i hi=>by rw [hB i hi,hTT i hi _ (Nat.le_refl _)]
 have still:=fun t h1 h2=>h.still hv (t:=t) h1 h2;have const:∀k,a+k≤b→∀r,r<m→T (a+k) r (n+m)=T a r (n+m):=by
  intro k
  induction k with
  | zero=>intro _ r _;rfl
  | succ k ih=>intro hk r hr;rw [show a+(k+1)=a+k+1 by omega,(still (a+k) (by omega) (by omega)).2 r hr];exact ih (by omega) r hr
 have const':∀t,a≤t→t≤b→∀r,r<m→T t r (n+m)=T a r (n+m):=fun t h1 h2 r hr=>by
  obtain ⟨k,rfl⟩:=Nat.exists_eq_add_of_le h1;exact const k h2 r hr
-- who is in the basis
 have up:∀v,(∀t,a≤t→t<b→B t (l t)≠v)→∀t,a≤t→∀k,t+k≤b→(∃i,i<m∧B t i=v)→∃i,i<m∧B (t+k) i=v:=by
  intro v hno t ht k
  induction k with
  | zero=>intro _ h1;exact h1
  | succ k ih=>
    intro hk h1;obtain ⟨i,hi,h2⟩:=ih (by omega) h1
    refine ⟨i,hi,?_⟩;rw [show t+(k+1)=t+k+1 by omega,h.nB,cg,if_neg]
    ·exact h2
    ·rintro rfl;exact hno (t+k) (by omega) (by omega) h2
 have down:∀v,(∀t,a≤t→t<b→s t≠v)→∀t,a≤t→∀k,t+k≤b→(∃i,i<m∧B (t+k) i=v)→∃i,i<m∧B t i=v:=by
  intro v hno t ht k
  induction k with
  | zero=>intro _ h1;exact h1
  | succ k ih=>
    intro hk h1;obtain ⟨i,hi,h2⟩:=h1;rw [show t+(k+1)=t+k+1 by omega,h.nB,cg] at h2
    by_cases hil:i=l (t+k)
    ·rw [if_pos hil] at h2;exact absurd h2 (hno (t+k) (by omega) (by omega))
    ·rw [if_neg hil] at h2;exact ih (by omega) ⟨i,hi,h2⟩
 have entering:∀t i,i<m→B t i≠s t:=fun t i hi e=>by
  have h1:=(h.piv t).neg;rw [←e,jQ (h.tab t) hi] at h1;exact absurd h1 (by grind)
-- the greatest column that enters
 obtain ⟨u,hu1,hu2,hu3⟩:=great s a (b-1-a);have hub:u<b:=by omega
 have hmax:∀t,a≤t→t<b→s t≤s u:=fun t h1 h2=>hu3 t h1 (by omega)
-- it leaves somewhere
 obtain ⟨w,hw1,hw2,hw3⟩:∃w,a≤w∧w<b∧B w (l w)=s u:=by
  apply Classical.byContradiction
  intro hno;have hno':∀t,a≤t→t<b→B t (l t)≠s u:=fun t h1 h2 e=>hno ⟨t,h1,h2,e⟩;have h1:∃i,i<m∧B (u+1) i=s u:=⟨l u,(h.piv u).im,by rw [h.nB,cg,if_pos rfl]⟩
  have h2:=up (s u) hno' (u+1) (by omega) (b-(u+1)) (by omega) h1
  rw [show u+1+(b-(u+1))=b by omega] at h2
  obtain ⟨i,hi,h3⟩:=h2;rw [←hB i hi] at h3;obtain ⟨j,hj,h4⟩:=up (s u) hno' a (Nat.le_refl _) (u-a) (by omega) ⟨i,hi,h3⟩
  rw [show a+(u-a)=u by omega] at h4
  exact entering u j hj h4
 have pw:=h.piv w;have pu:=h.piv u;have hsm:s w<most:=pw.sm;have h2:=Bq (c:=c) (h.tab w) (h.tab u) (show s w<n+m by omega)
 have hsw:s w≠s u:=fun e=>entering w (l w) pw.im (by rw [hw3,e])
 have hlt:s w<s u:=by have:=hmax w hw1 hw2;omega
 have h3:=pu.first (s w) hlt
 have h4:=pw.neg;obtain ⟨i,hi,h5⟩:=ut (g:=fun i=>cE m c (T u) (B u) (B w i)*T w i (s w)) (n:=m) (by grind)
 have h5:0<cE m c (T u) (B u) (B w i)*T w i (s w):=h5;have hir:B w i≠s u:=by
  intro e;have:i=l w:=eG (h.tab w) hi pw.im (by rw [e,hw3])
  subst this;rw [e] at h5;have:=Rat.mul_nonneg (show 0 ≤ - cE m c (T u) (B u) (s u) by have:=pu.neg;grind) (Rat.le_of_lt pw.pos)
  grind
 have hnb:∀j,j<m→B u j≠B w i:=fun j hj e=>by
  rw [←e,jQ (h.tab u) hj] at h5;exact absurd h5 (by grind)
-- so it enters in the cycle
 obtain ⟨v,hv1,hv2,hv3⟩:∃v,a≤v∧v<b∧s v=B w i:=by
  apply Classical.byContradiction
  intro hno;have hno':∀t,a≤t→t<b→s t≠B w i:=fun t h1 h2 e=>hno ⟨t,h1,h2,e⟩;have k1:∃j,j<m∧B w j=B w i:=⟨i,hi,rfl⟩;have k2:=down _ hno' a (Nat.le_refl _) (w-a) (by omega) (by rw [show a+(w-a)=w by omega];exact k1)
  obtain ⟨j,hj,k3⟩:=k2;rw [hB j hj] at k3;obtain ⟨j',hj',k4⟩:=down _ hno' u (by omega) (b-u) (by omega) (by rw [show u+(b-u)=b by omega];exact ⟨j,hj,k3⟩)
  exact hnb j' hj' k4
 have hlt2:B w i<s u:=by
  have:=hmax v hv1 hv2;omega
 have h6:=pu.first _ hlt2
 have h7:0<T w i (s w):=by
  apply Classical.byContradiction
  intro k;have:=Rat.mul_nonneg h6 (show 0 ≤ - T w i (s w) by grind)
  grind
-- its row has moved, so its value is 0
 have h8:T w i (n+m)=0:=by
  obtain ⟨t,t1,t2,t3⟩:∃t,a≤t∧t<b∧l t=i:=by
   apply Classical.byContradiction
   intro hno;have same:∀t,a≤t→∀k,t+k≤b→B (t+k) i=B t i:=by
    intro t ht k
    induction k with
    | zero=>intro _;rfl
    | succ k ih=>
      intro hk;rw [show t+(k+1)=t+k+1 by omega,h.nB,cg,if_neg (fun e=>hno ⟨t+k,by omega,by omega,e.symm⟩)]
      exact ih (by omega)
   have q1:=same a (Nat.le_refl _) (w-a) (by omega)
   have q2:=same a (Nat.le_refl _) (u-a) (by omega)
   rw [show a+(w-a)=w by omega] at q1
   rw [show a+(u-a)=u by omega] at q2
   exact hnb i hi (by rw [q2,q1])
  have q:=(still t t1 t2).1;rw [t3] at q;rw [const' w hw1 (by omega) i hi,←const' t t1 (by omega) i hi]
  exact q
 have h9:T w (l w) (n+m)=0:=(still w hw1 hw2).1;have h10:=pw.tie i hi h7 (by rw [h8,h9,Rat.div_def,Rat.div_def];grind)
 rw [hw3] at h10;omega
end
end Go.Proofs.YtkpfbekmaafehaaGreat
