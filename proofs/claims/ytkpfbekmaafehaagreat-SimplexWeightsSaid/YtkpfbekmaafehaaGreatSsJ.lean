/- The certificates of a tableau have small numbers with a small common denominator -/
import Derived.Test.YtkpfbekmaafehaaGreatFrC
import Derived.Test.YtkpfbekmaafehaaGreatSrD
import Derived.Test.YtkpfbekmaafehaaGreatSqN
import Derived.Test.YtkpfbekmaafehaaGreatSpB
namespace Go.Proofs.YtkpfbekmaafehaaGreat
set_option maxRecDepth 100000
def Cd (N:Nat) (f:Nat->Rat) (E:Nat):Prop:=∃D:Nat,0<D/\D<=2^E/\∀k,k<N->∃z:Int,((D:Nat):Rat)*f k=((z:Int):Rat)/\z.natAbs<=2^E
theorem Cm {x:Rat} {D:Nat} {z:Int} (h:((D:Nat):Rat)*x=((z:Int):Rat)):x.den∣D:=by
 have h1:=dE x;have e:(D:Int)*x.num=z*(x.den:Int):=by
  have e2:(((D:Int)*x.num:Int):Rat)=((z*(x.den:Int):Int):Rat):=by
   rw [Rat.intCast_mul,Rat.intCast_mul,<-h,<-h1];have c:(((x.den:Nat):Int):Rat)=((x.den:Nat):Rat):=rfl;have c2:(((D:Nat):Int):Rat)=((D:Nat):Rat):=rfl;rw [c,c2];grind
  exact_mod_cast e2
 have e3:D*x.num.natAbs=z.natAbs*x.den:=by
  have:=congrArg Int.natAbs e;rw [Int.natAbs_mul,Int.natAbs_mul,Int.natAbs_natCast,Int.natAbs_natCast] at this;exact this
 exact Nat.Coprime.dvd_of_dvd_mul_right x.reduced.symm ⟨z.natAbs,by rw [e3,Nat.mul_comm]⟩
theorem mU {f:Nat->Rat} {D:Nat}:∀n,(∀k,k<n->(f k).den∣D)->eV f n∣D
 | 0,_=>⟨D,(Nat.one_mul D).symm⟩
 | n+1,h=>Nat.lcm_dvd (mU n fun k hk=>h k (by omega)) (h n (by omega))
theorem Cd.md {vs:List Fx} {f:Nat->Rat} {N E:Nat} (h:Cd N f E) (hN:vs.length=N) (hE:E<1024) (hv:∀k (h:k<vs.length),vs[k].v/\vs[k].q=f k):Md vs:=by
 obtain ⟨D,h0,h1,h2⟩:=h;have hf:∀k,k<vs.length->fxV vs k=f k:=fun k hk=>by rw [ku hk];exact (hv k hk).2
 have hd:∀k,k<vs.length->(fxV vs k).den∣D:=fun k hk=>by
  obtain ⟨z,e,_⟩:=h2 k (by omega)
  rw [hf k hk];exact Cm e
 refine ⟨fun k hk=>⟨(hv k hk).1,?_⟩,?_⟩
 ·obtain ⟨z,e,hz⟩:=h2 k (by omega)
  rw [(hv k hk).2];have b:=kO (d:=(D:Int)) (by omega) e
  rw [Int.natAbs_natCast] at b;exact mg (by omega) ⟨Nat.le_trans b.1 hz,Nat.le_trans b.2 h1⟩
 ·exact iG (Nat.le_trans (Nat.le_of_dvd h0 (mU _ hd)) h1) (by omega)
theorem DI {q:Rat} {E:Nat} (h:BdR q (2^E) (2^E)):Cd 1 (fun _=>q) E:=⟨q.den,q.den_pos,h.2,fun _ _=>⟨q.num,dE q,h.1⟩⟩
section
variable {m n:Nat} {O T:Nat->Nat->Rat} {B:Nat->Nat} {x:St} {c:Nat->Rat}
def jX (m:Nat) (O:Nat->Nat->Rat) (B:Nat->Nat):Nat:=pr1 (fun k=>bh m O (B k)) m
theorem me (h:Tab m n O T B) (hz:cZ m (cW O B)≠0):∃N2:Nat,0<N2/\N2<=jX m O B /\
 ∀i,i<m->∀j,j<=n+m->∃N:Int,((N2:Nat):Rat)*((da m O j:Nat):Rat)*T i j=((N:Int):Rat)/\N.natAbs<=jX m O B*bh m O j:=by
 have hq:∀(V:Nat->Nat->Rat) k r,(((V k r).den:Nat):Rat)*V k r=(((V k r).num:Int):Rat):=fun V k r=>dE (V k r);obtain ⟨N2,h1,h2⟩:=kS m (cW O B) (fun k r=>(cW O B k r).den) (fun k r=>(cW O B k r).num) (hq _);have hD:pr1 (fun k=>pr1 (fun r=>(cW O B k r).den) m) m=pr1 (fun k=>da m O (B k)) m:=rfl;have hW:pr1 (fun k=>pr1 (fun r=>(cW O B k r).den+(cW O B k r).num.natAbs) m) m=jX m O B:=rfl;rw [hD] at h1;rw [hW] at h2;have hDp:0<pr1 (fun k=>da m O (B k)) m:=jS m fun k _=>gJ m O (B k);have hN0:N2≠0:=by
  rintro rfl;rcases Rat.mul_eq_zero.1 h1 with k|k
  ·have:pr1 (fun k=>da m O (B k)) m=0:=by exact_mod_cast k
   omega
  ·exact hz k
 have main:∀i,i<m->∀j,j<=n+m->∃N:Int,((N2:Int):Rat)*((da m O j:Nat):Rat)*T i j=((N:Int):Rat)/\N.natAbs<=jX m O B*bh m O j:=fun i hi j hj=>by
  obtain ⟨N1,k1,k2⟩:=kS m (bQ (cW O B) i (fun r=>O r j)) (fun k r=>(bQ (cW O B) i (fun r=>O r j) k r).den) (fun k r=>(bQ (cW O B) i (fun r=>O r j) k r).num) (hq _);have part:∀f:Rat->Nat,∀k,pr1 (fun r=>f (bQ (cW O B) i (fun r=>O r j) k r)) m=if k=i then pr1 (fun r=>f (O r j)) m else pr1 (fun r=>f (O r (B k))) m:=fun f k=>by
   by_cases hk:k=i
   ·subst hk;rw [if_pos rfl,cA]
   ·rw [if_neg hk,bS _ _ hk];rfl
  have eD:pr1 (fun k=>pr1 (fun r=>(bQ (cW O B) i (fun r=>O r j) k r).den) m) m=da m O j*pr1 (fun k=>if k=i then 1 else da m O (B k)) m:=by
   rw [d8 (g:=fun k=>if k=i then da m O j else da m O (B k)) m fun k _=>part Rat.den k,dl _ hi,if_pos rfl]
   congr 1
   exact d8 m fun k _=>by split <;> rfl
  have eW:pr1 (fun k=>pr1 (fun r=>(bQ (cW O B) i (fun r=>O r j) k r).den+(bQ (cW O B) i (fun r=>O r j) k r).num.natAbs) m) m=bh m O j*pr1 (fun k=>if k=i then 1 else bh m O (B k)) m:=by
   show pr1 (fun k=>pr1 (fun r=>wtR (bQ (cW O B) i (fun r=>O r j) k r)) m) m=_
   rw [d8 (g:=fun k=>if k=i then bh m O j else bh m O (B k)) m fun k _=>part wtR k,dl _ hi,if_pos rfl]
   congr 1
   exact d8 m fun k _=>by split <;> rfl
  rw [eD,kj h hi hj] at k1;rw [eW] at k2;have oD:=dl (fun k=>da m O (B k)) hi;have oW:=dl (fun k=>bh m O (B k)) hi;refine ⟨N1*(da m O (B i):Int),?_,?_⟩
  ·rw [<-h1,oD,Rat.intCast_mul,<-k1,Rat.natCast_mul,Rat.natCast_mul];have c1:(((da m O (B i):Nat):Int):Rat)=((da m O (B i):Nat):Rat):=rfl;rw [c1];generalize ((da m O (B i):Nat):Rat)=x1;generalize ((da m O j:Nat):Rat)=x2;generalize ((pr1 (fun k=>if k=i then 1 else da m O (B k)) m:Nat):Rat)=x3
   generalize cZ m (cW O B)=x4
   grind
  ·rw [Int.natAbs_mul,Int.natAbs_natCast];have a1:=Nat.mul_le_mul k2 (jf m O (B i));refine Nat.le_trans a1 ?_;have a2:bh m O j*pr1 (fun k=>if k=i then 1 else bh m O (B k)) m*bh m O (B i)=jX m O B*bh m O j:=by rw [jX,oW];grind
   rw [a2];exact Nat.le_refl _
-- the sign of N2 is moved to the numerators
 refine ⟨N2.natAbs,by omega,h2,fun i hi j hj=>?_⟩
 obtain ⟨N,e,hN⟩:=main i hi j hj;rcases Int.natAbs_eq N2 with k|k
 ·refine ⟨N,?_,hN⟩;have c1:((N2.natAbs:Nat):Rat)=((N2:Int):Rat):=by
   have:(((N2.natAbs:Nat):Int):Rat)=((N2:Int):Rat):=by rw [<-k]
   exact this
  rw [c1];exact e
 ·refine ⟨-N,?_,by rw [Int.natAbs_neg];exact hN⟩
  have c1:((N2.natAbs:Nat):Rat) = - ((N2:Int):Rat):=by
   have:(((N2.natAbs:Nat):Int):Rat)=((-N2:Int):Rat):=by rw [show ((N2.natAbs:Nat):Int) = -N2 from by omega]
   rw [Rat.intCast_neg] at this;exact this
  rw [c1,Rat.intCast_neg,<-e];grind
theorem AE (h:Tab m n O T B) {t:Nat} (ht:t<n+m) (hn:∀i,i<m->B i≠t):jX m O B*bh m O t<=pr1 (bh m O) (n+m):=by
 have e:jX m O B*bh m O t=pr1 (fun k=>bh m O ((fun k=>if k<m then B k else t) k)) (m+1):=by
  rw [pr1];have e1:(fun k=>if k<m then B k else t) m=t:=if_neg (Nat.lt_irrefl m)
  rw [e1]
  congr 1
  exact d8 m fun k hk=>by
   have e2:(fun k=>if k<m then B k else t) k=B k:=if_pos hk
   rw [e2]
 rw [e];refine kL (m+1) (fun k=>if k<m then B k else t) (bh m O) (n+m) (fun i _=>?_) (fun i hi r hr he=>?_) (pB m O)
 ·show (if i<m then B i else t)<n+m
  split
  ·exact h.lt i (by assumption)
  ·exact ht
 ·replace he:(if i<m then B i else t)=(if r<m then B r else t):=he
  by_cases h1:i<m
  ·by_cases h2:r<m
   ·rw [if_pos h1,if_pos h2] at he;exact i9 h h1 h2 he
   ·rw [if_pos h1,if_neg h2] at he;exact absurd he (hn i h1)
  ·by_cases h2:r<m
   ·rw [if_neg h1,if_pos h2] at he;exact absurd he.symm (hn r h2)
   ·omega
theorem AI (h:Tab m n O T B):jX m O B<=pr1 (bh m O) (n+m):=
 kL m B (bh m O) (n+m) h.lt (fun _ hi _ hr e=>i9 h hi hr e) (pB m O)
theorem sC {B:Nat->Nat} (v:Nat->Rat) {i j:Nat} (hi:i<m) (hinj:∀i,i<m->∀r,r<m->B i=B r->i=r) (e:B i=j):aj (fun k=>if B k=j then v k else 0) m=v i:=by
 rw [bM _ hi,if_pos e,bu fun k hk=>by
  by_cases hk2:k=i
  ·rw [if_pos hk2]
  ·rw [if_neg hk2,if_neg (fun e2=>hk2 (hinj k hk i hi (e2.trans e.symm)))]]
 exact Rat.add_zero _
theorem oI {B:Nat->Nat} (v:Nat->Rat) {j:Nat} (hn:∀i,i<m->B i≠j):aj (fun k=>if B k=j then v k else 0) m=0:=bu fun k hk=>if_neg (hn k hk)
theorem At (h:Tab m n O T B) (hz:cZ m (cW O B)≠0) {E:Nat} (hE:pr1 (bh m O) (n+m)*bh m O (n+m)<=2^E):Cd n (jk m T B (n+m)) E:=by
 obtain ⟨N2,k0,k1,k2⟩:=me h hz;have hb:jX m O B*bh m O (n+m)<=2^E:=Nat.le_trans (Nat.mul_le_mul_right _ (AI h)) hE;refine ⟨N2*da m O (n+m),Nat.mul_pos k0 (gJ m O _),Nat.le_trans (Nat.mul_le_mul k1 (jf m O _)) hb,fun j _=>?_⟩;by_cases hex:∃i,i<m/\B i=j
 ·obtain ⟨i,hi,e⟩:=hex;obtain ⟨N,e1,e2⟩:=k2 i hi (n+m) (Nat.le_refl _);refine ⟨N,?_,Nat.le_trans e2 hb⟩;rw [jk,sC (fun i=>T i (n+m)) hi (fun _ a _ b e=>i9 h a b e) e,Rat.natCast_mul];exact e1
 ·refine ⟨0,?_,Nat.zero_le _⟩;rw [jk,oI (fun i=>T i (n+m)) (fun i hi e=>hex ⟨i,hi,e⟩),Rat.mul_zero];rfl
theorem DH (h:Tab m n O T B) (hz:cZ m (cW O B)≠0) {t E:Nat} (ht:t<n+m) (hn:∀i,i<m->B i≠t) (hE:pr1 (bh m O) (n+m)<=2^E):Cd n (fT m T B t) E:=by
 obtain ⟨N2,k0,k1,k2⟩:=me h hz;have hb:jX m O B*bh m O t<=2^E:=Nat.le_trans (AE h ht hn) hE;have hD:N2*da m O t<=2^E:=Nat.le_trans (Nat.mul_le_mul k1 (jf m O _)) hb;refine ⟨N2*da m O t,Nat.mul_pos k0 (gJ m O _),hD,fun j _=>?_⟩;by_cases hjt:j=t
 ·refine ⟨((N2*da m O t:Nat):Int),?_,by rw [Int.natAbs_natCast];exact hD⟩
  subst hjt;rw [fT,if_pos rfl,oI (fun i=>T i j) hn];have c:((((N2*da m O j:Nat):Int)):Rat)=((N2*da m O j:Nat):Rat):=rfl;rw [c];grind
 ·by_cases hex:∃i,i<m/\B i=j
  ·obtain ⟨i,hi,e⟩:=hex;obtain ⟨N,e1,e2⟩:=k2 i hi t (by omega)
   refine ⟨-N,?_,by rw [Int.natAbs_neg];exact Nat.le_trans e2 hb⟩
   rw [fT,if_neg hjt,sC (fun i=>T i t) hi (fun _ a _ b e=>i9 h a b e) e,Rat.natCast_mul,Rat.intCast_neg,<-e1]
   grind
  ·refine ⟨0,?_,Nat.zero_le _⟩;rw [fT,if_neg hjt,oI (fun i=>T i t) (fun i hi e=>hex ⟨i,hi,e⟩)];have:((0:Int):Rat)=0:=rfl;rw [this];grind
theorem DJ (h:Tab m n O T B) (hz:cZ m (cW O B)≠0) (c:Nat->Rat):∃D:Nat,0<D/\D<=pr1 (fun i=>wtR (c (B i))) m*jX m O B/\∀j,j<=n+m->da m O j=1->∃z:Int,((D:Nat):Rat)*bV m c T B j=((z:Int):Rat)/\z.natAbs<=m*(pr1 (fun i=>wtR (c (B i))) m*(jX m O B*bh m O j)):=by
 obtain ⟨N2,k0,k1,k2⟩:=me h hz;obtain ⟨Dc,hDc⟩:∃Dc,Dc=pr1 (fun i=>(c (B i)).den) m:=⟨_,rfl⟩;have hDp:0<Dc:=by rw [hDc];exact jS m fun i _=>(c (B i)).den_pos
 have hDw:Dc<=pr1 (fun i=>wtR (c (B i))) m:=by rw [hDc];exact fN m fun i _=>Nat.le_add_right _ _
 refine ⟨Dc*N2,Nat.mul_pos hDp k0,Nat.mul_le_mul hDw k1,fun j hj hcd=>?_⟩;have hN:∀i,∃N:Int,i<m->((N2:Nat):Rat)*T i j=((N:Int):Rat)/\N.natAbs<=jX m O B*bh m O j:=fun i=>by
  by_cases hi:i<m
  ·obtain ⟨N,a,b⟩:=k2 i hi j hj;rw [hcd] at a;have c1:((1:Nat):Rat)=1:=rfl;rw [c1,Rat.mul_one] at a;exact ⟨N,fun _=>⟨a,b⟩⟩
  ·exact ⟨0,fun k=>absurd k hi⟩
 obtain ⟨Nf,hN⟩:=Classical.axiomOfChoice hN;obtain ⟨Q,hQ⟩:∃Q:Nat->Nat,Q=fun i=>pr1 (fun k=>if k=i then 1 else (c (B k)).den) m:=⟨_,rfl⟩
 have hDQ:∀i,i<m->Dc=(c (B i)).den*Q i:=fun i hi=>by rw [hDc,dl (fun k=>(c (B k)).den) hi,hQ]
 have hQw:∀i,i<m->(c (B i)).num.natAbs*Q i<=pr1 (fun i=>wtR (c (B i))) m:=fun i hi=>by
  rw [dl (fun i=>wtR (c (B i))) hi,hQ];refine Nat.mul_le_mul (Nat.le_add_left _ _) (fN m fun k _=>?_)
  split
  ·exact Nat.le_refl _
  ·exact Nat.le_add_right _ _
 refine ⟨sI (fun i=>(c (B i)).num*(Q i:Int)*Nf i) m,?_,?_⟩
 ·rw [mh,bV,<-bJ];refine ay fun i hi=>?_;have e1:=(hN i hi).1;have e2:=dE (c (B i));rw [Rat.intCast_mul,Rat.intCast_mul,<-e1,<-e2,Rat.natCast_mul,hDQ i hi,Rat.natCast_mul];have c2:(((Q i:Nat):Int):Rat)=((Q i:Nat):Rat):=rfl;rw [c2];generalize (((c (B i)).den:Nat):Rat)=a1;generalize ((Q i:Nat):Rat)=a2;generalize ((N2:Nat):Rat)=a4;generalize c (B i)=a5;generalize T i j=a6
  grind
 ·refine Nat.le_trans (oJ _ _) ?_;have b1:∀i,i<m->((c (B i)).num*(Q i:Int)*Nf i).natAbs<=pr1 (fun i=>wtR (c (B i))) m*(jX m O B*bh m O j):=fun i hi=>by
   rw [Int.natAbs_mul,Int.natAbs_mul,Int.natAbs_natCast];exact Nat.mul_le_mul (hQw i hi) (hN i hi).2
  refine Nat.le_trans (qZ (g:=fun _=>pr1 (fun i=>wtR (c (B i))) m*(jX m O B*bh m O j)) m b1) ?_;have:∀(K:Nat) M,bG (fun _=>K) M=M*K:=by
   intro K M
   induction M with
   | zero=>show 0=0*K;omega
   | succ M ih=>rw [bG,ih,Nat.add_mul,Nat.one_mul]
  rw [this];exact Nat.le_refl _
theorem Aq (hO:∀r,r<m->∀k,k<m->O r (n+k)=if r=k then 1 else 0) {k:Nat} (hk:k<m):da m O (n+k)=1:=by
 have:∀M,M<=m->pr1 (fun r=>(O r (n+k)).den) M=1:=by
  intro M
  induction M with
  | zero=>intro _;rfl
  | succ M ih=>
    intro hM;rw [pr1,ih (by omega),hO M (by omega) k hk]
    split <;> rfl
 exact this m (Nat.le_refl _)
theorem xx (t:Bool):sgT t=1\/sgT t = -1:=by
 cases t with
 | true=>exact Or.inr (if_pos rfl)
 | false=>exact Or.inl (if_neg (by decide))
theorem As {A:Nat->Nat->Rat} {b:Nat->Rat} (h:Okx m n (dG m n A b) x) {a V E:Nat} (hm:m<=32) (ha:pr1 (bh m (dG m n A b)) (n+m)<=2^a) (hV:pr1 (fun i=>wtR (c (x.B i))) m<=2^V) (hE:V+a+6<=E):Cd m (kr m n b c x) E:=by
 obtain ⟨D,d0,d1,d2⟩:=DJ h.tab h.nz c;have hb:=Nat.le_trans (AI h.tab) ha;have up:∀ {u:Nat},u<=E->2^u<=2^E:=fun hu=>Nat.pow_le_pow_right (by omega) hu
 refine ⟨D,d0,Nat.le_trans d1 (Nat.le_trans (Nat.mul_le_mul hV hb) (by rw [<-Nat.pow_add];exact up (by omega))),fun r hr=>?_⟩
 obtain ⟨z,e1,e2⟩:=d2 (n+r) (by omega) (Aq iW hr)
 have hz:z.natAbs<=2^E:=by
  refine Nat.le_trans e2 ?_;rw [pC iW hr];refine Nat.le_trans (Nat.mul_le_mul (show m<=2^5 by omega) (Nat.mul_le_mul hV (Nat.mul_le_mul hb (show 2<=2^1 by omega)))) ?_
  rw [<-Nat.pow_add,<-Nat.pow_add,<-Nat.pow_add];exact up (by omega)
 rw [kr,nf];rcases xx (decide (b r<0)) with k|k
 ·exact ⟨z,by rw [k,Rat.one_mul];exact e1,hz⟩
 ·exact ⟨-z,by rw [k,Rat.intCast_neg,<-e1];grind,by rw [Int.natAbs_neg];exact hz⟩
end
open Go.RowKit
theorem Cd.sz {N E:Nat} {f:Nat->Rat} (h:Cd N f E) (hE:E<1024):∀k,k<N->Sz (f k) 32 32:=fun k hk=>by
 obtain ⟨D,h0,h1,h2⟩:=h;obtain ⟨z,e,hz⟩:=h2 k hk;have b:=kO (d:=(D:Int)) (by omega) e
 rw [Int.natAbs_natCast] at b;exact mg (by omega) ⟨Nat.le_trans b.1 hz,Nat.le_trans b.2 h1⟩
theorem Sz.u32 {q:Rat} (h:Sz q 32 32):Sz q 128 128:=h.mono (by omega) (by omega)
theorem Md.nil:Md []:=⟨fun k h=>absurd h (Nat.not_lt_zero _),by
 show (lim 1).length<=32
 rw [aA];exact Nat.lt_of_lt_of_le (show (1:Nat)<pw 1 by rw [mF];omega) (mT (by omega))⟩
structure Ok3 (w:World) (s:Sl) (N:Nat) (f:Nat->Rat):Prop where
 ok:s.ok w
 len:s.vs.length=N
 sm:∀v∈s.vs,v.xs.length<=10000/\v.ys.length<=10000
 md:Md s.vs
 at_:∀k,k<N->fxV s.vs k=f k
theorem Os.ok3 {w:World} {B N E:Nat} {s:Sl} {f:Nat->Rat} (h:Os w B s N f) (c:Cd N f E) (hE:E<1024):Ok3 w s N f:=by
 have hs:=c.sz hE;have hv:∀k (hk:k<s.vs.length),s.vs[k].v/\s.vs[k].q=f k:=fun k hk=>⟨(h.rp k hk).v (hs k (by rw [<-h.len];exact hk)).u32,(h.rp k hk).q⟩
 refine ⟨⟨h.qr.fr.rd,h.qr.ok,by rw [h.cap,h.len];exact Nat.le_refl _⟩,h.len,fun v hv=>?_,c.md h.len hE hv,fun k hk=>?_⟩
 ·obtain ⟨k,hk,e⟩:=List.getElem_of_mem hv;have z:=(hs k (by rw [<-h.len];exact hk)).u32
  rw [<-e];exact ⟨(h.rp k hk).l1 z,(h.rp k hk).l2 z⟩
 ·have hk2:k<s.vs.length:=by rw [h.len];exact hk
  rw [ku hk2];exact (hv k hk2).2
theorem nW (w:World) (f:Nat->Rat):Ok3 w slN 0 f:=⟨⟨fun h=>absurd h (Nat.not_lt_zero _),fun _ hv=>absurd hv (List.not_mem_nil),Nat.le_refl _⟩,rfl,fun _ hv=>absurd hv (List.not_mem_nil),Md.nil,fun _ hk=>absurd hk (Nat.not_lt_zero _)⟩
theorem El.md1 {w:World} {x:Fx} {q:Rat} {E:Nat} (h:El w x q) (b:BdR q (2^E) (2^E)) (hE:E<1024):Md [x]/\x.q=q/\(x.xs.length<=10000/\x.ys.length<=10000):=by
 have c:=DI b;have z:=(c.sz hE 0 (by omega)).u32
 exact ⟨c.md rfl hE (fun k hk=>by
  obtain rfl:k=0:=by simp at hk;omega
  exact ⟨h.rp.v z,h.rp.q⟩),h.rp.q,h.rp.l1 z,h.rp.l2 z⟩
theorem dX.of {n m:Nat} {a:Nat->Nat->Rat} {u f b:Nat->Rat} (h:LPx m n a b f) (e:∀j,j<n->u j=f j):dX n m n a u b:=
 ⟨rfl,fun j hj=>by rw [e j hj];exact h.nn j hj,fun i hi=>by rw [<-h.eq i hi];exact ay fun j hj=>by rw [e j hj]⟩
theorem dU.of {n m:Nat} {a:Nat->Nat->Rat} {u f c:Nat->Rat} (h:∀j,j<n->aj (fun r=>f r*a r j) m<=c j) (e:∀i,i<m->u i=f i):dU n m m a u c:=
 ⟨rfl,fun j hj=>by
  rw [ay (g:=fun i=>u i*a i j) (h:=fun r=>f r*a r j) (fun i hi=>by show u i*a i j=f i*a i j;rw [e i hi])]
  exact h j hj⟩
structure vA (w:World) (p:Pg) (s:Sn):Prop where
 ok:s.ok w
 sm:s.sm
 chk:yo p s
theorem SolS.good {w:World} {B:Nat} {p:Pg} {s:Sn} (vd:p.vd) (h:SolS w B p.rows.length p.cost.vs.length p.a p.b p.c s):vA w p s:=by
 have W:=vd.wgt;have hm:=vd.r2;have hn:=vd.c2;obtain ⟨m,em⟩:∃m,p.rows.length=m:=⟨_,rfl⟩;obtain ⟨n,en⟩:∃n,p.cost.vs.length=n:=⟨_,rfl⟩;rw [em,en] at W h;rw [em] at hm;rw [en] at hn;have hw:=W.w;obtain ⟨a,ea⟩:∃a,wgA m n (dG m n p.a p.b)+m=a:=⟨_,rfl⟩;obtain ⟨wb,ewb⟩:∃a,bG (fun r=>wgB (dG m n p.a p.b r (n+m))) m=a:=⟨_,rfl⟩;obtain ⟨wc,ewc⟩:∃a,bG (fun j=>wgB (p.c j)) n=a:=⟨_,rfl⟩;rw [ewb,ewc] at hw;have hA:pr1 (bh m (dG m n p.a p.b)) (n+m)<=2^a:=by rw [<-ea];exact wL W.art (Nat.le_refl _)
 have hb:bh m (dG m n p.a p.b) (n+m)<=2^wb:=by rw [<-ewb];exact oq _ _ _
 obtain ⟨E0,hE0⟩:∃E:Nat,1000=E:=⟨_,rfl⟩;have up:∀ {u:Nat},u<=E0->2^u<=2^E0:=fun hu=>Nat.pow_le_pow_right (by omega) hu
 have z0:BdR (0:Rat) (2^E0) (2^E0):=⟨Nat.zero_le _,by
  show (1:Nat)<=_
  exact Nat.pow_pos (by omega)⟩
 have hAb:pr1 (bh m (dG m n p.a p.b)) (n+m)*bh m (dG m n p.a p.b) (n+m)<=2^E0:=by
  refine Nat.le_trans (Nat.mul_le_mul hA hb) ?_;rw [<-Nat.pow_add];exact up (by omega)
 rcases h with ⟨y,ok,nx,pos,k,x,r,Y,v⟩|⟨y,ok,ar,nx,k,r,X,Y,v⟩|⟨y,ok,ar,t,nx,le,k,y0,X,R,v⟩
 ·have hV:pr1 (fun i=>wtR (bZ n (y.B i))) m<=2^m:=by
   have h1:=tB n (n+m);rw [show n+m-n=m from by omega] at h1
   exact Nat.le_trans (rV ok (Nat.le_refl _)) h1
  have kY:=Y.ok3 (As ok hm hA hV (show m+a+6<=E0 by omega)) (by omega)
  obtain ⟨v1,v2,v3⟩:=v.md1 z0 (by omega)
  have E:=Ci ok nx pos;refine ⟨⟨by rw [x];exact (nW w (fun _=>0)).ok,kY.ok,by rw [r];exact (nW w (fun _=>0)).ok,v.ok⟩,⟨by rw [x];exact Nat.zero_le _,by rw [kY.len];omega,by rw [r];exact Nat.zero_le _,by rw [x];exact fun v hv=>by (cases hv),kY.sm,by rw [r];exact fun v hv=>by (cases hv),v3⟩,⟨vd,by rw [x];exact Md.nil,kY.md,by rw [r];exact Md.nil,v1,?_⟩⟩
  rw [em,en,x,r,kY.len,k];refine dN.two.2 ⟨rfl,rfl,dU.of E.le kY.at_,?_,v2⟩;have h2:=E.pos;rw [ay (g:=fun r=>kr m n p.b (bZ n) y r*p.b r) (h:=fun i=>fxV s.Y.vs i*p.b i) (fun i hi=>by show _*p.b i=fxV s.Y.vs i*p.b i;rw [kY.at_ i hi])] at h2
  exact h2
 ·have hV:pr1 (fun i=>wtR (cV n p.c (y.B i))) m<=2^wc:=by
   have h1:=tA n p.c (n+m);rw [ewc] at h1;exact Nat.le_trans (rV ok (Nat.le_refl _)) h1
  have kX:=X.ok3 (At ok.tab ok.nz hAb) (by omega)
  have kY:=Y.ok3 (As ok hm hA hV (show wc+a+6<=E0 by omega)) (by omega)
  have bv:BdR (bV m (cV n p.c) y.T y.B (n+m)) (2^E0) (2^E0):=by
   have b:=Ak (c:=cV n p.c) ok (Nat.le_refl (n+m)) m (Nat.le_refl m);have h1:pr1 (fun i=>wtR (cV n p.c (y.B i))) m*(pr1 (bh m (dG m n p.a p.b)) (n+m)*bh m (dG m n p.a p.b) (n+m))<=2^(wc+(a+wb)):=by
    rw [Nat.pow_add,Nat.pow_add];exact Nat.mul_le_mul hV (Nat.mul_le_mul hA hb)
   refine ⟨Nat.le_trans b.1 (Nat.le_trans (Nat.mul_le_mul (show m<=2^5 by omega) h1) ?_),Nat.le_trans b.2 (Nat.le_trans h1 (up (by omega)))⟩
   rw [<-Nat.pow_add];exact up (by omega)
  obtain ⟨v1,v2,v3⟩:=v.md1 bv (by omega)
  have E:=Ch (c:=p.c) ok ar nx;refine ⟨⟨kX.ok,kY.ok,by rw [r];exact (nW w (fun _=>0)).ok,v.ok⟩,⟨by rw [kX.len];omega,by rw [kY.len];omega,by rw [r];exact Nat.zero_le _,kX.sm,kY.sm,by rw [r];exact fun v hv=>by (cases hv),v3⟩,⟨vd,kX.md,kY.md,by rw [r];exact Md.nil,v1,?_⟩⟩
  rw [em,en,r,kX.len,kY.len,k];refine dN.one.2 ⟨rfl,dX.of E.pt kX.at_,dU.of E.le kY.at_,?_,?_⟩
  ·rw [v2,<-E.vx];exact ay fun j hj=>by rw [kX.at_ j hj]
  ·rw [v2,<-E.vy];exact ay fun j hj=>by rw [kY.at_ j hj]
 ·obtain ⟨_,t1,t2,_⟩:=iH _ _ _ nx;have hnt:∀i,i<m->y.B i≠t:=fun i hi e=>by
   have:=jQ (c:=cV n p.c) ok.tab hi;rw [e] at this;rw [this] at t2;exact absurd t2 Rat.lt_irrefl
  have kX:=X.ok3 (At ok.tab ok.nz hAb) (by omega)
  have kR:=R.ok3 (DH ok.tab ok.nz (by omega) hnt (Nat.le_trans hA (up (show a<=E0 by omega)))) (by omega)
  obtain ⟨v1,v2,v3⟩:=v.md1 z0 (by omega)
  have E:=Cg (c:=p.c) ok ar nx le;refine ⟨⟨kX.ok,by rw [y0];exact (nW w (fun _=>0)).ok,kR.ok,v.ok⟩,⟨by rw [kX.len];omega,by rw [y0];exact Nat.zero_le _,by rw [kR.len];omega,kX.sm,by rw [y0];exact fun v hv=>by (cases hv),kR.sm,v3⟩,⟨vd,kX.md,by rw [y0];exact Md.nil,kR.md,v1,?_⟩⟩
  rw [em,en,y0,kX.len,kR.len,k];refine dN.three.2 ⟨rfl,dX.of E.pt kX.at_,dX.of E.dir kR.at_,?_,v2⟩;have h2:=E.neg;rw [ay (g:=fun j=>p.c j*fT m y.T y.B t j) (h:=fun j=>p.c j*fxV s.R.vs j) (fun j hj=>by show p.c j*_=p.c j*fxV s.R.vs j;rw [kR.at_ j hj])] at h2
  exact h2
section
variable {n m nx ny nr nx' ny' nr':Nat} {k k':Int} {a:Nat->Nat->Rat} {b c ux uy ur ux' uy' ur':Nat->Rat} {q q':Rat}
theorem dX.lp {u t:Nat->Rat} (h:dX n m nx a u t):LPx m n a t u:=⟨h.2.1,h.2.2⟩
theorem dN.opt (h:dN 1 n m nx ny nr a b c ux uy ur q):ug m n a b c ux uy q:=by
 obtain ⟨_,h1,h2,h3,h4⟩:=dN.one.1 h;exact ⟨h1.lp,h2.2,h3,h4⟩
theorem dN.inf (h:dN 2 n m nx ny nr a b c ux uy ur q):Bb m n a b uy/\q=0:=by
 obtain ⟨_,_,h1,h2,h3⟩:=dN.two.1 h;exact ⟨⟨h1.2,h2⟩,h3⟩
theorem dN.unb (h:dN 3 n m nx ny nr a b c ux uy ur q):Ba m n a b c ux ur/\q=0:=by
 obtain ⟨_,h1,h2,h3,h4⟩:=dN.three.1 h;exact ⟨⟨h1.lp,h2.lp,h3⟩,h4⟩
theorem vo (h:dN k n m nx ny nr a b c ux uy ur q) (h':dN k' n m nx' ny' nr' a b c ux' uy' ur' q'):k=k'/\q=q':=by
 rcases h.kind with rfl|rfl|rfl
 ·have o:=h.opt;rcases h'.kind with rfl|rfl|rfl
  ·exact ⟨rfl,zJ o h'.opt⟩
  ·exact (iF o.pt h'.inf.1).elim
  ·exact (pg o h'.unb.1).elim
 ·obtain ⟨o,rfl⟩:=h.inf;rcases h'.kind with rfl|rfl|rfl
  ·exact (iF h'.opt.pt o).elim
  ·exact ⟨rfl,h'.inf.2.symm⟩
  ·exact (iF h'.unb.1.pt o).elim
 ·obtain ⟨o,rfl⟩:=h.unb;rcases h'.kind with rfl|rfl|rfl
  ·exact (pg h'.opt o).elim
  ·exact (iF o.pt h'.inf.1).elim
  ·exact ⟨rfl,h'.unb.2.symm⟩
theorem yh (ha0:a 0 0=1) (ha1:a 0 1=1) (hb:b 0=1) (hc0:c 0 = -1) (hc1:c 1=0) (h:dN k 2 1 nx ny nr a b c ux uy ur q):k=1/\q = -1:=by
 have e:dN 1 2 1 2 1 0 a b c (fun j=>if j=0 then 1 else 0) (fun _ => -1) (fun _=>0) (-1):=by
  refine dN.one.2 ⟨rfl,⟨rfl,fun j _=>?_,fun i hi=>?_⟩,⟨rfl,fun j hj=>?_⟩,?_,?_⟩
  ·simp only
   split <;> grind
  ·obtain rfl:i=0:=by omega
   simp only [aj,ha0,ha1,hb]
   grind
  ·simp only [aj];rcases (by omega:j=0\/j=1) with rfl|rfl
   ·rw [ha0,hc0];grind
   ·rw [ha1,hc1];grind
  ·simp only [aj,hc0,hc1]
   grind
  ·simp only [aj,hb]
   grind
 exact vo h e
end
structure Sho (w:World) (A:Option Addr) (l:Nat) (b:Bool) (us:List Fx):Prop where
 t:b=true->Md us/\l=us.length/\∃vs:List Fx,vs.length=l/\Cl w A vs (fxV us)
 f:b=false->¬Md us
theorem Sho.below {w w':World} {A:Option Addr} {l:Nat} {b:Bool} {us:List Fx} (h:Sho w A l b us) (hb:Below w.heap.size w w'):Sho w' A l b us:=
 ⟨fun e=>⟨(h.t e).1,(h.t e).2.1,(h.t e).2.2.imp fun _ k=>⟨k.1,k.2.below hb⟩⟩,h.f⟩
theorem cm (w:World) (s:Sl) (h:s.ok w) (hl:s.vs.length<=1000) (hs:∀v∈s.vs,v.xs.length<=10000/\v.ys.length<=10000) :
 Calls Tryz.prog 37 #[s.val] w fun e w'=>∃(A:Option Addr) (l c:Nat) (b:Bool),e = .returned (.tuple #[.slice A l c, .bool b])/\Sho w' A l b s.vs/\Below w.heap.size w w':=by
 refine (uw w s h hl hs).mono ?_;rintro e w' ⟨⟨hm,g,vs,hv,rfl,os⟩|⟨hm,rfl⟩,bb⟩
 ·exact ⟨_,_,_,true,rfl,⟨fun _=>⟨hm,rfl,vs,hv,os.cl⟩,(fun h=>Bool.noConfusion h)⟩,bb⟩
 ·exact ⟨_,_,_,false,rfl,⟨(fun h=>Bool.noConfusion h),fun _=>hm⟩,bb⟩
theorem ig (w:World) (A1 A2:Option Addr) (c c2:Nat) (us vs:List Fx) (x:Fx) (u v:Nat->Rat) (q:Rat) (z:Int) (U V n1 n2 n:Nat) (e1:n1=n) (e2:n2=n) (hu:Cl w A1 us u) (hv:Cl w A2 vs v) (hx:El w x q) (hul:us.length=n) (hvl:vs.length=n) (hn:n<=1000)
 (su:∀k,k<n->Sz (u k) 32 32) (sv:∀k,k<n->Sz (v k) 32 32) (sx:Sz q 60 60) (hU:∀k,k<n->(u k).den∣U) (hV:∀k,k<n->(v k).den∣V) (lU:(lim U).length<=32) (lV:(lim V).length<=32) (hU0:0<U) (hV0:0<V) (hz:bA (aj (fun i=>u i*v i) n-q) 0=z) :
 Calls Tryz.prog 41 #[.slice A1 n1 c, .slice A2 n2 c2,x.val] w fun e w'=>e = .returned (.int .i64 z)/\Below w.heap.size w w':=by
 subst e1 e2;exact jr w A1 A2 c c2 us vs x u v q z U V _ hu hv hx hul hvl hn su sv sx hU hV lU lV hU0 hV0 hz
theorem qQ (a:Addr):a.add 0=a:=by simp [Addr.add]
theorem tW (p:Rat):bA (p-0) 0<0↔p<0:=by
 rw [show p-0=p from by grind]
 exact eC p
theorem lu (P:Prop):∃b:Bool,b=true↔P:=by classical exact ⟨decide P,by simp⟩
theorem tY (w:World) (n m:Nat) (a:Nat->Nat->Rat) (b c:Nat->Rat) (cs rs:Sl) (e:TypeId) (hc:Cl w cs.A cs.vs c) (hb:Cl w rs.A rs.vs b) (lc:cs.vs.length=n) (lb:rs.vs.length=m) (B:Nat) (hB:B<=w.heap.size) :
 Cb (w.alloc (.cells #[.slice cs.A n cs.c, .slice rs.A m rs.c, .slice none 0 0] e)) B w.heap.size n m a b c cs rs none 0 []:=by
 have hh:=heap_alloc_new w (.cells #[.slice cs.A n cs.c, .slice rs.A m rs.c, .slice none 0 0] e);have bb:=qc w (.cells #[.slice cs.A n cs.c, .slice rs.A m rs.c, .slice none 0 0] e);refine ⟨⟨by go_simp,by go_simp,Gr.nil _ _,NLr.nil _,fun a h=>by cases h⟩,by go_simp,by go_simp,by simp,hB,⟨_,_,hh,fun u hu=>?_⟩,hc.below bb,hb.below bb,lc,lb,fun i hi=>absurd hi (by simp),fun hn ad e=>⟨(fun h=>by cases h),fun h=>?_⟩,fun hn ad e=>⟨(fun h=>by cases h),fun h=>?_⟩,fun i hi=>absurd hi (by simp)⟩
 ·simp at hu;rcases hu with rfl|rfl|rfl <;> rfl
 ·have:=hc.lt hn ad e;omega
 ·have:=hb.lt hn ad e;omega
end Go.Proofs.YtkpfbekmaafehaaGreat
