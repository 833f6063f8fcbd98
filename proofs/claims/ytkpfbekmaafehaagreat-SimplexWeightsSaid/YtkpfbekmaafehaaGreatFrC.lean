/- The walks of package fraction: Reduce, Make -/
import Derived.Test.YtkpfbekmaafehaaGreatFrA
import Derived.Test.YtkpfbekmaafehaaGreatNatD
import Derived.Deep.RegionHeld3
namespace Go.Proofs.YtkpfbekmaafehaaGreat
open _root_.Go.Proofs.Tryz
set_option maxHeartbeats 8000000
set_option maxRecDepth 100000
open Go.RowKit
theorem az (w:World) (v0 v1 v2:Value):Bk3 (w.alloc (.cells #[v0,v1,v2] 29)) w.heap.size v0 v1 v2:=
 ⟨by go_simp,by go_simp,by go_simp,by go_simp,by go_simp,by go_simp,by simp,_,(0,0),heap_alloc_new w _⟩
theorem aB (w:World) (o:Obj):(w.alloc o).heap.size=w.heap.size+1:=by simp
theorem bD {w:World} {x:Fx} {G:Nat} {v0 v1 v2 u0 u1 u2:Value} (h:x.ok w) (bk:Bk3 w G v0 v1 v2) (e0:dY v0=false) (e1:dY v1=false) (e2:dY v2=false) :
 x.ok (((w.setCell ⟨G,0,none⟩ u0).setCell ⟨G,1,none⟩ u1).setCell ⟨G,2,none⟩ u2):=by
 constructor
 ·rcases Nat.eq_zero_or_pos x.xs.length with h0|h0
  ·exact h.num.nil_any h0 _
  ·exact ik h.num (h.num.sep3 bk e0 e1 e2 h0)
 ·rcases Nat.eq_zero_or_pos x.ys.length with h0|h0
  ·exact h.den.nil_any h0 _
  ·exact ik h.den (h.den.sep3 bk e0 e1 e2 h0)
theorem aR {w wc:World} {B G:Nat} {a b c:Value} (h:Below B w wc) (hG:B<=G):Below B w (((wc.setCell ⟨G,0,none⟩ a).setCell ⟨G,1,none⟩ b).setCell ⟨G,2,none⟩ c):=
 ((h.setCell (p:=⟨G,0,none⟩) hG _).setCell (p:=⟨G,1,none⟩) hG _).setCell (p:=⟨G,2,none⟩) hG _
def kP (e:Int):Bool×List Nat×List Nat×Int:=(false,[],[],e)
def gz (x:Fx):Bool×List Nat×List Nat×Int:=if x.v then frS x.q else kP 1
theorem dZ (w:World) (x:Fx) (S:Bool×List Nat×List Nat×Int) (hx:x.ok w) (l1:x.xs.length<=10000) (l2:x.ys.length<=10000) (hs:gz x=S):Calls prog 51 #[x.val] w (eQ w S):=by
 have HS:=ag hs;clear hs;by_cases hv:x.v
 ·have HV:=ag hv;have hv1:=hv.1;have gL:Hd (nv x.ys≠0):=hv1;have lx:(lim (nv x.xs)).length<=128:=hv.2.2;have ly:(lim (nv x.ys)).length<=128:=hv.2.1;clear hv hv1;go_enter func51,ntmps51;go_wp2_with fail;have hs1:w.heap.size<(w.alloc (.cells x.cells 29)).heap.size:=by simp
  have b0:=qc w (.cells x.cells 29);have b1:=(ah (w.alloc (.cells x.cells 29)).heap.size (w.alloc (.cells x.cells 29))).alloc (Nat.le_refl _) (.cells #[.bool false, .slice none 0 0, .slice none 0 0] 29);have bx:=(az w (.bool x.b) (.slice x.A x.xs.length x.c) (.slice x.D x.ys.length x.d)).below b1;have bk:=aK (w.alloc (.cells x.cells 29));rw [aB] at bk;have aa:=(hx.below b0).below b1;have bw:=ai b0 b1 (Nat.le_of_lt hs1);clear hs1 b0 b1
  revert bx bk aa bw
  generalize ((w.alloc (.cells x.cells 29)).alloc (.cells #[.bool false, .slice none 0 0, .slice none 0 0] 29))=w1;intro bx bk aa bw;refine (aP w1 x true aa l1 l2 (decide_eq_true HV.o)).mono ?_;rintro e wn ⟨rfl,bb⟩
  try replace bx:=bx.below bb
  try replace al:=al.below bb
  try replace bk:=bk.below bb
  try replace aa:=aa.below bb
  try replace an:=an.below bb
  try replace ok1:=ok1.below bb
  try replace na:=na.below bb
  try replace nb:=nb.below bb
  try replace nc:=nc.below bb
  try replace nd:=nd.below bb
  try replace ne:=ne.below bb
  replace bw:=qd bw bb;clear bb;have tx:=bx;obtain ⟨x0,x1,x2,xf0,xf1,xf2,xlt,xb⟩:=tx;clear xb;go_wp2_with fail;clear x0 x1 x2 xf0 xf1 xf2 xlt;refine (i7 wn x.b x.A x.D x.c x.d _ _ x.xs x.ys aa.num aa.den rfl rfl gL.o l1 l2 (by omega) (by omega)).mono ?_
  rintro e wn ⟨x1,rfl,hs1,ok1,bb⟩;have cI:=ag hs1;clear hs1
  try replace bx:=bx.below bb
  try replace al:=al.below bb
  try replace bk:=bk.below bb
  try replace aa:=aa.below bb
  try replace an:=an.below bb
  try replace ok1:=ok1.below bb
  try replace na:=na.below bb
  try replace nb:=nb.below bb
  try replace nc:=nc.below bb
  try replace nd:=nd.below bb
  try replace ne:=ne.below bb
  replace bw:=qd bw bb;clear bb;have tk:=bk;obtain ⟨k0,k1,k2,aF,aG,aH,klt,kb⟩:=tk;clear kb;go_wp2_with fail;refine bodyPost_ret (v := .tuple #[(x1:Fx).val, .int .i64 (frS (qv x.b (nv x.xs) (nv x.ys))).2.2.2]) (by simp [results,Tryz.results51,go_sem,k0,k1,k2]) rfl ?_
  have hS:S=frS (qv x.b (nv x.xs) (nv x.ys)):=by rw [<-HS.o,gz,if_pos HV.o];rfl
  rw [hS];exact ⟨x1,rfl,cI.o,bD ok1 bk rfl rfl rfl,aR bw (by omega)⟩
 ·have HV:Hd (¬x.v):=hv;clear hv;go_enter func51,ntmps51;go_wp2_with fail;have hs1:w.heap.size<(w.alloc (.cells x.cells 29)).heap.size:=by simp
  have b0:=qc w (.cells x.cells 29);have b1:=(ah (w.alloc (.cells x.cells 29)).heap.size (w.alloc (.cells x.cells 29))).alloc (Nat.le_refl _) (.cells #[.bool false, .slice none 0 0, .slice none 0 0] 29);have bx:=(az w (.bool x.b) (.slice x.A x.xs.length x.c) (.slice x.D x.ys.length x.d)).below b1;have bk:=aK (w.alloc (.cells x.cells 29));rw [aB] at bk;have aa:=(hx.below b0).below b1;have bw:=ai b0 b1 (Nat.le_of_lt hs1);clear hs1 b0 b1
  revert bx bk aa bw
  generalize ((w.alloc (.cells x.cells 29)).alloc (.cells #[.bool false, .slice none 0 0, .slice none 0 0] 29))=w1;intro bx bk aa bw;refine (aP w1 x false aa l1 l2 (decide_eq_false HV.o)).mono ?_;rintro e wn ⟨rfl,bb⟩
  try replace bx:=bx.below bb
  try replace al:=al.below bb
  try replace bk:=bk.below bb
  try replace aa:=aa.below bb
  try replace an:=an.below bb
  try replace ok1:=ok1.below bb
  try replace na:=na.below bb
  try replace nb:=nb.below bb
  try replace nc:=nc.below bb
  try replace nd:=nd.below bb
  try replace ne:=ne.below bb
  replace bw:=qd bw bb;clear bb;have tk:=bk;obtain ⟨k0,k1,k2,aF,aG,aH,klt,kb⟩:=tk;clear kb;go_wp2_with fail;refine bodyPost_ret (v := .tuple #[(Fx.nil:Fx).val, .int .i64 1]) (by simp [results,Tryz.results51,go_sem,k0,k1,k2]) rfl ?_
  rw [<-HS.o,gz,if_neg HV.o];exact ⟨Fx.nil,rfl,⟨rfl,rfl,rfl⟩,Fx.nil_ok _,aR bw (by omega)⟩
structure Rp (x:Fx) (q:Rat):Prop where
 b:x.b=decide (q.num<0)
 n:x.xs=lim q.num.natAbs
 d:x.ys=lim q.den
theorem yI (a:Int):sg (decide (a<0)) a.natAbs=a:=by
 unfold sg;by_cases h:a<0
 ·simp only [h,decide_true,if_true];omega
 ·simp only [h,decide_false,Bool.false_eq_true,if_false];omega
theorem Rp.q {x:Fx} {q:Rat} (h:Rp x q):x.q=q:=by
 rw [Fx.q,h.b,h.n,h.d,am,am,qv,yI];exact Rat.mkRat_self q
def Sz (q:Rat) (n d:Nat):Prop:=(lim q.num.natAbs).length<=n/\(lim q.den).length<=d
theorem Sz.mono {q:Rat} {n d n' d':Nat} (h:Sz q n d) (hn:n<=n') (hd:d<=d'):Sz q n' d':=⟨Nat.le_trans h.1 hn,Nat.le_trans h.2 hd⟩
theorem Rp.v {x:Fx} {q:Rat} (h:Rp x q) (hs:Sz q 128 128):x.v:=by
 rw [Fx.v,Vf,h.n,h.d,am,am];exact ⟨q.den_nz,hs.2,hs.1⟩
theorem Rp.l1 {x:Fx} {q:Rat} (h:Rp x q) (hs:Sz q 128 128):x.xs.length<=10000:=by rw [h.n];have:=hs.1;omega
theorem Rp.l2 {x:Fx} {q:Rat} (h:Rp x q) (hs:Sz q 128 128):x.ys.length<=10000:=by rw [h.d];have:=hs.2;omega
theorem Sz.mk {a:Int} {e n d:Nat} (he:e≠0) (hn:(lim a.natAbs).length<=n) (hd:(lim e).length<=d):Sz (mkRat a e) n d:=by
 have h1:=ao (Nat.div_le_self a.natAbs (Nat.gcd e a.natAbs));have h2:=ao (Nat.div_le_self e (Nat.gcd e a.natAbs));constructor
 ·rw [Rat.num_mkRat,if_neg he];have e1:(a/(Nat.gcd e a.natAbs:Int)).natAbs=a.natAbs/Nat.gcd e a.natAbs:=by
   obtain ⟨c,hc⟩:(Nat.gcd e a.natAbs:Int)∣a:=Int.ofNat_dvd_left.2 (Nat.gcd_dvd_right e a.natAbs);have hg:0<Nat.gcd e a.natAbs:=Nat.gcd_pos_of_pos_left _ (Nat.pos_of_ne_zero he);generalize Nat.gcd e a.natAbs=g at *;subst hc;rw [Int.mul_ediv_cancel_left _ (by omega),Int.natAbs_mul,Int.natAbs_natCast,Nat.mul_div_cancel_left _ hg]
  rw [e1];omega
 ·rw [Rat.den_mkRat,if_neg he];omega
theorem Sz.of_qv {b:Bool} {m e n d:Nat} (he:e≠0) (hn:(lim m).length<=n) (hd:(lim e).length<=d):Sz (qv b m e) n d:=Sz.mk he (by rw [jP];exact hn) hd
theorem py {p q:Rat}:p.den*q.den≠0:=Nat.mul_ne_zero p.den_nz q.den_nz
theorem Sz.mul {p q:Rat} {a b c d:Nat} (h:Sz p a b) (k:Sz q c d):Sz (p*q) (a+c) (b+d):=by
 rw [<-Rat.mkRat_self p,<-Rat.mkRat_self q,Rat.mkRat_mul_mkRat];exact Sz.mk py (by rw [Int.natAbs_mul];exact aO h.1 k.1) (aO h.2 k.2)
theorem Sz.add {p q:Rat} {a b c d:Nat} (h:Sz p a b) (k:Sz q c d):Sz (p+q) (max (a+d) (c+b)+1) (b+d):=by
 rw [<-Rat.mkRat_self p,<-Rat.mkRat_self q,Rat.mkRat_add_mkRat _ _ p.den_nz q.den_nz];refine Sz.mk py ?_ (aO h.2 k.2);have h1:=aO h.1 k.2;have h2:=aO k.1 h.2;have h3:(p.num*(q.den:Int)+q.num*(p.den:Int)).natAbs<=p.num.natAbs*q.den+q.num.natAbs*p.den:=by
  refine Nat.le_trans (Int.natAbs_add_le _ _) ?_;rw [Int.natAbs_mul,Int.natAbs_mul,Int.natAbs_natCast,Int.natAbs_natCast];exact Nat.le_refl _
 refine Nat.le_trans (ao h3) ?_;exact jC (by omega) (by omega)
theorem Sz.neg {p:Rat} {a b:Nat} (h:Sz p a b):Sz (-p) a b:=by
 unfold Sz at *;rw [Rat.neg_num,Rat.neg_den,Int.natAbs_neg];exact h
theorem Sz.sub {p q:Rat} {a b c d:Nat} (h:Sz p a b) (k:Sz q c d):Sz (p-q) (max (a+d) (c+b)+1) (b+d):=by
 rw [Rat.sub_eq_add_neg];exact h.add k.neg
theorem Sz.inv {p:Rat} {a b:Nat} (h:Sz p a b) (hp:p≠0):Sz p⁻¹ b a:=by
 have hn:p.num≠0:=fun e=>hp (Rat.num_eq_zero.1 e);have e:p=qv (decide (p.num<0)) p.num.natAbs p.den:=by rw [qv,yI,Rat.mkRat_self]
 have hi:p⁻¹ = qv (decide (p.num<0)) p.den p.num.natAbs:=by
  conv=>lhs;rw [e]
  exact yU (by omega)
 rw [hi];exact Sz.of_qv (by omega) h.2 h.1
theorem Sz.div {p q:Rat} {a b c d:Nat} (h:Sz p a b) (k:Sz q c d) (hq:q≠0):Sz (p/q) (a+d) (b+c):=by
 rw [Rat.div_def];exact h.mul (k.inv hq)
def okS (q:Rat):Bool×List Nat×List Nat×Int:=(decide (q.num<0),lim q.num.natAbs,lim q.den,0)
theorem pl {q:Rat} (h:Sz q 128 128):frS q=okS q:=by
 rw [frS,if_neg,okS];rw [vu];have:=h.1;have:=h.2;omega
theorem Rp.of {x:Fx} {q:Rat} (h:x.b=(okS q).1/\x.xs=(okS q).2.1/\x.ys=(okS q).2.2.1):Rp x q:=⟨h.1,h.2.1,h.2.2⟩
theorem mg {q:Rat} {e k:Nat} (he:e<32*k) (h:BdR q (2^e) (2^e)):Sz q k k:=by
 have h2:2^e<pw k:=by rw [jy];exact Nat.pow_lt_pow_right (by omega) he
 exact ⟨(aA _ _).2 (Nat.lt_of_le_of_lt h.1 h2),(aA _ _).2 (Nat.lt_of_le_of_lt h.2 h2)⟩
theorem Sz.zero (k:Nat) (hk:1<=k):Sz 0 k k:=by
 refine ⟨?_,?_⟩
 ·show (lim 0).length<=k
  rw [aV];exact Nat.zero_le _
 ·rw [aA];exact Nat.lt_of_lt_of_le (show (1:Nat)<pw 1 by rw [mF];omega) (mT hk)
def wgA (m n:Nat) (O:Nat->Nat->Rat):Nat:=bG (fun j=>bG (fun r=>wgB (O r j)) m) n
section
variable {m n:Nat} {O:Nat->Nat->Rat} {x:St} {c cost:Nat->Rat}
theorem Cn (hO:∀r,r<m->∀k,k<m->O r (n+k)=if r=k then 1 else 0) {W:Nat} (hA:wgA m n O<=W) (hb:bG (fun r=>wgB (O r (n+m))) m<=W) (h1:1<=W) {j:Nat} (hj:j<=n+m):bh m O j<=2^W:=by
 have up:∀ {a:Nat},a<=W->2^a<=2^W:=fun h=>Nat.pow_le_pow_right (by omega) h
 rcases Nat.lt_or_ge j n with h|h
 ·exact Nat.le_trans (oq m O j) (up (Nat.le_trans (sJ (fun j=>bG (fun r=>wgB (O r j)) m) h) hA))
 ·rcases Nat.lt_or_ge j (n+m) with h2|h2
  ·obtain ⟨k,rfl⟩:∃k,j=n+k:=⟨j-n,by omega⟩
   rw [pC hO (by omega)]
   exact up h1
  ·obtain rfl:j=n+m:=by omega
   exact Nat.le_trans (oq m O _) (up hb)
theorem wF (h:Okx m n O x) (hO:∀r,r<m->∀k,k<m->O r (n+k)=if r=k then 1 else 0) {W V:Nat} (hA:wgA m n O<=W) (hb:bG (fun r=>wgB (O r (n+m))) m<=W) (h1:1<=W)
 (hc:pr1 (fun j=>wtR (c j)) (n+m)<=2^V) (hm:m<=32) (hs:V+wgA m n O+m+W+5<1920) (_:∀j,j<n+m->Sz (c j) 60 60) :
 (∀i,i<m->∀k,k<=n+m->Sz (x.T i k) 60 60)/\(∀j,j<=n+m->∀M,M<=m->Sz (aj (fun i=>c (x.B i)*x.T i j) M) 60 60):=by
 have hAll:=wL hO (Nat.le_refl (wgA m n O));have e1:∀j,j<=n+m->pr1 (bh m O) (n+m)*bh m O j<=2^(wgA m n O+m+W):=fun j hj=>by
  rw [Nat.pow_add];exact Nat.mul_le_mul hAll (Cn hO hA hb h1 hj)
 refine ⟨fun i hi k hk=>?_,fun j hj M hM=>?_⟩
 ·have t:=Da h hi hk;exact mg (e:=wgA m n O+m+W) (by omega) ⟨Nat.le_trans t.1 (e1 k hk),Nat.le_trans t.2 (e1 k hk)⟩
 ·have t:=Ak (c:=c) h hj M hM;have e2:pr1 (fun i=>wtR (c (x.B i))) m*(pr1 (bh m O) (n+m)*bh m O j)<=2^(V+(wgA m n O+m+W)):=by
   rw [Nat.pow_add];exact Nat.mul_le_mul (Nat.le_trans (rV h (Nat.le_refl _)) hc) (e1 j hj)
  have e3:M*(pr1 (fun i=>wtR (c (x.B i))) m*(pr1 (bh m O) (n+m)*bh m O j))<=2^(5+(V+(wgA m n O+m+W))):=by
   rw [Nat.pow_add];exact Nat.mul_le_mul (by omega) e2
  exact mg (e:=5+(V+(wgA m n O+m+W))) (by omega) ⟨Nat.le_trans t.1 e3,Nat.le_trans t.2 (Nat.le_trans e2 (Nat.pow_le_pow_right (by omega) (by omega)))⟩
theorem tB (n:Nat):∀M,pr1 (fun j=>wtR (bZ n j)) M<=2^(M-n):=by
 intro M
 induction M with
 | zero=>exact Nat.pow_pos (by omega)
 | succ M ih=>
   rw [pr1];rcases Nat.lt_or_ge M n with h|h
   ·have:wtR (bZ n M)=1:=by rw [bZ,if_pos h];rfl
    rw [this,Nat.mul_one,show M+1-n=M-n from by omega];exact ih
   ·have:wtR (bZ n M)=2:=by rw [bZ,if_neg (by omega)];rfl
    rw [this,show M+1-n=M-n+1 from by omega,Nat.pow_succ]
    exact Nat.mul_le_mul_right _ ih
theorem Bk (g:Nat->Nat) {a b:Nat} (h:a<=b):bG g a<=bG g b:=by
 induction b with
 | zero=>rw [show a=0 from by omega];exact Nat.le_refl _
 | succ b ih=>
   rcases Nat.lt_or_ge b a with h1|h1
   ·rw [show a=b+1 from by omega];exact Nat.le_refl _
   ·rw [bG];exact Nat.le_trans (ih h1) (Nat.le_add_right _ _)
theorem tA (n:Nat) (cost:Nat->Rat):∀M,pr1 (fun j=>wtR (cV n cost j)) M<=2^bG (fun j=>wgB (cost j)) n:=by
 have h0:∀M,M<=n->pr1 (fun j=>wtR (cV n cost j)) M<=2^bG (fun j=>wgB (cost j)) M:=by
  intro M
  induction M with
  | zero=>intro _;exact Nat.pow_pos (by omega)
  | succ M ih=>
    intro hM;rw [pr1,bG,Nat.pow_add];refine Nat.mul_le_mul (ih (by omega)) ?_
    rw [cV,if_pos (by omega)];exact lI _
 intro M
 induction M with
 | zero=>exact Nat.pow_pos (by omega)
 | succ M ih=>
   rcases Nat.lt_or_ge M n with h|h
   ·have k:=h0 (M+1) (by omega)
    refine Nat.le_trans k (Nat.pow_le_pow_right (by omega) ?_)
    exact Bk _ (by omega)
   ·rw [pr1];have:wtR (cV n cost M)=1:=by rw [cV,if_neg (by omega)];rfl
    rw [this,Nat.mul_one];exact ih
structure Fit (m n:Nat) (c:Nat->Rat) (x:St):Prop where
 el:∀i,i<m->∀k,k<=n+m->Sz (x.T i k) 60 60
 dt:∀j,j<=n+m->∀M,M<=m->Sz (aj (fun i=>c (x.B i)*x.T i j) M) 60 60
 cs:∀j,j<n+m->Sz (c j) 60 60
structure Wgt (m n:Nat) (O:Nat->Nat->Rat) (cost:Nat->Rat):Prop where
 art:∀r,r<m->∀k,k<m->O r (n+k)=if r=k then 1 else 0
 w:wgA m n O+bG (fun r=>wgB (O r (n+m))) m+bG (fun j=>wgB (cost j)) n<=900
 m:m<=32
theorem iN {z:Int} (h:z.natAbs<=1):Sz (z:Rat) 60 60:=by
 have hp:∀k,1<=k->1<pw k:=fun k hk=>Nat.lt_of_lt_of_le (show (1:Nat)<pw 1 by rw [mF];omega) (mT hk)
 exact ⟨(aA _ _).2 (by show (z:Rat).num.natAbs<_;rw [Rat.num_intCast];have:=hp 60 (by omega);omega),(aA _ _).2 (by show (z:Rat).den<_;rw [Rat.den_intCast];exact hp 60 (by omega))⟩
theorem Db {q:Rat} (h:wgB q<=900):Sz q 60 60:=by
 have h1:=lI q;unfold wtR at h1;have h2:∀K:Nat,wgB q<=K->2^wgB q<=2^K:=fun K hK=>Nat.pow_le_pow_right (by omega) hK
 have h3:=h2 _ (Nat.le_refl _);exact mg (e:=wgB q) (by omega) ⟨by omega,by omega⟩
theorem DA (h:Okx m n O x) (hw:Wgt m n O cost):Fit m n (bZ n) x:=by
 have w:=hw.w;have m32:=hw.m;have hcs:∀j,j<n+m->Sz (bZ n j) 60 60:=fun j _=>by
  unfold bZ
  split
  ·exact iN (z:=0) (by omega)
  ·exact iN (z:=1) (by omega)
 have hc:=tB n (n+m);rw [show n+m-n=m from by omega] at hc
 obtain ⟨a,b⟩:=wF h hw.art (W:=900) (V:=m) (by omega) (by omega) (by omega) hc m32 (by omega) hcs
 exact ⟨a,b,hcs⟩
theorem fit2 (h:Okx m n O x) (hw:Wgt m n O cost):Fit m n (cV n cost) x:=by
 have w:=hw.w;have m32:=hw.m;have hcs:∀j,j<n+m->Sz (cV n cost j) 60 60:=fun j _=>by
  unfold cV
  split
  ·rename_i hj
   have:=sJ (fun j=>wgB (cost j)) hj;exact Db (by omega)
  ·exact iN (z:=0) (by omega)
 obtain ⟨a,b⟩:=wF h hw.art (W:=900) (by omega) (by omega) (by omega) (tA n cost (n+m)) m32 (by omega) hcs
 exact ⟨a,b,hcs⟩
end
theorem aQ {w:World} {G P k:Nat} {a b c v:Value} (h:w.cell? ⟨P,k,none⟩=some v) (hne:G≠P):(((w.setCell ⟨G,0,none⟩ a).setCell ⟨G,1,none⟩ b).setCell ⟨G,2,none⟩ c).cell? ⟨P,k,none⟩=some v:=by
 rw [World.cell?_setCell_far _ _ _ _ hne,World.cell?_setCell_far _ _ _ _ hne,World.cell?_setCell_far _ _ _ _ hne];exact h
def pe (x y:Fx):Bool×List Nat×List Nat×Int:=if x.v/\y.v then frS (x.q*y.q) else kP 1
theorem Ae (w:World) (x y:Fx) (S:Bool×List Nat×List Nat×Int) (hx:x.ok w) (hy:y.ok w) (l1:x.xs.length<=10000) (l2:x.ys.length<=10000) (m1:y.xs.length<=10000) (m2:y.ys.length<=10000) (hs:pe x y=S):Calls prog 95 #[x.val,y.val] w (eQ w S):=by
 have HS:=ag hs;clear hs;by_cases hv:x.v/\y.v
 ·skip
  have HV:=ag hv;have bX:=ag hv.1;have cF:=ag hv.2;have DX:Hd (nv x.ys≠0):=ag hv.1.1;have DY:Hd (nv y.ys≠0):=ag hv.2.1;have lx1:(lim (nv x.xs)).length<=128:=hv.1.2.2;have lx2:(lim (nv x.ys)).length<=128:=hv.1.2.1;have ly1:(lim (nv y.xs)).length<=128:=hv.2.2.2;have ly2:(lim (nv y.ys)).length<=128:=hv.2.2.1;clear hv;go_enter func95,ntmps95;go_wp2_with fail;have b0:=qc w (.cells x.cells 29);have bx:=az w (.bool x.b) (.slice x.A x.xs.length x.c) (.slice x.D x.ys.length x.d);have aa:=hx.below b0;have an:=hy.below b0;have sz0:=aB w (.cells x.cells 29);have bw:=b0
  clear b0;generalize (w.alloc (.cells x.cells 29))=wa at bx aa an sz0 bw|-;have b1:=qc wa (.cells y.cells 29);have al:=az wa (.bool y.b) (.slice y.A y.xs.length y.c) (.slice y.D y.ys.length y.d);have sz1:=aB wa (.cells y.cells 29);rw [sz0] at al sz1;replace bx:=bx.below b1;replace aa:=aa.below b1;replace an:=an.below b1;replace bw:=qd bw b1;clear b1;generalize (wa.alloc (.cells y.cells 29))=wb at bx al aa an bw sz1|-;have b2:=qc wb (.cells #[.bool false, .slice none 0 0, .slice none 0 0] 29);have bk:=aK wb
  rw [sz1] at bk;replace bx:=bx.below b2;replace al:=al.below b2;replace aa:=aa.below b2;replace an:=an.below b2;replace bw:=qd bw b2;clear b2 sz0 sz1;generalize (wb.alloc (.cells #[.bool false, .slice none 0 0, .slice none 0 0] 29))=w1 at bx al aa an bw bk|-;refine (aP w1 x true aa l1 l2 (decide_eq_true bX.o)).mono ?_;rintro e wn ⟨rfl,bb⟩;replace bx:=bx.below bb;replace al:=al.below bb;replace bk:=bk.below bb;replace aa:=aa.below bb;replace an:=an.below bb;replace bw:=qd bw bb;clear bb;have ty:=al;obtain ⟨y0,y1,y2,yf0,yf1,yf2,ylt,yb⟩:=ty;clear yb;go_wp2_with fail
  clear y0 y1 y2 yf0 yf1 yf2 ylt;refine (aP wn y true an m1 m2 (decide_eq_true cF.o)).mono ?_;rintro e wn ⟨rfl,bb⟩;replace bx:=bx.below bb;replace al:=al.below bb;replace bk:=bk.below bb;replace aa:=aa.below bb;replace an:=an.below bb;replace bw:=qd bw bb;clear bb;have hnn:(lim (nv (lim (nv x.xs*nv y.xs)))).length<=512:=by rw [am];have:=aO lx1 ly1;omega
  have hdd:(lim (nv (lim (nv x.ys*nv y.ys)))).length<=512:=by rw [am];have:=aO lx2 ly2;omega
  have hn1:(lim (nv x.xs*nv y.xs)).length<=512:=by have:=aO lx1 ly1;omega
  have hn2:(lim (nv x.ys*nv y.ys)).length<=512:=by have:=aO lx2 ly2;omega
  have hne:nv (lim (nv x.ys*nv y.ys))≠0:=by rw [am];exact Nat.mul_ne_zero DX.o DY.o
  have n20:w.heap.size+1+1≠w.heap.size:=by omega
  have n21:w.heap.size+1+1≠w.heap.size+1:=by omega
  have NN:=ag hnn;have DD:=ag hdd;have NE:Hd (nv (lim (nv x.ys*nv y.ys))≠0):=hne;clear hnn hdd hne;go_wp2_with fail;have bb:=dd (ah wn.heap.size wn);replace bx:=bx.below bb;replace al:=al.below bb;replace bk:=bk.below bb;replace aa:=aa.below bb;replace an:=an.below bb;replace bw:=qd bw bb;clear bb
  go_region_held3 (fun w'=>w'.cell? ⟨w.heap.size,0,none⟩=some (.bool x.b)/\w'.cell? ⟨w.heap.size,1,none⟩=some (.slice x.A x.xs.length x.c)/\w'.cell? ⟨w.heap.size,2,none⟩=some (.slice x.D x.ys.length x.d)/\w'.cell? ⟨w.heap.size+1,0,none⟩=some (.bool y.b)/\w'.cell? ⟨w.heap.size+1,1,none⟩=some (.slice y.A y.xs.length y.c)/\w'.cell? ⟨w.heap.size+1,2,none⟩=some (.slice y.D y.ys.length y.d))
   (first|exact ⟨bx.c0,bx.c1,bx.c2,al.c0,al.c1,al.c2⟩|exact ⟨aQ bx.c0 n20,aQ bx.c1 n20,aQ bx.c2 n20,aQ al.c0 n21,aQ al.c1 n21,aQ al.c2 n21⟩|go_keep)
   (first
     | (go_at_call 117
        with_reducible refine (ew _ x.A y.A x.c y.c _ _ x.xs y.xs aa.num an.num rfl rfl lx1 ly1).mono ?_
        rintro e wn ⟨AN,cN,rfl,na,bb⟩;replace bx:=bx.below bb;replace al:=al.below bb;replace bk:=bk.below bb;replace aa:=aa.below bb;replace an:=an.below bb;replace bw:=qd bw bb;clear bb)
     | (go_at_call 117
        with_reducible refine (ew _ x.D y.D x.d y.d _ _ x.ys y.ys aa.den an.den rfl rfl lx2 ly2).mono ?_
        rintro e wn ⟨AD,cD,rfl,nb,bb⟩;replace na:=na.below bb;replace bx:=bx.below bb;replace al:=al.below bb;replace bk:=bk.below bb;replace aa:=aa.below bb;replace an:=an.below bb;replace bw:=qd bw bb;clear bb)
     | (go_at_call 91
        with_reducible refine (i7 _ (!(x.b == y.b)) AN AD cN cD _ _ (lim (nv x.xs*nv y.xs)) (lim (nv x.ys*nv y.ys)) na nb rfl rfl NE.o (by omega) (by omega) NN.o DD.o).mono ?_
        rintro e wn ⟨x1,rfl,hs1,ok1,bb⟩;have cI:=ag hs1;replace bx:=bx.below bb;replace al:=al.below bb;replace bk:=bk.below bb;replace bw:=qd bw bb;have kk:=bk;obtain ⟨k0,k1,k2,aF,aG,aH,klt,_⟩:=kk;clear bb hs1))
  all_goals
   skip
   go_wp2_with fail;refine bodyPost_ret (v := .tuple #[(x1:Fx).val, .int .i64 (frS (qv (!(x.b == y.b)) (nv (lim (nv x.xs*nv y.xs))) (nv (lim (nv x.ys*nv y.ys))))).2.2.2]) (by simp [results,Tryz.results95,go_sem,k0,k1,k2]) rfl ?_
   have hS:S=frS (qv (!(x.b == y.b)) (nv (lim (nv x.xs*nv y.xs))) (nv (lim (nv x.ys*nv y.ys)))):=by
    rw [<-HS.o,pe,if_pos HV.o,am,am,Fx.q,Fx.q,uQ];rfl
   rw [hS];exact ⟨x1,rfl,cI.o,bD ok1 bk rfl rfl rfl,aR bw (by omega)⟩
 ·skip
  by_cases hvx:x.v
  ·have hvy:¬y.v:=fun h=>hv ⟨hvx,h⟩;have bX:=ag hvx;have cF:Hd (¬y.v):=hvy;have HV:Hd (¬(x.v/\y.v)):=hv;clear hvx hvy hv;go_enter func95,ntmps95;go_wp2_with fail;have b0:=qc w (.cells x.cells 29);have bx:=az w (.bool x.b) (.slice x.A x.xs.length x.c) (.slice x.D x.ys.length x.d);have aa:=hx.below b0;have an:=hy.below b0;have sz0:=aB w (.cells x.cells 29);have bw:=b0;clear b0;generalize (w.alloc (.cells x.cells 29))=wa at bx aa an sz0 bw|-;have b1:=qc wa (.cells y.cells 29);have al:=az wa (.bool y.b) (.slice y.A y.xs.length y.c) (.slice y.D y.ys.length y.d)
   have sz1:=aB wa (.cells y.cells 29);rw [sz0] at al sz1;replace bx:=bx.below b1;replace aa:=aa.below b1;replace an:=an.below b1;replace bw:=qd bw b1;clear b1;generalize (wa.alloc (.cells y.cells 29))=wb at bx al aa an bw sz1|-;have b2:=qc wb (.cells #[.bool false, .slice none 0 0, .slice none 0 0] 29);have bk:=aK wb;rw [sz1] at bk;replace bx:=bx.below b2;replace al:=al.below b2;replace aa:=aa.below b2;replace an:=an.below b2;replace bw:=qd bw b2;clear b2 sz0 sz1;generalize (wb.alloc (.cells #[.bool false, .slice none 0 0, .slice none 0 0] 29))=w1 at bx al aa an bw bk|-
   refine (aP w1 x true aa l1 l2 (decide_eq_true bX.o)).mono ?_;rintro e wn ⟨rfl,bb⟩;replace bx:=bx.below bb;replace al:=al.below bb;replace bk:=bk.below bb;replace aa:=aa.below bb;replace an:=an.below bb;replace bw:=qd bw bb;clear bb;have ty:=al;obtain ⟨y0,y1,y2,yf0,yf1,yf2,ylt,yb⟩:=ty;clear yb;go_wp2_with fail;clear y0 y1 y2 yf0 yf1 yf2 ylt;refine (aP wn y false an m1 m2 (decide_eq_false cF.o)).mono ?_;rintro e wn ⟨rfl,bb⟩;replace bx:=bx.below bb;replace al:=al.below bb;replace bk:=bk.below bb;replace aa:=aa.below bb;replace an:=an.below bb;replace bw:=qd bw bb
   clear bb;have tk:=bk;obtain ⟨k0,k1,k2,aF,aG,aH,klt,kb⟩:=tk;clear kb;go_wp2_with fail;refine bodyPost_ret (v := .tuple #[(Fx.nil:Fx).val, .int .i64 1]) (by simp [results,Tryz.results95,go_sem,k0,k1,k2]) rfl ?_
   rw [<-HS.o,pe,if_neg HV.o];exact ⟨Fx.nil,rfl,⟨rfl,rfl,rfl⟩,Fx.nil_ok _,aR bw (by omega)⟩
  ·have bX:Hd (¬x.v):=hvx;have HV:Hd (¬(x.v/\y.v)):=hv;clear hvx hv;go_enter func95,ntmps95;go_wp2_with fail;have b0:=qc w (.cells x.cells 29);have bx:=az w (.bool x.b) (.slice x.A x.xs.length x.c) (.slice x.D x.ys.length x.d);have aa:=hx.below b0;have an:=hy.below b0;have sz0:=aB w (.cells x.cells 29);have bw:=b0;clear b0;generalize (w.alloc (.cells x.cells 29))=wa at bx aa an sz0 bw|-;have b1:=qc wa (.cells y.cells 29);have al:=az wa (.bool y.b) (.slice y.A y.xs.length y.c) (.slice y.D y.ys.length y.d);have sz1:=aB wa (.cells y.cells 29)
   rw [sz0] at al sz1;replace bx:=bx.below b1;replace aa:=aa.below b1;replace an:=an.below b1;replace bw:=qd bw b1;clear b1;generalize (wa.alloc (.cells y.cells 29))=wb at bx al aa an bw sz1|-;have b2:=qc wb (.cells #[.bool false, .slice none 0 0, .slice none 0 0] 29);have bk:=aK wb;rw [sz1] at bk;replace bx:=bx.below b2;replace al:=al.below b2;replace aa:=aa.below b2;replace an:=an.below b2;replace bw:=qd bw b2;clear b2 sz0 sz1;generalize (wb.alloc (.cells #[.bool false, .slice none 0 0, .slice none 0 0] 29))=w1 at bx al aa an bw bk|-
   refine (aP w1 x false aa l1 l2 (decide_eq_false bX.o)).mono ?_;rintro e wn ⟨rfl,bb⟩;replace bx:=bx.below bb;replace al:=al.below bb;replace bk:=bk.below bb;replace aa:=aa.below bb;replace an:=an.below bb;replace bw:=qd bw bb;clear bb;have tk:=bk;obtain ⟨k0,k1,k2,aF,aG,aH,klt,kb⟩:=tk;clear kb;go_wp2_with fail;refine bodyPost_ret (v := .tuple #[(Fx.nil:Fx).val, .int .i64 1]) (by simp [results,Tryz.results95,go_sem,k0,k1,k2]) rfl ?_
   rw [<-HS.o,pe,if_neg HV.o];exact ⟨Fx.nil,rfl,⟨rfl,rfl,rfl⟩,Fx.nil_ok _,aR bw (by omega)⟩
def uR (x y:Fx):Bool×List Nat×List Nat×Int:=if x.v/\y.v then (if nv y.xs=0 then kP 3 else frS (x.q/y.q)) else kP 1
theorem zY (w:World) (x y:Fx) (S:Bool×List Nat×List Nat×Int) (hx:x.ok w) (hy:y.ok w) (l1:x.xs.length<=10000) (l2:x.ys.length<=10000) (m1:y.xs.length<=10000) (m2:y.ys.length<=10000) (hs:uR x y=S):Calls prog 115 #[x.val,y.val] w (eQ w S):=by
 have HS:=ag hs;clear hs;by_cases hv:x.v/\y.v
 ·by_cases hz:nv y.xs=0
  ·have HZ:=ag hz;clear hz
   skip
   have HV:=ag hv;have bX:=ag hv.1;have cF:=ag hv.2;have DX:Hd (nv x.ys≠0):=ag hv.1.1;have DY:Hd (nv y.ys≠0):=ag hv.2.1;have lx1:(lim (nv x.xs)).length<=128:=hv.1.2.2;have lx2:(lim (nv x.ys)).length<=128:=hv.1.2.1;have ly1:(lim (nv y.xs)).length<=128:=hv.2.2.2;have ly2:(lim (nv y.ys)).length<=128:=hv.2.2.1;clear hv;go_enter func115,ntmps115;go_wp2_with fail;have b0:=qc w (.cells x.cells 29);have bx:=az w (.bool x.b) (.slice x.A x.xs.length x.c) (.slice x.D x.ys.length x.d);have aa:=hx.below b0;have an:=hy.below b0;have sz0:=aB w (.cells x.cells 29)
   have bw:=b0;clear b0;generalize (w.alloc (.cells x.cells 29))=wa at bx aa an sz0 bw|-;have b1:=qc wa (.cells y.cells 29);have al:=az wa (.bool y.b) (.slice y.A y.xs.length y.c) (.slice y.D y.ys.length y.d);have sz1:=aB wa (.cells y.cells 29);rw [sz0] at al sz1;replace bx:=bx.below b1;replace aa:=aa.below b1;replace an:=an.below b1;replace bw:=qd bw b1;clear b1;generalize (wa.alloc (.cells y.cells 29))=wb at bx al aa an bw sz1|-;have b2:=qc wb (.cells #[.bool false, .slice none 0 0, .slice none 0 0] 29)
   have bk:=aK wb;rw [sz1] at bk;replace bx:=bx.below b2;replace al:=al.below b2;replace aa:=aa.below b2;replace an:=an.below b2;replace bw:=qd bw b2;clear b2 sz0 sz1;generalize (wb.alloc (.cells #[.bool false, .slice none 0 0, .slice none 0 0] 29))=w1 at bx al aa an bw bk|-;refine (aP w1 x true aa l1 l2 (decide_eq_true bX.o)).mono ?_;rintro e wn ⟨rfl,bb⟩;replace bx:=bx.below bb;replace al:=al.below bb;replace bk:=bk.below bb;replace aa:=aa.below bb;replace an:=an.below bb;replace bw:=qd bw bb;clear bb;have ty:=al;obtain ⟨y0,y1,y2,yf0,yf1,yf2,ylt,yb⟩:=ty;clear yb
   go_wp2_with fail;clear y0 y1 y2 yf0 yf1 yf2 ylt;refine (aP wn y true an m1 m2 (decide_eq_true cF.o)).mono ?_;rintro e wn ⟨rfl,bb⟩;replace bx:=bx.below bb;replace al:=al.below bb;replace bk:=bk.below bb;replace aa:=aa.below bb;replace an:=an.below bb;replace bw:=qd bw bb;clear bb;have ty:=al;obtain ⟨y0,y1,y2,yf0,yf1,yf2,ylt,yb⟩:=ty;clear yb;go_wp2_with fail;clear y0 y1 y2 yf0 yf1 yf2 ylt;refine (fw wn y true an.num (by omega) (decide_eq_true HZ.o)).mono ?_
   rintro e wn ⟨rfl,bb⟩;replace bx:=bx.below bb;replace al:=al.below bb;replace bk:=bk.below bb;replace aa:=aa.below bb;replace an:=an.below bb;replace bw:=qd bw bb;clear bb;have tk:=bk;obtain ⟨k0,k1,k2,aF,aG,aH,klt,kb⟩:=tk;clear kb;go_wp2_with fail;refine bodyPost_ret (v := .tuple #[(Fx.nil:Fx).val, .int .i64 3]) (by simp [results,Tryz.results115,go_sem,k0,k1,k2]) rfl ?_
   rw [<-HS.o,uR,if_pos HV.o,if_pos HZ.o];exact ⟨Fx.nil,rfl,⟨rfl,rfl,rfl⟩,Fx.nil_ok _,aR bw (by omega)⟩
  ·have HZ:Hd (¬nv y.xs=0):=hz;clear hz
   skip
   have HV:=ag hv;have bX:=ag hv.1;have cF:=ag hv.2;have DX:Hd (nv x.ys≠0):=ag hv.1.1;have DY:Hd (nv y.ys≠0):=ag hv.2.1;have lx1:(lim (nv x.xs)).length<=128:=hv.1.2.2;have lx2:(lim (nv x.ys)).length<=128:=hv.1.2.1;have ly1:(lim (nv y.xs)).length<=128:=hv.2.2.2;have ly2:(lim (nv y.ys)).length<=128:=hv.2.2.1;clear hv;go_enter func115,ntmps115;go_wp2_with fail;have b0:=qc w (.cells x.cells 29);have bx:=az w (.bool x.b) (.slice x.A x.xs.length x.c) (.slice x.D x.ys.length x.d);have aa:=hx.below b0;have an:=hy.below b0;have sz0:=aB w (.cells x.cells 29)
   have bw:=b0;clear b0;generalize (w.alloc (.cells x.cells 29))=wa at bx aa an sz0 bw|-;have b1:=qc wa (.cells y.cells 29);have al:=az wa (.bool y.b) (.slice y.A y.xs.length y.c) (.slice y.D y.ys.length y.d);have sz1:=aB wa (.cells y.cells 29);rw [sz0] at al sz1;replace bx:=bx.below b1;replace aa:=aa.below b1;replace an:=an.below b1;replace bw:=qd bw b1;clear b1;generalize (wa.alloc (.cells y.cells 29))=wb at bx al aa an bw sz1|-;have b2:=qc wb (.cells #[.bool false, .slice none 0 0, .slice none 0 0] 29)
   have bk:=aK wb;rw [sz1] at bk;replace bx:=bx.below b2;replace al:=al.below b2;replace aa:=aa.below b2;replace an:=an.below b2;replace bw:=qd bw b2;clear b2 sz0 sz1;generalize (wb.alloc (.cells #[.bool false, .slice none 0 0, .slice none 0 0] 29))=w1 at bx al aa an bw bk|-;refine (aP w1 x true aa l1 l2 (decide_eq_true bX.o)).mono ?_;rintro e wn ⟨rfl,bb⟩;replace bx:=bx.below bb;replace al:=al.below bb;replace bk:=bk.below bb;replace aa:=aa.below bb;replace an:=an.below bb;replace bw:=qd bw bb;clear bb;have ty:=al;obtain ⟨y0,y1,y2,yf0,yf1,yf2,ylt,yb⟩:=ty;clear yb
   go_wp2_with fail;clear y0 y1 y2 yf0 yf1 yf2 ylt;refine (aP wn y true an m1 m2 (decide_eq_true cF.o)).mono ?_;rintro e wn ⟨rfl,bb⟩;replace bx:=bx.below bb;replace al:=al.below bb;replace bk:=bk.below bb;replace aa:=aa.below bb;replace an:=an.below bb;replace bw:=qd bw bb;clear bb;have ty:=al;obtain ⟨y0,y1,y2,yf0,yf1,yf2,ylt,yb⟩:=ty;clear yb;go_wp2_with fail;clear y0 y1 y2 yf0 yf1 yf2 ylt;refine (fw wn y false an.num (by omega) (decide_eq_false HZ.o)).mono ?_
   rintro e wn ⟨rfl,bb⟩;replace bx:=bx.below bb;replace al:=al.below bb;replace bk:=bk.below bb;replace aa:=aa.below bb;replace an:=an.below bb;replace bw:=qd bw bb;clear bb;have hnn:(lim (nv (lim (nv x.xs*nv y.ys)))).length<=512:=by rw [am];have:=aO lx1 ly2;omega
   have hdd:(lim (nv (lim (nv x.ys*nv y.xs)))).length<=512:=by rw [am];have:=aO lx2 ly1;omega
   have hn1:(lim (nv x.xs*nv y.ys)).length<=512:=by have:=aO lx1 ly2;omega
   have hn2:(lim (nv x.ys*nv y.xs)).length<=512:=by have:=aO lx2 ly1;omega
   have hne:nv (lim (nv x.ys*nv y.xs))≠0:=by rw [am];exact Nat.mul_ne_zero DX.o HZ.o
   have n20:w.heap.size+1+1≠w.heap.size:=by omega
   have n21:w.heap.size+1+1≠w.heap.size+1:=by omega
   have NN:=ag hnn;have DD:=ag hdd;have NE:Hd (nv (lim (nv x.ys*nv y.xs))≠0):=hne;clear hnn hdd hne;go_wp2_with fail;have bb:=dd (ah wn.heap.size wn);replace bx:=bx.below bb;replace al:=al.below bb;replace bk:=bk.below bb;replace aa:=aa.below bb;replace an:=an.below bb;replace bw:=qd bw bb;clear bb
   go_region_held3 (fun w'=>w'.cell? ⟨w.heap.size,0,none⟩=some (.bool x.b)/\w'.cell? ⟨w.heap.size,1,none⟩=some (.slice x.A x.xs.length x.c)/\w'.cell? ⟨w.heap.size,2,none⟩=some (.slice x.D x.ys.length x.d)/\w'.cell? ⟨w.heap.size+1,0,none⟩=some (.bool y.b)/\w'.cell? ⟨w.heap.size+1,1,none⟩=some (.slice y.A y.xs.length y.c)/\w'.cell? ⟨w.heap.size+1,2,none⟩=some (.slice y.D y.ys.length y.d))
    (first|exact ⟨bx.c0,bx.c1,bx.c2,al.c0,al.c1,al.c2⟩|exact ⟨aQ bx.c0 n20,aQ bx.c1 n20,aQ bx.c2 n20,aQ al.c0 n21,aQ al.c1 n21,aQ al.c2 n21⟩|go_keep)
    (first
      | (go_at_call 117
         with_reducible refine (ew _ x.A y.D x.c y.d _ _ x.xs y.ys aa.num an.den rfl rfl lx1 ly2).mono ?_
         rintro e wn ⟨AN,cN,rfl,na,bb⟩;replace bx:=bx.below bb;replace al:=al.below bb;replace bk:=bk.below bb;replace aa:=aa.below bb;replace an:=an.below bb;replace bw:=qd bw bb;clear bb)
      | (go_at_call 117
         with_reducible refine (ew _ x.D y.A x.d y.c _ _ x.ys y.xs aa.den an.num rfl rfl lx2 ly1).mono ?_
         rintro e wn ⟨AD,cD,rfl,nb,bb⟩;replace na:=na.below bb;replace bx:=bx.below bb;replace al:=al.below bb;replace bk:=bk.below bb;replace aa:=aa.below bb;replace an:=an.below bb;replace bw:=qd bw bb;clear bb)
      | (go_at_call 91
         with_reducible refine (i7 _ (!(x.b == y.b)) AN AD cN cD _ _ (lim (nv x.xs*nv y.ys)) (lim (nv x.ys*nv y.xs)) na nb rfl rfl NE.o (by omega) (by omega) NN.o DD.o).mono ?_
         rintro e wn ⟨x1,rfl,hs1,ok1,bb⟩;have cI:=ag hs1;replace bx:=bx.below bb;replace al:=al.below bb;replace bk:=bk.below bb;replace bw:=qd bw bb;have kk:=bk;obtain ⟨k0,k1,k2,aF,aG,aH,klt,_⟩:=kk;clear bb hs1))
   all_goals
    skip
    go_wp2_with fail;refine bodyPost_ret (v := .tuple #[(x1:Fx).val, .int .i64 (frS (qv (!(x.b == y.b)) (nv (lim (nv x.xs*nv y.ys))) (nv (lim (nv x.ys*nv y.xs))))).2.2.2]) (by simp [results,Tryz.results115,go_sem,k0,k1,k2]) rfl ?_
    have hS:S=frS (qv (!(x.b == y.b)) (nv (lim (nv x.xs*nv y.ys))) (nv (lim (nv x.ys*nv y.xs)))):=by
     rw [<-HS.o,uR,if_pos HV.o,if_neg HZ.o,am,am,Fx.q,Fx.q,Dk HZ.o];rfl
    rw [hS];exact ⟨x1,rfl,cI.o,bD ok1 bk rfl rfl rfl,aR bw (by omega)⟩
 ·skip
  by_cases hvx:x.v
  ·have hvy:¬y.v:=fun h=>hv ⟨hvx,h⟩;have bX:=ag hvx;have cF:Hd (¬y.v):=hvy;have HV:Hd (¬(x.v/\y.v)):=hv;clear hvx hvy hv;go_enter func115,ntmps115;go_wp2_with fail;have b0:=qc w (.cells x.cells 29);have bx:=az w (.bool x.b) (.slice x.A x.xs.length x.c) (.slice x.D x.ys.length x.d);have aa:=hx.below b0;have an:=hy.below b0;have sz0:=aB w (.cells x.cells 29);have bw:=b0;clear b0;generalize (w.alloc (.cells x.cells 29))=wa at bx aa an sz0 bw|-;have b1:=qc wa (.cells y.cells 29);have al:=az wa (.bool y.b) (.slice y.A y.xs.length y.c) (.slice y.D y.ys.length y.d)
   have sz1:=aB wa (.cells y.cells 29);rw [sz0] at al sz1;replace bx:=bx.below b1;replace aa:=aa.below b1;replace an:=an.below b1;replace bw:=qd bw b1;clear b1;generalize (wa.alloc (.cells y.cells 29))=wb at bx al aa an bw sz1|-;have b2:=qc wb (.cells #[.bool false, .slice none 0 0, .slice none 0 0] 29);have bk:=aK wb;rw [sz1] at bk;replace bx:=bx.below b2;replace al:=al.below b2;replace aa:=aa.below b2;replace an:=an.below b2;replace bw:=qd bw b2;clear b2 sz0 sz1;generalize (wb.alloc (.cells #[.bool false, .slice none 0 0, .slice none 0 0] 29))=w1 at bx al aa an bw bk|-
   refine (aP w1 x true aa l1 l2 (decide_eq_true bX.o)).mono ?_;rintro e wn ⟨rfl,bb⟩;replace bx:=bx.below bb;replace al:=al.below bb;replace bk:=bk.below bb;replace aa:=aa.below bb;replace an:=an.below bb;replace bw:=qd bw bb;clear bb;have ty:=al;obtain ⟨y0,y1,y2,yf0,yf1,yf2,ylt,yb⟩:=ty;clear yb;go_wp2_with fail;clear y0 y1 y2 yf0 yf1 yf2 ylt;refine (aP wn y false an m1 m2 (decide_eq_false cF.o)).mono ?_;rintro e wn ⟨rfl,bb⟩;replace bx:=bx.below bb;replace al:=al.below bb;replace bk:=bk.below bb;replace aa:=aa.below bb;replace an:=an.below bb;replace bw:=qd bw bb
   clear bb;have tk:=bk;obtain ⟨k0,k1,k2,aF,aG,aH,klt,kb⟩:=tk;clear kb;go_wp2_with fail;refine bodyPost_ret (v := .tuple #[(Fx.nil:Fx).val, .int .i64 1]) (by simp [results,Tryz.results115,go_sem,k0,k1,k2]) rfl ?_
   rw [<-HS.o,uR,if_neg HV.o];exact ⟨Fx.nil,rfl,⟨rfl,rfl,rfl⟩,Fx.nil_ok _,aR bw (by omega)⟩
  ·have bX:Hd (¬x.v):=hvx;have HV:Hd (¬(x.v/\y.v)):=hv;clear hvx hv;go_enter func115,ntmps115;go_wp2_with fail;have b0:=qc w (.cells x.cells 29);have bx:=az w (.bool x.b) (.slice x.A x.xs.length x.c) (.slice x.D x.ys.length x.d);have aa:=hx.below b0;have an:=hy.below b0;have sz0:=aB w (.cells x.cells 29);have bw:=b0;clear b0;generalize (w.alloc (.cells x.cells 29))=wa at bx aa an sz0 bw|-;have b1:=qc wa (.cells y.cells 29);have al:=az wa (.bool y.b) (.slice y.A y.xs.length y.c) (.slice y.D y.ys.length y.d)
   have sz1:=aB wa (.cells y.cells 29);rw [sz0] at al sz1;replace bx:=bx.below b1;replace aa:=aa.below b1;replace an:=an.below b1;replace bw:=qd bw b1;clear b1;generalize (wa.alloc (.cells y.cells 29))=wb at bx al aa an bw sz1|-;have b2:=qc wb (.cells #[.bool false, .slice none 0 0, .slice none 0 0] 29);have bk:=aK wb;rw [sz1] at bk;replace bx:=bx.below b2;replace al:=al.below b2;replace aa:=aa.below b2;replace an:=an.below b2;replace bw:=qd bw b2;clear b2 sz0 sz1;generalize (wb.alloc (.cells #[.bool false, .slice none 0 0, .slice none 0 0] 29))=w1 at bx al aa an bw bk|-
   refine (aP w1 x false aa l1 l2 (decide_eq_false bX.o)).mono ?_;rintro e wn ⟨rfl,bb⟩;replace bx:=bx.below bb;replace al:=al.below bb;replace bk:=bk.below bb;replace aa:=aa.below bb;replace an:=an.below bb;replace bw:=qd bw bb;clear bb;have tk:=bk;obtain ⟨k0,k1,k2,aF,aG,aH,klt,kb⟩:=tk;clear kb;go_wp2_with fail;refine bodyPost_ret (v := .tuple #[(Fx.nil:Fx).val, .int .i64 1]) (by simp [results,Tryz.results115,go_sem,k0,k1,k2]) rfl ?_
   rw [<-HS.o,uR,if_neg HV.o];exact ⟨Fx.nil,rfl,⟨rfl,rfl,rfl⟩,Fx.nil_ok _,aR bw (by omega)⟩
end Go.Proofs.YtkpfbekmaafehaaGreat
