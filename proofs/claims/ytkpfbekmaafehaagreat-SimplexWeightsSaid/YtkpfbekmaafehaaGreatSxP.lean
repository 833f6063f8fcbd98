/- Plain lemmas for the walk of drydockref16.Solve: its cost row between the steps -/
import Derived.Test.YtkpfbekmaafehaaGreatSxD
import Derived.Test.YtkpfbekmaafehaaGreatSxF
import Derived.Test.YtkpfbekmaafehaaGreatSxC
import Derived.Test.YtkpfbekmaafehaaGreatSqN
namespace Go.Proofs.YtkpfbekmaafehaaGreat
open _root_.Go.Proofs.Tryz
set_option maxHeartbeats 40000000
set_option maxRecDepth 100000
open Go.RowKit
theorem neg_lt0 (q:Rat) : -q<0↔0<q:=by constructor <;> intro h <;> grind
theorem negn (q:Rat) : - -q=q:=by grind
theorem negz (q:Rat) : -q=0-q:=by grind
def lpT (m n:Nat) (T:Nat->Nat->Rat) (i j:Nat):Nat->Nat->Rat:=fun r k=>if r=m then (if k<j then cstT m n T (i+1) k else cstT m n T i k) else T r k
section
variable {m n i j k r:Nat} {T a:Nat->Nat->Rat} {b c:Nat->Rat} {y:St}
theorem lp_zero:lpT m n T i 0=tabT m n T i:=by
 funext r k
 rw [lpT,tabT,if_neg (Nat.not_lt_zero k)]
theorem lp_end (hj:n+m<j):lpT m n T i j=tabT m n T (i+1):=by
 funext r k
 rw [lpT,tabT];by_cases h:r=m
 ·rw [if_pos h,if_pos h];by_cases hk:k<j
  ·rw [if_pos hk]
  ·rw [if_neg hk,cstT,cstT,if_neg (by omega),if_neg (by omega)]
 ·rw [if_neg h,if_neg h]
theorem lp_cost:lpT m n T i j m j=cstT m n T i j:=by rw [lpT,if_pos rfl,if_neg (Nat.lt_irrefl j)]
theorem lp_row (h:r<m):lpT m n T i j r k=T r k:=by rw [lpT,if_neg (by omega)]
theorem cst_next (h:k<n\/k=n+m):cstT m n T (i+1) k=cstT m n T i k-T i k:=by
 rw [cstT,cstT,if_pos h,if_pos h,aj];grind
theorem cst_skip (h:¬(k<n\/k=n+m)):cstT m n T (i+1) k=cstT m n T i k:=by rw [cstT,cstT,if_neg h,if_neg h]
theorem lp_upd (h:j<n\/j=n+m):oE (lpT m n T i j) m j (cstT m n T i j-T i j)=lpT m n T i (j+1):=by
 funext r k
 simp only [oE,lpT];by_cases hr:r=m
 ·rw [if_pos hr,if_pos hr];by_cases hk:k=j
  ·rw [if_pos ⟨hr,hk⟩,if_pos (by omega),hk,cst_next h]
  ·rw [if_neg (fun e=>hk e.2)];by_cases h2:k<j
   ·rw [if_pos h2,if_pos (by omega)]
   ·rw [if_neg h2,if_neg (by omega)]
 ·rw [if_neg (fun e=>hr e.1),if_neg hr,if_neg hr]
theorem lp_skip (h:¬(j<n\/j=n+m)):lpT m n T i j=lpT m n T i (j+1):=by
 funext r k
 simp only [lpT];by_cases hr:r=m
 ·rw [if_pos hr,if_pos hr];by_cases hk:k=j
  ·rw [if_neg (by omega),if_pos (by omega),hk,cst_skip h]
  ·by_cases h2:k<j
   ·rw [if_pos h2,if_pos (by omega)]
   ·rw [if_neg h2,if_neg (by omega)]
 ·rw [if_neg hr,if_neg hr]
theorem cst_dot:aj (fun r=>dG m n a b r k) i=aj (fun r=>bZ n ((DM m n a b).B r)*(DM m n a b).T r k) i:=ay fun r _=>by
 show _=bZ n (n+r)*dG m n a b r k
 rw [bZ,if_neg (by omega),Rat.one_mul]
theorem cst_sz (hw:Wgt m n (dG m n a b) c) (hi:i<=m) (hk:k<=n+m):Sz (cstT m n (dG m n a b) i k) 60 60:=by
 rw [cstT]
 split
 ·refine Sz.neg ?_;rw [cst_dot];exact (DA DL hw).dt k hk i hi
 ·exact Sz.zero 60 (by omega)
theorem org_sz (hw:Wgt m n (dG m n a b) c) (hi:i<m) (hk:k<=n+m):Sz (dG m n a b i k) 60 60:=(DA DL hw).el i hi k hk
theorem tab_ext (hr:r<=m):∀k,k<n+m+1->tabT m n (dG m n a b) m r k=(extT m (n+m) (bZ n) (DM m n a b)).T r k:=by
 intro k hk;rw [tabT];by_cases h:r=m
 ·subst h;rw [if_pos rfl,cstT];by_cases h1:k=n+r
  ·subst h1;rw [if_pos (.inr rfl),ext_val,bV,cst_dot]
  ·rw [ext_red (by omega),cE,bV,<-cst_dot]
   by_cases h2:k<n
   ·rw [if_pos (.inl h2),bZ,if_pos h2];grind
   ·rw [if_neg (by omega),bZ,if_neg h2,bM _ (show k-n<r by omega),bu (fun l hl=>?_)]
    ·have e:dG r n a b (k-n) k=1:=by rw [dG,if_neg h2,if_pos (by omega),if_pos rfl]
     show 0=1-(dG r n a b (k-n) k+0)
     rw [e];grind
    ·by_cases e:l=k-n
     ·rw [if_pos e]
     ·rw [if_neg e]
      show dG r n a b l k=0
      rw [dG,if_neg h2,if_pos (by omega),if_neg e]
 ·rw [if_neg h,ext_row (by omega)]
  rfl
def csT (m:Nat) (f:Nat->Rat) (y:St):St:=⟨fun r k=>if r=m then f k else y.T r k,y.B⟩
theorem ext_cs {N:Nat}:extT m N c y=csT m (fun k=>if k=N then-bV m c y.T y.B N else cE m c y.T y.B k) y:=rfl
theorem cs_put {f:Nat->Rat} {q:Rat}:(⟨oE (csT m f y).T m k q,(csT m f y).B⟩:St)=csT m (fun a=>if a=k then q else f a) y:=by
 show (⟨_,_⟩:St)=⟨_,_⟩
 congr 1
 funext r l
 simp only [oE,csT];by_cases hr:r=m
 ·by_cases hl:l=k
  ·rw [if_pos ⟨hr,hl⟩,if_pos hr,if_pos hl]
  ·rw [if_neg (fun e=>hl e.2),if_pos hr,if_pos hr,if_neg hl]
 ·rw [if_neg (fun e=>hr e.1),if_neg hr,if_neg hr]
theorem cs_row {f:Nat->Rat} (h:r<m):(csT m f y).T r k=y.T r k:=if_neg (by omega)
theorem cs_cost {f:Nat->Rat}:(csT m f y).T m k=f k:=if_pos rfl
theorem cs_congr {f g:Nat->Rat} (h:∀k,f k=g k):csT m f y=csT m g y:=by rw [show f=g from funext h]
def elT (n:Nat) (c:Nat->Rat) (y:St) (i k:Nat):Rat:=cV n c k-aj (fun r=>cV n c (y.B r)*y.T r k) i
theorem el_zero:elT n c y 0=cV n c:=by
 funext k
 rw [elT,aj];grind
theorem el_end:csT m (elT n c y m) y=extT m (n+m) (cV n c) y:=by
 rw [ext_cs];refine cs_congr fun k=>?_;by_cases h:k=n+m
 ·rw [if_pos h,elT,h,cV,if_neg (by omega),bV];grind
 ·rw [if_neg h];rfl
theorem el_next:elT n c y (i+1) k=elT n c y i k-cV n c (y.B i)*y.T i k:=by
 rw [elT,elT,aj];grind
theorem el_skip (h:cV n c (y.B i)=0):elT n c y (i+1)=elT n c y i:=by
 funext k
 rw [el_next,h];grind
theorem el_bas {O:Nat->Nat->Rat} (ht:Tab m n O y.T y.B) (hi:i<m):elT n c y i (y.B i)=cV n c (y.B i):=by
 rw [elT,bu (fun r hr=>?_)]
 ·grind
 ·rw [ht.unit r (by omega) i hi,if_neg (by omega),Rat.mul_zero]
theorem el_sz (h:Fit m n (cV n c) y) (hi:i<=m) (hk:k<=n+m):Sz (elT n c y i k) 128 128:=by
 have h1:Sz (cV n c k) 60 60:=by
  rcases Nat.lt_or_ge k (n+m) with h2|h2
  ·exact h.cs k h2
  ·rw [cV,if_neg (by omega)];exact Sz.zero 60 (by omega)
 exact (h1.sub (h.dt k hk i hi)).mono (by omega) (by omega)
theorem inf_pri (h:i<m):(1:Rat)-(extT m (n+m) (bZ n) y).T m (n+i)=nf m n (bZ n) y.T y.B i:=by
 rw [ext_red (by omega),cE,nf,bZ,if_neg (by omega)];grind
theorem opt_pri (h:i<m) : -(extT m (n+m) (cV n c) y).T m (n+i)=nf m n (cV n c) y.T y.B i:=by
 rw [ext_red (by omega),cE,nf,cV,if_neg (by omega)];grind
theorem prc_t (h:decide (b i<0)=true):kr m n b c y i = - nf m n c y.T y.B i:=by rw [kr,h,sgT,if_pos rfl];grind
theorem prc_f (h:decide (b i<0)=false):kr m n b c y i=nf m n c y.T y.B i:=by rw [kr,h,sgT,if_neg (by decide)];grind
theorem pri_sz {cc:Nat->Rat} (h:Fit m n cc y) (hi:i<m):Sz (nf m n cc y.T y.B i) 60 60:=h.dt (n+i) (by omega) m (Nat.le_refl _)
end
def cd:Nat->Code->Code
 | 0,c=>c
 | k+1, .seq _ b=>cd k b
 | _+1,c=>c
structure Tn (w:World) (gt m:Nat) (f:Nat->Bool):Prop where
 c:∀k,k<m->w.cell? ⟨gt,k,none⟩=some (.bool (f k))
 lt:gt<w.heap.size
theorem Tn.kp {w w':World} {S:Nat->Prop} {gt m:Nat} {f:Nat->Bool} (h:Tn w gt m f) (k:Kp S w w') (hg:¬S gt):Tn w' gt m f:=
 ⟨fun i hi=>(k.cell (p:=⟨gt,i,none⟩) h.lt hg).trans (h.c i hi),Nat.lt_of_lt_of_le h.lt k.size⟩
theorem Tn.below {w w':World} {gt m:Nat} {f:Nat->Bool} (h:Tn w gt m f) (hb:Below w.heap.size w w'):Tn w' gt m f:=h.kp (fo (fun _=>False) hb) (fun h=>h)
theorem Rg.tn {w:World} {B G N n m i ib c1 gb gt:Nat} {g c:Nat->Nat} {A1:Option Addr} {T:Nat->Nat->Rat} {tn:Nat->Bool} (h:Rg w B G N n m i ib m g c A1 c1 gb gt T tn):Tn w gt m tn:=by
 refine ⟨fun k hk=>?_,h.bd (.inr (.inr (.inl rfl)))⟩;obtain ⟨ts,t1,t2,t3⟩:=h.tu;have:=t1.cell k (by omega)
 rw [t3 k (by omega) hk] at this
 exact this
theorem Rg.rtb {w:World} {B G N n m it c1 gb gt:Nat} {g c:Nat->Nat} {A1:Option Addr} {a:Nat->Nat->Rat} {b:Nat->Rat} {tn:Nat->Bool} (h:Rg w B G N n m m m it g c A1 c1 gb gt (tabT m n (dG m n a b) m) tn) (hN:N=n+m+1) (hm:1<=m) :
 ∃go,A1=some ⟨go,0,none⟩/\Rtb w B ⟨G,go,c1,gb,m,n,m,g,c⟩ (extT m (n+m) (bZ n) (DM m n a b)):=by
 obtain ⟨rs,r1,r2,r3⟩:=h.out;obtain ⟨bs,b1,b2,b3⟩:=h.ba;have hgo:∃go,A1=some ⟨go,0,none⟩:=by
  rcases r1.2 with ⟨_,hn⟩|⟨g',cap,cur,hv,_⟩
  ·omega
  ·simp only [Value.slice.injEq] at hv;exact ⟨g',hv.1⟩
 obtain ⟨go,rfl⟩:=hgo;obtain ⟨o3,o4⟩:=h.o3 go rfl;have o1:=h.o1;have o2:=h.o2;subst hN;refine ⟨go,rfl,⟨fun i hi=>?_,⟨fun i hi=>?_,fun i j hi hj e=>h.mc.inj i j (by have:i<=m:=hi;omega) (by have:j<=m:=hj;omega) e⟩,⟨bs,b1,b2,fun i hi=>?_⟩,h.bl,?_,fun i hi=>?_,h.bd (.inr (.inr (.inr (.inl rfl)))),h.q.c0,h.q.c1,h.q.c2,h.q.c3,h.q.lt,?_⟩⟩
 ·have hi:i<m:=hi;have:=r1.cell i (by omega)
  rw [r3 i (by omega)] at this
  exact this
 ·have hi:i<=m:=hi;obtain ⟨vs,v1,v2,v3⟩:=h.mc.row i (by omega)
  exact ⟨vs,v1,v2,fun k hk=>by
   have:=v3 k hk;rw [tab_ext hi k (by omega)] at this
   exact this⟩
 ·exact b3 i hi (by omega)
 ·rintro (e|⟨i,hi,e⟩)
  ·have e:go=gb:=e;omega
  ·have e:go=g i:=e;have hi:i<=m:=hi;rcases Nat.lt_or_ge i m with h1|h1
   ·exact o4 i h1 e.symm
   ·obtain rfl:i=m:=by omega
    omega
 ·show gb≠g i
  have hi:i<=m:=hi;rcases Nat.lt_or_ge i m with h1|h1
  ·have:=o2 i h1;omega
  ·obtain rfl:i=m:=by omega
   omega
 ·rintro (e|⟨i,hi,e⟩)
  ·have e:G=gb:=e;omega
  ·have e:G=g i:=e;have hi:i<=m:=hi;rcases Nat.lt_or_ge i m with h1|h1
   ·have:=o2 i h1;omega
   ·obtain rfl:i=m:=by omega
    omega
structure Rtz (w:World) (B:Nat) (L:Ly) (G n m N:Nat) (x:St):Prop where
 t:Rtb w B L x
 eG:L.G=G
 en:L.n=n
 em:L.m=m
 eN:N=n+m+1
section
variable {w w':World} {B G n m N i k g:Nat} {L:Ly} {x y:St} {S:Nat->Prop} {q:Rat} {z:Fx} {c:Nat->Rat} {O:Nat->Nat->Rat}
theorem Rtz.nn (h:Rtz w B L G n m N x):L.N=N:=by
 have h1:=h.en;have h2:=h.em;have h3:=h.eN
 show L.n+L.m+1=N
 omega
theorem Rtz.kp (h:Rtz w B L G n m N x) (k:Kp S w w') (nl:∀a,S a->NL w a) (hG:¬S L.G) (ho:¬S L.go) (hd:∀a,L.S a->¬S a):Rtz w' B L G n m N x:=⟨h.t.kp k nl hG ho hd,h.eG,h.en,h.em,h.eN⟩
theorem Rtz.below (h:Rtz w B L G n m N x) (hb:Below w.heap.size w w'):Rtz w' B L G n m N x:=⟨h.t.below hb,h.eG,h.en,h.em,h.eN⟩
theorem Rtz.c0 (h:Rtz w B L G n m N x):w.cell? ⟨G,0,none⟩=some (.slice (some ⟨L.go,0,none⟩) m L.co):=by rw [<-h.eG,<-h.em];exact h.t.c0
theorem Rtz.c1 (h:Rtz w B L G n m N x) (hg:L.g m=g):w.cell? ⟨G,1,none⟩=some (.slice (some ⟨g,0,none⟩) N (L.c m)):=by
 rw [<-hg,<-h.eG,<-h.nn,<-h.em];exact h.t.c1
theorem Rtz.c2 (h:Rtz w B L G n m N x):w.cell? ⟨G,2,none⟩=some (.slice (some ⟨L.gb,0,none⟩) m L.cb):=by rw [<-h.eG,<-h.em];exact h.t.c2
theorem Rtz.bas (h:Rtz w B L G n m N x) (hi:i<m):w.cell? ⟨L.gb,i,none⟩=some (.int .i64 (x.B i:Int)):=(h.t.bas (by rw [h.em];exact hi)).1
theorem Rtz.rowg (h:Rtz w B L G n m N x) (hi:i<m) (hg:L.g i=g):w.cell? ⟨L.go,i,none⟩=some (.slice (some ⟨g,0,none⟩) N (L.c i)):=by
 rw [<-h.nn];exact h.t.rowg (by rw [h.em];exact hi) hg
theorem Rtz.elg (h:Rtz w B L G n m N x) (hi:i<=m) (hg:L.g i=g) (hk:k<N):∃y,Ev w g k y (x.T i k):=h.t.elg (by rw [h.em];exact hi) hg (by rw [h.nn];exact hk)
theorem Rtz.nl (h:Rtz w B L G n m N x):∀a,L.S a->NL w a:=h.t.nl
theorem Rtz.put {f:Nat->Rat} (h:Rtz w B L G n m N (csT m f y)) (hg:L.g m=g) (hz:El w z q) :
 Rtz (((w.setCell ⟨g,k*3,none⟩ (.bool z.b)).setCell ⟨g,k*3+1,none⟩ (.slice z.A z.xs.length z.c)).setCell ⟨g,k*3+2,none⟩ (.slice z.D z.ys.length z.d)) B L G n m N (csT m (fun a=>if a=k then q else f a) y) /\
 Kp L.S w (((w.setCell ⟨g,k*3,none⟩ (.bool z.b)).setCell ⟨g,k*3+1,none⟩ (.slice z.A z.xs.length z.c)).setCell ⟨g,k*3+2,none⟩ (.slice z.D z.ys.length z.d)):=by
 have t:=h.t.put (i:=m) (k:=k) (by rw [h.em];exact Nat.le_refl _) hg hz
 rw [cs_put] at t;exact ⟨⟨t.1,h.eG,h.en,h.em,h.eN⟩,t.2⟩
theorem r16run_rtz (h:Rtz w B L G n m N (extT m (n+m) c x)) (hN:N<=1000) (ok:Okx m n O x) (hf:∀y,Okx m n O y->∀r,r<=m->∀k,k<=n+m->Sz ((extT m (n+m) c y).T r k) 60 60) :
 Calls prog 61 #[.pointer (some ⟨G,0,none⟩)] w fun e w'=>∃y,e = .returned (.int .i64 (rK (fG m c y.T y.B n 0)))/\gZ m n n c y=none/\Okx m n O y/\(Art m n m x->Art m n m y)/\Rtz w' B L G n m N (extT m (n+m) c y)/\Kp L.S w w':=by
 obtain ⟨t,eG,en,em,eN⟩:=h;subst en em;obtain ⟨K,hK⟩:=tN (most:=L.n) (c:=c) ok (Nat.le_refl L.n);have h0:=r16run_any w B L x c K t (by show L.n+L.m+1<=1000;omega) (fun t _ i hi=>by have:=(ok.it (c:=c) (Nat.le_refl L.n) t).tab.lt i hi;omega) (fun t _=>hf _ (ok.it (Nat.le_refl L.n) t)) hK
 rw [eG] at h0;refine h0.mono ?_;rintro e w2 ⟨k,_,rfl,nx,t2,kk⟩;exact ⟨_,rfl,nx,ok.it (Nat.le_refl L.n) k,fun ha=>DO ha k,⟨t2,eG,rfl,rfl,eN⟩,kk⟩
theorem r16pivot_rtz {j:Nat} (h:Rtz w B L G n m N (extT m (n+m) c x)) (hN:N<=1000) (hi:i<m) (hj:j<n+m) (hne:x.T i j≠0)
 (s1:∀r,r<=m->∀k,k<=n+m->Sz ((extT m (n+m) c x).T r k) 60 60) (s2:∀r,r<=m->∀k,k<=n+m->Sz ((extT m (n+m) c ⟨bY x.T i j,cg x.B i j⟩).T r k) 60 60) :
 Calls prog 62 #[.pointer (some ⟨G,0,none⟩), .int .i64 (i:Int), .int .i64 (j:Int)] w fun e w'=>e = .returned (.tuple #[])/\Rtz w' B L G n m N (extT m (n+m) c ⟨bY x.T i j,cg x.B i j⟩)/\Kp L.S w w':=by
 obtain ⟨t,eG,en,em,eN⟩:=h;subst en em;have hp:=ext_pivot (c:=c) (N:=L.n+L.m) hi hj hne;have he:(extT L.m (L.n+L.m) c x).T i j=x.T i j:=ext_row hi;have h0:=r16pivot_any w B L _ i j t hi (by show j<L.n+L.m+1;omega) (by rw [he];exact hne) (by show L.n+L.m+1<=1000;omega) (fun r hr k hk=>s1 r hr k (by have:k<L.n+L.m+1:=hk;omega))
  (fun r hr k hk=>by
    have:=s2 r hr k (by have:k<L.n+L.m+1:=hk;omega)
    rw [hp] at this;exact this)
 rw [eG] at h0;refine h0.mono ?_;rintro e w2 ⟨rfl,t2,kk⟩;exact ⟨rfl,⟨by rw [hp];exact t2,eG,rfl,rfl,eN⟩,kk⟩
theorem r16point_rtz (h:Rtz w B L G n m N (extT m (n+m) c x)) (hN:N<=1000) (ok:Okx m n O x) :
 Calls prog 64 #[.pointer (some ⟨G,0,none⟩)] w fun e w'=>∃g,e = .returned (.slice (some ⟨g,0,none⟩) n n)/\Ou w' w.heap.size g n (fun _=>True) (jk m x.T x.B (n+m))/\Below w.heap.size w w':=by
 obtain ⟨t,eG,en,em,eN⟩:=h;subst en em;have h0:=r16tpoint_any w B L _ t (by show L.n+L.m+1<=1000;omega) (fun i hi r hr e=>i9 ok.tab hi hr e)
 rw [eG] at h0;refine h0.mono ?_;rintro e w2 ⟨g,rfl,ou,bb⟩;exact ⟨g,rfl,ou.mono (fun _ _ h=>h) (fun a _ _=>ay fun r hr=>by rw [ext_row hr];rfl),bb⟩
end
theorem Rg.rtz {w:World} {B G N n m it c1 gb gt:Nat} {g c:Nat->Nat} {A1:Option Addr} {a:Nat->Nat->Rat} {b:Nat->Rat} {tn:Nat->Bool} (h:Rg w B G N n m m m it g c A1 c1 gb gt (tabT m n (dG m n a b) m) tn) (hN:N=n+m+1) (hm:1<=m) :
 ∃L:Ly,Rtz w B L G n m N (extT m (n+m) (bZ n) (DM m n a b))/\¬L.S gt/\∀s,L.S s->gb<=s:=by
 obtain ⟨go,rfl,t⟩:=h.rtb hN hm;have o1:=h.o1;have o2:=h.o2;refine ⟨_,⟨t,rfl,rfl,rfl,hN⟩,?_,?_⟩
 ·rintro (e|⟨i,hi,e⟩)
  ·have e:gt=gb:=e;omega
  ·have e:gt=g i:=e;have hi:i<=m:=hi;rcases Nat.lt_or_ge i m with h1|h1
   ·have:=o2 i h1;omega
   ·obtain rfl:i=m:=by omega
    omega
 ·rintro s (e|⟨i,hi,e⟩)
  ·have e:s=gb:=e;omega
  ·have e:s=g i:=e;have hi:i<=m:=hi;rcases Nat.lt_or_ge i m with h1|h1
   ·have:=o2 i h1;omega
   ·obtain rfl:i=m:=by omega
    omega
def SolA (s:Sn):Prop:=∀a b,s.X.A=some a->(s.Y.A=some b\/s.R.A=some b)->a.block≠b.block
structure Hx (w0 w:World) (p:Pg) (g1 g2 gt:Nat) (L:Ly) (G n m N:Nat) (x:St):Prop where
 t:Rtz w w0.heap.size L G n m N x
 tn:Tn w gt m (fun k=>decide (p.b k<0))
 zs:Zs w g2
 pb:Pb w g1 p
 bw:Below w0.heap.size w0 w
 st:¬L.S gt
 sb:∀a,L.S a->w0.heap.size<=a/\¬a=g2/\¬a=g1
structure Hlt (w0:World) (g1 g2 gt:Nat) (L:Ly) (s:Nat):Prop where
 G:L.G<s
 go:L.go<s
 S:∀a,L.S a->a<s
 gt:gt<s
 g1:g1<s
 g2:g2<s
 b:w0.heap.size<=s
section
variable {w0 w w':World} {p:Pg} {g1 g2 gt G n m N g s:Nat} {L:Ly} {x y:St}
theorem Hx.below (h:Hx w0 w p g1 g2 gt L G n m N x) (hb:Below w.heap.size w w'):Hx w0 w' p g1 g2 gt L G n m N x:=
 ⟨h.t.below hb,h.tn.below hb,h.zs.below hb,h.pb.below hb,qd h.bw hb,h.st,h.sb⟩
theorem Hx.lts (h:Hx w0 w p g1 g2 gt L G n m N x):Hlt w0 g1 g2 gt L w.heap.size:=⟨h.t.t.lt,h.t.t.ol,h.t.t.lts,h.tn.lt,h.pb.lt,h.zs.lt,h.bw.size⟩
theorem Hx.run (h:Hx w0 w p g1 g2 gt L G n m N x) (t:Rtz w' w0.heap.size L G n m N y) (k:Kp L.S w w'):Hx w0 w' p g1 g2 gt L G n m N y:=
 ⟨t,h.tn.kp k h.st,h.zs.kp k (fun e=>(h.sb _ e).2.1 rfl),h.pb.kp k (fun e=>(h.sb _ e).2.2 rfl),h.bw.trans (k.below (B:=w0.heap.size) (fun a e=>(h.sb a e).1) h.bw.size),h.st,h.sb⟩
theorem Hx.new (h:Hx w0 w p g1 g2 gt L G n m N x) (l:Hlt w0 g1 g2 gt L s) (hg:s<=g) (nl:NL w g) (k:Kp (fun a=>a=g) w w'):Hx w0 w' p g1 g2 gt L G n m N x:=
 ⟨h.t.kp k (fun a e=>by rw [e];exact nl) (by have:=l.G;omega) (by have:=l.go;omega) (fun a ha e=>by have:=l.S a ha;omega),h.tn.kp k (by have:=l.gt;omega),h.zs.kp k (by have:=l.g2;omega),h.pb.kp k (by have:=l.g1;omega),
  h.bw.trans (k.below (B:=w0.heap.size) (fun a e=>by have:=l.b;omega) h.bw.size),h.st,h.sb⟩
theorem Hx.congr (h:Hx w0 w p g1 g2 gt L G n m N x) (e:x=y):Hx w0 w p g1 g2 gt L G n m N y:=e ▸ h
theorem Hx.cost {f f':Nat->Rat} (h:Hx w0 w p g1 g2 gt L G n m N (csT m f y)) (e:∀k,k<N->f k=f' k):Hx w0 w p g1 g2 gt L G n m N (csT m f' y):=by
 have e1:=h.t.nn;refine ⟨⟨h.t.t.congr (fun i _ k hk=>?_) (fun _ _=>rfl),h.t.eG,h.t.en,h.t.em,h.t.eN⟩,h.tn,h.zs,h.pb,h.bw,h.st,h.sb⟩
 show (if i=m then f k else y.T i k)=(if i=m then f' k else y.T i k)
 rw [e k (by omega)]
theorem Hx.put {f:Nat->Rat} {z:Fx} {k:Nat} {q:Rat} (h:Hx w0 w p g1 g2 gt L G n m N (csT m f y)) (hg:L.g m=g) (hz:El w z q) :
 Hx w0 (((w.setCell ⟨g,k*3,none⟩ (.bool z.b)).setCell ⟨g,k*3+1,none⟩ (.slice z.A z.xs.length z.c)).setCell ⟨g,k*3+2,none⟩ (.slice z.D z.ys.length z.d)) p g1 g2 gt L G n m N (csT m (fun a=>if a=k then q else f a) y):=
 h.run (h.t.put hg hz).1 (h.t.put (k:=k) hg hz).2
end
theorem r16end (w wr:World) (p:Pg) (n m N G gt g1 g2:Nat) (L:Ly) (HW:Hd (Wgt m n (dG m n p.a p.b) p.c)) (hnl:n<=256) (hml:m<=32) (cq:Hd (N=n+m+1)) (hNl:N<=1000) (hNw:((n:Int)+(m:Int))+1=(N:Int)) (ip:Hd (w.heap.size<=g2)) (y2:St) (gK:Hd (Okx m n (dG m n p.a p.b) y2/\Art m n m y2)) (gm:Nat) (cH:Hd (L.g m=gm)) (M:Nat) (q8:Hd (n+m=M)) (hMN:M<N) (hx:Hx w wr p g1 g2 gt L G n m N (csT m (elT n p.c y2 m) y2)) (uu:Value) (hu:uu=undef) (v8 v9 v10 v11 v12 v13 v16 v17 v18 v19 v20 v21 v28 v29 v30 v32 v33 v34 v35 v36 v37 v38 v39 v40 v41 v42 v43 v44 v45 v46 v47 v48 v49 v50 v51 v52 v53 v54 v55 v56 v57 v58 v59 v60 v61 v62 v63 v64 v65 v66 v67 v68 v69 v70 v71 v72 v73 v74 v75 v76 v77 v78 v79 v80 v81 v82 v83 v84 v85 v86 v87 v88 v89 v90 v91 v92 v93 v94 v95 v96 v97 v98 v99 v100 v101 v102 v103 v104 v105 v106 v107 v108 v109 v110 v111 v112 v113 v114 v115 v116 v117 v118 v119 v120 v121 v122 v123 v124 v125 v126 v127 v128 v129 v130 v131 v132 v133 v134 v135 v136 v137 v138 v139 v140 v141 v142 v143 v144 v145 v146 v147 v148 v149 v150 v151 v152 v153 v154 v155 v156 v157 v158 v159 v160 v161 v162 v163 v164 v165 v166 v167 v168 v169 v170 v171 v172 v173 v174 v175 v176 v177 v178 v179 v180 v181 v182 v183 v184 v185 v186 v187 v188 v189 v190 v191 v192 v193 v194 v195 v196 v197 v198 v199 v200 v201 v202 v242 v243 v244 v245 v246 v247 v248 v249 v250 v251 v252 v253 v254 v255 v256 v257 v258 v259 v260 v261 v262 v263 v264 v265 v266 v267 v268 v269 v270 v271 v272 v273 v274 v275 v276 v277 v278 v279 v280 v281 v282 v283 v284 v285 v286 v287 v288 v289 v290 v291 v292 v293 v294 v295 v296 v297 v298 v299 v300 v301 v302 v303 v304 v305 v306 v307 v308 v309 v310 v311 v312 v313 v314 v315 v316 v317 v318 v319 v320 v321 v322 v323 v324 v325 v326 v327 v328 v329 v330 v331 v332 v333 v334 v335 v336 v337 v338 v339 v340 v341 v342 v343 v344 v345 v346 v347 v348 v349 v350 v351 v352 v353 v354 v355 v356 v357 v358 v359 v360 v361 v362 v363 v364 v365 v366 v367 v368 v369 v370 v371 v372 v373 v374 v375 v376 v377:Value) :
 Code.wp prog (cd 12 (Tryz.f23.body.getD .skip)) (bodyPost prog Tryz.f23 fun e w'=>∃s:Sn,e = .returned (.tuple #[s.val, .int .i64 0])/\SolS w' w.heap.size m n p.a p.b p.c s/\SolA s/\Below w.heap.size w w') { tmps := #[p.val, .pointer (some ⟨g1,0,none⟩), .pointer (some ⟨g2,0,none⟩), .int .i64 0, .int .i64 (m:Int), .int .i64 (n:Int), .pointer (some ⟨G,0,none⟩), .slice (some ⟨gt,0,none⟩) m m,v8,v9,v10,v11,v12,v13,uu,uu,v16,v17,v18,v19,v20,v21,uu,uu,uu,uu,uu,uu,v28,v29,v30,uu,v32,v33,v34,v35,v36,v37,v38,v39,v40,v41,v42,v43,v44,v45,v46,v47,v48,v49,v50,v51,v52,v53,v54,v55,v56,v57,v58,v59,v60,v61,v62,v63,v64,v65,v66,v67,v68,v69,v70,v71,v72,v73,v74,v75,v76,v77,v78,v79,v80,v81,v82,v83,v84,v85,v86,v87,v88,v89,v90,v91,v92,v93,v94,v95,v96,v97,v98,v99,v100,v101,v102,v103,v104,v105,v106,v107,v108,v109,v110,v111,v112,v113,v114,v115,v116,v117,v118,v119,v120,v121,v122,v123,v124,v125,v126,v127,v128,v129,v130,v131,v132,v133,v134,v135,v136,v137,v138,v139,v140,v141,v142,v143,v144,v145,v146,v147,v148,v149,v150,v151,v152,v153,v154,v155,v156,v157,v158,v159,v160,v161,v162,v163,v164,v165,v166,v167,v168,v169,v170,v171,v172,v173,v174,v175,v176,v177,v178,v179,v180,v181,v182,v183,v184,v185,v186,v187,v188,v189,v190,v191,v192,v193,v194,v195,v196,v197,v198,v199,v200,v201,v202,uu,uu,uu,uu,uu,uu,uu,uu,uu,uu,uu,uu,uu,uu,uu,uu,uu,uu,uu,uu,uu,uu,uu,uu,uu,uu,uu,uu,uu,uu,uu,uu,uu,uu,uu,uu,uu,uu,uu,v242,v243,v244,v245,v246,v247,v248,v249,v250,v251,v252,v253,v254,v255,v256,v257,v258,v259,v260,v261,v262,v263,v264,v265,v266,v267,v268,v269,v270,v271,v272,v273,v274,v275,v276,v277,v278,v279,v280,v281,v282,v283,v284,v285,v286,v287,v288,v289,v290,v291,v292,v293,v294,v295,v296,v297,v298,v299,v300,v301,v302,v303,v304,v305,v306,v307,v308,v309,v310,v311,v312,v313,v314,v315,v316,v317,v318,v319,v320,v321,v322,v323,v324,v325,v326,v327,v328,v329,v330,v331,v332,v333,v334,v335,v336,v337,v338,v339,v340,v341,v342,v343,v344,v345,v346,v347,v348,v349,v350,v351,v352,v353,v354,v355,v356,v357,v358,v359,v360,v361,v362,v363,v364,v365,v366,v367,v368,v369,v370,v371,v372,v373,v374,v375,v376,v377,uu,uu,uu,uu,uu,uu,uu,uu,uu,uu,uu,uu,uu,uu,uu,uu,uu,uu,uu,uu,uu,uu,uu,uu,uu,uu,uu,uu,uu,uu,uu,uu,uu,uu,uu,uu,uu,uu,uu,uu,uu,uu,uu,uu,uu,uu,uu,uu,uu,uu,uu,uu,uu,uu,uu,uu,uu,uu,uu,uu,uu,uu,uu,uu,uu,uu,uu,uu,uu,uu,uu,uu,uu,uu,uu,uu,uu,uu,uu,uu,uu,uu,uu,uu,uu,uu,uu,uu,uu,uu,uu,uu,uu,uu,uu,uu,uu,uu,uu,uu,uu,uu,uu,uu,uu,uu,uu,uu],defers := []} wr:=by
 subst hu
 conv=>arg 2;whnf
 have hx2:=hx.congr el_end;have HX:=ag hx2;have HC:=ag (r16run_rtz (O:=dG m n p.a p.b) hx2.t hNl gK.o.1 (fun y hy=>ext2 hy HW.o));clear hx hx2;go_wp2_with fail;refine HC.o.mono ?_;rintro e w6 ⟨y3,rfl,nx,ok,har,t6,kk⟩;replace HX:=ag (HX.o.run t6 kk);have oy:=ag ok;have CS:=ag nx;have EL:=ag (har gK.o.2);clear nx ok har t6 kk HC
 cases hen:fG m (cV n p.c) y3.T y3.B n 0 with
 | some s0=>
--D{
   obtain ⟨_,s1,s2,_⟩:=iH _ _ _ hen;have hZ:=ag (BJ hen CS.o);have ub:=ag hen;have sV:Hd (s0<n):=ag (by omega)
   have bO:Hd (∀i,i<m->y3.B i≠s0):=ag (fun i hi e=>by
    have:=jQ (c:=cV n p.c) oy.o.tab hi;rw [e] at this;rw [this] at s2;exact absurd s2 (Rat.not_lt.2 (Rat.le_refl)))
   rw [show rK (some s0)=(s0:Int) from rfl];have hs0:(0:Int)<=(s0:Int):=by omega
   have hsn:s0<n:=sV.o;clear hen s1 s2;obtain ⟨f1,fi,fi0,fi1,fi2⟩:=info_parts dr;go_upto_region 70 with (refine wpList_make_full w6 rfl _ _ 22 rfl w6.heap.size 29 f1 Fx.nil.val 3 underlying22 fi fi0 fi1 .i64 .i64 _ _ n rfl rfl (by omega) (by omega) (by rw [fi2];omega) (by simp only [maxLen];omega) (Nat.le_refl _) ?_;intro w9 hg2 hb2)
   have bb:Below w6.heap.size w6 w9:=(ah _ _).grown hb2 (Nat.le_refl _) (by intro k hk;cases hk)
   have bj:Hd (Ou w9 w6.heap.size w6.heap.size n (fun a=>a<0) (fun _=>0)):=ag (by
    refine ⟨List.replicate n Fx.nil,⟨?_,fun v hv=>by rw [List.eq_of_mem_replicate hv];exact Fx.nil_ok _⟩,by simp,fun _ _ h=>absurd h (Nat.not_lt_zero _)⟩
    unfold Fr;rw [List.length_replicate,<-dm];exact hg2)
   have dy:=ag HX.o.lts;replace HX:=ag (HX.o.below bb);clear hg2 hb2 bb fi fi0 fi1 fi2 f1;generalize w6.heap.size=gR at *;go_wp2_with fail;go_loopw [24] (fun kv wr=>∃k:Nat,k<=n/\kv = .int .i64 k/\Ou wr gR gR n (fun a=>a<k) (fun _=>0)/\Hx w wr p g1 g2 gt L G n m N (extT m (n+m) (cV n p.c) y3)) (fun kv _=>n-(intOf kv).toNat)
   case atStart=>exact ⟨0,by omega,rfl,bj.o.mono (fun a _ h=>by omega) (fun _ _ _=>rfl),HX.o⟩
   case round=>
    clear bj HX;obtain ⟨k,hk,rfl,ou,hx⟩:=hrel;by_cases hlt:k<n
    ·have bj:=ag ou;have HX:=ag hx;clear ou hx;go_wp2_with fail;refine (iT wr).mono ?_;rintro e w7 ⟨x1,rfl,e1,bb⟩;replace bj:=ag (bj.o.below bb);replace HX:=ag (HX.o.below bb);clear bb;obtain ⟨v9,k0,k1,k2,aF,aG,aH⟩:=bj.o.slot hlt;go_wp2_with fail;have t6:=bj.o.put (i:=k) e1;have hx2:=HX.o.new dy.o (Nat.le_refl _) bj.o.nl t6.2;go_roundw
     case rel=>exact ⟨k+1,by omega,by go_num,t6.1.mono (fun a _ ha=>by omega) (fun a _ _=>by by_cases hak:a=k <;> simp [hak]),hx2⟩
     case measure=>simp [intOf];omega
    ·obtain rfl:n=k:=by omega
     have bj:Hd (Ou wr gR gR n (fun _=>True) (fun _=>0)):=ag (ou.mono (fun a ha _=>ha) (fun _ _ _=>rfl));have HX:=ag hx;clear ou hx;go_wp2_with fail;refine (dS wr 1 (by omega) (by omega)).mono ?_
     rintro e w7 ⟨x1,rfl,e1,bb⟩;replace bj:=ag (bj.o.below bb);replace HX:=ag (HX.o.below bb);clear bb;obtain ⟨v9,k0,k1,k2,aF,aG,aH⟩:=bj.o.slot hsn;go_upto_region 75 with fail;have t6:=bj.o.put (i:=s0) e1;replace HX:=ag (HX.o.new dy.o (Nat.le_refl _) bj.o.nl t6.2);replace bj:=ag t6.1;clear t6 e1 k0 k1 k2 aF aG aH v9;generalize (((w7.setCell ⟨gR,s0*3,none⟩ (.bool x1.b)).setCell ⟨gR,s0*3+1,none⟩ (.slice x1.A x1.xs.length x1.c)).setCell ⟨gR,s0*3+2,none⟩ (.slice x1.D x1.ys.length x1.d))=w8 at *;go_wp2_with fail;go_loopw [25] (fun kv wr=>∃k:Nat,k<=m/\kv = .int .i64 k/\Ou wr gR gR n (fun _=>True) (rvP y3.T y3.B s0 k)/\Hx w wr p g1 g2 gt L G n m N (extT m (n+m) (cV n p.c) y3)) (fun kv _=>m-(intOf kv).toNat)
     case atStart=>exact ⟨0,by omega,rfl,bj.o.mono (fun a _ _ => .inl trivial) (fun _ _ _=>rfl),HX.o⟩
     case round=>
      clear bj HX;obtain ⟨k,hk,rfl,ou,hx⟩:=hrel;by_cases hlt:k<m
      ·obtain ⟨bi,hbi⟩:∃b,y3.B k=b:=⟨_,rfl⟩;have mf:=ag hbi;have c2:=hx.t.c2;have cb:wr.cell? ⟨L.gb,k,none⟩=some (.int .i64 (bi:Int)):=by rw [<-hbi];exact hx.t.bas hlt
       have bj:=ag ou;have HX:=ag hx;have zh:Hd (k<m):=ag hlt;clear ou hx hbi;by_cases hbn:bi<n
       ·obtain ⟨gi,hgi⟩:∃g,L.g k=g:=⟨_,rfl⟩;have hsN:s0<N:=by have:=cq.o;omega
        have hel:=HX.o.t.elg (Nat.le_of_lt hlt) hgi hsN;rw [show (extT m (n+m) (cV n p.c) y3).T k s0=y3.T k s0 from ext_row hlt] at hel;obtain ⟨xe,ee⟩:=hel;have zj:=ag ee;have cp:=ag hgi;have B8:Hd (bi<n):=ag hbn;have eJ:Hd (Sz (y3.T k s0) 128 128):=ag ((fit2 oy.o HW.o).el k hlt s0 (by omega)).up
        have l5:Hd (∀(w':World),Hx w w' p g1 g2 gt L G n m N (extT m (n+m) (cV n p.c) y3)->w'.cell? ⟨L.gb,k,none⟩=some (.int .i64 (bi:Int))):=ag (fun w' h=>by rw [<-mf.o];exact h.t.bas zh.o)
        clear ee hgi;go_upto_region 79 with fail;clear c2 cb;have hx:=HX.o.below (ah wr.heap.size wr).drew;have ou:=bj.o.below (ah wr.heap.size wr).drew;have ee:=zj.o.below (ah wr.heap.size wr).drew;refine qm (S:=fun w'=>w'.cell? ⟨G,0,none⟩=some (.slice (some ⟨L.go,0,none⟩) m L.co)/\w'.cell? ⟨G,2,none⟩=some (.slice (some ⟨L.gb,0,none⟩) m L.cb)/\w'.cell? ⟨L.gb,k,none⟩=some (.int .i64 (bi:Int))/\w'.cell? ⟨L.go,k,none⟩=some (.slice (some ⟨gi,0,none⟩) N (L.c k))/\w'.cell? ⟨gi,s0*3,none⟩=some (.bool xe.b)/\w'.cell? ⟨gi,s0*3+1,none⟩=some (.slice xe.A xe.xs.length xe.c)/\w'.cell? ⟨gi,s0*3+2,none⟩=some (.slice xe.D xe.ys.length xe.d)) 20 21 ⟨hx.t.c0,hx.t.c2,l5.o _ hx,hx.t.rowg zh.o cp.o,ee.c0,ee.c1,ee.c2⟩ fun Ha hH=>?_
        generalize wr.drew=wd at *;refine mY Ha 0 (.slice (some ⟨gR,0,none⟩) n n) rfl ?_;simp only [tz];refine mY Ha 1 (.pointer (some ⟨G,0,none⟩)) rfl ?_;simp only [tz];refine mY Ha 2 (.pointer (some ⟨G,0,none⟩)) rfl ?_;simp only [tz];refine mY Ha 3 (.pointer (some ⟨G,2,none⟩)) rfl ?_;simp only [tz];refine mY Ha 4 (.slice (some ⟨L.gb,0,none⟩) m L.cb) rfl ?_;simp only [tz];refine mY Ha 5 (.int .i64 (k:Int)) rfl ?_;simp only [tz];refine mY Ha 6 (.pointer (some ⟨L.gb,k,none⟩)) rfl ?_;simp only [tz];refine mY Ha 7 (.int .i64 (bi:Int)) rfl ?_;simp only [tz];refine mY Ha 8 (.pointer (some ⟨G,0,none⟩)) rfl ?_;simp only [tz]
        refine mY Ha 9 (.pointer (some ⟨G,0,none⟩)) rfl ?_;simp only [tz];refine mY Ha 10 (.pointer (some ⟨G,0,none⟩)) rfl ?_;simp only [tz];refine mY Ha 11 (.slice (some ⟨L.go,0,none⟩) m L.co) rfl ?_;simp only [tz];refine mY Ha 12 (.int .i64 (k:Int)) rfl ?_;simp only [tz];refine mY Ha 13 (.pointer (some ⟨L.go,k,none⟩)) rfl ?_;simp only [tz];refine mY Ha 14 (.slice (some ⟨gi,0,none⟩) N (L.c k)) rfl ?_;simp only [tz];refine mY Ha 15 (.int .i64 (s0:Int)) rfl ?_;simp only [tz];refine mY Ha 16 (.pointer (some ⟨gi,s0*3,none⟩)) rfl ?_;simp only [tz];refine mY Ha 17 (xe.val) rfl ?_;simp only [tz]
        refine qW Ha 18 rfl fun K hK=>?_;go_simp;go_at_call 59;refine (r2opp_el wd xe _ ee.el eJ.o).mono ?_;rintro e we ⟨x3,rfl,e3,bb⟩;replace hx:=hx.below bb;replace ou:=ou.below bb;replace ee:=ee.below bb;clear bb hH;generalize we=wd at *;refine hK.out _ _ ⟨hx.t.c0,hx.t.c2,l5.o _ hx,hx.t.rowg zh.o cp.o,ee.c0,ee.c1,ee.c2⟩ fun hH=>?_;clear hK K;try simp only [tz]
        refine mY Ha 19 (.pointer (some ⟨gR,bi*3,none⟩)) rfl ?_;simp only [tz];refine Bh Ha 20 rfl fun K hK=>?_;have hsl:=ou.slot B8.o;obtain ⟨v,k0,k1,k2,aF,aG,aH⟩:=hsl;go_simp;clear v k0 k1 k2 aF aG aH;have t6:=ou.put (i:=bi) e3;have hx2:=hx.new dy.o (Nat.le_refl _) ou.nl t6.2;have ou2:=t6.1;clear hx ou t6 ee e3 hH;generalize (((wd.setCell ⟨gR,bi*3,none⟩ (.bool x3.b)).setCell ⟨gR,bi*3+1,none⟩ (.slice x3.A x3.xs.length x3.c)).setCell ⟨gR,bi*3+2,none⟩ (.slice x3.D x3.ys.length x3.d))=wd at *;refine hK.out _ _ ?_;clear hK K;try simp only [tz]
        refine q5 Ha ?_
        go_wp2_with fail;go_roundw
        case rel=>exact ⟨k+1,by omega,by go_num,ou2.mono (fun a _ _ => .inl trivial) (fun a _ _=>by
         rw [rvP,mf.o];by_cases hab:a=bi
         ·rw [if_pos hab,if_pos hab.symm];exact negz _
         ·rw [if_neg hab,if_neg (fun e=>hab e.symm)]),hx2⟩
        case measure=>simp [intOf];omega
       ·go_wp2_with fail;go_roundw
        case rel=>exact ⟨k+1,by omega,by go_num,bj.o.mono (fun a _ ha=>ha) (fun a ha _=>by rw [rvP,mf.o,if_neg (by omega)]),HX.o⟩
        case measure=>simp [intOf];omega
      ·obtain rfl:m=k:=by omega
       have bj:Hd (Ou wr gR gR n (fun _=>True) (fT m y3.T y3.B s0)):=ag (ou.mono (fun _ _ _=>trivial) (fun a _ _=>Bn m (fun i hi r hr e=>i9 oy.o.tab hi hr e) bO.o));have HX:=ag hx;clear ou hx;go_wp2_with fail;refine (r16point_rtz HX.o.t hNl oy.o).mono ?_;rintro e w12 ⟨gX,rfl,oX,bb⟩;have lJ:=ag oX;have lv:Hd (gX≠gR):=ag (by have h1:=bj.o.lt;have h2:=oX.lt;omega)
       have mn:Hd (¬gX=g2):=ag (by have:=HX.o.lts.g2;have:=oX.lt;omega)
       have BB:Hd (w.heap.size<=wr.heap.size):=ag HX.o.bw.size;replace bj:=ag (bj.o.below bb);replace HX:=ag (HX.o.below bb);clear oX bb;go_wp2_with fail;refine (iT w12).mono ?_;rintro e w13 ⟨x9,rfl,e9,bb⟩;have osx:=(lJ.o.below bb).os;have osr:=(bj.o.below bb).os;obtain ⟨vX,hvX,osX⟩:=osx;obtain ⟨vR,hvR,osR⟩:=osr;replace HX:=ag (HX.o.below bb);have SOL:Hd (SolS w13 w.heap.size m n p.a p.b p.c ⟨3,⟨some ⟨gX,0,none⟩,n,vX⟩,slN,⟨some ⟨gR,0,none⟩,n,vR⟩,x9⟩):=ag (.unb y3 oy.o EL.o s0 ub.o hZ.o rfl rfl (osX.mono BB.o) (osR.mono dy.o.b) e9);have dB:Hd (¬gR=g2):=ag (by have:=dy.o.g2;omega)
       have bX:=ag hvX;have FR:=ag hvR;clear osX osR e9 bb bj lJ hvX hvR;obtain ⟨z0,z1,z2,z3,z4,z5,z6,zf,zl,zn⟩:=HX.o.zs;have f0:=zf 0;have f1:=zf 1;have f2:=zf 2;have f3:=zf 3;have f4:=zf 4;have f5:=zf 5;have f6:=zf 6;have ZN:=ag zn;clear zn zl;go_wp2_with fail;refine bodyPost_ret (v := .tuple #[(⟨3,⟨some ⟨gX,0,none⟩,n,vX⟩,slN,⟨some ⟨gR,0,none⟩,n,vR⟩,x9⟩:Sn).val, .int .i64 0]) (by simp [results,Tryz.results23,go_sem,z0,z1,z2,z3,z4,z5,z6,bX.o,FR.o]) rfl ?_
       have k7:=Kp.set7 (S:=fun a=>a=g2) (Kp.refl _ w13) rfl (.int .i64 3) (.slice (some ⟨gX,0,none⟩) n n) (.slice none 0 0) (.slice (some ⟨gR,0,none⟩) n n) (.bool x9.b) (.slice x9.A x9.xs.length x9.c) (.slice x9.D x9.ys.length x9.d);clear z0 z1 z2 z3 z4 z5 z6 f0 f1 f2 f3 f4 f5 f6 zf;generalize (((((((w13.setCell ⟨g2,0,none⟩ (.int .i64 3)).setCell ⟨g2,1,none⟩ (.slice (some ⟨gX,0,none⟩) n n)).setCell ⟨g2,2,none⟩ (.slice none 0 0)).setCell ⟨g2,3,none⟩ (.slice (some ⟨gR,0,none⟩) n n)).setCell ⟨g2,4,none⟩ (.bool x9.b)).setCell ⟨g2,5,none⟩ (.slice x9.A x9.xs.length x9.c)).setCell ⟨g2,6,none⟩ (.slice x9.D x9.ys.length x9.d))=wf at k7|-
       exact ⟨_,rfl,SOL.o.kp k7 (fun a e=>by rw [e];exact ZN.o) (fun ad e=>by injection e with e;subst e;exact mn.o) (fun ad e=>by cases e) (fun ad e=>by injection e with e;subst e;exact dB.o),(fun a b e1 e2=>by injection e1 with e1;subst e1;rcases e2 with e2|e2;(cases e2);injection e2 with e2;subst e2;exact lv.o),HX.o.bw.trans (k7.below (fun a e=>by rw [e];exact ip.o) HX.o.bw.size)⟩
--D}
 | none=>
   have ub:=ag hen;rw [show rK none = -1 from rfl];clear hen;obtain ⟨f1,fi,fi0,fi1,fi2⟩:=info_parts dr;go_upto_region 82 with (refine wpList_make_full w6 rfl _ _ 22 rfl w6.heap.size 29 f1 Fx.nil.val 3 underlying22 fi fi0 fi1 .i64 .i64 _ _ m rfl rfl (by omega) (by omega) (by rw [fi2];omega) (by simp only [maxLen];omega) (Nat.le_refl _) ?_;intro w9 hg2 hb2)
   have bb:Below w6.heap.size w6 w9:=(ah _ _).grown hb2 (Nat.le_refl _) (by intro k hk;cases hk)
   have bj:Hd (Ou w9 w6.heap.size w6.heap.size m (fun a=>a<0) (kr m n p.b (cV n p.c) y3)):=ag (by
    refine ⟨List.replicate m Fx.nil,⟨?_,fun v hv=>by rw [List.eq_of_mem_replicate hv];exact Fx.nil_ok _⟩,by simp,fun _ _ h=>absurd h (Nat.not_lt_zero _)⟩
    unfold Fr;rw [List.length_replicate,<-dm];exact hg2)
   have dy:=ag HX.o.lts;replace HX:=ag (HX.o.below bb);clear hg2 hb2 bb fi fi0 fi1 fi2 f1;generalize w6.heap.size=gY at *;go_wp2_with fail;go_loopw [27] (fun kv wr=>∃k:Nat,k<=m/\kv = .int .i64 k/\Ou wr gY gY m (fun a=>a<k) (kr m n p.b (cV n p.c) y3)/\Hx w wr p g1 g2 gt L G n m N (extT m (n+m) (cV n p.c) y3)) (fun kv _=>m-(intOf kv).toNat)
   case atStart=>exact ⟨0,by omega,rfl,bj.o.mono (fun a _ h=>by omega) (fun _ _ _=>rfl),HX.o⟩
   case round=>
    clear bj HX;obtain ⟨k,hk,rfl,ou,hx⟩:=hrel;by_cases hlt:k<m
    ·
--D{
     obtain ⟨nk,hnk⟩:∃a,n+k=a:=⟨_,rfl⟩;have hni:(n:Int)+(k:Int)=(nk:Int):=by omega
     have hwb:IntKind.i64.wrap (nk:Int)=(nk:Int):=IntWalk.i64_in _ (by omega)
     have hnN:nk<N:=by have:=cq.o;omega
     have hel:=hx.t.elg (Nat.le_refl m) cH.o hnN;obtain ⟨xc,ec⟩:=hel;obtain ⟨v,hv⟩:∃v,(extT m (n+m) (cV n p.c) y3).T m nk=v:=⟨_,rfl⟩;rw [hv] at ec;have l7:Hd (-v=nf m n (cV n p.c) y3.T y3.B k):=ag (by rw [<-hv,<-hnk];exact opt_pri hlt)
     have rW:Hd (Sz v 128 128):=ag (by rw [<-hv];exact (ext2 oy.o HW.o m (Nat.le_refl m) nk (by omega)).up)
     have eZ:=ag ec;have HX:=ag hx;have bj:=ag ou;have c1:=hx.t.c1 cH.o;have k0:=ec.c0;have k1:=ec.c1;have k2:=ec.c2;clear hnk hv ec ou hx;go_wp2_with fail;refine (r2opp_el wr xc _ eZ.o.el rW.o).mono ?_;rintro e w7 ⟨x1,rfl,e1,bb⟩;replace bj:=ag (bj.o.below bb);replace HX:=ag (HX.o.below bb);replace eZ:=ag (eZ.o.below bb);clear bb c1 k0 k1 k2;obtain ⟨v9,k0,k1,k2,aF,aG,aH⟩:=bj.o.slot hlt;go_upto_region 86 with fail;have t6:=bj.o.put (i:=k) e1;have nly:=bj.o.nl;have hlt7:=dy.o;have hec:=eZ.o.kp t6.2 (fun a e=>by rw [e];exact nly) (fun e=>by have:=hlt7.S gm (.inr ⟨m,by rw [HX.o.t.em];exact Nat.le_refl m,cH.o.symm⟩);omega)
     replace eZ:=ag hec;replace HX:=ag (HX.o.new dy.o (Nat.le_refl _) bj.o.nl t6.2);replace bj:=ag t6.1;clear t6 e1 k0 k1 k2 aF aG aH v9 nly hlt7 hec;generalize (((w7.setCell ⟨gY,k*3,none⟩ (.bool x1.b)).setCell ⟨gY,k*3+1,none⟩ (.slice x1.A x1.xs.length x1.c)).setCell ⟨gY,k*3+2,none⟩ (.slice x1.D x1.ys.length x1.d))=w8 at *;obtain ⟨b,hb⟩:∃b,decide (p.b k<0)=b:=⟨_,rfl⟩;have ct:w8.cell? ⟨gt,k,none⟩=some (.bool b):=by rw [<-hb];exact HX.o.tn.c k hlt
     cases b with
     | false=>
       have HF:Hd (kr m n p.b (cV n p.c) y3 k = -v):=ag (by rw [prc_f hb,l7.o])
       clear hb;go_wp2_with fail;go_roundw
       case rel=>exact ⟨k+1,by omega,by go_num,bj.o.mono (fun a _ ha=>by omega) (fun a _ _=>by by_cases hak:a=k <;> simp [hak,HF.o]),HX.o⟩
       case measure=>simp [intOf];omega
     | true=>
       have HF:Hd (kr m n p.b (cV n p.c) y3 k=v):=ag (by rw [prc_t hb,<-l7.o];exact negn v)
       have c1:=HX.o.t.c1 cH.o;have j0:=eZ.o.c0;have j1:=eZ.o.c1;have j2:=eZ.o.c2;obtain ⟨v9,k0,k1,k2,aF,aG,aH⟩:=bj.o.slot hlt;clear hb;go_wp2_with fail;have t6:=bj.o.put (i:=k) eZ.o.el;have hx2:=HX.o.new dy.o (Nat.le_refl _) bj.o.nl t6.2;go_roundw
       case rel=>exact ⟨k+1,by omega,by go_num,t6.1.mono (fun a _ ha=>by omega) (fun a _ _=>by by_cases hak:a=k <;> simp [hak,HF.o]),hx2⟩
       case measure=>simp [intOf];omega
--D}
    ·obtain rfl:m=k:=by omega
     have bj:Hd (Ou wr gY gY m (fun _=>True) (kr m n p.b (cV n p.c) y3)):=ag (ou.mono (fun a ha _=>ha) (fun _ _ _=>rfl));have HX:=ag hx;clear ou hx;obtain ⟨v,hv⟩:∃v,bV m (cV n p.c) y3.T y3.B (n+m)=v:=⟨_,rfl⟩;have he:(extT m (n+m) (cV n p.c) y3).T m M = - v:=by rw [<-q8.o,<-hv];exact ext_val
     have hel:=HX.o.t.elg (Nat.le_refl m) cH.o hMN;rw [he] at hel;obtain ⟨xc,ec⟩:=hel;have eZ:=ag ec;have cC:Hd (- -v=bV m (cV n p.c) y3.T y3.B (n+m)):=ag (by rw [hv];exact negn v)
     have rW:Hd (Sz (-v) 128 128):=ag (by rw [<-hv];exact Sz.neg ((fit2 oy.o HW.o).dt (n+m) (Nat.le_refl _) m (Nat.le_refl _)).up)
     have ps:Hd (¬gY=g2):=ag (by have:=dy.o.g2;omega)
     have hMw:(n:Int)+(m:Int)=(M:Int):=by have:=q8.o;omega
     have hwb:IntKind.i64.wrap (M:Int)=(M:Int):=IntWalk.i64_in _ (by have:=q8.o;omega)
     clear hv he ec;go_upto_region 88 with fail;have hx:=HX.o.below (ah wr.heap.size wr).drew;have ou:=bj.o.below (ah wr.heap.size wr).drew;have ec:=eZ.o.below (ah wr.heap.size wr).drew;refine qm (S:=fun w'=>w'.cell? ⟨G,1,none⟩=some (.slice (some ⟨gm,0,none⟩) N (L.c m))/\w'.cell? ⟨gm,M*3,none⟩=some (.bool xc.b)/\w'.cell? ⟨gm,M*3+1,none⟩=some (.slice xc.A xc.xs.length xc.c)/\w'.cell? ⟨gm,M*3+2,none⟩=some (.slice xc.D xc.ys.length xc.d)) 14 16 ⟨hx.t.c1 cH.o,ec.c0,ec.c1,ec.c2⟩ fun Ha hH=>?_
     generalize wr.drew=wd at *;refine mY Ha 0 (.pointer (some ⟨G,0,none⟩)) rfl ?_;simp only [tz];refine mY Ha 2 (.slice (some ⟨gY,0,none⟩) m m) rfl ?_;simp only [tz];refine mY Ha 3 (.pointer (some ⟨G,0,none⟩)) rfl ?_;simp only [tz];refine mY Ha 4 (.pointer (some ⟨G,0,none⟩)) rfl ?_;simp only [tz];refine mY Ha 5 (.pointer (some ⟨G,1,none⟩)) rfl ?_;simp only [tz];refine mY Ha 6 (.slice (some ⟨gm,0,none⟩) N (L.c m)) rfl ?_;simp only [tz];refine mY Ha 7 (.int .i64 (n:Int)) rfl ?_;simp only [tz];refine mY Ha 8 (.int .i64 (m:Int)) rfl ?_;simp only [tz];refine mY Ha 9 (.int .i64 (M:Int)) rfl ?_;simp only [tz]
     refine mY Ha 10 (.pointer (some ⟨gm,M*3,none⟩)) rfl ?_;simp only [tz];refine mY Ha 11 (xc.val) rfl ?_;simp only [tz];refine qW Ha 1 rfl fun K hK=>?_;go_simp;go_at_call 64;refine (r16point_rtz hx.t hNl oy.o).mono ?_;rintro e we ⟨gX,rfl,oX,bb⟩;have hgx:=hx.lts;have hgx2:=oX.lt;have hgy2:=ou.lt;replace hx:=hx.below bb;replace ou:=ou.below bb;replace ec:=ec.below bb;clear bb hH;generalize we=wd at *;refine hK.out _ _ ⟨hx.t.c1 cH.o,ec.c0,ec.c1,ec.c2⟩ fun hH=>?_;clear hK K;try simp only [tz]
     refine qW Ha 12 rfl fun K hK=>?_;go_simp;go_at_call 59;refine (r2opp_el wd xc _ ec.el rW.o).mono ?_;rintro e we ⟨x9,rfl,e9,bb⟩;replace oX:=oX.below bb;replace hx:=hx.below bb;replace ou:=ou.below bb;replace ec:=ec.below bb;clear bb hH;generalize we=wd at *;refine hK.out _ _ ⟨hx.t.c1 cH.o,ec.c0,ec.c1,ec.c2⟩ fun hH=>?_;clear hK K;try simp only [tz]
     refine mY Ha 13 (.agg #[.int .i64 1, .slice (some ⟨gX,0,none⟩) n n, .slice (some ⟨gY,0,none⟩) m m, .slice none 0 0, .bool x9.b, .slice x9.A x9.xs.length x9.c, .slice x9.D x9.ys.length x9.d]) rfl ?_;simp only [tz];refine Bh Ha 14 rfl fun K hK=>?_;obtain ⟨vX,hvX,osX⟩:=oX.os;obtain ⟨vY,hvY,osY⟩:=ou.os;have SOL:Hd (SolS wd w.heap.size m n p.a p.b p.c ⟨1,⟨some ⟨gX,0,none⟩,n,vX⟩,⟨some ⟨gY,0,none⟩,m,vY⟩,slN,x9⟩):=ag (.opt y3 oy.o EL.o ub.o rfl rfl (osX.mono hgx.b) (osY.mono dy.o.b) (by rw [cC.o] at e9;exact e9))
     have mn:Hd (¬gX=g2):=ag (by have:=hgx.g2;omega)
     have Fqq:Hd (gX≠gY):=ag (by omega)
     have C5:=ag hx;have bX:=ag hvX;have cF:=ag hvY;clear osX osY oX ou e9 hgx hgx2 hgy2 ec hH hvX hvY;obtain ⟨z0,z1,z2,z3,z4,z5,z6,zf,zl,zn⟩:=C5.o.zs;have f0:=zf 0;have f1:=zf 1;have f2:=zf 2;have f3:=zf 3;have f4:=zf 4;have f5:=zf 5;have f6:=zf 6;have ZN:=ag zn;clear zn zl hx;go_simp;refine hK.out _ _ ?_;clear hK K;try simp only [tz]
     refine Bh Ha 15 rfl fun K hK=>?_;go_simp;refine hK.out _ _ ?_;clear hK K;try simp only [tz]
     refine q5 Ha ?_
     go_wp2_with fail;refine bodyPost_ret (v := .tuple #[(⟨1,⟨some ⟨gX,0,none⟩,n,vX⟩,⟨some ⟨gY,0,none⟩,m,vY⟩,slN,x9⟩:Sn).val, .int .i64 0]) (by simp [results,Tryz.results23,go_sem,z0,z1,z2,z3,z4,z5,z6,bX.o,cF.o]) rfl ?_
     have k7:=Kp.set7 (S:=fun a=>a=g2) (Kp.refl _ wd) rfl (.int .i64 1) (.slice (some ⟨gX,0,none⟩) n n) (.slice (some ⟨gY,0,none⟩) m m) (.slice none 0 0) (.bool x9.b) (.slice x9.A x9.xs.length x9.c) (.slice x9.D x9.ys.length x9.d);clear z0 z1 z2 z3 z4 z5 z6 f0 f1 f2 f3 f4 f5 f6 zf;generalize (((((((wd.setCell ⟨g2,0,none⟩ (.int .i64 1)).setCell ⟨g2,1,none⟩ (.slice (some ⟨gX,0,none⟩) n n)).setCell ⟨g2,2,none⟩ (.slice (some ⟨gY,0,none⟩) m m)).setCell ⟨g2,3,none⟩ (.slice none 0 0)).setCell ⟨g2,4,none⟩ (.bool x9.b)).setCell ⟨g2,5,none⟩ (.slice x9.A x9.xs.length x9.c)).setCell ⟨g2,6,none⟩ (.slice x9.D x9.ys.length x9.d))=wf at k7|-
     exact ⟨_,rfl,SOL.o.kp k7 (fun a e=>by rw [e];exact ZN.o) (fun ad e=>by injection e with e;subst e;exact mn.o) (fun ad e=>by injection e with e;subst e;exact ps.o) (fun ad e=>by cases e),(fun a b e1 e2=>by injection e1 with e1;subst e1;rcases e2 with e2|e2;(injection e2 with e2;subst e2;exact Fqq.o);cases e2),C5.o.bw.trans (k7.below (fun a e=>by rw [e];exact ip.o) C5.o.bw.size)⟩
end Go.Proofs.YtkpfbekmaafehaaGreat
