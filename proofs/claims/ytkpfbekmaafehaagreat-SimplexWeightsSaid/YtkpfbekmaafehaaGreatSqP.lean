/- Words for the walks of simplex: a tableau in memory -/
import Derived.Test.YtkpfbekmaafehaaGreatSqW
import Derived.Test.YtkpfbekmaafehaaGreatFrC
import Derived.Test.YtkpfbekmaafehaaGreatFrD
import Derived.Test.YtkpfbekmaafehaaGreatFrG
namespace Go.Proofs.YtkpfbekmaafehaaGreat
open _root_.Go.Proofs.Tryz
set_option maxHeartbeats 8000000
set_option maxRecDepth 100000
open Go.RowKit
theorem zH {xs:List Nat} (h:xs.Nodup) {i j:Nat} (hi:i<xs.length) (hj:j<xs.length) (e:xs[i]=xs[j]):i=j:=by
 rw [List.nodup_iff_pairwise_ne,List.pairwise_iff_getElem] at h;rcases Nat.lt_trichotomy i j with h1|h1|h1
 ·exact absurd e (h i j hi hj h1)
 ·exact h1
 ·exact absurd e.symm (h j i hj hi h1)
def oE (T:Nat->Nat->Rat) (i j:Nat) (q:Rat):Nat->Nat->Rat:=fun r k=>if r=i/\k=j then q else T r k
structure Mx (w:World) (B:Nat) (gs:List Nat) (N:Nat) (T:Nat->Nat->Rat):Prop where
 row:∀i (h:i<gs.length),∃vs,Qr w B (some ⟨gs[i],0,none⟩) vs/\vs.length=N/\∀k (hk:k<vs.length),Rp vs[k] (T i k)
 nd:gs.Nodup
section
variable {w w':World} {B N:Nat} {gs:List Nat} {T T':Nat->Nat->Rat} {S:Nat->Prop}
theorem Mx.kp (h:Mx w B gs N T) (k:Kp S w w') (nl:∀g,S g->NL w g) (hd:∀g∈gs,¬S g):Mx w' B gs N T:=⟨fun i hi=>by
 obtain ⟨vs,a,b,c⟩:=h.row i hi;exact ⟨vs,k.qr a nl (fun ad e=>by injection e with e;subst e;exact hd _ (List.getElem_mem hi)),b,c⟩,h.nd⟩
theorem Mx.nl (h:Mx w B gs N T) {g:Nat} (hg:g∈gs):NL w g:=by
 obtain ⟨i,hi,rfl⟩:=List.getElem_of_mem hg;obtain ⟨vs,a,_,_⟩:=h.row i hi;exact a.nl
theorem Mx.lt (h:Mx w B gs N T) {g:Nat} (hg:g∈gs):B<=g/\g<w.heap.size:=by
 obtain ⟨i,hi,rfl⟩:=List.getElem_of_mem hg;obtain ⟨vs,a,_,_⟩:=h.row i hi;exact a.lt
theorem Mx.congr (h:Mx w B gs N T) (e:∀i,i<gs.length->∀k,k<N->T i k=T' i k):Mx w B gs N T':=⟨fun i hi=>by
 obtain ⟨vs,a,b,c⟩:=h.row i hi;exact ⟨vs,a,b,fun k hk=>by rw [<-e i hi k (by omega)];exact c k hk⟩,h.nd⟩
structure Ev (w:World) (g k:Nat) (x:Fx) (q:Rat):Prop where
 el:El w x q
 c0:w.cell? ⟨g,k*3,none⟩=some (.bool x.b)
 c1:w.cell? ⟨g,k*3+1,none⟩=some (.slice x.A x.xs.length x.c)
 c2:w.cell? ⟨g,k*3+2,none⟩=some (.slice x.D x.ys.length x.d)
 f0:w.frozen? ⟨g,k*3,none⟩=false
 f1:w.frozen? ⟨g,k*3+1,none⟩=false
 f2:w.frozen? ⟨g,k*3+2,none⟩=false
 lt:g<w.heap.size
theorem Ev.below {g k:Nat} {x:Fx} {q:Rat} (h:Ev w g k x q) (hb:Below w.heap.size w w'):Ev w' g k x q:=
 ⟨h.el.below hb,(hb.cell (p:=⟨g,k*3,none⟩) h.lt).trans h.c0,(hb.cell (p:=⟨g,k*3+1,none⟩) h.lt).trans h.c1,(hb.cell (p:=⟨g,k*3+2,none⟩) h.lt).trans h.c2,
  (hb.frozen (p:=⟨g,k*3,none⟩) h.lt).trans h.f0,(hb.frozen (p:=⟨g,k*3+1,none⟩) h.lt).trans h.f1,(hb.frozen (p:=⟨g,k*3+2,none⟩) h.lt).trans h.f2,Nat.lt_of_lt_of_le h.lt hb.size⟩
theorem Qr.ev {A:Nat} {vs:List Fx} {q:Rat} (a:Qr w B (some ⟨A,0,none⟩) vs) {k:Nat} (hk:k<vs.length) (r:Rp vs[k] q):Ev w A k vs[k] q:=by
 obtain ⟨h0,h1,h2⟩:=a.cells k hk;exact ⟨⟨a.ok _ (List.getElem_mem hk),r⟩,h0,h1,h2,a.free _,a.free _,a.free _,a.lt.2⟩
theorem Mx.el (h:Mx w B gs N T) {i k:Nat} (hi:i<gs.length) (hk:k<N):∃x,Ev w gs[i] k x (T i k):=by
 obtain ⟨vs,a,b,c⟩:=h.row i hi;have hk':k<vs.length:=by omega
 exact ⟨vs[k],a.ev hk' (c k hk')⟩
theorem Mx.put (h:Mx w B gs N T) {i k:Nat} (hi:i<gs.length) {x:Fx} {q:Rat} (hx:El w x q) :
 Mx (((w.setCell ⟨gs[i],k*3,none⟩ (.bool x.b)).setCell ⟨gs[i],k*3+1,none⟩ (.slice x.A x.xs.length x.c)).setCell ⟨gs[i],k*3+2,none⟩ (.slice x.D x.ys.length x.d)) B gs N (oE T i k q):=by
 have kp:Kp (fun g=>g=gs[i]) w (((w.setCell ⟨gs[i],k*3,none⟩ (.bool x.b)).setCell ⟨gs[i],k*3+1,none⟩ (.slice x.A x.xs.length x.c)).setCell ⟨gs[i],k*3+2,none⟩ (.slice x.D x.ys.length x.d)):=
  (Kp.refl (fun g=>g=gs[i]) w).set3 (S:=fun g=>g=gs[i]) rfl _ _ _ _ _ _
 refine ⟨fun r hr=>?_,h.nd⟩;obtain ⟨vs,a,b,c⟩:=h.row r hr;by_cases e:r=i
 ·subst e;refine ⟨vs.set k x,a.put k hx.ok,by rw [List.length_set];exact b,fun c' hc=>?_⟩
  rw [List.getElem_set,oE];rw [List.length_set] at hc;by_cases e2:k=c'
  ·rw [if_pos e2,if_pos ⟨rfl,e2.symm⟩];exact hx.rp
  ·rw [if_neg e2,if_neg (fun h=>e2 h.2.symm)];exact c c' hc
 ·refine ⟨vs,kp.qr a (fun g hg=>by rw [hg];exact h.nl (List.getElem_mem hi)) (fun ad ea hs=>?_),b,fun k' hk'=>?_⟩
  ·injection ea with ea;subst ea;exact e (zH h.nd hr hi hs)
  ·rw [oE,if_neg (fun h=>e h.1)];exact c k' hk'
end
structure Lay where
 G:Nat
 go:Nat
 co:Nat
 gb:Nat
 cb:Nat
 gt:Nat
 ct:Nat
 n:Nat
 gs:List Nat
 ts:List Bool
def Lay.N (L:Lay):Nat:=L.n+L.gs.length+1
def Lay.S (L:Lay) (g:Nat):Prop:=g=L.gb\/g∈L.gs
abbrev oS (N:Nat) (g:Nat):Value := .slice (some ⟨g,0,none⟩) N N
structure Tq (w:World) (B:Nat) (L:Lay) (x:St):Prop where
 out:Rd (oS L.N) w (some ⟨L.go,0,none⟩) L.gs
 mx:Mx w B L.gs L.N x.T
 ba:∃bs,Gr iv 3 w B (some ⟨L.gb,0,none⟩) L.cb bs/\bs.length=L.gs.length/\∀i (h:i<bs.length),bs[i]=(x.B i:Int)
 bl:NL w L.gb
 do_:¬L.S L.go
 db:¬L.gb∈L.gs
 ol:L.go<w.heap.size
structure Tw (w:World) (B:Nat) (L:Lay) (x:St):Prop where
 q:Tq w B L x
 c0:w.cell? ⟨L.G,0,none⟩=some (.slice (some ⟨L.go,0,none⟩) L.gs.length L.co)
 c1:w.cell? ⟨L.G,1,none⟩=some (.slice (some ⟨L.gb,0,none⟩) L.gs.length L.cb)
 c2:w.cell? ⟨L.G,2,none⟩=some (.int .i64 (L.n:Int))
 c3:w.cell? ⟨L.G,3,none⟩=some (.slice (some ⟨L.gt,0,none⟩) L.gs.length L.ct)
 lt:L.G<w.heap.size
 tr:Rd Value.bool w (some ⟨L.gt,0,none⟩) L.ts
 tl:L.ts.length=L.gs.length
 dg:¬L.S L.G
 dt:¬L.S L.gt
 gl:L.gt<w.heap.size
section
variable {w w':World} {B:Nat} {L:Lay} {x:St} {S:Nat->Prop}
theorem Tq.nl (h:Tq w B L x):∀g,L.S g->NL w g:=fun g hg=>by
 rcases hg with rfl|hg
 ·exact h.bl
 ·exact h.mx.nl hg
theorem Tq.ge (h:Tq w B L x):∀g,L.S g->B<=g:=fun g hg=>by
 rcases hg with rfl|hg
 ·obtain ⟨bs,b,_⟩:=h.ba;exact (b.form.2.2 _ rfl).1
 ·exact (h.mx.lt hg).1
theorem Tq.lts (h:Tq w B L x):∀g,L.S g->g<w.heap.size:=fun g hg=>by
 rcases hg with rfl|hg
 ·obtain ⟨bs,b,_⟩:=h.ba;exact (b.form.2.2 _ rfl).2
 ·exact (h.mx.lt hg).2
theorem Tq.kp (h:Tq w B L x) (k:Kp S w w') (nl:∀g,S g->NL w g) (ho:¬S L.go) (hd:∀g,L.S g->¬S g):Tq w' B L x:=by
 obtain ⟨bs,b,bl,be⟩:=h.ba;have hb:=hd _ (Or.inl rfl);obtain ⟨cur,t,e,hn⟩:=h.bl;exact ⟨k.rd h.out (fun _ ad e=>by injection e with e;subst e;exact ho),h.mx.kp k nl (fun g hg=>hd g (Or.inr hg)),⟨bs,k.gr b (fun ad e=>by injection e with e;subst e;exact hb),bl,be⟩,
  ⟨cur,t,(k.block _ (Array.getElem?_eq_some_iff.1 e).1 hb).trans e,hn⟩,h.do_,h.db,Nat.lt_of_lt_of_le h.ol k.size⟩
theorem Tw.kp (h:Tw w B L x) (k:Kp S w w') (nl:∀g,S g->NL w g) (hG:¬S L.G) (ho:¬S L.go) (ht:¬S L.gt) (hd:∀g,L.S g->¬S g):Tw w' B L x:=
 ⟨h.q.kp k nl ho hd,(k.cell (p:=⟨L.G,0,none⟩) h.lt hG).trans h.c0,(k.cell (p:=⟨L.G,1,none⟩) h.lt hG).trans h.c1,(k.cell (p:=⟨L.G,2,none⟩) h.lt hG).trans h.c2,(k.cell (p:=⟨L.G,3,none⟩) h.lt hG).trans h.c3,
  Nat.lt_of_lt_of_le h.lt k.size,k.rd h.tr (fun _ ad e=>by injection e with e;subst e;exact ht),h.tl,h.dg,h.dt,Nat.lt_of_lt_of_le h.gl k.size⟩
theorem Tw.below (h:Tw w B L x) (hb:Below w.heap.size w w'):Tw w' B L x:=h.kp (fo (fun _=>False) hb) (fun _ h=>h.elim) (fun h=>h) (fun h=>h) (fun h=>h) (fun _ _ h=>h)
theorem Tw.turned (h:Tw w B L x) (k:Kp L.S w w') {y:St} (q:Tq w' B L y):Tw w' B L y:=
 ⟨q,(k.cell (p:=⟨L.G,0,none⟩) h.lt h.dg).trans h.c0,(k.cell (p:=⟨L.G,1,none⟩) h.lt h.dg).trans h.c1,(k.cell (p:=⟨L.G,2,none⟩) h.lt h.dg).trans h.c2,(k.cell (p:=⟨L.G,3,none⟩) h.lt h.dg).trans h.c3,
  Nat.lt_of_lt_of_le h.lt k.size,k.rd h.tr (fun _ ad e=>by injection e with e;subst e;exact h.dt),h.tl,h.dg,h.dt,Nat.lt_of_lt_of_le h.gl k.size⟩
theorem Tq.put (h:Tq w B L x) {i k:Nat} (hi:i<L.gs.length) {y:Fx} {q:Rat} (hy:El w y q) :
 Tq (((w.setCell ⟨L.gs[i],k*3,none⟩ (.bool y.b)).setCell ⟨L.gs[i],k*3+1,none⟩ (.slice y.A y.xs.length y.c)).setCell ⟨L.gs[i],k*3+2,none⟩ (.slice y.D y.ys.length y.d)) B L ⟨oE x.T i k q,x.B⟩:=by
 have hm:L.gs[i]∈L.gs:=List.getElem_mem hi;have kp:Kp (fun g=>g=L.gs[i]) w (((w.setCell ⟨L.gs[i],k*3,none⟩ (.bool y.b)).setCell ⟨L.gs[i],k*3+1,none⟩ (.slice y.A y.xs.length y.c)).setCell ⟨L.gs[i],k*3+2,none⟩ (.slice y.D y.ys.length y.d)):=
  (Kp.refl (fun g=>g=L.gs[i]) w).set3 (S:=fun g=>g=L.gs[i]) rfl _ _ _ _ _ _
 obtain ⟨bs,b,bl,be⟩:=h.ba;have hgb:L.gb≠L.gs[i]:=fun e=>h.db (e ▸ hm);have hgo:L.go≠L.gs[i]:=fun e=>h.do_ (Or.inr (e ▸ hm));exact ⟨kp.rd h.out (fun _ ad e=>by injection e with e;subst e;exact hgo),h.mx.put hi hy,⟨bs,kp.gr b (fun ad e=>by injection e with e;subst e;exact hgb),bl,be⟩,
  ((h.bl.far hgb).far hgb).far hgb,h.do_,h.db,Nat.lt_of_lt_of_le h.ol kp.size⟩
theorem Tq.bas (h:Tq w B L x) {i:Nat} (hi:i<L.gs.length):w.cell? ⟨L.gb,i,none⟩=some (.int .i64 (x.B i:Int))/\w.frozen? ⟨L.gb,i,none⟩=false:=by
 obtain ⟨bs,b,bl,be⟩:=h.ba;have hi':i<bs.length:=by omega
 exact ⟨by rw [b.cell i hi',be i hi'],b.free i⟩
theorem Tq.putB (h:Tq w B L x) (i j:Nat):Tq (w.setCell ⟨L.gb,i,none⟩ (.int .i64 (j:Int))) B L ⟨x.T,cg x.B i j⟩:=by
 have kp:Kp (fun g=>g=L.gb) w (w.setCell ⟨L.gb,i,none⟩ (.int .i64 (j:Int))):=(Kp.refl (fun g=>g=L.gb) w).set (S:=fun g=>g=L.gb) rfl _ _;obtain ⟨bs,b,bl,be⟩:=h.ba;refine ⟨kp.rd h.out (fun _ ad e=>by injection e with e;subst e;exact fun e=>h.do_ (Or.inl e)),h.mx.kp kp (fun g hg=>by rw [hg];exact h.bl) (fun g hg e=>h.db (e ▸ hg)),
  ⟨bs.set i (j:Int),b.store i (j:Int),by rw [List.length_set];exact bl,fun r hr=>?_⟩,h.bl.set i rfl,h.do_,h.db,Nat.lt_of_lt_of_le h.ol kp.size⟩
 rw [List.getElem_set];rw [List.length_set] at hr
 show _=((cg x.B i j r:Nat):Int)
 rw [cg];by_cases e:i=r
 ·rw [if_pos e,if_pos e.symm]
 ·rw [if_neg e,if_neg (fun h=>e h.symm)];exact be r hr
theorem Tq.congr {y:St} (h:Tq w B L x) (eT:∀i,i<L.gs.length->∀k,k<L.N->x.T i k=y.T i k) (eB:∀i,i<L.gs.length->x.B i=y.B i):Tq w B L y:=by
 obtain ⟨bs,b,bl,be⟩:=h.ba;exact ⟨h.out,h.mx.congr eT,⟨bs,b,bl,fun i hi=>by rw [be i hi,eB i (by omega)]⟩,h.bl,h.do_,h.db,h.ol⟩
theorem Tq.row (h:Tq w B L x) {i:Nat} (hi:i<L.gs.length):w.cell? ⟨L.go,i,none⟩=some (.slice (some ⟨L.gs[i],0,none⟩) L.N L.N):=by
 obtain ⟨ad,e,_,hc⟩:=h.out (by omega)
 injection e with e;subst e;have:=hc i hi;rw [vw] at this;exact this
theorem Tw.trn (h:Tw w B L x) {i:Nat} (hi:i<L.gs.length):w.cell? ⟨L.gt,i,none⟩=some (.bool (L.ts[i]'(by rw [h.tl];exact hi))):=by
 obtain ⟨ad,e,_,hc⟩:=h.tr (by rw [h.tl];omega)
 injection e with e;subst e;have:=hc i (by rw [h.tl];exact hi)
 rw [vw] at this;exact this
end
section
variable {w:World} {B:Nat} {L:Lay} {x:St}
theorem Tw.rowg (h:Tw w B L x) {i g:Nat} (hi:i<L.gs.length) (hg:L.gs[i]=g):w.cell? ⟨L.go,i,none⟩=some (.slice (some ⟨g,0,none⟩) L.N L.N):=by
 rw [<-hg];exact h.q.row hi
theorem Tw.elg (h:Tw w B L x) {i k g:Nat} (hi:i<L.gs.length) (hg:L.gs[i]=g) (hk:k<L.N):∃y,Ev w g k y (x.T i k):=by
 rw [<-hg];exact h.q.mx.el hi hk
theorem Tw.put (h:Tw w B L x) {i k g:Nat} (hi:i<L.gs.length) (hg:L.gs[i]=g) {y:Fx} {q:Rat} (hy:El w y q) :
 Tw (((w.setCell ⟨g,k*3,none⟩ (.bool y.b)).setCell ⟨g,k*3+1,none⟩ (.slice y.A y.xs.length y.c)).setCell ⟨g,k*3+2,none⟩ (.slice y.D y.ys.length y.d)) B L ⟨oE x.T i k q,x.B⟩ /\
 Kp L.S w (((w.setCell ⟨g,k*3,none⟩ (.bool y.b)).setCell ⟨g,k*3+1,none⟩ (.slice y.A y.xs.length y.c)).setCell ⟨g,k*3+2,none⟩ (.slice y.D y.ys.length y.d)):=by
 subst hg;have kp:=(Kp.refl L.S w).set3 (Or.inr (List.getElem_mem hi)) (k*3) (k*3+1) (k*3+2) (.bool y.b) (.slice y.A y.xs.length y.c) (.slice y.D y.ys.length y.d);exact ⟨h.turned kp (h.q.put hi hy),kp⟩
theorem Tw.putB (h:Tw w B L x) (i j:Nat):Tw (w.setCell ⟨L.gb,i,none⟩ (.int .i64 (j:Int))) B L ⟨x.T,cg x.B i j⟩/\Kp L.S w (w.setCell ⟨L.gb,i,none⟩ (.int .i64 (j:Int))):=by
 have kp:=(Kp.refl L.S w).set (Or.inl rfl) i (.int .i64 (j:Int));exact ⟨h.turned kp (h.q.putB i j),kp⟩
theorem Tw.congr {y:St} (h:Tw w B L x) (eT:∀i,i<L.gs.length->∀k,k<L.N->x.T i k=y.T i k) (eB:∀i,i<L.gs.length->x.B i=y.B i):Tw w B L y:=
 h.turned (Kp.refl _ _) (h.q.congr eT eB)
end
structure Cl (w:World) (A:Option Addr) (vs:List Fx) (c:Nat->Rat):Prop where
 rd:RdF w A vs
 el:∀k (h:k<vs.length),El w vs[k] (c k)
section
variable {w w':World} {A:Option Addr} {vs:List Fx} {c:Nat->Rat} {S:Nat->Prop}
theorem Cl.below (h:Cl w A vs c) (hb:Below w.heap.size w w'):Cl w' A vs c:=⟨h.rd.below hb,fun k hk=>(h.el k hk).below hb⟩
theorem Cl.kp (h:Cl w A vs c) (k:Kp S w w') (nl:∀g,S g->NL w g) (hA:0<vs.length->∀ad,A=some ad->¬S ad.block):Cl w' A vs c:=
 ⟨k.rdf h.rd hA,fun i hi=>⟨k.ok (h.el i hi).ok nl,(h.el i hi).rp⟩⟩
theorem Cl.at (h:Cl w A vs c) {k:Nat} (hk:k<vs.length):∃ad,A=some ad/\∃x,Ef w (ad.add (k*3)) x/\El w x (c k):=by
 obtain ⟨ad,e,he⟩:=h.rd.at k hk;exact ⟨ad,e,_,he,h.el k hk⟩
end
structure Vl (w:World) (G:Nat) (x:Fx) (q:Rat):Prop where
 fa:Fa w G x
 rp:Rp x q
section
variable {w w':World} {G:Nat} {x:Fx} {q:Rat} {S:Nat->Prop}
theorem Vl.el (h:Vl w G x q):El w x q:=⟨h.fa.ok,h.rp⟩
theorem Vl.below (h:Vl w G x q) (hb:Below w.heap.size w w'):Vl w' G x q:=⟨h.fa.below hb,h.rp⟩
theorem Vl.c0 (h:Vl w G x q):w.cell? ⟨G,0,none⟩=some (.bool x.b):=h.fa.c0
theorem Vl.c1 (h:Vl w G x q):w.cell? ⟨G,1,none⟩=some (.slice x.A x.xs.length x.c):=h.fa.c1
theorem Vl.c2 (h:Vl w G x q):w.cell? ⟨G,2,none⟩=some (.slice x.D x.ys.length x.d):=h.fa.c2
theorem Vl.lt (h:Vl w G x q):G<w.heap.size:=h.fa.lt
theorem Bk3.kp {v0 v1 v2:Value} (h:Bk3 w G v0 v1 v2) (k:Kp S w w') (hG:¬S G):Bk3 w' G v0 v1 v2:=
 ⟨(k.cell (p:=⟨G,0,none⟩) h.lt hG).trans h.c0,(k.cell (p:=⟨G,1,none⟩) h.lt hG).trans h.c1,(k.cell (p:=⟨G,2,none⟩) h.lt hG).trans h.c2,(k.frozen (p:=⟨G,0,none⟩) h.lt hG).trans h.f0,(k.frozen (p:=⟨G,1,none⟩) h.lt hG).trans h.f1,(k.frozen (p:=⟨G,2,none⟩) h.lt hG).trans h.f2,
  Nat.lt_of_lt_of_le h.lt k.size,by rw [k.block G h.lt hG];exact h.blk⟩
theorem Fa.kp (h:Fa w G x) (k:Kp S w w') (nl:∀g,S g->NL w g) (hG:¬S G):Fa w' G x:=⟨h.bk.kp k hG,k.ok h.ok nl⟩
theorem Vl.kp (h:Vl w G x q) (k:Kp S w w') (nl:∀g,S g->NL w g) (hG:¬S G):Vl w' G x q:=⟨h.fa.kp k nl hG,h.rp⟩
theorem Ef.kp {p:Addr} (h:Ef w p x) (k:Kp S w w') (hG:¬S p.block):Ef w' p x:=
 ⟨Nat.lt_of_lt_of_le h.lt k.size,(k.cell (p:=p) h.lt hG).trans h.c0,(k.cell (p:=⟨p.block,p.off+1,none⟩) h.lt hG).trans h.c1,(k.cell (p:=⟨p.block,p.off+2,none⟩) h.lt hG).trans h.c2⟩
end
section
variable (w:World) (x y:Fx) (p q:Rat)
theorem rS (hx:El w x p) (hy:El w y q) (sx:Sz p 128 128) (sy:Sz q 128 128) (hz:Sz (p*q) 128 128) :
 Calls prog 95 #[x.val,y.val] w fun e w'=>∃z:Fx,e = .returned (.tuple #[z.val, .int .i64 0])/\Rp z (p*q)/\z.ok w'/\Below w.heap.size w w':=by
 refine (Ae w x y _ hx.ok hy.ok (hx.rp.l1 sx) (hx.rp.l2 sx) (hy.rp.l1 sy) (hy.rp.l2 sy) (rJ (hx.rp.v sx) (hy.rp.v sy) hx.rp.q hy.rp.q hz)).mono ?_;rintro e w' ⟨z,rfl,hs,ok,bb⟩;exact ⟨z,rfl,Rp.of hs,ok,bb⟩
theorem Ce (hx:El w x p) (hy:El w y q) (sx:Sz p 128 128) (sy:Sz q 128 128) (hz:Sz (p+q) 128 128) :
 Calls prog 96 #[x.val,y.val] w fun e w'=>∃z:Fx,e = .returned (.tuple #[z.val, .int .i64 0])/\Rp z (p+q)/\z.ok w'/\Below w.heap.size w w':=by
 refine (tQ w x y _ hx.ok hy.ok (hx.rp.l1 sx) (hx.rp.l2 sx) (hy.rp.l1 sy) (hy.rp.l2 sy) (sd (hx.rp.v sx) (hy.rp.v sy) hx.rp.q hy.rp.q hz)).mono ?_;rintro e w' ⟨z,rfl,hs,ok,bb⟩;exact ⟨z,rfl,Rp.of hs,ok,bb⟩
theorem fX (hx:El w x p) (hy:El w y q) (sx:Sz p 128 128) (sy:Sz q 128 128) (hz:Sz (p-q) 128 128) :
 Calls prog 89 #[x.val,y.val] w fun e w'=>∃z:Fx,e = .returned (.tuple #[z.val, .int .i64 0])/\Rp z (p-q)/\z.ok w'/\Below w.heap.size w w':=by
 refine (BT w x y p q (hx.nm sx) (hy.nm sy) hz).mono ?_;rintro e w' ⟨z,rfl,r,n,bb⟩;exact ⟨z,rfl,r,n.ok,bb⟩
theorem oh (hx:El w x p) (hy:El w y q) (sx:Sz p 128 128) (sy:Sz q 128 128) (hq:q≠0) (hz:Sz (p/q) 128 128) :
 Calls prog 115 #[x.val,y.val] w fun e w'=>∃z:Fx,e = .returned (.tuple #[z.val, .int .i64 0])/\Rp z (p/q)/\z.ok w'/\Below w.heap.size w w':=by
 refine (BZ w x y p q (hx.nm sx) (hy.nm sy) hq hz).mono ?_;rintro e w' ⟨z,rfl,r,n,bb⟩;exact ⟨z,rfl,r,n.ok,bb⟩
theorem Cc (z:Int) (hx:El w x p) (hy:El w y q) (sx:Sz p 128 128) (sy:Sz q 128 128) (hz:bA p q=z) :
 Calls prog 116 #[x.val,y.val] w fun e w'=>e = .returned (.tuple #[.int .i64 z, .int .i64 0])/\Below w.heap.size w w':=
 Ah w x y (z,0) hx.ok hy.ok (hx.rp.l1 sx) (hx.rp.l2 sx) (hy.rp.l1 sy) (hy.rp.l2 sy) (Cs (hx.rp.v sx) (hy.rp.v sy) hx.rp.q hy.rp.q hz)
end
theorem Sz.up {q:Rat} (h:Sz q 60 60):Sz q 128 128:=h.mono (by omega) (by omega)
structure Ou (w:World) (B g N:Nat) (D:Nat->Prop) (f:Nat->Rat):Prop where
 ex:∃vs,Qr w B (some ⟨g,0,none⟩) vs/\vs.length=N/\∀k (_:k<vs.length),D k->Rp vs[k] (f k)
section
variable {w w':World} {B g N:Nat} {D D':Nat->Prop} {f f':Nat->Rat}
theorem Ou.below (h:Ou w B g N D f) (hb:Below w.heap.size w w'):Ou w' B g N D f:=by
 obtain ⟨vs,a,b,c⟩:=h.ex;exact ⟨vs,a.below hb,b,c⟩
theorem Ou.nl (h:Ou w B g N D f):NL w g:=by
 obtain ⟨vs,a,_,_⟩:=h.ex;exact a.nl
theorem Ou.lt (h:Ou w B g N D f):B<=g/\g<w.heap.size:=by
 obtain ⟨vs,a,_,_⟩:=h.ex;exact a.lt
theorem Ou.mono (h:Ou w B g N D f) (hD:∀k,k<N->D' k->D k) (hf:∀k,k<N->D' k->f k=f' k):Ou w B g N D' f':=by
 obtain ⟨vs,a,b,c⟩:=h.ex;exact ⟨vs,a,b,fun k hk hd=>by rw [<-hf k (by omega) hd];exact c k hk (hD k (by omega) hd)⟩
theorem Ou.slot (h:Ou w B g N D f) {k:Nat} (hk:k<N):∃v:Fx,w.cell? ⟨g,k*3,none⟩=some (.bool v.b)/\w.cell? ⟨g,k*3+1,none⟩=some (.slice v.A v.xs.length v.c)/\w.cell? ⟨g,k*3+2,none⟩=some (.slice v.D v.ys.length v.d) /\
 w.frozen? ⟨g,k*3,none⟩=false/\w.frozen? ⟨g,k*3+1,none⟩=false/\w.frozen? ⟨g,k*3+2,none⟩=false:=by
 obtain ⟨vs,a,b,c⟩:=h.ex;obtain ⟨h0,h1,h2⟩:=a.cells k (by omega)
 exact ⟨_,h0,h1,h2,a.free _,a.free _,a.free _⟩
theorem Ou.ev (h:Ou w B g N D f) {k:Nat} (hk:k<N) (hd:D k):∃x,Ev w g k x (f k):=by
 obtain ⟨vs,a,b,c⟩:=h.ex;have hk':k<vs.length:=by omega
 exact ⟨vs[k],a.ev hk' (c k hk' hd)⟩
theorem Ou.put (h:Ou w B g N D f) {i:Nat} {y:Fx} {q:Rat} (hy:El w y q) :
 Ou (((w.setCell ⟨g,i*3,none⟩ (.bool y.b)).setCell ⟨g,i*3+1,none⟩ (.slice y.A y.xs.length y.c)).setCell ⟨g,i*3+2,none⟩ (.slice y.D y.ys.length y.d)) B g N (fun k=>D k\/k=i) (fun k=>if k=i then q else f k) /\
 Kp (fun a=>a=g) w (((w.setCell ⟨g,i*3,none⟩ (.bool y.b)).setCell ⟨g,i*3+1,none⟩ (.slice y.A y.xs.length y.c)).setCell ⟨g,i*3+2,none⟩ (.slice y.D y.ys.length y.d)):=by
 obtain ⟨vs,a,b,c⟩:=h.ex;refine ⟨⟨vs.set i y,a.put i hy.ok,by rw [List.length_set];exact b,fun k hk hd=>?_⟩,(Kp.refl (fun a=>a=g) w).set3 (S:=fun a=>a=g) rfl _ _ _ _ _ _⟩
 rw [List.length_set] at hk;rw [List.getElem_set]
 show Rp _ (if k=i then q else f k)
 by_cases e:i=k
 ·rw [if_pos e,if_pos e.symm];exact hy.rp
 ·rw [if_neg e,if_neg (fun h=>e h.symm)];rcases hd with hd|hd
  ·exact c k hk hd
  ·exact absurd hd.symm e
theorem Ou.kp {S:Nat->Prop} (h:Ou w B g N D f) (k:Kp S w w') (nl:∀g,S g->NL w g) (hg:¬S g):Ou w' B g N D f:=by
 obtain ⟨vs,a,b,c⟩:=h.ex;exact ⟨vs,k.qr a nl (fun ad e=>by injection e with e;subst e;exact hg),b,c⟩
theorem Ou.new (w:World) (N B:Nat) (f:Nat->Rat) (hN:N<=1000) (hB:B<=w.heap.size):Ou (w.alloc (.cells (madeCells Fx.nil.val.cells (N*3)) 29)) B w.heap.size N (fun _=>False) f:=
 ⟨_,Bs w N B hN hB,by simp,fun _ _ h=>h.elim⟩
theorem Kp.up' {w0:World} {b:Nat} (h:Kp (fun a=>a=g) w w') (hb:Below b w0 w) (hg:b<=g) (hs:b<=w.heap.size):Below b w0 w':=
 hb.trans (h.below (fun a e=>by rw [e];exact hg) hs)
theorem Tw.fresh {w0 w1 w2:World} {B0:Nat} {L:Lay} {x x0:St} (h0:Tw w0 B0 L x0) (hg:w0.heap.size<=g) (h:Tw w1 B0 L x) (k:Kp (fun a=>a=g) w1 w2) (nl:NL w1 g):Tw w2 B0 L x:=
 h.kp k (fun a e=>by rw [e];exact nl) (by have:=h0.lt;omega) (by have:=h0.q.ol;omega) (by have:=h0.gl;omega) (fun a ha e=>by have:=h0.q.lts a ha;omega)
theorem Cl.fresh {w0 w1 w2:World} {A:Option Addr} {vs:List Fx} {c:Nat->Rat} (h0:Cl w0 A vs c) (hg:w0.heap.size<=g) (h:Cl w1 A vs c) (k:Kp (fun a=>a=g) w1 w2) (nl:NL w1 g):Cl w2 A vs c:=
 h.kp k (fun a e=>by rw [e];exact nl) (fun hn ad e e2=>by
  obtain ⟨ad',e',hl,_⟩:=h0.rd hn;rw [e] at e';injection e' with e';subst e';omega)
end
theorem dk (w:World) (n:Int) (n0 : -9223372036854775808<=n) (n1:n<=9223372036854775807):Calls prog 43 #[.int .i64 n] w fun e w'=>∃x:Fx,e = .returned x.val/\El w' x (n:Rat)/\Below w.heap.size w w':=by
 have HZ:Hd (ke n 1=okS (n:Rat)):=ag (by rw [mH n0 n1,BH])
 go_enter func43,ntmps43;go_wp2_with fail;have bw:=qc w (.cells #[.bool false, .slice none 0 0, .slice none 0 0] 29);have bk:=aK w;generalize (w.alloc (.cells #[.bool false, .slice none 0 0, .slice none 0 0] 29))=w1 at bw bk|-;refine (xP w1 n 1 _ n0 n1 (by omega) (by omega) HZ.o).mono ?_
 rintro e wn ⟨x1,rfl,hs1,ok1,bb⟩;have cI:=ag (Rp.of hs1);clear hs1;replace bk:=bk.below bb;replace bw:=qd bw bb;clear bb;go_upto_region 2 with fail;have a1:=(au ok1).1;have bb:=(au ok1).2;clear ok1;generalize (wn.alloc (.cells #[.bool x1.b, .slice x1.A x1.xs.length x1.c, .slice x1.D x1.ys.length x1.d] 29))=wm at a1 bb|-;replace bk:=bk.below bb;replace bw:=qd bw bb;clear bb;generalize wn.heap.size=g1 at a1|-;have ci0:=a1.c0;have ci1:=a1.c1;have ci2:=a1.c2;have tk:=bk;obtain ⟨k0,k1,k2,aF,aG,aH,klt,kb⟩:=tk;clear kb;go_wp2_with fail;refine bodyPost_ret (v:=x1.val) (by simp [results,Tryz.results43,go_sem,k0,k1,k2]) rfl ?_
 exact ⟨x1,rfl,⟨bD a1.ok bk rfl rfl rfl,cI.o⟩,aR bw (Nat.le_refl _)⟩
theorem pY (w:World) (x:Fx) (z:Int) (hx:x.ok w) (hl:x.xs.length<=10000) (hz:(if nv x.xs=0 then 0 else if x.b then -1 else 1)=z):Calls prog 44 #[x.val] w fun e w'=>e = .returned (.int .i64 z)/\Below w.heap.size w w':=by
 have HZ:=ag hz;clear hz;go_enter func44,ntmps44;go_upto_region 1 with fail;have b0:=qc w (.cells x.cells 29);have bx:=az w (.bool x.b) (.slice x.A x.xs.length x.c) (.slice x.D x.ys.length x.d);have aa:=hx.below b0;have bw:=b0;clear b0;generalize (w.alloc (.cells x.cells 29))=w1 at bx aa bw|-;have hn:=aa.num;have HB:Hd (aI (nv x.xs)=0↔nv x.xs=0):=ag (by
  have:=bP (nv x.xs) 0;rw [Nat.le_zero] at this;rw [this];omega)
 obtain ⟨B,hB⟩:∃B,aI (nv x.xs)=B:=⟨_,rfl⟩;have a8:=fB w1 x.A x.c _ x.xs hn rfl (by omega)
 rw [hB] at a8 HB;have bK:=ag a8;clear hB a8 aa hn;have tx:=bx;obtain ⟨x0,x1,x2,xf0,xf1,xf2,xlt,xb⟩:=tx;clear xb;by_cases h0:B=0
 ·subst h0;have HE:Hd (z=0):=ag (by rw [<-HZ.o,if_pos (HB.o.1 rfl)])
  go_wp2_with fail;refine bK.o.mono ?_;rintro e wn ⟨rfl,rfl⟩;go_wp2_with fail;go_ret;exact ⟨by rw [HE.o];rfl,bw⟩
 ·have HE:Hd ((if x.b then -1 else 1)=z):=ag (by rw [<-HZ.o,if_neg (fun h=>h0 (HB.o.2 h))])
  go_wp2_with fail;refine bK.o.mono ?_;rintro e wn ⟨rfl,rfl⟩;obtain ⟨b,hb⟩:∃b,x.b=b:=⟨_,rfl⟩;rw [hb] at x0 HE;cases b
  ·go_wp2_with fail;go_ret;exact ⟨by rw [<-HE.o];rfl,bw⟩
  ·go_wp2_with fail;go_ret;exact ⟨by rw [<-HE.o];rfl,bw⟩
theorem aU (w:World) (x:Fx) (q:Rat) (z:Int) (h:El w x q) (hs:Sz q 128 128) (hz:bA q 0=z):Calls prog 44 #[x.val] w fun e w'=>e = .returned (.int .i64 z)/\Below w.heap.size w w':=by
 refine pY w x z h.ok (h.rp.l1 hs) ?_;rw [<-hz,bA,h.rp.b];by_cases h0:q=0
 ·rw [if_pos (h.rp.zero.2 h0),h0];rfl
 ·rw [if_neg (fun e=>h0 (h.rp.zero.1 e))];by_cases h1:q<0
  ·have h2:q.num<0:=Int.not_le.1 (fun hh=>absurd (Rat.num_nonneg.1 hh) (by grind))
   rw [if_pos h1,decide_eq_true h2];rfl
  ·have h2:¬q.num<0:=Int.not_lt.2 (Rat.num_nonneg.2 (by grind))
   have h3:0<q:=by grind
   rw [decide_eq_false h2,if_neg h1,if_pos h3];rfl
theorem km (w:World) (B:Nat) (L:Lay) (x:St) (i:Nat) (h:Tw w B L x) (hi:i<L.gs.length) (hN:L.N<=1000) :
 Calls prog 97 #[.pointer (some ⟨L.G,0,none⟩), .int .i64 (i:Int)] w fun e w'=>∃y:Fx,e = .returned y.val/\El w' y (x.T i (L.n+L.gs.length))/\Below w.heap.size w w':=by
 have hNe:L.N=L.n+L.gs.length+1:=rfl;obtain ⟨y,ev⟩:=h.q.mx.el hi (show L.n+L.gs.length<L.N by omega)
 have c0:=h.c0;have cr:=h.q.row hi;have HL:=ag h.lt;have Fj:Hd (L.go<w.heap.size):=ag (World.block_lt_of_cell? w _ cr);have bf:=ag ev;clear h ev;obtain ⟨M,hM⟩:∃M,L.n+L.gs.length=M:=⟨_,rfl⟩;obtain ⟨N,hNN⟩:∃N,L.N=N:=⟨_,rfl⟩;rw [hM] at bf|-;rw [hNN] at hN cr;have hMN:((N:Nat):Int)-1=(M:Int):=by omega
 have hMl:M<N:=by omega
 obtain ⟨m,hm⟩:∃m,L.gs.length=m:=⟨_,rfl⟩;obtain ⟨g,hg⟩:∃g,L.gs[i]=g:=⟨_,rfl⟩;rw [hg] at bf cr;have him:i<m:=by omega
 rw [hm] at c0;clear hNN hM hg hi hm hNe;go_enter func97,ntmps97;go_upto_region 1 with fail;have bw:=qc w (.cells #[.bool false, .slice none 0 0, .slice none 0 0] 29);have bk:=aK w;replace c0:=(bw.cell (p:=⟨L.G,0,none⟩) HL.o).trans c0;replace cr:=(bw.cell (p:=⟨L.go,i,none⟩) Fj.o).trans cr;replace bf:=ag (bf.o.below bw);generalize (w.alloc (.cells #[.bool false, .slice none 0 0, .slice none 0 0] 29))=w1 at bw bk c0 cr bf|-;have e0:=bf.o.c0;have e1:=bf.o.c1;have e2:=bf.o.c2;have ff:=ag bk;have tk:=bk;obtain ⟨k0,k1,k2,aF,aG,aH,klt,kb⟩:=tk
 clear kb;go_region;go_wp2_with fail;refine bodyPost_ret (v:=y.val) (by simp [results,Tryz.results97,go_sem,k0,k1,k2]) rfl ?_
 exact ⟨y,rfl,⟨(bD bf.o.el.ok ff.o rfl rfl rfl).drew,bf.o.el.rp⟩,(aR bw (Nat.le_refl _)).drew⟩
def pvA (T:Nat->Nat->Rat) (i j k:Nat):Nat->Nat->Rat:=fun r c=>if r=i/\c<k then T i c/T i j else T r c
def pvB (T:Nat->Nat->Rat) (i j r:Nat):Nat->Nat->Rat:=fun a c=>if a<r\/a=i then bY T i j a c else T a c
def pvC (T:Nat->Nat->Rat) (i j r k:Nat):Nat->Nat->Rat:=fun a c=>if a=r/\c<k then bY T i j a c else pvB T i j r a c
section
variable {T:Nat->Nat->Rat} {i j k r a c N m:Nat}
theorem ze:pvA T i j 0=T:=by funext r c;exact if_neg (by omega)
theorem Do:pvA T i j k i k=T i k:=if_neg (by omega)
theorem zi:oE (pvA T i j k) i k (T i k/T i j)=pvA T i j (k+1):=by
 funext r c
 simp only [oE,pvA];by_cases h:r=i
 ·subst h;by_cases h2:c=k
  ·subst h2;rw [if_pos ⟨rfl,rfl⟩,if_pos ⟨rfl,by omega⟩]
  ·rw [if_neg (fun h=>h2 h.2)];by_cases h3:c<k
   ·rw [if_pos ⟨rfl,h3⟩,if_pos ⟨rfl,by omega⟩]
   ·rw [if_neg (fun h=>h3 h.2),if_neg (fun h=>by omega)]
 ·rw [if_neg (fun h'=>h h'.1),if_neg (fun h'=>h h'.1),if_neg (fun h'=>h h'.1)]
theorem zg (h0:T i k=0):pvA T i j (k+1)=pvA T i j k:=by
 funext r c
 simp only [pvA];by_cases h:r=i
 ·subst h;by_cases h2:c=k
  ·subst h2;rw [if_pos ⟨rfl,by omega⟩,if_neg (by omega),h0,Rat.div_def,Rat.zero_mul]
  ·by_cases h3:c<k
   ·rw [if_pos ⟨rfl,by omega⟩,if_pos ⟨rfl,h3⟩]
   ·rw [if_neg (fun h=>by omega),if_neg (fun h=>by omega)]
 ·rw [if_neg (fun h'=>h h'.1),if_neg (fun h'=>h h'.1)]
theorem yZ (hc:c<N):pvA T i j N a c=pvB T i j 0 a c:=by
 simp only [pvA,pvB,bY];by_cases h:a=i
 ·subst h;rw [if_pos ⟨rfl,hc⟩,if_pos (Or.inr rfl),if_pos rfl]
 ·rw [if_neg (fun h'=>h h'.1),if_neg (fun h'=>by omega)]
theorem yW:pvC T i j r 0=pvB T i j r:=by funext a c;exact if_neg (by omega)
theorem uS (hr:r≠i):pvB T i j r r c=T r c:=if_neg (by omega)
theorem Dm (hr:r≠i):pvC T i j r k r k=T r k:=by rw [pvC,if_neg (by omega)];exact uS hr
theorem Bu (hr:r≠i):pvC T i j r k i c=T i c/T i j:=by
 rw [pvC,if_neg (fun h=>hr h.1.symm),pvB,if_pos (Or.inr rfl),bY,if_pos rfl]
theorem yY:oE (pvC T i j r k) r k (bY T i j r k)=pvC T i j r (k+1):=by
 funext a c
 simp only [oE,pvC];by_cases h:a=r
 ·subst h;by_cases h2:c=k
  ·subst h2;rw [if_pos ⟨rfl,rfl⟩,if_pos ⟨rfl,by omega⟩]
  ·rw [if_neg (fun h=>h2 h.2)];by_cases h3:c<k
   ·rw [if_pos ⟨rfl,h3⟩,if_pos ⟨rfl,by omega⟩]
   ·rw [if_neg (fun h=>h3 h.2),if_neg (fun h=>by omega)]
 ·rw [if_neg (fun h'=>h h'.1),if_neg (fun h'=>h h'.1),if_neg (fun h'=>h h'.1)]
theorem yX (hr:r≠i) (h0:T i k/T i j=0):pvC T i j r (k+1)=pvC T i j r k:=by
 funext a c
 simp only [pvC];by_cases h:a=r
 ·subst h;by_cases h2:c=k
  ·subst h2;rw [if_pos ⟨rfl,by omega⟩,if_neg (by omega),uS hr,bY,if_neg hr,h0];grind
  ·by_cases h3:c<k
   ·rw [if_pos ⟨rfl,by omega⟩,if_pos ⟨rfl,h3⟩]
   ·rw [if_neg (fun h=>by omega),if_neg (fun h=>by omega)]
 ·rw [if_neg (fun h'=>h h'.1),if_neg (fun h'=>h h'.1)]
theorem Bv (hc:c<N):pvC T i j r N a c=pvB T i j (r+1) a c:=by
 simp only [pvC,pvB];by_cases h:a=r
 ·subst h;rw [if_pos ⟨rfl,hc⟩,if_pos (Or.inl (by omega))]
 ·rw [if_neg (fun h'=>h h'.1)];by_cases h2:a<r\/a=i
  ·rw [if_pos h2,if_pos (by omega)]
  ·rw [if_neg h2,if_neg (by omega)]
theorem zd:pvB T i j (i+1)=pvB T i j i:=by
 funext a c
 simp only [pvB];by_cases h2:a<i\/a=i
 ·rw [if_pos h2,if_pos (by omega)]
 ·rw [if_neg h2,if_neg (by omega)]
theorem za (hr:r≠i) (h0:T r j=0):pvB T i j (r+1)=pvB T i j r:=by
 funext a c
 simp only [pvB];by_cases h:a=r
 ·subst h;rw [if_pos (Or.inl (by omega)),if_neg (by omega),bY,if_neg hr,h0];grind
 ·by_cases h2:a<r\/a=i
  ·rw [if_pos h2,if_pos (by omega)]
  ·rw [if_neg h2,if_neg (by omega)]
theorem Bw (ha:a<m):pvB T i j m a c=bY T i j a c:=if_pos (Or.inl ha)
end
end Go.Proofs.YtkpfbekmaafehaaGreat
