/- Words for the walk of drydockref16.Solve: its table in memory; x minus f times y -/
import Derived.Test.YtkpfbekmaafehaaGreatSqP
import Derived.Test.YtkpfbekmaafehaaGreatSqK
import Derived.Test.YtkpfbekmaafehaaGreatSrD
import Derived.Test.YtkpfbekmaafehaaGreatFrcA
namespace Go.Proofs.YtkpfbekmaafehaaGreat
open _root_.Go.Proofs.Tryz
set_option maxHeartbeats 8000000
set_option maxRecDepth 100000
open Go.RowKit
theorem r2sub_el (w:World) (x y:Fx) (p q:Rat) (h1:El w x p) (h2:El w y q) (sp:Sz p 128 128) (sq:Sz q 128 128) (hz:Sz (p-q) 128 128) :
 Calls prog 60 #[x.val,y.val] w fun e w'=>∃z:Fx,e = .returned (.tuple #[z.val, .int .i64 0])/\El w' z (p-q)/\Below w.heap.size w w':=by
 have n1:=h1.nm sp;have n2:=h2.nm sq;refine (rfsub_any w x y (okS (p-q)) n1.ok n2.ok n1.l n1.m n2.l n2.m (Bl n1.v n2.v n1.q n2.q hz)).mono ?_;rintro e w' ⟨z,rfl,hs,ok,bb⟩;exact ⟨z,rfl,⟨ok,Rp.of hs⟩,bb⟩
theorem r2quo_el (w:World) (x y:Fx) (p q:Rat) (h1:El w x p) (h2:El w y q) (sp:Sz p 128 128) (sq:Sz q 128 128) (hq:q≠0) (hz:Sz (p/q) 128 128) :
 Calls prog 98 #[x.val,y.val] w fun e w'=>∃z:Fx,e = .returned (.tuple #[z.val, .int .i64 0])/\El w' z (p/q)/\Below w.heap.size w w':=by
 have n1:=h1.nm sp;have n2:=h2.nm sq;refine (rfquo_any w x y (okS (p/q)) n1.ok n2.ok n1.l n1.m n2.l n2.m (quoF_ok n1.v h2.rp n1.q n2.v hq hz)).mono ?_;rintro e w' ⟨z,rfl,hs,ok,bb⟩;exact ⟨z,rfl,⟨ok,Rp.of hs⟩,bb⟩
theorem r2mul_el (w:World) (x y:Fx) (p q:Rat) (h1:El w x p) (h2:El w y q) (sp:Sz p 128 128) (sq:Sz q 128 128) (hz:Sz (p*q) 128 128) :
 Calls prog 28 #[x.val,y.val] w fun e w'=>∃z:Fx,e = .returned (.tuple #[z.val, .int .i64 0])/\El w' z (p*q)/\Below w.heap.size w w':=
 kC w x y p q (h1.nm sp) (h2.nm sq) hz
theorem r2sign_el (w:World) (x:Fx) (q:Rat) (z:Int) (h:El w x q) (sq:Sz q 128 128) (hs:bA q 0=z):Calls prog 49 #[x.val] w fun e w'=>e = .returned (.int .i64 z)/\Below w.heap.size w w':=
 dp w x q z (h.nm sq) hs
structure Xr (w:World) (B:Nat) (A:Option Addr) (c:Nat) (vs:List Fx):Prop where
 fr:Fr w B A c vs
 ni:NoI w A
 ok:∀v∈vs,v.ok w
section
variable {w w':World} {S:Nat->Prop} {B c g:Nat} {A:Option Addr} {vs:List Fx} {x:Fx}
theorem Xr.nil (w:World) (B:Nat):Xr w B none 0 []:=⟨rR _ _,NoI.nil _,fun v hv=>absurd hv (by simp)⟩
theorem Xr.kp (h:Xr w B A c vs) (k:Kp S w w') (nl:∀g,S g->NL w g) (hA:∀g,A.map (·.block)=some g->¬S g):Xr w' B A c vs:=
 ⟨k.fr h.fr (fun ad e=>hA _ (by rw [e];rfl)),h.ni.kp k hA,fun v hv=>k.ok (h.ok v hv) nl⟩
theorem Xr.below (h:Xr w B A c vs) (hb:Below w.heap.size w w'):Xr w' B A c vs:=⟨h.fr.below hb,h.ni.below hb,fun v hv=>(h.ok v hv).below hb⟩
theorem Xr.lt (h:Xr w B A c vs) (hg:A.map (·.block)=some g):B<=g/\g<w.heap.size:=h.fr.lt g hg
theorem Xr.blk (h:Xr w B (some ⟨g,0,none⟩) c vs):NI w g:=by
 obtain ⟨cur,t,e,hn⟩:=h.ni g rfl;exact ⟨cur,t,_,e,hn⟩
theorem Xr.put (h:Xr w B (some ⟨g,0,none⟩) c vs) (i:Nat) (hx:x.ok w):Xr (((w.setCell ⟨g,i*3,none⟩ (.bool x.b)).setCell ⟨g,i*3+1,none⟩ (.slice x.A x.xs.length x.c)).setCell ⟨g,i*3+2,none⟩ (.slice x.D x.ys.length x.d)) B (some ⟨g,0,none⟩) c (vs.set i x):=by
 have bk:=h.blk;refine ⟨h.fr.put i x,fun g' hg=>?_,fun v hv=>?_⟩
 ·injection hg with hg;subst hg;obtain ⟨cur,t,e,hn⟩:=h.ni _ rfl;have k:∀ {w1:World} {o:Nat} {u:Value},dY u=false->(∃cur t,w1.heap[g]? = some (.cells cur t (0,0))/\vV cur)->∃cur t,(w1.setCell ⟨g,o,none⟩ u).heap[g]? = some (.cells cur t (0,0))/\vV cur:=fun {w1} {o} {u} hu ⟨cur,t,e,hn⟩=>
   ⟨_,t,heap_setCell_same w1 g o cur t u e,fun z hz=>by
    rw [Array.toList_setIfInBounds] at hz;rcases List.mem_or_eq_of_mem_set hz with h1|h1
    ·exact hn z h1
    ·rw [h1];exact hu⟩
  exact k rfl (k rfl (k rfl ⟨cur,t,e,hn⟩))
 ·rcases List.mem_or_eq_of_mem_set hv with h1|h1
  ·exact CI (h.ok v h1) bk
  ·rw [h1];exact CI hx bk
theorem Xr.cells (h:Xr w B (some ⟨g,0,none⟩) c vs) (k:Nat) (hk:k<vs.length):w.cell? ⟨g,k*3,none⟩=some (.bool vs[k].b)/\w.cell? ⟨g,k*3+1,none⟩=some (.slice vs[k].A vs[k].xs.length vs[k].c)/\w.cell? ⟨g,k*3+2,none⟩=some (.slice vs[k].D vs[k].ys.length vs[k].d):=by
 obtain ⟨h0,h1,h2⟩:=gH vs k hk;have hc:=fun j hj=>World.ownsRow.cellAt h.fr j hj;exact ⟨(hc (k*3) (by omega)).trans h0,(hc (k*3+1) (by omega)).trans h1,(hc (k*3+2) (by omega)).trans h2⟩
theorem Xr.ev {q:Rat} (h:Xr w B (some ⟨g,0,none⟩) c vs) {k:Nat} (hk:k<vs.length) (r:Rp vs[k] q):Ev w g k vs[k] q:=by
 obtain ⟨h0,h1,h2⟩:=h.cells k hk;exact ⟨⟨h.ok _ (List.getElem_mem hk),r⟩,h0,h1,h2,h.fr.free _,h.fr.free _,h.fr.free _,(h.lt rfl).2⟩
theorem Ev.off {k a i j l:Nat} {q:Rat} {v0 v1 v2:Value} (h:Ev w g k x q) (nl:NL w a) (hne:¬a=g):Ev (((w.setCell ⟨a,i,none⟩ v0).setCell ⟨a,j,none⟩ v1).setCell ⟨a,l,none⟩ v2) g k x q:=
 h.kp ((Kp.refl (fun b=>b=a) w).set3 (S:=fun b=>b=a) rfl _ _ _ _ _ _) (fun b e=>by rw [e];exact nl) (fun e=>hne e.symm)
end
structure Mc (w:World) (B:Nat) (D:Nat->Prop) (g c:Nat->Nat) (N:Nat) (T:Nat->Nat->Rat):Prop where
 row:∀i,D i->∃vs,Xr w B (some ⟨g i,0,none⟩) (c i) vs/\vs.length=N/\∀k (hk:k<vs.length),Rp vs[k] (T i k)
 inj:∀i j,D i->D j->g i=g j->i=j
section
variable {w w':World} {S:Nat->Prop} {B N i k:Nat} {D D':Nat->Prop} {g c:Nat->Nat} {T T':Nat->Nat->Rat} {x:Fx} {q:Rat}
theorem Mc.kp (h:Mc w B D g c N T) (k:Kp S w w') (nl:∀a,S a->NL w a) (hd:∀i,D i->¬S (g i)):Mc w' B D g c N T:=⟨fun i hi=>by
 obtain ⟨vs,a,b,e⟩:=h.row i hi;exact ⟨vs,a.kp k nl (fun z hz=>by injection hz with hz;subst hz;exact hd i hi),b,e⟩,h.inj⟩
theorem Mc.nl (h:Mc w B D g c N T) (hi:D i):NL w (g i):=by
 obtain ⟨vs,a,_,_⟩:=h.row i hi;exact a.ni.nl
theorem Mc.lt (h:Mc w B D g c N T) (hi:D i):B<=g i/\g i<w.heap.size:=by
 obtain ⟨vs,a,_,_⟩:=h.row i hi;exact a.lt rfl
theorem Mc.congr (h:Mc w B D g c N T) (e:∀i,D i->∀k,k<N->T i k=T' i k):Mc w B D g c N T':=⟨fun i hi=>by
 obtain ⟨vs,a,b,d⟩:=h.row i hi;exact ⟨vs,a,b,fun k hk=>by rw [<-e i hi k (by omega)];exact d k hk⟩,h.inj⟩
theorem Mc.el (h:Mc w B D g c N T) (hi:D i) (hk:k<N):∃x,Ev w (g i) k x (T i k):=by
 obtain ⟨vs,a,b,d⟩:=h.row i hi;have hk':k<vs.length:=by omega
 exact ⟨vs[k],a.ev hk' (d k hk')⟩
theorem Mc.put (h:Mc w B D g c N T) (hi:D i) (hx:El w x q) :
 Mc (((w.setCell ⟨g i,k*3,none⟩ (.bool x.b)).setCell ⟨g i,k*3+1,none⟩ (.slice x.A x.xs.length x.c)).setCell ⟨g i,k*3+2,none⟩ (.slice x.D x.ys.length x.d)) B D g c N (oE T i k q):=by
 have kp:Kp (fun a=>a=g i) w (((w.setCell ⟨g i,k*3,none⟩ (.bool x.b)).setCell ⟨g i,k*3+1,none⟩ (.slice x.A x.xs.length x.c)).setCell ⟨g i,k*3+2,none⟩ (.slice x.D x.ys.length x.d)):=
  (Kp.refl (fun a=>a=g i) w).set3 (S:=fun a=>a=g i) rfl _ _ _ _ _ _
 refine ⟨fun r hr=>?_,h.inj⟩;obtain ⟨vs,a,b,d⟩:=h.row r hr;by_cases e:r=i
 ·subst e;refine ⟨vs.set k x,a.put k hx.ok,by rw [List.length_set];exact b,fun c' hc=>?_⟩
  rw [List.getElem_set,oE];rw [List.length_set] at hc;by_cases e2:k=c'
  ·rw [if_pos e2,if_pos ⟨rfl,e2.symm⟩];exact hx.rp
  ·rw [if_neg e2,if_neg (fun h=>e2 h.2.symm)];exact d c' hc
 ·refine ⟨vs,a.kp kp (fun z hz=>by rw [hz];exact h.nl hi) (fun z hz hs=>?_),b,fun k' hk'=>?_⟩
  ·injection hz with hz;exact e (h.inj r i hr hi (hz.trans hs))
  ·rw [oE,if_neg (fun h=>e h.1)];exact d k' hk'
end
structure Ly where
 G:Nat
 go:Nat
 co:Nat
 gb:Nat
 cb:Nat
 n:Nat
 m:Nat
 g:Nat->Nat
 c:Nat->Nat
def Ly.N (L:Ly):Nat:=L.n+L.m+1
def Ly.S (L:Ly) (a:Nat):Prop:=a=L.gb\/∃i,i<=L.m/\a=L.g i
structure Rtb (w:World) (B:Nat) (L:Ly) (x:St):Prop where
 out:∀i,i<L.m->w.cell? ⟨L.go,i,none⟩=some (.slice (some ⟨L.g i,0,none⟩) L.N (L.c i))
 mc:Mc w B (· <= L.m) L.g L.c L.N x.T
 ba:∃bs,Gr iv 3 w B (some ⟨L.gb,0,none⟩) L.cb bs/\bs.length=L.m/\∀i (h:i<bs.length),bs[i]=(x.B i:Int)
 bl:NL w L.gb
 do_:¬L.S L.go
 db:∀i,i<=L.m->L.gb≠L.g i
 ol:L.go<w.heap.size
 c0:w.cell? ⟨L.G,0,none⟩=some (.slice (some ⟨L.go,0,none⟩) L.m L.co)
 c1:w.cell? ⟨L.G,1,none⟩=some (.slice (some ⟨L.g L.m,0,none⟩) L.N (L.c L.m))
 c2:w.cell? ⟨L.G,2,none⟩=some (.slice (some ⟨L.gb,0,none⟩) L.m L.cb)
 c3:w.cell? ⟨L.G,3,none⟩=some (.int .i64 (L.n:Int))
 lt:L.G<w.heap.size
 dg:¬L.S L.G
section
variable {w w':World} {B:Nat} {L:Ly} {x y:St} {S:Nat->Prop} {i k g:Nat} {q:Rat} {z:Fx}
theorem Rtb.nl (h:Rtb w B L x):∀a,L.S a->NL w a:=fun a ha=>by
 rcases ha with rfl|⟨i,hi,rfl⟩
 ·exact h.bl
 ·exact h.mc.nl hi
theorem Rtb.lts (h:Rtb w B L x):∀a,L.S a->a<w.heap.size:=fun a ha=>by
 rcases ha with rfl|⟨i,hi,rfl⟩
 ·obtain ⟨bs,b,_⟩:=h.ba;exact (b.form.2.2 _ rfl).2
 ·exact (h.mc.lt hi).2
theorem Rtb.kp (h:Rtb w B L x) (k:Kp S w w') (nl:∀a,S a->NL w a) (hG:¬S L.G) (ho:¬S L.go) (hd:∀a,L.S a->¬S a):Rtb w' B L x:=by
 obtain ⟨bs,b,bl,be⟩:=h.ba;have hb:=hd _ (Or.inl rfl);exact ⟨fun i hi=>(k.cell (p:=⟨L.go,i,none⟩) h.ol ho).trans (h.out i hi),h.mc.kp k nl (fun i hi=>hd _ (Or.inr ⟨i,hi,rfl⟩)),⟨bs,k.gr b (fun ad e=>by injection e with e;subst e;exact hb),bl,be⟩,
  h.bl.kp k hb,h.do_,h.db,Nat.lt_of_lt_of_le h.ol k.size,(k.cell (p:=⟨L.G,0,none⟩) h.lt hG).trans h.c0,(k.cell (p:=⟨L.G,1,none⟩) h.lt hG).trans h.c1,(k.cell (p:=⟨L.G,2,none⟩) h.lt hG).trans h.c2,(k.cell (p:=⟨L.G,3,none⟩) h.lt hG).trans h.c3,Nat.lt_of_lt_of_le h.lt k.size,h.dg⟩
theorem Rtb.below (h:Rtb w B L x) (hb:Below w.heap.size w w'):Rtb w' B L x:=h.kp (fo (fun _=>False) hb) (fun _ h=>h.elim) (fun h=>h) (fun h=>h) (fun _ _ h=>h)
theorem Rtb.put (h:Rtb w B L x) (hi:i<=L.m) (hg:L.g i=g) (hz:El w z q) :
 Rtb (((w.setCell ⟨g,k*3,none⟩ (.bool z.b)).setCell ⟨g,k*3+1,none⟩ (.slice z.A z.xs.length z.c)).setCell ⟨g,k*3+2,none⟩ (.slice z.D z.ys.length z.d)) B L ⟨oE x.T i k q,x.B⟩ /\
 Kp L.S w (((w.setCell ⟨g,k*3,none⟩ (.bool z.b)).setCell ⟨g,k*3+1,none⟩ (.slice z.A z.xs.length z.c)).setCell ⟨g,k*3+2,none⟩ (.slice z.D z.ys.length z.d)):=by
 subst hg;have kp:Kp (fun a=>a=L.g i) w (((w.setCell ⟨L.g i,k*3,none⟩ (.bool z.b)).setCell ⟨L.g i,k*3+1,none⟩ (.slice z.A z.xs.length z.c)).setCell ⟨L.g i,k*3+2,none⟩ (.slice z.D z.ys.length z.d)):=
  (Kp.refl (fun a=>a=L.g i) w).set3 (S:=fun a=>a=L.g i) rfl _ _ _ _ _ _
 have hS:L.S (L.g i):=Or.inr ⟨i,hi,rfl⟩;obtain ⟨bs,b,bl,be⟩:=h.ba;have hgb:L.gb≠L.g i:=h.db i hi;have hgo:L.go≠L.g i:=fun e=>h.do_ (e ▸ hS);have hG:L.G≠L.g i:=fun e=>h.dg (e ▸ hS);exact ⟨⟨fun r hr=>(kp.cell (p:=⟨L.go,r,none⟩) h.ol hgo).trans (h.out r hr),h.mc.put hi hz,⟨bs,kp.gr b (fun ad e=>by injection e with e;subst e;exact hgb),bl,be⟩,h.bl.kp kp hgb,h.do_,h.db,Nat.lt_of_lt_of_le h.ol kp.size,
  (kp.cell (p:=⟨L.G,0,none⟩) h.lt hG).trans h.c0,(kp.cell (p:=⟨L.G,1,none⟩) h.lt hG).trans h.c1,(kp.cell (p:=⟨L.G,2,none⟩) h.lt hG).trans h.c2,(kp.cell (p:=⟨L.G,3,none⟩) h.lt hG).trans h.c3,Nat.lt_of_lt_of_le h.lt kp.size,h.dg⟩,kp.mono (fun a e=>e ▸ hS)⟩
theorem Rtb.bas (h:Rtb w B L x) (hi:i<L.m):w.cell? ⟨L.gb,i,none⟩=some (.int .i64 (x.B i:Int))/\w.frozen? ⟨L.gb,i,none⟩=false:=by
 obtain ⟨bs,b,bl,be⟩:=h.ba;have hi':i<bs.length:=by omega
 exact ⟨by rw [b.cell i hi',be i hi'],b.free i⟩
theorem Rtb.putB (h:Rtb w B L x) (i j:Nat):Rtb (w.setCell ⟨L.gb,i,none⟩ (.int .i64 (j:Int))) B L ⟨x.T,cg x.B i j⟩/\Kp L.S w (w.setCell ⟨L.gb,i,none⟩ (.int .i64 (j:Int))):=by
 have kp:Kp (fun a=>a=L.gb) w (w.setCell ⟨L.gb,i,none⟩ (.int .i64 (j:Int))):=(Kp.refl (fun a=>a=L.gb) w).set (S:=fun a=>a=L.gb) rfl _ _;obtain ⟨bs,b,bl,be⟩:=h.ba;have hS:L.S L.gb:=Or.inl rfl;have hgo:L.go≠L.gb:=fun e=>h.do_ (e ▸ hS);have hG:L.G≠L.gb:=fun e=>h.dg (e ▸ hS);refine ⟨⟨fun r hr=>(kp.cell (p:=⟨L.go,r,none⟩) h.ol hgo).trans (h.out r hr),h.mc.kp kp (fun a ha=>by rw [ha];exact h.bl) (fun r hr e=>h.db r hr e.symm),⟨bs.set i (j:Int),b.store i (j:Int),by rw [List.length_set];exact bl,fun r hr=>?_⟩,h.bl.set i rfl,h.do_,h.db,Nat.lt_of_lt_of_le h.ol kp.size,
  (kp.cell (p:=⟨L.G,0,none⟩) h.lt hG).trans h.c0,(kp.cell (p:=⟨L.G,1,none⟩) h.lt hG).trans h.c1,(kp.cell (p:=⟨L.G,2,none⟩) h.lt hG).trans h.c2,(kp.cell (p:=⟨L.G,3,none⟩) h.lt hG).trans h.c3,Nat.lt_of_lt_of_le h.lt kp.size,h.dg⟩,kp.mono (fun a e=>e ▸ hS)⟩
 rw [List.getElem_set];rw [List.length_set] at hr
 show _=((cg x.B i j r:Nat):Int)
 rw [cg];by_cases e:i=r
 ·rw [if_pos e,if_pos e.symm]
 ·rw [if_neg e,if_neg (fun h=>e h.symm)];exact be r hr
theorem Rtb.congr (h:Rtb w B L x) (eT:∀i,i<=L.m->∀k,k<L.N->x.T i k=y.T i k) (eB:∀i,i<L.m->x.B i=y.B i):Rtb w B L y:=by
 obtain ⟨bs,b,bl,be⟩:=h.ba;exact ⟨h.out,h.mc.congr eT,⟨bs,b,bl,fun i hi=>by rw [be i hi,eB i (by omega)]⟩,h.bl,h.do_,h.db,h.ol,h.c0,h.c1,h.c2,h.c3,h.lt,h.dg⟩
theorem Rtb.mc_nl (h:Rtb w B L x) (hi:i<=L.m) (hg:L.g i=g):NL w g:=by
 rw [<-hg];exact h.mc.nl hi
theorem Rtb.costg (h:Rtb w B L x) (hg:L.g L.m=g):w.cell? ⟨L.G,1,none⟩=some (.slice (some ⟨g,0,none⟩) L.N (L.c L.m)):=by
 rw [<-hg];exact h.c1
theorem Rtb.rowg (h:Rtb w B L x) (hi:i<L.m) (hg:L.g i=g):w.cell? ⟨L.go,i,none⟩=some (.slice (some ⟨g,0,none⟩) L.N (L.c i)):=by
 rw [<-hg];exact h.out i hi
theorem Rtb.elg (h:Rtb w B L x) (hi:i<=L.m) (hg:L.g i=g) (hk:k<L.N):∃y,Ev w g k y (x.T i k):=by
 rw [<-hg];exact h.mc.el hi hk
end
theorem r16minus_any (w:World) (x f y:Fx) (p q r:Rat) (hx:El w x p) (hf:El w f q) (hy:El w y r) (sp:Sz p 128 128) (sq:Sz q 128 128) (sr:Sz r 128 128) (s1:Sz (q*r) 128 128) (s2:Sz (p-q*r) 128 128) :
 Calls prog 63 #[x.val,f.val,y.val] w fun e w'=>∃z:Fx,e = .returned z.val/\El w' z (p-q*r)/\Below w.heap.size w w':=by
 have SP:=ag sp;have SQ:=ag sq;have SR:=ag sr;have S1:=ag s1;have S2:=ag s2;clear sp sq sr s1 s2;go_enter func63,ntmps63;go_upto_region 1 with fail;have v1:Vl (w.alloc (.cells x.cells 29)) w.heap.size x p:=⟨(au hx.ok).1,hx.rp⟩;have bb:=(au hx.ok).2;have sz1:=aB w (.cells x.cells 29);have e2:=hf.below bb;have e3:=hy.below bb;have bw:=bb;clear hx hf hy bb;generalize (w.alloc (.cells #[.bool x.b, .slice x.A x.xs.length x.c, .slice x.D x.ys.length x.d] 29))=wa at v1 sz1 e2 e3 bw|-;have v2:Vl (wa.alloc (.cells f.cells 29)) wa.heap.size f q:=⟨(au e2.ok).1,e2.rp⟩;have bb:=(au e2.ok).2;have sz2:=aB wa (.cells f.cells 29)
 rw [sz1] at v2 sz2;replace v1:=v1.below bb;replace e3:=e3.below bb;replace bw:=qd bw bb;clear e2 bb sz1;generalize (wa.alloc (.cells #[.bool f.b, .slice f.A f.xs.length f.c, .slice f.D f.ys.length f.d] 29))=wb at v1 v2 sz2 e3 bw|-;have v3:Vl (wb.alloc (.cells y.cells 29)) wb.heap.size y r:=⟨(au e3.ok).1,e3.rp⟩;have bb:=(au e3.ok).2;have sz3:=aB wb (.cells y.cells 29);rw [sz2] at v3 sz3;replace v1:=v1.below bb;replace v2:=v2.below bb;replace bw:=qd bw bb;clear e3 bb sz2;generalize (wb.alloc (.cells #[.bool y.b, .slice y.A y.xs.length y.c, .slice y.D y.ys.length y.d] 29))=wc at v1 v2 v3 sz3 bw|-
 have bb:=qc wc (.cells #[.bool false, .slice none 0 0, .slice none 0 0] 29);have bk:=aK wc;rw [sz3] at bk;replace v1:=v1.below bb;replace v2:=v2.below bb;replace v3:=v3.below bb;replace bw:=qd bw bb;clear bb sz3;generalize (wc.alloc (.cells #[.bool false, .slice none 0 0, .slice none 0 0] 29))=wd at v1 v2 v3 bk bw|-;have c0:=v2.c0;have c1:=v2.c1;have c2:=v2.c2;have d0:=v3.c0;have d1:=v3.c1;have d2:=v3.c2;go_wp2_with fail;refine (r2mul_el wd f y q r v2.el v3.el SQ.o SR.o S1.o).mono ?_;rintro e wn ⟨x4,rfl,e4,bb⟩;replace v1:=v1.below bb;replace bk:=bk.below bb
 replace bw:=qd bw bb;clear v2 v3 c0 c1 c2 d0 d1 d2 bb;go_upto_region 2 with fail;have v4:Vl (wn.alloc (.cells x4.cells 29)) wn.heap.size x4 (q*r):=⟨(au e4.ok).1,e4.rp⟩;have bb:=(au e4.ok).2;replace v1:=v1.below bb;replace bk:=bk.below bb;replace bw:=qd bw bb;clear e4 bb;generalize (wn.alloc (.cells #[.bool x4.b, .slice x4.A x4.xs.length x4.c, .slice x4.D x4.ys.length x4.d] 29))=we at v1 v4 bk bw|-;generalize wn.heap.size=g4 at v4|-;have c0:=v1.c0;have c1:=v1.c1;have c2:=v1.c2;have d0:=v4.c0;have d1:=v4.c1;have d2:=v4.c2;go_wp2_with fail;refine (r2sub_el we x x4 p (q*r) v1.el v4.el SP.o S1.o S2.o).mono ?_
 rintro e wn ⟨x5,rfl,e5,bb⟩;replace bk:=bk.below bb;replace bw:=qd bw bb;clear v1 v4 c0 c1 c2 d0 d1 d2 bb;go_upto_region 3 with fail;have v5:Vl (wn.alloc (.cells x5.cells 29)) wn.heap.size x5 (p-q*r):=⟨(au e5.ok).1,e5.rp⟩;have bb:=(au e5.ok).2;replace bk:=bk.below bb;replace bw:=qd bw bb;clear e5 bb;generalize (wn.alloc (.cells #[.bool x5.b, .slice x5.A x5.xs.length x5.c, .slice x5.D x5.ys.length x5.d] 29))=wf at v5 bk bw|-;generalize wn.heap.size=g5 at v5|-;have c0:=v5.c0;have c1:=v5.c1;have c2:=v5.c2;have tk:=bk;obtain ⟨k0,k1,k2,aF,aG,aH,klt,kb⟩:=tk;clear kb;go_wp2_with fail
 refine bodyPost_ret (v:=x5.val) (by simp [results,Tryz.results63,go_sem,k0,k1,k2]) rfl ?_
 exact ⟨x5,rfl,⟨bD v5.fa.ok bk rfl rfl rfl,v5.rp⟩,aR bw (by omega)⟩
end Go.Proofs.YtkpfbekmaafehaaGreat
