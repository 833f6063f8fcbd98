/- Words for the walk of Check: a checker that grows row by row, what Check asks, t -/
import Derived.Test.YtkpfbekmaafehaaGreatSsH
import Derived.Test.YtkpfbekmaafehaaGreatFrcA
import Derived.Test.YtkpfbekmaafehaaGreatRfD
import Derived.Test.YtkpfbekmaafehaaGreatSqK
import Derived.Test.YtkpfbekmaafehaaGreatSpB
import Derived.Test.YtkpfbekmaafehaaGreatRefT
namespace Go.Proofs.YtkpfbekmaafehaaGreat
open _root_.Go.Proofs.Tryz
set_option maxHeartbeats 8000000
set_option maxRecDepth 100000
open Go.RowKit
def dN (k:Int) (n m nx ny nr:Nat) (a:Nat->Nat->Rat) (b c ux uy ur:Nat->Rat) (q:Rat):Prop:=
 (k=1/\nr=0/\dX n m nx a ux b/\dU n m ny a uy c/\aj (fun j=>c j*ux j) n=q/\aj (fun i=>uy i*b i) m=q) \/
 (k=2/\nx=0/\nr=0/\dU n m ny a uy (fun _=>0)/\0<aj (fun i=>uy i*b i) m/\q=0) \/
 (k=3/\ny=0/\dX n m nx a ux b/\dX n m nr a ur (fun _=>0)/\aj (fun j=>c j*ur j) n<0/\q=0)
theorem dN.one {n m nx ny nr:Nat} {a:Nat->Nat->Rat} {b c ux uy ur:Nat->Rat} {q:Rat}:dN 1 n m nx ny nr a b c ux uy ur q↔(nr=0/\dX n m nx a ux b/\dU n m ny a uy c/\aj (fun j=>c j*ux j) n=q/\aj (fun i=>uy i*b i) m=q):=by
 simp [dN]
theorem dN.two {n m nx ny nr:Nat} {a:Nat->Nat->Rat} {b c ux uy ur:Nat->Rat} {q:Rat}:dN 2 n m nx ny nr a b c ux uy ur q↔(nx=0/\nr=0/\dU n m ny a uy (fun _=>0)/\0<aj (fun i=>uy i*b i) m/\q=0):=by
 simp [dN]
theorem dN.three {n m nx ny nr:Nat} {a:Nat->Nat->Rat} {b c ux uy ur:Nat->Rat} {q:Rat}:dN 3 n m nx ny nr a b c ux uy ur q↔(ny=0/\dX n m nx a ux b/\dX n m nr a ur (fun _=>0)/\aj (fun j=>c j*ur j) n<0/\q=0):=by
 simp [dN]
theorem dN.kind {k:Int} {n m nx ny nr:Nat} {a:Nat->Nat->Rat} {b c ux uy ur:Nat->Rat} {q:Rat} (h:dN k n m nx ny nr a b c ux uy ur q):k=1\/k=2\/k=3:=by
 rcases h with h|h|h
 ·exact Or.inl h.1
 ·exact Or.inr (Or.inl h.1)
 ·exact Or.inr (Or.inr h.1)
structure Sn.ok (s:Sn) (w:World):Prop where
 X:s.X.ok w
 Y:s.Y.ok w
 R:s.R.ok w
 v:s.v.ok w
theorem Sn.ok.below {s:Sn} {w w':World} (h:s.ok w) (hb:Below w.heap.size w w'):s.ok w':=⟨h.X.below hb,h.Y.below hb,h.R.below hb,h.v.below hb⟩
structure Sn.sm (s:Sn):Prop where
 lX:s.X.vs.length<=1000
 lY:s.Y.vs.length<=1000
 lR:s.R.vs.length<=1000
 eX:∀v∈s.X.vs,v.xs.length<=10000/\v.ys.length<=10000
 eY:∀v∈s.Y.vs,v.xs.length<=10000/\v.ys.length<=10000
 eR:∀v∈s.R.vs,v.xs.length<=10000/\v.ys.length<=10000
 ev:s.v.xs.length<=10000/\s.v.ys.length<=10000
structure yo (p:Pg) (s:Sn):Prop where
 vd:p.vd
 X:Md s.X.vs
 Y:Md s.Y.vs
 R:Md s.R.vs
 V:Md [s.v]
 P:dN s.kind p.cost.vs.length p.rows.length s.X.vs.length s.Y.vs.length s.R.vs.length p.a p.b p.c (fxV s.X.vs) (fxV s.Y.vs) (fxV s.R.vs) s.v.q
structure Sb (w:World) (G:Nat) (s:Sn):Prop where
 c0:w.cell? ⟨G,0,none⟩=some (.int .i64 s.kind)
 c1:w.cell? ⟨G,1,none⟩=some s.X.val
 c2:w.cell? ⟨G,2,none⟩=some s.Y.val
 c3:w.cell? ⟨G,3,none⟩=some s.R.val
 c4:w.cell? ⟨G,4,none⟩=some (.bool s.v.b)
 c5:w.cell? ⟨G,5,none⟩=some (.slice s.v.A s.v.xs.length s.v.c)
 c6:w.cell? ⟨G,6,none⟩=some (.slice s.v.D s.v.ys.length s.v.d)
 lt:G<w.heap.size
theorem Sb.kp {w w':World} {G:Nat} {s:Sn} {S:Nat->Prop} (h:Sb w G s) (k:Kp S w w') (hG:¬S G):Sb w' G s:=by
 have hc:∀o,w'.cell? ⟨G,o,none⟩=w.cell? ⟨G,o,none⟩:=fun o=>k.cell (p:=⟨G,o,none⟩) h.lt hG;exact ⟨(hc 0).trans h.c0,(hc 1).trans h.c1,(hc 2).trans h.c2,(hc 3).trans h.c3,(hc 4).trans h.c4,(hc 5).trans h.c5,(hc 6).trans h.c6,Nat.lt_of_lt_of_le h.lt k.size⟩
theorem Sb.below {w w':World} {G:Nat} {s:Sn} (h:Sb w G s) (hb:Below w.heap.size w w'):Sb w' G s:=h.kp (fo (fun _=>False) hb) (fun h=>h)
theorem cY (w:World) (s:Sn) (e:TypeId):Sb (w.alloc (.cells s.cells e)) w.heap.size s/\Below w.heap.size w (w.alloc (.cells s.cells e)):=
 ⟨⟨by go_simp,by go_simp,by go_simp,by go_simp,by go_simp,by go_simp,by go_simp,by simp⟩,(ah _ _).alloc (Nat.le_refl _) _⟩
def Ap (A:Option Addr) (G:Nat) (s:Sl):Prop:=0<s.vs.length->∀ad,s.A=some ad->A.map (·.block)≠some ad.block/\ad.block≠G
structure Cb (w:World) (B G n m:Nat) (a:Nat->Nat->Rat) (b c:Nat->Rat) (cs rs:Sl) (A:Option Addr) (ca:Nat) (rows:List Sl):Prop where
 F:Fd Sl.val 22 w B G 2 A ca rows
 c0:w.cell? ⟨G,0,none⟩=some (.slice cs.A n cs.c)
 c1:w.cell? ⟨G,1,none⟩=some (.slice rs.A m rs.c)
 gl:G<w.heap.size
 gB:B<=G
 nG:NL w G
 cc:Cl w cs.A cs.vs c
 cb:Cl w rs.A rs.vs b
 lc:cs.vs.length=n
 lb:rs.vs.length=m
 row:∀i (h:i<rows.length),Cl w rows[i].A rows[i].vs (a i)/\rows[i].vs.length=n
 ac:Ap A G cs
 ab:Ap A G rs
 ar:∀i (h:i<rows.length),Ap A G rows[i]
section
variable {w w' w2:World} {B G n m:Nat} {a:Nat->Nat->Rat} {b c:Nat->Rat} {cs rs:Sl} {A A':Option Addr} {ca c':Nat} {rows:List Sl} {S:Nat->Prop}
theorem Cb.below (h:Cb w B G n m a b c cs rs A ca rows) (hb:Below w.heap.size w w'):Cb w' B G n m a b c cs rs A ca rows:=
 ⟨h.F.kp (fo (fun _=>False) hb) h.gl (fun h=>h) (fun _ _ h=>h),(hb.cell (p:=⟨G,0,none⟩) h.gl).trans h.c0,(hb.cell (p:=⟨G,1,none⟩) h.gl).trans h.c1,Nat.lt_of_lt_of_le h.gl hb.size,h.gB,h.nG.below hb,h.cc.below hb,h.cb.below hb,h.lc,h.lb,fun i hi=>⟨(h.row i hi).1.below hb,(h.row i hi).2⟩,h.ac,h.ab,h.ar⟩
theorem Cl.lt {vs:List Fx} {f:Nat->Rat} {A:Option Addr} (h:Cl w A vs f) (hn:0<vs.length):∀ad,A=some ad->ad.block<w.heap.size:=fun ad e=>by
 obtain ⟨ad',e',hl,_⟩:=h.rd hn;rw [e] at e';injection e' with e';subst e';exact hl
theorem Cb.push (h:Cb w B G n m a b c cs rs A ca rows) {s:Sl} (hs:Cl w s.A s.vs (a rows.length)) (hl:s.vs.length=n) (hap:Ap A G s)
 (gr:Gr Sl.val 22 w2 B A' c' (rows ++ [s])) (nl:NLr w2 A') (k:Kp (fun g=>A.map (·.block)=some g) w w2) (hat:A'.map (·.block)=A.map (·.block)\/A'.map (·.block)=some w.heap.size) :
 Cb (w2.setCell ⟨G,2,none⟩ (.slice A' (rows.length+1) c')) B G n m a b c cs rs A' c' (rows ++ [s]):=by
 have hG:¬A.map (·.block)=some G:=fun e=>h.F.ne G e rfl;have kG:Kp (fun a=>a=G) w2 (w2.setCell ⟨G,2,none⟩ (.slice A' (rows.length+1) c')):=(Kp.refl (fun a=>a=G) w2).set (S:=fun a=>a=G) rfl _ _;have hnl:∀g,A.map (·.block)=some g->NL w g:=h.F.nl;obtain ⟨cur,t,e1,hn⟩:=h.nG;have nG2:NL w2 G:=⟨cur,t,(k.block _ (Array.getElem?_eq_some_iff.1 e1).1 hG).trans e1,hn⟩;have hnG:∀a,a=G->NL w2 a:=fun a e=>by rw [e];exact nG2
 have cellG:∀o,o≠2->∀u,w.cell? ⟨G,o,none⟩=some u->(w2.setCell ⟨G,2,none⟩ (.slice A' (rows.length+1) c')).cell? ⟨G,o,none⟩=some u:=fun o ho u hu=>by
  have:=(k.cell (p:=⟨G,o,none⟩) h.gl hG).trans hu;simp [go_sem,this]
 have cl:∀(u:Sl) (f:Nat->Rat),Cl w u.A u.vs f->Ap A G u->Cl (w2.setCell ⟨G,2,none⟩ (.slice A' (rows.length+1) c')) u.A u.vs f:=fun u f hu hp=>
  (hu.kp k hnl (fun hn ad e=>(hp hn ad e).1)).kp kG hnG (fun hn ad e=>(hp hn ad e).2)
 have ap:∀(u:Sl) (f:Nat->Rat),Cl w u.A u.vs f->Ap A G u->Ap A' G u:=fun u f hu hp hn ad e=>by
  refine ⟨?_,(hp hn ad e).2⟩;have h1:=hu.lt hn ad e;rcases hat with h2|h2
  ·rw [h2];exact (hp hn ad e).1
  ·rw [h2];intro h3;injection h3 with h3;omega
 refine ⟨h.F.push h.gl gr nl k hat,cellG 0 (by omega) _ h.c0,cellG 1 (by omega) _ h.c1,by simpa [World.setCell] using Nat.lt_of_lt_of_le h.gl k.size,h.gB,nG2.set 2 rfl,cl cs _ h.cc h.ac,cl rs _ h.cb h.ab,h.lc,h.lb,fun i hi=>?_,ap cs _ h.cc h.ac,ap rs _ h.cb h.ab,fun i hi=>?_⟩
 ·rw [List.length_append,List.length_singleton] at hi;rcases Nat.lt_or_ge i rows.length with h1|h1
  ·rw [List.getElem_append_left h1];exact ⟨cl _ _ (h.row i h1).1 (h.ar i h1),(h.row i h1).2⟩
  ·obtain rfl:i=rows.length:=by omega
   rw [List.getElem_append_right (Nat.le_refl _)];simp only [Nat.sub_self,List.getElem_cons_zero];exact ⟨cl _ _ hs hap,hl⟩
 ·rw [List.length_append,List.length_singleton] at hi;rcases Nat.lt_or_ge i rows.length with h1|h1
  ·rw [List.getElem_append_left h1];exact ap _ _ (h.row i h1).1 (h.ar i h1)
  ·obtain rfl:i=rows.length:=by omega
   rw [List.getElem_append_right (Nat.le_refl _)];simp only [Nat.sub_self,List.getElem_cons_zero];exact ap _ _ hs hap
theorem Cb.ck (h:Cb w B G n m a b c cs rs A ca rows) (hm:rows.length=m):Ck w G n m a b c cs rs A ca rows:=
 ⟨h.c0,h.c1,by rw [<-hm];exact h.F.cell,h.gl,h.cc,h.cb,h.lc,h.lb,h.F.gr.rd,hm,h.row⟩
end
def dP (vs:List Fx):Nat:=(vs.map (fun v=>v.q.den)).prod
theorem vj (vs:List Fx):0<dP vs:=by
 induction vs with
 | nil=>simp [dP]
 | cons v l ih=>
   rw [dP,List.map_cons,List.prod_cons];exact Nat.mul_pos v.q.den_pos ih
theorem vk {vs:List Fx} {v:Fx} (h:v∈vs):v.q.den∣dP vs:=by
 induction vs with
 | nil=>cases h
 | cons u l ih=>
   rw [dP,List.map_cons,List.prod_cons];rcases List.mem_cons.1 h with rfl|h
   ·exact Nat.dvd_mul_right _ _
   ·exact Nat.dvd_trans (ih h) (Nat.dvd_mul_left _ _)
theorem DB (q:Rat):q.den<=2^wgB q:=by
 have:=lI q;unfold wtR at this;omega
theorem tV (vs:List Fx):dP vs<=2^wlF vs:=by
 induction vs with
 | nil=>simp [dP,wlF]
 | cons v l ih=>
   rw [dP,List.map_cons,List.prod_cons,wlF,List.map_cons,List.sum_cons,Nat.pow_add];exact Nat.mul_le_mul (DB _) ih
def dR (l:List Sl):Nat:=(l.map (fun r=>dP r.vs)).prod
theorem DC (l:List Sl):0<dR l:=by
 induction l with
 | nil=>simp [dR]
 | cons v l ih=>
   rw [dR,List.map_cons,List.prod_cons];exact Nat.mul_pos (vj _) ih
theorem DE {l:List Sl} {r:Sl} (h:r∈l):dP r.vs∣dR l:=by
 induction l with
 | nil=>cases h
 | cons u l ih=>
   rw [dR,List.map_cons,List.prod_cons];rcases List.mem_cons.1 h with rfl|h
   ·exact Nat.dvd_mul_right _ _
   ·exact Nat.dvd_trans (ih h) (Nat.dvd_mul_left _ _)
theorem CJ (l:List Sl):dR l<=2^(l.map (fun r=>wlF r.vs)).sum:=by
 induction l with
 | nil=>simp [dR]
 | cons v l ih=>
   rw [dR,List.map_cons,List.prod_cons,List.map_cons,List.sum_cons,Nat.pow_add];exact Nat.mul_le_mul (tV _) ih
theorem jM {vs:List Fx} {v:Fx} (h:v∈vs):wgB v.q<=wlF vs:=by
 induction vs with
 | nil=>cases h
 | cons u l ih=>
   rw [wlF,List.map_cons,List.sum_cons];rcases List.mem_cons.1 h with rfl|h
   ·omega
   ·have:=ih h;rw [wlF] at this;omega
theorem vC {l:List Sl} {r:Sl} (h:r∈l):wlF r.vs<=(l.map (fun r=>wlF r.vs)).sum:=by
 induction l with
 | nil=>cases h
 | cons u l ih=>
   rw [List.map_cons,List.sum_cons];rcases List.mem_cons.1 h with rfl|h
   ·omega
   ·have:=ih h;omega
theorem iG {x e k:Nat} (h:x<=2^e) (he:e<32*k):(lim x).length<=k:=by
 rw [aA,jy];exact Nat.lt_of_le_of_lt h (Nat.pow_lt_pow_right (by omega) he)
theorem qX {q:Rat} (h:wgB q<=900):Sz q 32 32:=by
 have h1:=lI q;unfold wtR at h1;exact mg (e:=wgB q) (by omega) ⟨by omega,by omega⟩
theorem Pg.vd.pz {p:Pg} (v:p.vd):Pz p.cost.vs.length p.rows.length p.a p.b p.c (dP p.cost.vs*dP p.right.vs*dR p.rows):=by
 have w:=v.wt;refine ⟨fun i hi j hj=>?_,fun i hi=>?_,fun j hj=>?_,Nat.mul_pos (Nat.mul_pos (vj _) (vj _)) (DC _),?_⟩
 ·have hm:=List.getElem_mem hi;have hj2:j<p.rows[i].vs.length:=by rw [v.la _ hm];exact hj
  have hm2:=List.getElem_mem hj2;have e:p.a i j=p.rows[i].vs[j].q:=by rw [Pg.a,bC _ _ _ hi,bC _ _ _ hj2]
  rw [e];have h1:=jM hm2;have h2:=vC hm;exact ⟨qX (by omega),Nat.dvd_trans (Nat.dvd_trans (vk hm2) (DE hm)) (Nat.dvd_mul_left _ _)⟩
 ·have hi2:i<p.right.vs.length:=by rw [v.lb];exact hi
  have hm2:=List.getElem_mem hi2;have e:p.b i=p.right.vs[i].q:=by rw [Pg.b,bC _ _ _ hi2]
  rw [e];have h1:=jM hm2;exact ⟨qX (by omega),Nat.dvd_trans (Nat.dvd_trans (vk hm2) (Nat.dvd_mul_left _ _)) (Nat.dvd_mul_right _ _)⟩
 ·have hm2:=List.getElem_mem hj;have e:p.c j=p.cost.vs[j].q:=by rw [Pg.c,bC _ _ _ hj]
  rw [e];have h1:=jM hm2;exact ⟨qX (by omega),Nat.dvd_trans (Nat.dvd_trans (vk hm2) (Nat.dvd_mul_right _ _)) (Nat.dvd_mul_right _ _)⟩
 ·have h1:=tV p.cost.vs;have h2:=tV p.right.vs;have h3:=CJ p.rows;have h4:=Nat.mul_le_mul (Nat.mul_le_mul h1 h2) h3;rw [<-Nat.pow_add,<-Nat.pow_add] at h4;exact iG h4 (by omega)
theorem xX (p q:Rat):decide (bA p q=0)=decide (p=q):=by
 rcases du p q with ⟨h,e⟩|⟨h,e⟩|⟨h,e⟩ <;> rw [e]
 ·rw [decide_eq_false (Rat.ne_of_lt h)];rfl
 ·rw [decide_eq_true h];rfl
 ·rw [decide_eq_false (Rat.ne_of_gt h)];rfl
theorem xY (p q:Rat):decide (bA p q<0)=decide (p<q):=by
 rcases du p q with ⟨h,e⟩|⟨h,e⟩|⟨h,e⟩ <;> rw [e]
 ·rw [decide_eq_true h];rfl
 ·rw [h,decide_eq_false Rat.lt_irrefl];rfl
 ·rw [decide_eq_false (Rat.not_lt.2 (Rat.le_of_lt h))];rfl
theorem oV (w:World) (x1 x2:Fx) (p q:Rat) (b:Bool) (h1:Nm w x1 p) (h2:Nm w x2 q) (hb:decide (p<q)=b) :
 Calls prog 30 #[x1.val,x2.val] w fun e w'=>e = .returned (.bool b)/\Below w.heap.size w w':=by
 obtain ⟨z,hz⟩:∃z,bA p q=z:=⟨_,rfl⟩;rw [<-xY,hz] at hb;have HB:Hd ((decide (z<0))=b):=ag (by first|exact hb | (rw [<-hb];exact Bool.beq_eq_decide_eq z 0))
 have HZ:Hd (bA x1.q x2.q=z):=ag (by rw [h1.q,h2.q];exact hz)
 have ok1:=h1.ok;have ok2:=h2.ok;have H1:=ag h1;have H2:=ag h2;clear hb hz h1 h2;go_enter func30,ntmps30;go_upto_region 1 with fail;have bw:=ah w.heap.size w;have a1:=(au ok1).1;have bb:=(au ok1).2;have sz1:=aB w (.cells x1.cells 29);clear ok1;generalize (w.alloc (.cells x1.cells 29))=wA at a1 bb sz1|-;replace ok2:=ok2.below bb;replace bw:=qd bw bb;clear bb;have a2:=(au ok2).1;have bb:=(au ok2).2;have sz2:=aB wA (.cells x2.cells 29);rw [sz1] at a2 sz2;clear ok2 sz1;generalize (wA.alloc (.cells x2.cells 29))=wm at a2 bb sz2|-;replace a1:=a1.below bb;replace bw:=qd bw bb;clear bb
 clear sz2;have ci0:=a1.c0;have ci1:=a1.c1;have ci2:=a1.c2;have cj0:=a2.c0;have cj1:=a2.c1;have cj2:=a2.c2;go_wp2_with fail;clear ci0 ci1 ci2 cj0 cj1 cj2;refine (jw _ x1 x2 z a1.ok a2.ok H1.o.v H2.o.v H1.o.l H1.o.m H2.o.l H2.o.m HZ.o).mono ?_;rintro e wn ⟨rfl,bb⟩;replace a1:=a1.below bb;replace a2:=a2.below bb;replace bw:=qd bw bb;clear bb;go_wp2_with fail;go_ret;exact ⟨dz HB.o,bw⟩
theorem gA (w:World) (x1 x2:Fx) (p q:Rat) (b:Bool) (h1:Nm w x1 p) (h2:Nm w x2 q) (hb:decide (p=q)=b) :
 Calls prog 24 #[x1.val,x2.val] w fun e w'=>e = .returned (.bool b)/\Below w.heap.size w w':=by
 obtain ⟨z,hz⟩:∃z,bA p q=z:=⟨_,rfl⟩;rw [<-xX,hz] at hb;have HB:Hd ((z == 0)=b):=ag (by first|exact hb | (rw [<-hb];exact Bool.beq_eq_decide_eq z 0))
 have HZ:Hd (bA x1.q x2.q=z):=ag (by rw [h1.q,h2.q];exact hz)
 have ok1:=h1.ok;have ok2:=h2.ok;have H1:=ag h1;have H2:=ag h2;clear hb hz h1 h2;go_enter func24,ntmps24;go_upto_region 1 with fail;have bw:=ah w.heap.size w;have a1:=(au ok1).1;have bb:=(au ok1).2;have sz1:=aB w (.cells x1.cells 29);clear ok1;generalize (w.alloc (.cells x1.cells 29))=wA at a1 bb sz1|-;replace ok2:=ok2.below bb;replace bw:=qd bw bb;clear bb;have a2:=(au ok2).1;have bb:=(au ok2).2;have sz2:=aB wA (.cells x2.cells 29);rw [sz1] at a2 sz2;clear ok2 sz1;generalize (wA.alloc (.cells x2.cells 29))=wm at a2 bb sz2|-;replace a1:=a1.below bb;replace bw:=qd bw bb;clear bb
 clear sz2;have ci0:=a1.c0;have ci1:=a1.c1;have ci2:=a1.c2;have cj0:=a2.c0;have cj1:=a2.c1;have cj2:=a2.c2;go_wp2_with fail;clear ci0 ci1 ci2 cj0 cj1 cj2;refine (jw _ x1 x2 z a1.ok a2.ok H1.o.v H2.o.v H1.o.l H1.o.m H2.o.l H2.o.m HZ.o).mono ?_;rintro e wn ⟨rfl,bb⟩;replace a1:=a1.below bb;replace a2:=a2.below bb;replace bw:=qd bw bb;clear bb;go_wp2_with fail;go_ret;exact ⟨dz HB.o,bw⟩
theorem dp (w:World) (x:Fx) (q:Rat) (z:Int) (h:Nm w x q) (hs:bA q 0=z):Calls prog 49 #[x.val] w fun e w'=>e = .returned (.int .i64 z)/\Below w.heap.size w w':=
 uM w x z h.ok h.v h.l h.m (by rw [h.q];exact hs)
theorem iT (w:World):Calls prog 26 #[.int .i64 0] w fun e w'=>∃y:Fx,e = .returned y.val/\El w' y 0/\Below w.heap.size w w':=by
 refine (oU w).mono ?_;rintro e w' ⟨y,h1,h2,h3,h4⟩;exact ⟨y,h1,⟨h3,h2⟩,h4⟩
theorem dS (w:World) (n:Int) (n0 : -9223372036854775808<=n) (n1:n<=9223372036854775807):Calls prog 26 #[.int .i64 n] w fun e w'=>∃y:Fx,e = .returned y.val/\El w' y (n:Rat)/\Below w.heap.size w w':=by
 refine (qi w n n0 n1 (mH n0 n1)).mono ?_;rintro e w' ⟨y,h1,h2,h3,h4⟩;have e1:Rat.divInt n 1=(n:Rat):=by rw [Rat.divInt_eq_div];grind
 rw [e1] at h2;exact ⟨y,h1,⟨h3,Rp.of h2⟩,h4⟩
section
variable {w w':World} {S:Nat->Prop} {B g:Nat} {A:Option Addr}
theorem NL.kp (h:NL w g) (k:Kp S w w') (hg:¬S g):NL w' g:=by
 obtain ⟨cur,t,e,hn⟩:=h;exact ⟨cur,t,(k.block g (Array.getElem?_eq_some_iff.1 e).1 hg).trans e,hn⟩
theorem NLr.kp (h:NLr w A) (k:Kp S w w') (hA:∀g,A.map (·.block)=some g->¬S g):NLr w' A:=fun g hg=>(h g hg).kp k (hA g hg)
theorem NoI.kp (h:NoI w A) (k:Kp S w w') (hA:∀g,A.map (·.block)=some g->¬S g):NoI w' A:=fun g hg=>by
 obtain ⟨cur,t,e,hn⟩:=h g hg;exact ⟨cur,t,(k.block g (Array.getElem?_eq_some_iff.1 e).1 (hA g hg)).trans e,hn⟩
theorem NoI.nlr (h:NoI w A):NLr w A:=fun g hg=>by
 obtain ⟨cur,t,e,hn⟩:=h g hg;exact ⟨cur,t,e,fun u hu=>rN (hn u hu)⟩
end
theorem rM (w:World) (g i:Nat) (v:Value):Kp (fun a=>a=g) w (w.setCell ⟨g,i,none⟩ v):=(Kp.refl (fun a=>a=g) w).set (S:=fun a=>a=g) rfl _ _
theorem kM {w:World} {B g:Nat} {α : Type} {mk : α -> Value} {e:TypeId} {c:Nat} {A:Option Addr} {xs:List α} (h:Gr mk e w B A c xs) (hg:A.map (·.block)=some g):B<=g/\g<w.heap.size:=by
 cases A with
 | none=>cases hg
 | some a=>injection hg with hg;subst hg;exact h.form.2.2 a rfl
theorem kC (w:World) (x y:Fx) (p q:Rat) (h1:Nm w x p) (h2:Nm w y q) (hz:Sz (p*q) 128 128) :
 Calls prog 28 #[x.val,y.val] w fun e w'=>∃z:Fx,e = .returned (.tuple #[z.val, .int .i64 0])/\El w' z (p*q)/\Below w.heap.size w w':=by
 refine (qg w x y (okS (p*q)) h1.ok h2.ok h1.l h1.m h2.l h2.m (rJ h1.v h2.v h1.q h2.q hz)).mono ?_;rintro e w' ⟨z,rfl,hs,ok,bb⟩;exact ⟨z,rfl,⟨ok,Rp.of hs⟩,bb⟩
theorem Ay (n:Nat):1<aI n↔1<n:=by
 have h:=bP n 1;have e:(2:Nat)^1=2:=rfl;rw [e] at h;omega
theorem BP {n:Nat} (h:1<(lim n).length):1<n:=by
 have h1:¬(lim n).length<=1:=by omega
 rw [aA,mF] at h1;omega
theorem Dx {n:Nat} (h:(lim n).length=1):(lim n)[0]'(by omega)=n:=by
 have e:=am n;obtain ⟨z,hz⟩:=List.length_eq_one_iff.1 h;simp only [hz,aT,aW] at e|-;simp at e|-;exact e
theorem iS (w:World) (s:Sl) (h:s.ok w) (hl:s.vs.length<=1000) (hs:∀v∈s.vs,v.xs.length<=10000/\v.ys.length<=10000) (hv:∀v∈s.vs,v.v) :
 Calls prog 35 #[s.val] w fun e w'=>e = .returned (.int .i64 (wlF s.vs:Nat))/\Below w.heap.size w w':=by
 have HS:=ag h;have bt:=ag hs;have sl:=ag hv;obtain ⟨A,c,vs⟩:=s;clear h hs hv;replace hl:vs.length<=1000:=hl
 show Calls prog 35 #[.slice A vs.length c] w _
 replace bt:Hd (∀v∈vs,v.xs.length<=10000/\v.ys.length<=10000):=bt;replace sl:Hd (∀v∈vs,v.v):=sl;go_enter func35,ntmps35;go_wp2_with fail;go_loopw [3,4] (fun nv iv wr=>∃k:Nat,k<=vs.length/\iv = .int .i64 k/\nv = .int .i64 (wlF (vs.take k):Nat)/\Below w.heap.size w wr) (fun _ iv _=>vs.length-(intOf iv).toNat)
 case atStart=>exact ⟨0,by omega,rfl,rfl,ah _ _⟩
 case round=>
  obtain ⟨k,hk,rfl,rfl,bw⟩:=hrel;by_cases hlt:k<vs.length
  ·have hwl:wlF (vs.take k)<=(vs.take k).length*8192:=iM (fun v hv=>sl.o v (List.mem_of_mem_take hv));rw [List.length_take] at hwl;obtain ⟨ad,rfl,ef⟩:=(HS.o.below bw).rd.at k hlt;have ok:=(HS.o.below bw).el _ (List.getElem_mem hlt);have HL:=ag (bt.o _ (List.getElem_mem hlt));have cK:=ag (sj hlt);have hv:=sl.o _ (List.getElem_mem hlt);obtain ⟨x,hx⟩:∃x,vs[k]=x:=⟨_,rfl⟩;have ef0:Ef wr (ad.add (k*3)) vs[k]:=ef;rw [hx] at ef0 ok HL cK hv;have d0:=ef0.c0;have d1:=ef0.c1;have d2:=ef0.c2;obtain ⟨N,hN⟩:∃N,wlF (vs.take k)=N:=⟨_,rfl⟩;rw [hN] at hwl cK|-;have kf:Hd (gz x=okS x.q):=ag (gp hv)
   have eP:=ag (kB hv).2;have OK:=ag ok;clear hx hN ef ef0 hv ok;go_wp2_with fail;refine (iQ wr x _ OK.o HL.o.1 HL.o.2 kf.o).mono ?_;rintro e wn ⟨y,rfl,hs1,ok1,bb⟩;have RP:=ag (Rp.of hs1);rw [show (okS x.q).2.2.2=0 from rfl];clear hs1 d0 d1 d2;replace bw:=qd bw bb;clear bb;go_upto_region 6 with fail;have v1:Vl (wn.alloc (.cells y.cells 29)) wn.heap.size y x.q:=⟨(au ok1).1,RP.o⟩;have bb:=(au ok1).2;clear ok1;replace bw:=qd bw bb;clear bb;generalize (wn.alloc (.cells #[.bool y.b, .slice y.A y.xs.length y.c, .slice y.D y.ys.length y.d] 29))=wm at v1 bw|-;generalize wn.heap.size=g7 at v1|-
   have d0:=v1.c0;have d1:=v1.c1;have d2:=v1.c2;have HV:=ag v1;clear v1;have hq1:=(dh x.q.num.natAbs 128).2 eP.o.1;have hq2:=(dh x.q.den 128).2 eP.o.2;have p4:Hd (y.xs.length=0↔x.q=0):=ag (by rw [RP.o.n,List.length_eq_zero_iff,iZ,Int.natAbs_eq_zero,Rat.num_eq_zero])
   have CO:Hd (0<y.ys.length):=ag (by rw [RP.o.d];exact aX.2 (Nat.pos_iff_ne_zero.1 x.q.den_pos))
   have dK:Hd (1<aI x.q.den↔1<x.q.den):=ag (Ay _);have FH:Hd (1<y.ys.length->1<x.q.den):=ag (by rw [RP.o.d];exact BP)
   obtain ⟨p,hp⟩:∃p,aI x.q.num.natAbs=p:=⟨_,rfl⟩;obtain ⟨q,hq⟩:∃q,aI x.q.den=q:=⟨_,rfl⟩;have ia:Hd (wlF (vs.take (k+1))=N+if x.q=0 then 0 else p+if 1<q then q else 0):=ag (by rw [cK.o,wgB,hp,hq])
   rw [hp] at hq1;rw [hq] at hq2 dK;have HP:Hd (aI (nv y.xs)=p):=ag (by rw [RP.o.n,am,hp])
   have HQ:Hd (aI (nv y.ys)=q):=ag (by rw [RP.o.d,am,hq])
   have FI:Hd (x.q=0->p=0):=ag (fun e=>by rw [<-hp,e];decide)
   clear hp hq;go_wp2_with fail;refine (jR wm y.A y.c _ y.xs HV.o.fa.ok.num rfl (by have:=RP.o.l1 eP.o;omega)).mono ?_
   rintro e w5 ⟨rfl,bb⟩;rw [HP.o];replace bw:=qd bw bb;replace HV:=ag (HV.o.below bb);clear bb d0 d1 d2;generalize w5=wm at *;have d0:=HV.o.c0;have d1:=HV.o.c1;have d2:=HV.o.c2;by_cases h0:0<y.xs.length
   ·have rD:Hd (¬x.q=0):=fun e=>by have:=p4.o.2 e;omega
    have h0i:(0:Int)<(y.xs.length:Int):=by omega
    by_cases h1:1<y.ys.length
    ·have h1i:(1:Int)<(y.ys.length:Int):=by omega
     have eE:Hd (wlF (vs.take (k+1))=N+p+q):=ag (by rw [ia.o,if_neg rD.o,if_pos (dK.o.2 (FH.o h1))];omega)
     go_wp2_with fail;refine (jR wm y.D y.d _ y.ys HV.o.fa.ok.den rfl (by have:=RP.o.l2 eP.o;omega)).mono ?_
     rintro e w6 ⟨rfl,bb⟩;rw [HQ.o];replace bw:=qd bw bb;go_wp2_with fail;go_roundw
     case rel=>exact ⟨k+1,by omega,by go_num,by rw [eE.o];go_num,bw⟩
     case measure=>simp [intOf];omega
    ·have h1i:¬(1:Int)<(y.ys.length:Int):=by omega
     have hl1:(lim x.q.den).length=1:=by rw [<-RP.o.d];have:=CO.o;omega
     obtain ⟨ae,hae,had,hcell,hlt4⟩:=HV.o.fa.ok.den.at 0 CO.o;obtain ⟨D,hD⟩:∃D,x.q.den=D:=⟨_,rfl⟩;have hGv:y.ys[0]'CO.o=D:=by
      have e:y.ys[0]'CO.o=(lim x.q.den)[0]'(by omega):=by simp only [RP.o.d]
      rw [e,Dx hl1,hD]
     rw [hGv,show ae.add 0=ae by unfold Addr.add;simp] at hcell
     have hpos:0<y.ys.length:=CO.o;have nD:Hd (1<q↔1<D):=ag (by rw [<-hD];exact dK.o)
     rw [hae] at d2;clear hlt4 hGv hl1 hD hae;by_cases h2:1<D
     ·have h2i:(1:Int)<(D:Int):=by omega
      have eE:Hd (wlF (vs.take (k+1))=N+p+q):=ag (by rw [ia.o,if_neg rD.o,if_pos (nD.o.2 h2)];omega)
      have FJ:Hd (y.D=some ae):=ag (by have:=HV.o.c2;rw [d2] at this;simpa using this.symm)
      go_wp2_with fail;refine (jR wm (some ae) y.d _ y.ys (by rw [<-FJ.o];exact HV.o.fa.ok.den) rfl (by have:=RP.o.l2 eP.o;omega)).mono ?_
      rintro e w6 ⟨rfl,bb⟩;rw [HQ.o];replace bw:=qd bw bb;go_wp2_with fail;go_roundw
      case rel=>exact ⟨k+1,by omega,by go_num,by rw [eE.o];go_num,bw⟩
      case measure=>simp [intOf];omega
     ·have h2i:¬(1:Int)<(D:Int):=by omega
      have eE:Hd (wlF (vs.take (k+1))=N+p):=ag (by rw [ia.o,if_neg rD.o,if_neg (fun e=>h2 (nD.o.1 e))];omega)
      go_wp2_with fail;go_roundw
      case rel=>exact ⟨k+1,by omega,by go_num,by rw [eE.o];go_num,bw⟩
      case measure=>simp [intOf];omega
   ·have h0i:¬(0:Int)<(y.xs.length:Int):=by omega
    have eE:Hd (wlF (vs.take (k+1))=N+p):=ag (by
     have e:x.q=0:=p4.o.1 (by omega)
     rw [ia.o,if_pos e,FI.o e])
    go_wp2_with fail;go_roundw
    case rel=>exact ⟨k+1,by omega,by go_num,by rw [eE.o];go_num,bw⟩
    case measure=>simp [intOf];omega
  ·obtain rfl:k=vs.length:=by omega
   rw [List.take_length] at *;go_wp2_with fail;go_ret;exact ⟨rfl,bw⟩
theorem pI (w:World) (A:Option Addr) (c:Nat) (ls:List Sl) (h:Rd Sl.val w A ls) (ho:∀r∈ls,r.ok w) (hl:ls.length<=1000) (hn:∀r∈ls,r.vs.length<=1000) (hs:∀r∈ls,∀v∈r.vs,v.xs.length<=10000/\v.ys.length<=10000) (hv:∀r∈ls,∀v∈r.vs,v.v) :
 Calls prog 36 #[.slice A ls.length c] w fun e w'=>e = .returned (.int .i64 (wsF ls:Nat))/\Below w.heap.size w w':=by
 have HR:=ag h;have HO:=ag ho;have cJ:=ag hn;have bt:=ag hs;have sl:=ag hv;clear h ho hn hs hv;go_enter func36,ntmps36;go_wp2_with fail;go_loopw [3,4] (fun nv iv wr=>∃k:Nat,k<=ls.length/\iv = .int .i64 k/\nv = .int .i64 (wsF (ls.take k):Nat)/\Below w.heap.size w wr) (fun _ iv _=>ls.length-(intOf iv).toNat)
 case atStart=>exact ⟨0,by omega,rfl,rfl,ah _ _⟩
 case round=>
  obtain ⟨k,hk,rfl,rfl,bw⟩:=hrel;have aw:=ag bw;by_cases hlt:k<ls.length
  ·have hws:wsF (ls.take k)<=(ls.take k).length*8192000:=uj (fun r hr=>by
    have h1:=iM (sl.o r (List.mem_of_mem_take hr));have h2:=cJ.o r (List.mem_of_mem_take hr);omega)
   rw [List.length_take] at hws;have cK:=ag (se hlt);have hme:=List.getElem_mem hlt;have bK:=ag (iS wr ls[k] ((HO.o _ hme).below bw) (cJ.o _ hme) (bt.o _ hme) (sl.o _ hme));have h5:=iM (sl.o _ hme);have h6:=cJ.o _ hme;obtain ⟨ad,rfl,_,hc⟩:=(HR.o.below bw rfl) (by omega)
   have hcj:=hc k hlt;obtain ⟨s,hs⟩:∃s,ls[k]=s:=⟨_,rfl⟩;rw [hs] at hcj cK bK h5 h6;obtain ⟨N,hN⟩:∃N,wsF (ls.take k)=N:=⟨_,rfl⟩;rw [hN] at hws cK|-;obtain ⟨M,hM⟩:∃M,wlF s.vs=M:=⟨_,rfl⟩;rw [hM] at h5 cK bK;clear hc hs hN hM bw hme;go_wp2_with fail;refine bK.o.mono ?_;rintro e w5 ⟨rfl,bb⟩;clear hcj;go_wp2_with fail;go_roundw
   case rel=>exact ⟨k+1,by omega,by go_num,by rw [cK.o];go_num,qd aw.o bb⟩
   case measure=>simp [intOf];omega
  ·obtain rfl:k=ls.length:=by omega
   rw [List.take_length] at *;go_wp2_with fail;go_ret;exact ⟨rfl,bw⟩
end Go.Proofs.YtkpfbekmaafehaaGreat
