/- Rows of small fractions; programs that are scaled. -/
import Derived.Test.YtkpfbekmaafehaaGreatSvJ
namespace Go.Proofs.YtkpfbekmaafehaaGreat
set_option maxRecDepth 100000
open Go.RowKit
theorem fxV_last {vs:List Fx} {x:Fx} {n:Nat} (h:vs.length=n):fxV (vs ++ [x]) n=x.q:=by
 subst h;rw [fxV,bC _ _ _ (by simp),List.getElem_append_right (Nat.le_refl _)]
 simp
structure Yr (w:World) (B:Nat) (A:Option Addr) (c:Nat) (vs:List Fx):Prop where
 fr:Fr w B A c vs
 ni:NoI w A
 el:∀v∈vs,v.ok w∧Gq v
section
variable {w w':World} {S:Nat→Prop} {B c:Nat} {A:Option Addr} {vs:List Fx}
theorem Yr.nil (w:World) (B:Nat):Yr w B none 0 []:=⟨rR _ _,NoI.nil _,fun v hv=>absurd hv (by simp)⟩
theorem Yr.kp (h:Yr w B A c vs) (k:Kp S w w') (nl:∀g,S g→NL w g) (hA:∀g,A.map (·.block)=some g→¬S g):Yr w' B A c vs:=
 ⟨k.fr h.fr (fun ad e=>hA _ (by rw [e];rfl)),h.ni.kp k hA,fun v hv=>⟨k.ok (h.el v hv).1 nl,(h.el v hv).2⟩⟩
theorem Yr.below (h:Yr w B A c vs) (hb:Below w.heap.size w w'):Yr w' B A c vs:=⟨h.fr.below hb,h.ni.below hb,fun v hv=>⟨(h.el v hv).1.below hb,(h.el v hv).2⟩⟩
theorem Yr.lt {g:Nat} (h:Yr w B A c vs) (hg:A.map (·.block)=some g):B≤g∧g<w.heap.size:=h.fr.lt g hg
theorem Yr.sl (h:Yr w B A c vs):(⟨A,c,vs⟩:Sl).ok w:=⟨h.fr.rd,fun v hv=>(h.el v hv).1,h.fr.caps.1⟩
theorem wpList_append_yr (w:World) {ops:Array Oper} {rest:List Oper} {o:Oper} {a:Act} {Q:Exit→Act→World→Prop} (hgd:o.guard=none) (s x:Operand)
 (ho:o.op = .call { callee := .builtin .append,args := #[s,x],argTypes := #[22,22]}) (hty:o.type=22)
 {n:Nat} (hs:a.eval s = .slice A n c) (hn:n=vs.length) (h:Yr w B A c vs)
 (ad:Addr) (c2:Nat) (y:Fx) (hx:a.eval x = .slice (some ad) 1 c2) (hr:RdF w (some ad) [y]) (hy:y.ok w∧Gq y) (hmax:n+1≤1000) (hbase:B≤w.heap.size)
 (hK:∀A' c' w',Yr w' B A' c' (vs ++ [y])→Kp (fun a=>A.map (·.block)=some a) w w'→(A'.map (·.block)=A.map (·.block)∨A'.map (·.block)=some w.heap.size)→wpList Tryz.prog ops Q rest (a.put o.dst (.slice A' (n+1) c')) w') :
 wpList Tryz.prog ops Q (o::rest) a w:=by
 subst hn;obtain ⟨A',c',w',hrun,h1,h3,h4,h5⟩:=fS w h.fr (some ad) c2 [y] hr hmax hbase;have h6:=lB w h.fr h.ni ad c2 [y] hr (by simp) hmax hrun
 have h7:NoI w' A':=fun g hg=>h6 g (by cases A' with
  | none=>cases hg
  | some a'=>simpa [Value.ownBlock] using hg)
 have kk:Kp (fun a=>A.map (·.block)=some a) w w':=ci h4 (fun k e=>e);have h8:Yr w' B A' c' (vs ++ [y]):=⟨h1,h7,fun v hv=>by
  rcases List.mem_append.1 hv with hv|hv
  ·exact ⟨kk.ok (h.el v hv).1 h.ni.nlr,(h.el v hv).2⟩
  ·rw [List.mem_singleton] at hv;rw [hv];exact ⟨kk.ok hy.1 h.ni.nlr,hy.2⟩⟩
 refine wpList_plain hgd fun K hK'=>?_;unfold Oper.wp execOp;simp only [ho,hty,resolve,invoke,builtin,Sem.run_bind,Sem.run_pure,Result.andThen_ok,List.map_toArray,List.map_cons,List.map_nil,hs,hx];rw [show ([y]:List Fx).length=1 from rfl] at hrun;simp only [hrun];exact hK' _ _ (hK A' c' w' h8 kk h5)
end
section
variable {n m nx ny nr nx' ny' nr':Nat} {k k':Int} {a:Nat→Nat→Rat} {b b' c c' ux uy ur ux' uy' ur':Nat→Rat} {q q' t:Rat}
theorem sum_l (f g:Nat→Rat) (t:Rat) (N:Nat):aj (fun i=>t*f i*g i) N=t*aj (fun i=>f i*g i) N:=by
 rw [←bJ];exact ay fun i _=>by grind
theorem sum_r (f g:Nat→Rat) (t:Rat) (N:Nat):aj (fun i=>f i*(t*g i)) N=t*aj (fun i=>f i*g i) N:=by
 rw [←bJ];exact ay fun i _=>by grind
theorem scale_c (ht:0<t) (ec:∀j,j<n→c' j=t*c j) (h:dN k n m nx ny nr a b c ux uy ur q) (h':dN k' n m nx' ny' nr' a b c' ux' uy' ur' q'):k'=k∧q'=t*q:=by
 have hc:∀f:Nat→Rat,aj (fun j=>c' j*f j) n=t*aj (fun j=>c j*f j) n:=fun f=>by
  rw [←sum_l];exact ay fun j hj=>by rw [ec j hj]
 have e:dN k n m nx ny nr a b c' ux (fun i=>if k=1 then t*uy i else uy i) ur (t*q):=by
  rcases h.kind with rfl|rfl|rfl
  ·obtain ⟨h0,h1,h2,h3,h4⟩:=dN.one.1 h;refine dN.one.2 ⟨h0,h1,⟨h2.1,fun j hj=>?_⟩,by rw [hc,h3],?_⟩
   ·simp only [if_true];rw [sum_l,ec j hj];exact Rat.mul_le_mul_of_nonneg_left (h2.2 j hj) (Rat.le_of_lt ht)
   ·simp only [if_true];rw [sum_l,h4]
  ·obtain ⟨h0,h1,h2,h3,h4⟩:=dN.two.1 h;exact dN.two.2 ⟨h0,h1,h2,h3,by rw [h4,Rat.mul_zero]⟩
  ·obtain ⟨h0,h1,h2,h3,h4⟩:=dN.three.1 h;refine dN.three.2 ⟨h0,h1,h2,?_,by rw [h4,Rat.mul_zero]⟩
   rw [hc];have:=Rat.mul_lt_mul_of_pos_left h3 ht
   rwa [Rat.mul_zero] at this
 have u:=vo e h';exact ⟨u.1.symm,u.2.symm⟩
theorem scale_b (ht:0<t) (eb:∀i,i<m→b' i=t*b i) (h:dN k n m nx ny nr a b c ux uy ur q) (h':dN k' n m nx' ny' nr' a b' c ux' uy' ur' q'):k'=k∧q'=t*q:=by
 have hb:∀f:Nat→Rat,aj (fun i=>f i*b' i) m=t*aj (fun i=>f i*b i) m:=fun f=>by
  rw [←sum_r];exact ay fun i hi=>by rw [eb i hi]
 have hf:dX n m nx a ux b→dX n m nx a (fun j=>t*ux j) b':=fun h1=>⟨h1.1,fun j hj=>Rat.mul_nonneg (Rat.le_of_lt ht) (h1.2.1 j hj),fun i hi=>by rw [sum_r,h1.2.2 i hi,eb i hi]⟩
 have e:dN k n m nx ny nr a b' c (fun j=>t*ux j) uy ur (t*q):=by
  rcases h.kind with rfl|rfl|rfl
  ·obtain ⟨h0,h1,h2,h3,h4⟩:=dN.one.1 h;exact dN.one.2 ⟨h0,hf h1,h2,by rw [sum_r,h3],by rw [hb,h4]⟩
  ·obtain ⟨h0,h1,h2,h3,h4⟩:=dN.two.1 h;refine dN.two.2 ⟨h0,h1,h2,?_,by rw [h4,Rat.mul_zero]⟩
   rw [hb];exact Rat.mul_pos ht h3
  ·obtain ⟨h0,h1,h2,h3,h4⟩:=dN.three.1 h;exact dN.three.2 ⟨h0,hf h1,h2,h3,by rw [h4,Rat.mul_zero]⟩
 have u:=vo e h';exact ⟨u.1.symm,u.2.symm⟩
end
end Go.Proofs.YtkpfbekmaafehaaGreat
