/- The states of the region in which SimplexRows lengthens its program. -/
import Derived.Test.YtkpfbekmaafehaaGreatSvL
namespace Go.Proofs.YtkpfbekmaafehaaGreat
set_option maxRecDepth 100000
open Go.RowKit
theorem Zb.mono0 {A B:Nat} {q:Rat} (h:Zb A q) (hAB:A≤B):Zb B q:=by
 obtain ⟨z,e,hz⟩:=h;exact ⟨z,e,Nat.le_trans hz hAB⟩
theorem NLr.below0 {w w':World} {A:Option Addr} (h:NLr w A) (hb:Below w.heap.size w w'):NLr w' A:=fun g hg=>(h g hg).below hb
def Lt0 (w:World) (l:Nat) (arr:Array Value) (t:TypeId):Prop:=w.heap[l]? = some (.cells arr t (0,0))
section
variable {w w':World} {S:Nat→Prop} {l B g:Nat} {arr:Array Value} {t:TypeId}
theorem Lt0.lt (h:Lt0 w l arr t):l<w.heap.size:=(Array.getElem?_eq_some_iff.1 h).1
theorem Lt0.kp (h:Lt0 w l arr t) (k:Kp S w w') (hl:¬S l):Lt0 w' l arr t:=(k.block l h.lt hl).trans h
theorem Lt0.new (w:World) (arr:Array Value) (t:TypeId):Lt0 (w.alloc (.cells arr t)) w.heap.size arr t:=heap_alloc_new w _
theorem Lt0.rd {s:Sl} (h:Lt0 w l #[s.val] t):Rd Sl.val w (some ⟨l,0,none⟩) [s]:=fun _=>⟨_,rfl,h.lt,fun k hk=>by
 have hk0:k=0:=by simp at hk;omega
 subst hk0
 show w.cell? ⟨l,0,none⟩=some s.val
 unfold Lt0 at h;simp [World.cell?,h]⟩
theorem Lt0.rdf {x:Fx} (h:Lt0 w l x.cells t):RdF w (some ⟨l,0,none⟩) [x]:=fun _=>⟨_,rfl,h.lt,fun k hk=>by
 have hk0:k=0:=by simp at hk;omega
 subst hk0;unfold Lt0 at h;refine ⟨?_,?_,?_⟩ <;> simp [World.cell?,Addr.add,h]⟩
theorem gr_ty {α : Type} {mk : α → Value} {e:TypeId} {c:Nat} {A:Option Addr} {xs:List α} (h:Gr mk e w B A c xs) (hg:A.map (·.block)=some g):∃cur,Lt0 w g cur e:=by
 rcases h.2 with ⟨hv,_⟩|⟨g',cap,cur,hv,_,hh,_⟩
 ·simp only [Value.slice.injEq] at hv;obtain ⟨rfl,_⟩:=hv;cases hg
 ·simp only [Value.slice.injEq] at hv;obtain ⟨rfl,_⟩:=hv;injection hg with hg;subst hg;exact ⟨cur,hh⟩
theorem fr_ty {c:Nat} {A:Option Addr} {xs:List Fx} (h:Fr w B A c xs) (hg:A.map (·.block)=some g):∃cur,Lt0 w g cur 29:=by
 rcases h.2 with ⟨hv,_⟩|⟨g',cap,cur,hv,_,hh,_⟩
 ·simp only [Value.slice.injEq] at hv;obtain ⟨rfl,_⟩:=hv;cases hg
 ·simp only [Value.slice.injEq] at hv;obtain ⟨rfl,_⟩:=hv;injection hg with hg;subst hg;exact ⟨cur,hh⟩
theorem ty_ne {a b:Array Value} {t u:TypeId} {g':Nat} (h:Lt0 w g a t) (k:Lt0 w g' b u) (hn:t≠u):¬g=g':=fun e=>by
 subst e;unfold Lt0 at h k;rw [h] at k;injection k with k;injection k with _ k;exact hn k
end
theorem fs_ne:(22:TypeId)≠29:=by decide
theorem step_append_ym (w:World) {ops:Array Oper} {o:Oper} {a:Act} {K:Act→World→Prop} {Q:Exit→Act→World→Prop} {X:Prop} (hgd:o.guard=none) (s x:Operand)
 (ho:o.op = .call { callee := .builtin .append,args := #[s,x],argTypes := #[22,22]}) (hty:o.type=22)
 {B c n:Nat} {A:Option Addr} {vs:List Fx} (hs:a.eval s = .slice A n c) (hn:n=vs.length) (h:Yr w B A c vs)
 (A2:Option Addr) (m c2:Nat) (ys:List Fx) (hx:a.eval x = .slice A2 m c2) (hm:m=ys.length) (hr:RdF w A2 ys) (hy:∀y∈ys,y.ok w∧Gq y) (hl:0<ys.length) (hmax:n+m≤1000) (hbase:B≤w.heap.size)
 (hK:∀A' c' w',Yr w' B A' c' (vs++ys)→Kp (fun a=>A.map (·.block)=some a) w w'→(A'.map (·.block)=A.map (·.block)∨A'.map (·.block)=some w.heap.size)→K (a.put o.dst (.slice A' (n+m) c')) w') :
 if Region.wanted o (yielded ops a.tmps)=true then Oper.wp Tryz.prog o a w K Q else X:=by
 have hw:Region.wanted o (yielded ops a.tmps)=true:=by simp [Region.wanted,hgd]
 rw [if_pos hw];subst hn hm;obtain ⟨ad,rfl,_⟩:=id hr hl;obtain ⟨A',c',w',hrun,h1,h3,h4,h5⟩:=fS w h.fr (some ad) c2 ys hr hmax hbase;have h6:=lB w h.fr h.ni ad c2 ys hr hl hmax hrun
 have h7:NoI w' A':=fun g hg=>h6 g (by cases A' with
  | none=>cases hg
  | some a'=>simpa [Value.ownBlock] using hg)
 have kk:Kp (fun a=>A.map (·.block)=some a) w w':=ci h4 (fun k e=>e);have h8:Yr w' B A' c' (vs++ys):=⟨h1,h7,fun v hv=>by
  rcases List.mem_append.1 hv with hv|hv
  ·exact ⟨kk.ok (h.el v hv).1 h.ni.nlr,(h.el v hv).2⟩
  ·exact ⟨kk.ok (hy v hv).1 h.ni.nlr,(hy v hv).2⟩⟩
 unfold Oper.wp execOp;simp only [ho,hty,resolve,invoke,builtin,Sem.run_bind,Sem.run_pure,Result.andThen_ok,List.map_toArray,List.map_cons,List.map_nil,hs,hx,hrun];exact hK A' c' w' h8 kk h5
structure R22 (B m:Nat) (rows:List Sl) (r:Sl) (rs:List Fx) (x:Fx) (w:World) (b0 b3 b5 b6 b7 b10 b12 b13:Bool) (v0 v3 v5 v6 v7 v10 v12 v13:Value):Prop where
 x0:b0=true→b3=false→∃e:Nat,v0 = .slice (some ⟨e,0,none⟩) 0 0∧Gr Sl.val 22 w B (some ⟨e,0,none⟩) 0 []∧NL w e
 x3:b3=true→b6=false→∃(A:Option Addr) (c:Nat),v3 = .slice A m c∧Gr Sl.val 22 w B A c rows∧NLr w A
 x5:b5=true→b6=false→∃l:Nat,v5 = .slice (some ⟨l,0,none⟩) 1 1∧Lt0 w l #[r.val] 22
 x6:b6=true→∃(A:Option Addr) (c:Nat),v6 = .slice A (m+1) c∧Gr Sl.val 22 w B A c (rows ++ [r])
 x7:b7=true→b10=false→∃e:Nat,v7 = .slice (some ⟨e,0,none⟩) 0 0∧Yr w B (some ⟨e,0,none⟩) 0 []
 x10:b10=true→b13=false→∃(A:Option Addr) (c:Nat),v10 = .slice A m c∧Yr w B A c rs
 x12:b12=true→b13=false→∃l:Nat,v12 = .slice (some ⟨l,0,none⟩) 1 1∧Lt0 w l x.cells 29
 x13:b13=true→∃(A:Option Addr) (c:Nat),v13 = .slice A (m+1) c∧Yr w B A c (rs ++ [x])
 s1:∀e l:Nat,v0 = .slice (some ⟨e,0,none⟩) 0 0→v5 = .slice (some ⟨l,0,none⟩) 1 1→b0=true→b3=false→b5=true→¬l=e
 s2:∀e l:Nat,v7 = .slice (some ⟨e,0,none⟩) 0 0→v12 = .slice (some ⟨l,0,none⟩) 1 1→b7=true→b10=false→b12=true→b13=false→¬l=e
 s3:∀(A:Option Addr) (c l:Nat),v10 = .slice A m c→v12 = .slice (some ⟨l,0,none⟩) 1 1→b10=true→b12=true→b13=false→A.map (·.block)≠some l
section
variable {B m:Nat} {rows:List Sl} {r:Sl} {rs:List Fx} {x:Fx} {w w':World} {b0 b3 b5 b6 b7 b10 b12 b13:Bool} {v0 v3 v5 v6 v7 v10 v12 v13:Value}
theorem R22.below (h:R22 B m rows r rs x w b0 b3 b5 b6 b7 b10 b12 b13 v0 v3 v5 v6 v7 v10 v12 v13) (hb:Below w.heap.size w w'):R22 B m rows r rs x w' b0 b3 b5 b6 b7 b10 b12 b13 v0 v3 v5 v6 v7 v10 v12 v13:=by
 have k:=fo (fun _=>False) hb;refine ⟨fun a b=>?_,fun a b=>?_,fun a b=>?_,fun a=>?_,fun a b=>?_,fun a b=>?_,fun a b=>?_,fun a=>?_,h.s1,h.s2,h.s3⟩
 ·obtain ⟨e,h1,h2,h3⟩:=h.x0 a b;exact ⟨e,h1,h2.below hb,h3.below hb⟩
 ·obtain ⟨A,c,h1,h2,h3⟩:=h.x3 a b;exact ⟨A,c,h1,h2.below hb,h3.below0 hb⟩
 ·obtain ⟨l,h1,h2⟩:=h.x5 a b;exact ⟨l,h1,h2.kp k (fun h=>h)⟩
 ·obtain ⟨A,c,h1,h2⟩:=h.x6 a;exact ⟨A,c,h1,h2.below hb⟩
 ·obtain ⟨e,h1,h2⟩:=h.x7 a b;exact ⟨e,h1,h2.below hb⟩
 ·obtain ⟨A,c,h1,h2⟩:=h.x10 a b;exact ⟨A,c,h1,h2.below hb⟩
 ·obtain ⟨l,h1,h2⟩:=h.x12 a b;exact ⟨l,h1,h2.kp k (fun h=>h)⟩
 ·obtain ⟨A,c,h1,h2⟩:=h.x13 a;exact ⟨A,c,h1,h2.below hb⟩
theorem R22.a0 (h:R22 B m rows r rs x w false false b5 false b7 b10 b12 b13 v0 v3 v5 v6 v7 v10 v12 v13) (hB:B≤w.heap.size) :
 R22 B m rows r rs x (w.alloc (.cells #[] 22)) true false b5 false b7 b10 b12 b13 (.slice (some ⟨w.heap.size,0,none⟩) 0 0) v3 v5 v6 v7 v10 v12 v13:=by
 have hb:=(ah w.heap.size w).alloc (Nat.le_refl _) (.cells #[] 22);have k:=h.below hb;refine ⟨fun _ _=>⟨_,rfl,Gr.lit w [] #[] rfl (by simp [maxLen]) hB,⟨_,_,heap_alloc_new w _,fun u hu=>absurd hu (by simp)⟩⟩,k.x3,k.x5,k.x6,k.x7,k.x10,k.x12,k.x13,fun e l e0 e5 _ _ b5' hle=>?_,k.s2,k.s3⟩
 obtain ⟨l',e1,h1⟩:=h.x5 b5' rfl;rw [e5] at e1;simp only [Value.slice.injEq,Option.some.injEq,Addr.mk.injEq] at e0 e1;have:=h1.lt;omega
theorem R22.a5 (h:R22 B m rows r rs x w b0 b3 false false b7 b10 b12 b13 v0 v3 v5 v6 v7 v10 v12 v13) :
 R22 B m rows r rs x (w.alloc (.cells #[r.val] 22)) b0 b3 true false b7 b10 b12 b13 v0 v3 (.slice (some ⟨w.heap.size,0,none⟩) 1 1) v6 v7 v10 v12 v13:=by
 have hb:=(ah w.heap.size w).alloc (Nat.le_refl _) (.cells #[r.val] 22);have k:=h.below hb;refine ⟨k.x0,k.x3,fun _ _=>⟨_,rfl,Lt0.new w _ _⟩,k.x6,k.x7,k.x10,k.x12,k.x13,fun e l e0 e5 b0' b3' _ hle=>?_,k.s2,k.s3⟩;obtain ⟨e',e1,h1,_⟩:=h.x0 b0' b3';rw [e0] at e1;simp only [Value.slice.injEq,Option.some.injEq,Addr.mk.injEq] at e5 e1;have h2:=(h1.form.2.2 _ rfl).2;have h3:e'<w.heap.size:=h2;omega
theorem R22.a7 (h:R22 B m rows r rs x w b0 b3 b5 b6 false false b12 false v0 v3 v5 v6 v7 v10 v12 v13) (hB:B≤w.heap.size) :
 R22 B m rows r rs x (w.alloc (.cells #[] 29)) b0 b3 b5 b6 true false b12 false v0 v3 v5 v6 (.slice (some ⟨w.heap.size,0,none⟩) 0 0) v10 v12 v13:=by
 have hb:=(ah w.heap.size w).alloc (Nat.le_refl _) (.cells #[] 29);have k:=h.below hb;refine ⟨k.x0,k.x3,k.x5,k.x6,fun _ _=>⟨_,rfl,fr_lit0 w B hB,noi_alloc0 w #[] _ (fun v hv=>absurd hv (by simp)),fun v hv=>absurd hv (by simp)⟩,k.x10,k.x12,k.x13,k.s1,fun e l e7 e12 _ _ b12' _ hle=>?_,k.s3⟩
 obtain ⟨l',e1,h1⟩:=h.x12 b12' rfl;rw [e12] at e1;simp only [Value.slice.injEq,Option.some.injEq,Addr.mk.injEq] at e7 e1;have:=h1.lt;omega
theorem R22.a12 (h:R22 B m rows r rs x w b0 b3 b5 b6 b7 b10 false false v0 v3 v5 v6 v7 v10 v12 v13) :
 R22 B m rows r rs x (w.alloc (.cells x.cells 29)) b0 b3 b5 b6 b7 b10 true false v0 v3 v5 v6 v7 v10 (.slice (some ⟨w.heap.size,0,none⟩) 1 1) v13:=by
 have hb:=(ah w.heap.size w).alloc (Nat.le_refl _) (.cells x.cells 29);have k:=h.below hb;refine ⟨k.x0,k.x3,k.x5,k.x6,k.x7,k.x10,fun _ _=>⟨_,rfl,Lt0.new w _ _⟩,k.x13,k.s1,fun e l e7 e12 b7' b10' _ _ hle=>?_,fun A c l e10 e12 b10' _ _ hA=>?_⟩
 ·obtain ⟨e',e1,h1⟩:=h.x7 b7' b10';rw [e7] at e1;simp only [Value.slice.injEq,Option.some.injEq,Addr.mk.injEq] at e12 e1;have h3:e'<w.heap.size:=(h1.lt rfl).2;omega
 ·obtain ⟨A',c',e1,h1⟩:=h.x10 b10' rfl;rw [e10] at e1;simp only [Value.slice.injEq,Option.some.injEq,Addr.mk.injEq] at e12 e1;obtain ⟨rfl,_⟩:=e1;have:=(h1.lt hA).2;omega
theorem R22.p3 {e:Nat} {A':Option Addr} {c':Nat} (h:R22 B m rows r rs x w true false b5 false b7 false b12 false (.slice (some ⟨e,0,none⟩) 0 0) v3 v5 v6 v7 v10 v12 v13)
 (gr0:Gr Sl.val 22 w B (some ⟨e,0,none⟩) 0 []) (nle:NL w e) (gr:Gr Sl.val 22 w' B A' c' rows) (nl:NLr w' A') (kk:Kp (fun a=>a=e) w w') :
 R22 B m rows r rs x w' true true b5 false b7 false b12 false (.slice (some ⟨e,0,none⟩) 0 0) (.slice A' m c') v5 v6 v7 v10 v12 v13:=by
 obtain ⟨cur,ht⟩:=gr_ty gr0 (g:=e) rfl;have hn:∀a,a=e→NL w a:=fun a h=>by rw [h];exact nle
 refine ⟨fun _ b=>Bool.noConfusion b,fun _ _=>⟨A',c',rfl,gr,nl⟩,fun a b=>?_,fun b=>Bool.noConfusion b,fun a b=>?_,fun b=>Bool.noConfusion b,fun a b=>?_,fun b=>Bool.noConfusion b,fun _ _ _ _ _ b=>Bool.noConfusion b,h.s2,h.s3⟩
 ·obtain ⟨l,e1,h1⟩:=h.x5 a b;exact ⟨l,e1,h1.kp kk (h.s1 e l rfl e1 rfl rfl a)⟩
 ·obtain ⟨l,e1,h1⟩:=h.x7 a b;obtain ⟨cur2,ht2⟩:=fr_ty h1.fr (g:=l) rfl;exact ⟨l,e1,h1.kp kk hn (fun g hg h3=>by
   injection hg with hg;have h4:l=e:=by rw [←h3,←hg]
   exact ty_ne ht ht2 fs_ne h4.symm)⟩
 ·obtain ⟨l,e1,h1⟩:=h.x12 a b;exact ⟨l,e1,h1.kp kk (fun h3=>ty_ne ht h1 fs_ne h3.symm)⟩
theorem R22.p6 {A A':Option Addr} {c c':Nat} (h:R22 B m rows r rs x w b0 true b5 false b7 false b12 false v0 (.slice A m c) v5 v6 v7 v10 v12 v13)
 (gr0:Gr Sl.val 22 w B A c rows) (nl0:NLr w A) (gr:Gr Sl.val 22 w' B A' c' (rows ++ [r])) (kk:Kp (fun a=>A.map (·.block)=some a) w w') :
 R22 B m rows r rs x w' b0 true b5 true b7 false b12 false v0 (.slice A m c) v5 (.slice A' (m+1) c') v7 v10 v12 v13:=by
 refine ⟨fun _ b=>Bool.noConfusion b,fun _ b=>Bool.noConfusion b,fun _ b=>Bool.noConfusion b,fun _=>⟨A',c',rfl,gr⟩,fun a b=>?_,fun b=>Bool.noConfusion b,fun a b=>?_,fun b=>Bool.noConfusion b,fun _ _ _ _ _ b=>Bool.noConfusion b,h.s2,h.s3⟩
 ·obtain ⟨l,e1,h1⟩:=h.x7 a b;obtain ⟨cur2,ht2⟩:=fr_ty h1.fr (g:=l) rfl;exact ⟨l,e1,h1.kp kk nl0 (fun g hg h3=>by
   obtain ⟨cur,ht⟩:=gr_ty gr0 h3;injection hg with hg;exact ty_ne ht ht2 fs_ne hg.symm)⟩
 ·obtain ⟨l,e1,h1⟩:=h.x12 a b;exact ⟨l,e1,h1.kp kk (fun h3=>by
   obtain ⟨cur,ht⟩:=gr_ty gr0 h3;exact ty_ne ht h1 fs_ne rfl)⟩
theorem R22.p10 {e:Nat} {A':Option Addr} {c':Nat} (h:R22 B m rows r rs x w b0 b3 b5 true true false b12 false v0 v3 v5 v6 (.slice (some ⟨e,0,none⟩) 0 0) v10 v12 v13) (b3t:b3=true)
 (y0:Yr w B (some ⟨e,0,none⟩) 0 []) (yr:Yr w' B A' c' rs) (kk:Kp (fun a=>a=e) w w') (hat:A'.map (·.block)=some e∨A'.map (·.block)=some w.heap.size) :
 R22 B m rows r rs x w' b0 b3 b5 true true true b12 false v0 v3 v5 v6 (.slice (some ⟨e,0,none⟩) 0 0) (.slice A' m c') v12 v13:=by
 obtain ⟨cur,ht⟩:=fr_ty y0.fr (g:=e) rfl;refine ⟨(fun _ b=>by rw [b3t] at b;cases b),fun _ b=>Bool.noConfusion b,fun _ b=>Bool.noConfusion b,fun a=>?_,fun _ b=>Bool.noConfusion b,fun _ _=>⟨A',c',rfl,yr⟩,fun a b=>?_,fun b=>Bool.noConfusion b,(fun _ _ _ _ _ b=>by rw [b3t] at b;cases b),fun _ _ _ _ _ b=>Bool.noConfusion b,fun A c l e10 e12 _ b12' _ hA=>?_⟩
 ·obtain ⟨A,c,e1,h1⟩:=h.x6 a;exact ⟨A,c,e1,kk.gr h1 (fun ad e2 h3=>by
   obtain ⟨cur2,ht2⟩:=gr_ty h1 (show A.map (·.block)=some ad.block by rw [e2];rfl)
   exact ty_ne ht2 ht fs_ne h3)⟩
 ·obtain ⟨l,e1,h1⟩:=h.x12 a b;exact ⟨l,e1,h1.kp kk (h.s2 e l rfl e1 rfl rfl a rfl)⟩
 ·obtain ⟨l',e1,h1⟩:=h.x12 b12' rfl;rw [e12] at e1;simp only [Value.slice.injEq,Option.some.injEq,Addr.mk.injEq] at e10 e1;obtain ⟨rfl,_⟩:=e10;have h2:=h.s2 e l rfl e12 rfl rfl b12' rfl;have h3:=h1.lt;rcases hat with h4|h4
  ·rw [hA] at h4;injection h4 with h4;exact h2 h4
  ·rw [hA] at h4;injection h4 with h4;omega
theorem R22.p13 {A A':Option Addr} {c c':Nat} (h:R22 B m rows r rs x w b0 b3 b5 true b7 true b12 false v0 v3 v5 v6 v7 (.slice A m c) v12 v13) (b3t:b3=true)
 (y0:Yr w B A c rs) (yr:Yr w' B A' c' (rs ++ [x])) (kk:Kp (fun a=>A.map (·.block)=some a) w w') :
 R22 B m rows r rs x w' b0 b3 b5 true b7 true b12 true v0 v3 v5 v6 v7 (.slice A m c) v12 (.slice A' (m+1) c'):=by
 refine ⟨(fun _ b=>by rw [b3t] at b;cases b),fun _ b=>Bool.noConfusion b,fun _ b=>Bool.noConfusion b,fun a=>?_,fun _ b=>Bool.noConfusion b,fun _ b=>Bool.noConfusion b,fun _ b=>Bool.noConfusion b,fun _=>⟨A',c',rfl,yr⟩,(fun _ _ _ _ _ b=>by rw [b3t] at b;cases b),fun _ _ _ _ _ b=>Bool.noConfusion b,fun _ _ _ _ _ _ _ b=>Bool.noConfusion b⟩
 obtain ⟨A2,c2,e1,h1⟩:=h.x6 a;exact ⟨A2,c2,e1,kk.gr h1 (fun ad e2 h3=>by
  obtain ⟨cur2,ht2⟩:=gr_ty h1 (show A2.map (·.block)=some ad.block by rw [e2];rfl)
  obtain ⟨cur,ht⟩:=fr_ty y0.fr h3;exact ty_ne ht2 ht fs_ne rfl)⟩
end
def L22 (b0 b3 b5 b6 b7 b10 b12 b13 b14:Bool):List Bool := [b0,true,true,b3,true,b5,b6,b7,true,true,b10,true,b12,b13,b14,false,false,false]
def A22 (a0:Act) (v0 v3 v5 v6 v7 v10 v12 v13 v14:Value):Act:=(((((((((a0.put (some 96) v0).put (some 99) v3).put (some 101) v5).put (some 102) v6).put (some 103) v7).put (some 106) v10).put (some 108) v12).put (some 109) v13).put (some 110) v14)
def SU22:List dC := [(some 96,[],[],none),(some 97,[5],[],none),(some 98,[97],[1],none),(some 99,[96,98],[0,2],none),(some 100,[10],[],none),(some 101,[100],[4],none),(some 102,[99,101],[3,5,3],none),(some 103,[],[],none),(some 104,[5],[],none),(some 105,[104],[8],none),(some 106,[103,105],[7,9,6],none),(some 107,[11],[],none),(some 108,[107],[11],none),(some 109,[106,108],[10,12,10],none),(some 110,[8],[0,1,2,3,4,5,6],none),(none,[110,102],[14,6,13,0,1,2,3,4,5,6],none),(some 111,[8],[0,1,2,3,4,5,6,7,8,9,10,11,12,13,14,15],none),(none,[111,109],[16,13,15,0,1,2,3,4,5,6,7,8,9,10,11,12,13,14,15],none)]
def C22 (b0 b3 b5 b6 b7 b10 b12 b13 b14:Bool):Prop:=(b3=true→b0=true)∧(b6=true→b3=true∧b5=true)∧(b10=true→b6=true∧b7=true)∧(b13=true→b10=true∧b12=true)∧(b14=true→b6=true)
theorem more22 {b0 b3 b5 b6 b7 b10 b12 b13 b14:Bool} (h:C22 b0 b3 b5 b6 b7 b10 b12 b13 b14):(∀i,i<15→(L22 b0 b3 b5 b6 b7 b10 b12 b13 b14).getD i true=true)∨((∃i,tf SU22 (L22 b0 b3 b5 b6 b7 b10 b12 b13 b14) i=true∧i<SU22.length)∧∀j,15≤j→tf SU22 (L22 b0 b3 b5 b6 b7 b10 b12 b13 b14) j=false):=by
 obtain ⟨h1,h2,h3,h4,h5⟩:=h;by_cases all:b0=true∧b7=true∧b12=true∧b13=true∧b14=true
 ·obtain ⟨rfl,rfl,rfl,rfl,rfl⟩:=all;obtain ⟨rfl,_⟩:=h4 rfl;obtain ⟨rfl,_⟩:=h3 rfl;obtain ⟨rfl,rfl⟩:=h2 rfl;exact .inl (by decide)
 ·refine .inr ⟨?_,fun j hj=>?_⟩
  ·cases b0
   ·exact ⟨0,rfl,by decide⟩
   cases b5
   ·exact ⟨5,rfl,by decide⟩
   cases b3
   ·exact ⟨3,rfl,by decide⟩
   cases b6
   ·exact ⟨6,rfl,by decide⟩
   cases b7
   ·exact ⟨7,rfl,by decide⟩
   cases b10
   ·exact ⟨10,rfl,by decide⟩
   cases b12
   ·exact ⟨12,rfl,by decide⟩
   cases b13
   ·exact ⟨13,rfl,by decide⟩
   cases b14
   ·exact ⟨14,rfl,by decide⟩
   exact absurd ⟨rfl,rfl,rfl,rfl,rfl⟩ all
  ·rcases Nat.lt_or_ge j 18 with hj2|hj2
   ·rcases (by omega:j=15∨j=16∨j=17) with rfl|rfl|rfl
    ·cases hr:tf SU22 (L22 b0 b3 b5 b6 b7 b10 b12 b13 b14) 15 with
     | false=>rfl
     | true=>
       exfalso
       simp [tf,SU22,L22] at hr;obtain ⟨e14,e6,e13,e0,e3,e5⟩:b14=true∧b6=true∧b13=true∧b0=true∧b3=true∧b5=true:=by grind
       exact all ⟨e0,(h3 (h4 e13).1).2,(h4 e13).2,e13,e14⟩
    ·simp [tf,SU22,L22]
    ·simp [tf,SU22,L22]
   ·rw [tf,List.getElem?_eq_none (by show 18≤j;exact hj2)]
    simp
theorem c22_0 {b0 b3 b5 b6 b7 b10 b12 b13 b14:Bool} (h:C22 b0 b3 b5 b6 b7 b10 b12 b13 b14) (hr:tf SU22 (L22 b0 b3 b5 b6 b7 b10 b12 b13 b14) 0=true):b0=false∧b3=false∧b6=false∧b10=false∧b13=false∧b14=false:=by
 obtain ⟨h1,h2,h3,h4,h5⟩:=h;have e:b0=false:=by
  simp [tf,SU22,L22] at hr
  grind
 grind
theorem c22n_0 {b5 b7 b12:Bool} (h:C22 false false b5 false b7 false b12 false false):C22 true false b5 false b7 false b12 false false:=by
 obtain ⟨h1,h2,h3,h4,h5⟩:=h;refine ⟨?_,?_,?_,?_,?_⟩ <;> grind
theorem c22_3 {b0 b3 b5 b6 b7 b10 b12 b13 b14:Bool} (h:C22 b0 b3 b5 b6 b7 b10 b12 b13 b14) (hr:tf SU22 (L22 b0 b3 b5 b6 b7 b10 b12 b13 b14) 3=true):b0=true∧b3=false∧b6=false∧b10=false∧b13=false∧b14=false:=by
 obtain ⟨h1,h2,h3,h4,h5⟩:=h;have e:b3=false∧b0=true:=by
  simp [tf,SU22,L22] at hr
  grind
 grind
theorem c22n_3 {b5 b7 b12:Bool} (h:C22 true false b5 false b7 false b12 false false):C22 true true b5 false b7 false b12 false false:=by
 obtain ⟨h1,h2,h3,h4,h5⟩:=h;refine ⟨?_,?_,?_,?_,?_⟩ <;> grind
theorem c22_5 {b0 b3 b5 b6 b7 b10 b12 b13 b14:Bool} (h:C22 b0 b3 b5 b6 b7 b10 b12 b13 b14) (hr:tf SU22 (L22 b0 b3 b5 b6 b7 b10 b12 b13 b14) 5=true):b5=false∧b6=false∧b10=false∧b13=false∧b14=false:=by
 obtain ⟨h1,h2,h3,h4,h5⟩:=h;have e:b5=false:=by
  simp [tf,SU22,L22] at hr
  grind
 grind
theorem c22n_5 {b0 b3 b7 b12:Bool} (h:C22 b0 b3 false false b7 false b12 false false):C22 b0 b3 true false b7 false b12 false false:=by
 obtain ⟨h1,h2,h3,h4,h5⟩:=h;refine ⟨?_,?_,?_,?_,?_⟩ <;> grind
theorem c22_6 {b0 b3 b5 b6 b7 b10 b12 b13 b14:Bool} (h:C22 b0 b3 b5 b6 b7 b10 b12 b13 b14) (hr:tf SU22 (L22 b0 b3 b5 b6 b7 b10 b12 b13 b14) 6=true):b0=true∧b3=true∧b5=true∧b6=false∧b10=false∧b13=false∧b14=false:=by
 obtain ⟨h1,h2,h3,h4,h5⟩:=h;have e:b6=false∧b3=true∧b5=true:=by
  simp [tf,SU22,L22] at hr
  grind
 grind
theorem c22n_6 {b7 b12:Bool} (h:C22 true true true false b7 false b12 false false):C22 true true true true b7 false b12 false false:=by
 obtain ⟨h1,h2,h3,h4,h5⟩:=h;refine ⟨?_,?_,?_,?_,?_⟩ <;> grind
theorem c22_7 {b0 b3 b5 b6 b7 b10 b12 b13 b14:Bool} (h:C22 b0 b3 b5 b6 b7 b10 b12 b13 b14) (hr:tf SU22 (L22 b0 b3 b5 b6 b7 b10 b12 b13 b14) 7=true):b7=false∧b10=false∧b13=false:=by
 obtain ⟨h1,h2,h3,h4,h5⟩:=h;have e:b7=false:=by
  simp [tf,SU22,L22] at hr
  grind
 grind
theorem c22n_7 {b0 b3 b5 b6 b12 b14:Bool} (h:C22 b0 b3 b5 b6 false false b12 false b14):C22 b0 b3 b5 b6 true false b12 false b14:=by
 obtain ⟨h1,h2,h3,h4,h5⟩:=h;refine ⟨?_,?_,?_,?_,?_⟩ <;> grind
theorem c22_10 {b0 b3 b5 b6 b7 b10 b12 b13 b14:Bool} (h:C22 b0 b3 b5 b6 b7 b10 b12 b13 b14) (hr:tf SU22 (L22 b0 b3 b5 b6 b7 b10 b12 b13 b14) 10=true):b0=true∧b3=true∧b5=true∧b6=true∧b7=true∧b10=false∧b13=false:=by
 obtain ⟨h1,h2,h3,h4,h5⟩:=h;have e:b10=false∧b7=true∧b6=true:=by
  simp [tf,SU22,L22] at hr
  grind
 grind
theorem c22n_10 {b12 b14:Bool} (h:C22 true true true true true false b12 false b14):C22 true true true true true true b12 false b14:=by
 obtain ⟨h1,h2,h3,h4,h5⟩:=h;refine ⟨?_,?_,?_,?_,?_⟩ <;> grind
theorem c22_12 {b0 b3 b5 b6 b7 b10 b12 b13 b14:Bool} (h:C22 b0 b3 b5 b6 b7 b10 b12 b13 b14) (hr:tf SU22 (L22 b0 b3 b5 b6 b7 b10 b12 b13 b14) 12=true):b12=false∧b13=false:=by
 obtain ⟨h1,h2,h3,h4,h5⟩:=h;have e:b12=false:=by
  simp [tf,SU22,L22] at hr
  grind
 grind
theorem c22n_12 {b0 b3 b5 b6 b7 b10 b14:Bool} (h:C22 b0 b3 b5 b6 b7 b10 false false b14):C22 b0 b3 b5 b6 b7 b10 true false b14:=by
 obtain ⟨h1,h2,h3,h4,h5⟩:=h;refine ⟨?_,?_,?_,?_,?_⟩ <;> grind
theorem c22_13 {b0 b3 b5 b6 b7 b10 b12 b13 b14:Bool} (h:C22 b0 b3 b5 b6 b7 b10 b12 b13 b14) (hr:tf SU22 (L22 b0 b3 b5 b6 b7 b10 b12 b13 b14) 13=true):b0=true∧b3=true∧b5=true∧b6=true∧b7=true∧b10=true∧b12=true∧b13=false:=by
 obtain ⟨h1,h2,h3,h4,h5⟩:=h;have e:b13=false∧b10=true∧b12=true:=by
  simp [tf,SU22,L22] at hr
  grind
 grind
theorem c22n_13 {b14:Bool} (h:C22 true true true true true true true false b14):C22 true true true true true true true true b14:=by
 obtain ⟨h1,h2,h3,h4,h5⟩:=h;refine ⟨?_,?_,?_,?_,?_⟩ <;> grind
theorem c22_14 {b0 b3 b5 b6 b7 b10 b12 b13 b14:Bool} (h:C22 b0 b3 b5 b6 b7 b10 b12 b13 b14) (hr:tf SU22 (L22 b0 b3 b5 b6 b7 b10 b12 b13 b14) 14=true):b0=true∧b3=true∧b5=true∧b6=true∧b14=false:=by
 obtain ⟨h1,h2,h3,h4,h5⟩:=h;have e:b14=false∧b0=true∧b3=true∧b5=true∧b6=true:=by
  simp [tf,SU22,L22] at hr
  grind
 grind
theorem c22n_14 {b7 b10 b12 b13:Bool} (h:C22 true true true true b7 b10 b12 b13 false):C22 true true true true b7 b10 b12 b13 true:=by
 obtain ⟨h1,h2,h3,h4,h5⟩:=h;refine ⟨?_,?_,?_,?_,?_⟩ <;> grind
theorem walk22 {P:Program} {md:Region.Mode} {ops:Array Oper} {Q:Exit→Act→World→Prop} {S:World→Prop} {a0:Act} (HU:pP md ops SU22) {o0 o3 o5 o6 o7 o10 o12 o13 o14:Oper} (ho0:ops[0]? = some o0) (ho3:ops[3]? = some o3) (ho5:ops[5]? = some o5) (ho6:ops[6]? = some o6) (ho7:ops[7]? = some o7) (ho10:ops[10]? = some o10) (ho12:ops[12]? = some o12) (ho13:ops[13]? = some o13) (ho14:ops[14]? = some o14)
 (J:Bool→Bool→Bool→Bool→Bool→Bool→Bool→Bool→Bool→Value→Value→Value→Value→Value→Value→Value→Value→Value→World→Prop)
 (s0:∀(b5 b7 b12:Bool) (v0 v3 v5 v6 v7 v10 v12 v13 v14:Value) (w:World),J false false b5 false b7 false b12 false false v0 v3 v5 v6 v7 v10 v12 v13 v14 w→∀K':Act→World→Prop,Shut (∀u w2,S w2→J true false b5 false b7 false b12 false false u v3 v5 v6 v7 v10 v12 v13 v14 w2→K' (A22 a0 u v3 v5 v6 v7 v10 v12 v13 v14) w2)→∀a:Act,A22 a0 v0 v3 v5 v6 v7 v10 v12 v13 v14=a→if Region.wanted o0 (yielded ops a.tmps)=true then Oper.wp P o0 a w K' Q else K' (a.put o0.dst undef) w)
 (s3:∀(b5 b7 b12:Bool) (v0 v3 v5 v6 v7 v10 v12 v13 v14:Value) (w:World),J true false b5 false b7 false b12 false false v0 v3 v5 v6 v7 v10 v12 v13 v14 w→∀K':Act→World→Prop,Shut (∀u w2,S w2→J true true b5 false b7 false b12 false false v0 u v5 v6 v7 v10 v12 v13 v14 w2→K' (A22 a0 v0 u v5 v6 v7 v10 v12 v13 v14) w2)→∀a:Act,A22 a0 v0 v3 v5 v6 v7 v10 v12 v13 v14=a→if Region.wanted o3 (yielded ops a.tmps)=true then Oper.wp P o3 a w K' Q else K' (a.put o3.dst undef) w)
 (s5:∀(b0 b3 b7 b12:Bool) (v0 v3 v5 v6 v7 v10 v12 v13 v14:Value) (w:World),J b0 b3 false false b7 false b12 false false v0 v3 v5 v6 v7 v10 v12 v13 v14 w→∀K':Act→World→Prop,Shut (∀u w2,S w2→J b0 b3 true false b7 false b12 false false v0 v3 u v6 v7 v10 v12 v13 v14 w2→K' (A22 a0 v0 v3 u v6 v7 v10 v12 v13 v14) w2)→∀a:Act,A22 a0 v0 v3 v5 v6 v7 v10 v12 v13 v14=a→if Region.wanted o5 (yielded ops a.tmps)=true then Oper.wp P o5 a w K' Q else K' (a.put o5.dst undef) w)
 (s6:∀(b7 b12:Bool) (v0 v3 v5 v6 v7 v10 v12 v13 v14:Value) (w:World),J true true true false b7 false b12 false false v0 v3 v5 v6 v7 v10 v12 v13 v14 w→∀K':Act→World→Prop,Shut (∀u w2,S w2→J true true true true b7 false b12 false false v0 v3 v5 u v7 v10 v12 v13 v14 w2→K' (A22 a0 v0 v3 v5 u v7 v10 v12 v13 v14) w2)→∀a:Act,A22 a0 v0 v3 v5 v6 v7 v10 v12 v13 v14=a→if Region.wanted o6 (yielded ops a.tmps)=true then Oper.wp P o6 a w K' Q else K' (a.put o6.dst undef) w)
 (s7:∀(b0 b3 b5 b6 b12 b14:Bool) (v0 v3 v5 v6 v7 v10 v12 v13 v14:Value) (w:World),J b0 b3 b5 b6 false false b12 false b14 v0 v3 v5 v6 v7 v10 v12 v13 v14 w→∀K':Act→World→Prop,Shut (∀u w2,S w2→J b0 b3 b5 b6 true false b12 false b14 v0 v3 v5 v6 u v10 v12 v13 v14 w2→K' (A22 a0 v0 v3 v5 v6 u v10 v12 v13 v14) w2)→∀a:Act,A22 a0 v0 v3 v5 v6 v7 v10 v12 v13 v14=a→if Region.wanted o7 (yielded ops a.tmps)=true then Oper.wp P o7 a w K' Q else K' (a.put o7.dst undef) w)
 (s10:∀(b12 b14:Bool) (v0 v3 v5 v6 v7 v10 v12 v13 v14:Value) (w:World),J true true true true true false b12 false b14 v0 v3 v5 v6 v7 v10 v12 v13 v14 w→∀K':Act→World→Prop,Shut (∀u w2,S w2→J true true true true true true b12 false b14 v0 v3 v5 v6 v7 u v12 v13 v14 w2→K' (A22 a0 v0 v3 v5 v6 v7 u v12 v13 v14) w2)→∀a:Act,A22 a0 v0 v3 v5 v6 v7 v10 v12 v13 v14=a→if Region.wanted o10 (yielded ops a.tmps)=true then Oper.wp P o10 a w K' Q else K' (a.put o10.dst undef) w)
 (s12:∀(b0 b3 b5 b6 b7 b10 b14:Bool) (v0 v3 v5 v6 v7 v10 v12 v13 v14:Value) (w:World),J b0 b3 b5 b6 b7 b10 false false b14 v0 v3 v5 v6 v7 v10 v12 v13 v14 w→∀K':Act→World→Prop,Shut (∀u w2,S w2→J b0 b3 b5 b6 b7 b10 true false b14 v0 v3 v5 v6 v7 v10 u v13 v14 w2→K' (A22 a0 v0 v3 v5 v6 v7 v10 u v13 v14) w2)→∀a:Act,A22 a0 v0 v3 v5 v6 v7 v10 v12 v13 v14=a→if Region.wanted o12 (yielded ops a.tmps)=true then Oper.wp P o12 a w K' Q else K' (a.put o12.dst undef) w)
 (s13:∀(b14:Bool) (v0 v3 v5 v6 v7 v10 v12 v13 v14:Value) (w:World),J true true true true true true true false b14 v0 v3 v5 v6 v7 v10 v12 v13 v14 w→∀K':Act→World→Prop,Shut (∀u w2,S w2→J true true true true true true true true b14 v0 v3 v5 v6 v7 v10 v12 u v14 w2→K' (A22 a0 v0 v3 v5 v6 v7 v10 v12 u v14) w2)→∀a:Act,A22 a0 v0 v3 v5 v6 v7 v10 v12 v13 v14=a→if Region.wanted o13 (yielded ops a.tmps)=true then Oper.wp P o13 a w K' Q else K' (a.put o13.dst undef) w)
 (s14:∀(b7 b10 b12 b13:Bool) (v0 v3 v5 v6 v7 v10 v12 v13 v14:Value) (w:World),J true true true true b7 b10 b12 b13 false v0 v3 v5 v6 v7 v10 v12 v13 v14 w→∀K':Act→World→Prop,Shut (∀u w2,S w2→J true true true true b7 b10 b12 b13 true v0 v3 v5 v6 v7 v10 v12 v13 u w2→K' (A22 a0 v0 v3 v5 v6 v7 v10 v12 v13 u) w2)→∀a:Act,A22 a0 v0 v3 v5 v6 v7 v10 v12 v13 v14=a→if Region.wanted o14 (yielded ops a.tmps)=true then Oper.wp P o14 a w K' Q else K' (a.put o14.dst undef) w)
 (fin:∀(v0 v3 v5 v6 v7 v10 v12 v13 v14:Value) (w:World),J true true true true true true true true true v0 v3 v5 v6 v7 v10 v12 v13 v14 w→jL P md ops Q S 15 3 (L22 true true true true true true true true true).toArray (A22 a0 v0 v3 v5 v6 v7 v10 v12 v13 v14) w)
 {v0 v3 v5 v6 v7 v10 v12 v13 v14:Value} {w:World} (h0:A22 a0 v0 v3 v5 v6 v7 v10 v12 v13 v14=a0) (hJ:J false false false false false false false false false v0 v3 v5 v6 v7 v10 v12 v13 v14 w):jL P md ops Q S 15 12 (L22 false false false false false false false false false).toArray a0 w:=by
 refine jL.walk HU (fun ls a w=>∃b0 b3 b5 b6 b7 b10 b12 b13 b14 v0 v3 v5 v6 v7 v10 v12 v13 v14,ls=L22 b0 b3 b5 b6 b7 b10 b12 b13 b14∧C22 b0 b3 b5 b6 b7 b10 b12 b13 b14∧a=A22 a0 v0 v3 v5 v6 v7 v10 v12 v13 v14∧J b0 b3 b5 b6 b7 b10 b12 b13 b14 v0 v3 v5 v6 v7 v10 v12 v13 v14 w) ?_ ?_ ?_ 12 _ a0 w ⟨false,false,false,false,false,false,false,false,false,v0,v3,v5,v6,v7,v10,v12,v13,v14,rfl,by unfold C22;decide,h0.symm,hJ⟩ (by decide)
 ·rintro ls a w i ⟨b0,b3,b5,b6,b7,b10,b12,b13,b14,v0,v3,v5,v6,v7,v10,v12,v13,v14,rfl,hc,rfl,hj⟩ hi hr;have hi2:i=0∨i=1∨i=2∨i=3∨i=4∨i=5∨i=6∨i=7∨i=8∨i=9∨i=10∨i=11∨i=12∨i=13∨i=14:=by omega
  rcases hi2 with rfl|rfl|rfl|rfl|rfl|rfl|rfl|rfl|rfl|rfl|rfl|rfl|rfl|rfl|rfl
  ·obtain ⟨rfl,rfl,rfl,rfl,rfl,rfl⟩:=c22_0 hc hr;refine wpOp_step ho0 (fun K' hK=>s0 _ _ _ _ _ _ _ _ _ _ _ _ w hj K' (fun u w2 hS hj2=>hK _ _ ⟨hS,true,false,b5,false,b7,false,b12,false,false,_,_,_,_,_,_,_,_,_,rfl,?_,rfl,hj2⟩) _ rfl);exact c22n_0 hc
  ·simp [tf,SU22,L22] at hr
  ·simp [tf,SU22,L22] at hr
  ·obtain ⟨rfl,rfl,rfl,rfl,rfl,rfl⟩:=c22_3 hc hr;refine wpOp_step ho3 (fun K' hK=>s3 _ _ _ _ _ _ _ _ _ _ _ _ w hj K' (fun u w2 hS hj2=>hK _ _ ⟨hS,true,true,b5,false,b7,false,b12,false,false,_,_,_,_,_,_,_,_,_,rfl,?_,rfl,hj2⟩) _ rfl);exact c22n_3 hc
  ·simp [tf,SU22,L22] at hr
  ·obtain ⟨rfl,rfl,rfl,rfl,rfl⟩:=c22_5 hc hr;refine wpOp_step ho5 (fun K' hK=>s5 _ _ _ _ _ _ _ _ _ _ _ _ _ w hj K' (fun u w2 hS hj2=>hK _ _ ⟨hS,b0,b3,true,false,b7,false,b12,false,false,_,_,_,_,_,_,_,_,_,rfl,?_,rfl,hj2⟩) _ rfl);exact c22n_5 hc
  ·obtain ⟨rfl,rfl,rfl,rfl,rfl,rfl,rfl⟩:=c22_6 hc hr;refine wpOp_step ho6 (fun K' hK=>s6 _ _ _ _ _ _ _ _ _ _ _ w hj K' (fun u w2 hS hj2=>hK _ _ ⟨hS,true,true,true,true,b7,false,b12,false,false,_,_,_,_,_,_,_,_,_,rfl,?_,rfl,hj2⟩) _ rfl);exact c22n_6 hc
  ·obtain ⟨rfl,rfl,rfl⟩:=c22_7 hc hr;refine wpOp_step ho7 (fun K' hK=>s7 _ _ _ _ _ _ _ _ _ _ _ _ _ _ _ w hj K' (fun u w2 hS hj2=>hK _ _ ⟨hS,b0,b3,b5,b6,true,false,b12,false,b14,_,_,_,_,_,_,_,_,_,rfl,?_,rfl,hj2⟩) _ rfl);exact c22n_7 hc
  ·simp [tf,SU22,L22] at hr
  ·simp [tf,SU22,L22] at hr
  ·obtain ⟨rfl,rfl,rfl,rfl,rfl,rfl,rfl⟩:=c22_10 hc hr;refine wpOp_step ho10 (fun K' hK=>s10 _ _ _ _ _ _ _ _ _ _ _ w hj K' (fun u w2 hS hj2=>hK _ _ ⟨hS,true,true,true,true,true,true,b12,false,b14,_,_,_,_,_,_,_,_,_,rfl,?_,rfl,hj2⟩) _ rfl);exact c22n_10 hc
  ·simp [tf,SU22,L22] at hr
  ·obtain ⟨rfl,rfl⟩:=c22_12 hc hr;refine wpOp_step ho12 (fun K' hK=>s12 _ _ _ _ _ _ _ _ _ _ _ _ _ _ _ _ w hj K' (fun u w2 hS hj2=>hK _ _ ⟨hS,b0,b3,b5,b6,b7,b10,true,false,b14,_,_,_,_,_,_,_,_,_,rfl,?_,rfl,hj2⟩) _ rfl);exact c22n_12 hc
  ·obtain ⟨rfl,rfl,rfl,rfl,rfl,rfl,rfl,rfl⟩:=c22_13 hc hr;refine wpOp_step ho13 (fun K' hK=>s13 _ _ _ _ _ _ _ _ _ _ w hj K' (fun u w2 hS hj2=>hK _ _ ⟨hS,true,true,true,true,true,true,true,true,b14,_,_,_,_,_,_,_,_,_,rfl,?_,rfl,hj2⟩) _ rfl);exact c22n_13 hc
  ·obtain ⟨rfl,rfl,rfl,rfl,rfl⟩:=c22_14 hc hr;refine wpOp_step ho14 (fun K' hK=>s14 _ _ _ _ _ _ _ _ _ _ _ _ _ w hj K' (fun u w2 hS hj2=>hK _ _ ⟨hS,true,true,true,true,b7,b10,b12,b13,true,_,_,_,_,_,_,_,_,_,rfl,?_,rfl,hj2⟩) _ rfl);exact c22n_14 hc
 ·rintro ls a w ⟨b0,b3,b5,b6,b7,b10,b12,b13,b14,v0,v3,v5,v6,v7,v10,v12,v13,v14,rfl,hc,rfl,hj⟩;exact more22 hc
 ·rintro f ls a w ⟨b0,b3,b5,b6,b7,b10,b12,b13,b14,v0,v3,v5,v6,v7,v10,v12,v13,v14,rfl,hc,rfl,hj⟩ hall hf;have e0:b0=true:=hall 0 (by omega)
  have e3:b3=true:=hall 3 (by omega)
  have e5:b5=true:=hall 5 (by omega)
  have e6:b6=true:=hall 6 (by omega)
  have e7:b7=true:=hall 7 (by omega)
  have e10:b10=true:=hall 10 (by omega)
  have e12:b12=true:=hall 12 (by omega)
  have e13:b13=true:=hall 13 (by omega)
  have e14:b14=true:=hall 14 (by omega)
  subst e0 e3 e5 e6 e7 e10 e12 e13 e14;have hf3:f=3:=by rw [hf];decide
  subst hf3;exact fin _ _ _ _ _ _ _ _ _ w hj
end Go.Proofs.YtkpfbekmaafehaaGreat
