/- Programs that a law makes of another: rows copied and lengthened. -/
import Derived.Test.YtkpfbekmaafehaaGreatOpenB
namespace Go.Proofs.YtkpfbekmaafehaaGreat
set_option maxRecDepth 100000
open Go.RowKit
structure Pj (w:World) (p:Pg) (s:Sn) (g4 g5:Nat):Prop where
 ip:Ip w p
 gd:vA w p s
 pb:Q3 w g4 p.cost.val (.slice p.rA p.rows.length p.rc) p.right.val
 sb:Sb w g5 s
theorem Pj.below {w w':World} {p:Pg} {s:Sn} {g4 g5:Nat} (h:Pj w p s g4 g5) (hb:Below w.heap.size w w'):Pj w' p s g4 g5:=⟨h.ip.below hb,h.gd.below hb,h.pb.below hb,h.sb.below hb⟩
theorem vA.nmv {w:World} {p:Pg} {s:Sn} (h:vA w p s):Nm w s.v s.v.q:=⟨h.ok.v,(h.chk.V.v 0 (by simp)).1,rfl,h.sm.ev.1,h.sm.ev.2⟩
theorem fr_lit0 (w:World) (B:Nat) (hB:B≤w.heap.size):Fr (w.alloc (.cells #[] 29)) B (some ⟨w.heap.size,0,none⟩) 0 []:=
 World.ownsRow_lit (e:=29) (size:=3) (base:=B) w #[] 0 hB (by simp [maxLen]) rfl
theorem noi_alloc0 (w:World) (arr:Array Value) (t:TypeId) (h:vV arr):NoI (w.alloc (.cells arr t)) (some ⟨w.heap.size,0,none⟩):=fun g hg=>by
 simp at hg;subst hg;exact ⟨arr,t,heap_alloc_new w _,h⟩
theorem Zr.lit (w:World) (B:Nat) (hB:B≤w.heap.size):Zr (w.alloc (.cells #[] 29)) B (some ⟨w.heap.size,0,none⟩) 0 []:=
 ⟨fr_lit0 w B hB,noi_alloc0 w #[] _ (fun v hv=>absurd hv (by simp)),fun v hv=>absurd hv (by simp)⟩
theorem run_append_zm (w:World) {B c:Nat} {A:Option Addr} {vs:List Fx} (h:Zr w B A c vs) (A2:Option Addr) (c2:Nat) (ys:List Fx) (hr:RdF w A2 ys) (hy:∀y∈ys,Zl w y) (hn:0<ys.length) (hmax:vs.length+ys.length≤1000) (hbase:B≤w.heap.size) :
 ∃A' c' w',(Builtin.append_ #[22,22] 22 #[.slice A vs.length c, .slice A2 ys.length c2]).run Tryz.prog w = .ok (.slice A' (vs.length+ys.length) c') w'∧Zr w' B A' c' (vs++ys)∧Kp (fun a=>A.map (·.block)=some a) w w'∧(A'.map (·.block)=A.map (·.block)∨A'.map (·.block)=some w.heap.size):=by
 obtain ⟨ad,rfl,_⟩:=hr hn;obtain ⟨A',c',w',hrun,h1,h3,h4,h5⟩:=fS w h.fr (some ad) c2 ys hr hmax hbase;have h6:=lB w h.fr h.ni ad c2 ys hr hn hmax hrun
 have h7:NoI w' A':=fun g hg=>h6 g (by cases A' with
  | none=>cases hg
  | some a'=>simpa [Value.ownBlock] using hg)
 have kk:Kp (fun a=>A.map (·.block)=some a) w w':=ci h4 (fun k e=>e);refine ⟨A',c',w',hrun,⟨h1,h7,fun v hv=>?_⟩,kk,h5⟩;rcases List.mem_append.1 hv with hv|hv
 ·exact (h.el v hv).kp kk h.ni.nlr
 ·exact (hy v hv).kp kk h.ni.nlr
theorem step_append_zm (w:World) {ops:Array Oper} {o:Oper} {a:Act} {K:Act→World→Prop} {Q:Exit→Act→World→Prop} {X:Prop} (hgd:o.guard=none) (s x:Operand)
 (ho:o.op = .call { callee := .builtin .append,args := #[s,x],argTypes := #[22,22]}) (hty:o.type=22)
 {B c n:Nat} {A:Option Addr} {vs:List Fx} (hs:a.eval s = .slice A n c) (hn:n=vs.length) (h:Zr w B A c vs)
 (A2:Option Addr) (m c2:Nat) (ys:List Fx) (hx:a.eval x = .slice A2 m c2) (hm:m=ys.length) (hr:RdF w A2 ys) (hy:∀y∈ys,Zl w y) (hl:0<ys.length) (hmax:n+m≤1000) (hbase:B≤w.heap.size)
 (hK:∀A' c' w',Zr w' B A' c' (vs++ys)→Kp (fun a=>A.map (·.block)=some a) w w'→(A'.map (·.block)=A.map (·.block)∨A'.map (·.block)=some w.heap.size)→K (a.put o.dst (.slice A' (n+m) c')) w') :
 if Region.wanted o (yielded ops a.tmps)=true then Oper.wp Tryz.prog o a w K Q else X:=by
 have hw:Region.wanted o (yielded ops a.tmps)=true:=by simp [Region.wanted,hgd]
 rw [if_pos hw];subst hn hm;obtain ⟨A',c',w',hrun,h1,h2,h3⟩:=run_append_zm w h A2 c2 ys hr hy hl hmax hbase;unfold Oper.wp execOp;simp only [ho,hty,resolve,invoke,builtin,Sem.run_bind,Sem.run_pure,Result.andThen_ok,List.map_toArray,List.map_cons,List.map_nil,hs,hx,hrun];exact hK A' c' w' h1 h2 h3
end Go.Proofs.YtkpfbekmaafehaaGreat
