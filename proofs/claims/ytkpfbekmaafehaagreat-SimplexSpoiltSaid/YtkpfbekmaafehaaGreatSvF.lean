/- Arguments that came in, opened to what the walks ask -/
import Derived.Test.YtkpfbekmaafehaaGreatRows
import Derived.Test.YtkpfbekmaafehaaGreatBase
import Derived.ProofKit
import Derived.OpenShut
import Derived.ShutString
import Derived.ChangeOld
import Derived.Below
import Derived.Test.YtkpfbekmaafehaaGreatSqW
import Derived.Test.YtkpfbekmaafehaaGreatSrD
namespace Go.Proofs.YtkpfbekmaafehaaGreat
open _root_.Go.Proofs.Tryz
set_option maxHeartbeats 8000000
set_option maxRecDepth 100000
open Go.ChangeShapes Go.WideShapes Go.ChangeAt Go.RowKit
theorem zC:ownKnob prog.godebug=none:=by kernel_rfl
theorem zO:laidOutB prog=true:=by kernel_rfl
theorem pf {w:World} {a:Addr} {v:Value} (h:w.cell? a=some v):a.block<w.heap.size:=by
 rcases Nat.lt_or_ge a.block w.heap.size with h1|h1
 ·exact h1
 ·simp [World.cell?,Array.getElem?_eq_none h1] at h
open Go.RowKit
abbrev u8b (n:Nat):Value := .int .u8 (n:Int)
structure Tp (w:World) (G:Nat) (A:Option Addr) (c:Nat) (bs:List Nat) (k:Nat):Prop where
 c0:w.cell? ⟨G,0,none⟩=some (.slice A bs.length c)
 c1:w.cell? ⟨G,1,none⟩=some (.int .i64 (k:Int))
 f1:w.frozen? ⟨G,1,none⟩=false
 lt:G<w.heap.size
 rd:Rd u8b w A bs
 by_:∀b∈bs,b<256
 k:k<=bs.length
 l:bs.length<=400
 nl:NL w G
 ap:0<bs.length->∀ad,A=some ad->ad.block≠G
section
variable {w w':World} {G c k:Nat} {A:Option Addr} {bs:List Nat} {S:Nat->Prop}
theorem Tp.kp (h:Tp w G A c bs k) (kk:Kp S w w') (hG:¬S G) (hA:0<bs.length->∀ad,A=some ad->¬S ad.block):Tp w' G A c bs k:=by
 obtain ⟨cur,t,e1,hn⟩:=h.nl;exact ⟨(kk.cell (p:=⟨G,0,none⟩) h.lt hG).trans h.c0,(kk.cell (p:=⟨G,1,none⟩) h.lt hG).trans h.c1,(kk.frozen (p:=⟨G,1,none⟩) h.lt hG).trans h.f1,Nat.lt_of_lt_of_le h.lt kk.size,kk.rd h.rd hA,h.by_,h.k,h.l,⟨cur,t,(kk.block _ h.lt hG).trans e1,hn⟩,h.ap⟩
theorem Tp.below (h:Tp w G A c bs k) (hb:Below w.heap.size w w'):Tp w' G A c bs k:=h.kp (fo (fun _=>False) hb) (fun h=>h) (fun _ _ _ h=>h)
theorem Tp.next (h:Tp w G A c bs k) (hk:k<bs.length):Tp (w.setCell ⟨G,1,none⟩ (.int .i64 ((k:Int)+1))) G A c bs (k+1)/\Kp (fun a=>a=G) w (w.setCell ⟨G,1,none⟩ (.int .i64 ((k:Int)+1))):=by
 have kk:=(Kp.refl (fun a=>a=G) w).set (S:=fun a=>a=G) rfl 1 (.int .i64 ((k:Int)+1));have c0:=h.c0;have c1:=h.c1;have f1:=h.f1;exact ⟨⟨by simp [go_sem,c0],by simp [go_sem,c1],by simp [go_sem,f1],by simpa [World.setCell] using h.lt,kk.rd h.rd (fun hn ad e=>h.ap hn ad e),h.by_,hk,h.l,h.nl.set 1 rfl,h.ap⟩,kk⟩
end
theorem wW (w:World) (G c k n:Nat) (A:Option Addr) (bs:List Nat) (h:Tp w G A c bs k) (h1:1<=n) (hn:n<=1000) :
 Calls prog 27 #[.pointer (some ⟨G,0,none⟩), .int .i64 (n:Int)] w fun e w'=>∃v k':Nat,e = .returned (.int .i64 (v:Int))/\v<n/\Tp w' G A c bs k'/\Kp (fun a=>a=G) w w':=by
 have HT:=ag h;have c0:=h.c0;have c1:=h.c1;have f1:=h.f1;have hk:=h.k;have hl:=h.l;obtain ⟨L,hL⟩:∃L,bs.length=L:=⟨_,rfl⟩;have HL:=ag hL;rw [hL] at c0 hk hl;clear h hL;go_enter func27,ntmps27;go_upto_region 1 with fail;by_cases hkL:L<=k
 ·go_region;have bd:=(ah w.heap.size w).drew;have gN:=ag (HT.o.below bd);have HK:=ag (fo (fun a=>a=G) bd);clear c0 c1 f1 bd;generalize w.drew=wd at *;go_wp2_with fail;go_ret;exact ⟨0,k,rfl,by omega,gN.o,HK.o⟩
 ·by_cases hn2:n<2
  ·go_region;have bd:=(ah w.heap.size w).drew;have gN:=ag (HT.o.below bd);have HK:=ag (fo (fun a=>a=G) bd);clear c0 c1 f1 bd;generalize w.drew=wd at *;go_wp2_with fail;go_ret;exact ⟨0,k,rfl,by omega,gN.o,HK.o⟩
  ·go_region;have bd:=(ah w.heap.size w).drew;have ht:=HT.o.below bd;have hkk:=fo (fun a=>a=G) bd;clear c0 c1 f1 bd;generalize w.drew=wd at *;have c1:=ht.c1;have f1:=ht.f1;have hkl:k<bs.length:=by rw [HL.o];omega
   have nx:=ht.next hkl
   have NX:=ag nx.1;have HK:=ag (hkk.trans nx.2);clear nx ht hkk;go_upto_region 4 with fail;generalize (wd.setCell ⟨G,1,none⟩ (.int .i64 ((k:Int)+1)))=we at *;clear c1 f1;have c0:=NX.o.c0;have c1:=NX.o.c1;rw [HL.o] at c0;obtain ⟨ad,rfl,_,hc⟩:=(NX.o.rd) (by omega)
   have e0:=hc k hkl;have hb:=NX.o.by_ _ (List.getElem_mem hkl);obtain ⟨b,hb0⟩:∃b,bs[k]=b:=⟨_,rfl⟩;rw [hb0] at e0 hb;have hw1:IntKind.i64.wrap ((k:Int)+1-1)=(k:Int):=by
    rw [show (k:Int)+1-1=k from by omega];exact IntWalk.i64_in _ (by omega)
   have hw2:IntKind.i64.wrap (b:Int)=(b:Int):=IntWalk.i64_in _ (by omega)
   have hc1:we.cell? ⟨G,1,none⟩=some (.int .i64 ((k:Int)+1)):=by
    have:=NX.o.c1;rw [show ((k+1:Nat):Int)=(k:Int)+1 from by omega] at this
    exact this
   clear hc hb0 c1;go_region;go_wp2_with fail;have bd:=(ah we.heap.size we).drew;have ht:=NX.o.below bd;have hkk:=HK.o.trans (fo (fun a=>a=G) bd);clear c0 hc1 e0 bd;generalize we.drew=wf at *;go_ret;exact ⟨b % n,k+1,(show Ending.returned (.int .i64 ((b:Int) % (n:Int))) = .returned (.int .i64 ((b % n:Nat):Int)) from by rw [Int.natCast_emod]),Nat.mod_lt _ (by omega),ht,hkk⟩
theorem dy (w:World) (G c k:Nat) (n:Int) (A:Option Addr) (bs:List Nat) (h:Tp w G A c bs k) (h1:1<=n) (hn:n<=1000) :
 Calls prog 27 #[.pointer (some ⟨G,0,none⟩), .int .i64 n] w fun e w'=>∃(v:Int) (k':Nat),e = .returned (.int .i64 v)/\0<=v/\v<n/\Tp w' G A c bs k'/\Kp (fun a=>a=G) w w':=by
 obtain ⟨m,rfl⟩:=Int.eq_ofNat_of_zero_le (show 0<=n by omega)
 refine (wW w G c k m A bs h (by omega) (by omega)).mono ?_
 rintro e w' ⟨v,k',rfl,hv,tp,kk⟩;exact ⟨v,k',rfl,by omega,by omega,tp,kk⟩
theorem wU:(prog.info? 5).map (fun i=>(i.zero,i.size,i.bytes))=some (some (.int .u8 0),1,1):=by kernel_rfl
theorem sk {w:World} {B c n:Nat} {A:Option Addr} {bs:List Nat} {e t:TypeId} (h:Gr u8b e w B A c bs) (hn:n=bs.length) (hb:∀b∈bs,b<256) (hl:bs.length<=400) :
 Tp (w.alloc (.cells #[.slice A n c, .int .i64 0] t)) w.heap.size A c bs 0:=by
 subst hn;have hx:=heap_alloc_new w (.cells #[.slice A bs.length c, .int .i64 0] t);refine ⟨by go_simp,by go_simp,by go_simp,by simp,h.rd.below (qb w _) rfl,hb,Nat.zero_le _,hl,⟨_,_,hx,fun u hu=>?_⟩,fun _ ad e=>?_⟩
 ·simp at hu;rcases hu with rfl|rfl <;> rfl
 ·have:=(h.form.2.2 ad e).2;omega
def TpNew (w:World) (bs:List Nat) (e:Ending) (w':World):Prop:=∃(G:Nat) (A':Option Addr) (c':Nat),e = .returned (.pointer (some ⟨G,0,none⟩))/\Tp w' G A' c' bs 0/\(w.heap.size<=G/\∀ad,A'=some ad->w.heap.size<=ad.block)/\Below w.heap.size w w'
theorem sn (w:World) (A:Option Addr) (c:Nat) (bs:List Nat) (h:Rd u8b w A bs) (hc:bs.length<=c) (hm:c<=9223372036854775807) (hb:∀b∈bs,b<256) :
 Calls prog 21 #[.slice A bs.length c] w (TpNew w (bs.take 400)):=by
 have HR:=ag h;have HB:=ag hb;obtain ⟨L,hL⟩:∃L,bs.length=L:=⟨_,rfl⟩;have HL:=ag hL;have hlL:L<=c:=by rw [<-hL];exact hc
 rw [hL];obtain ⟨i1,hi,hi0,hi1,hi2⟩:=info_parts wU;clear h hb hL hc;go_enter func21,ntmps21;by_cases hbig:L > 400
 ·have HT:Hd ((bs.take 400).length=400):=ag (by rw [List.length_take,HL.o];omega)
  go_upto_region 3 with fail;go_upto_region 4 with (at_builtin;refine aD _ (mk:=u8b) (fun _=>rfl) rfl _ _ 39 rfl 5 i1 (u8b 0) 1 underlying39 hi hi0 hi1 hi2 rfl (B:=w.heap.size) (xs := []) rfl rfl (Gr.nil _ _) A _ _ (bs.take 400) rfl HT.o.symm (HR.o.take 400) (by simp only [maxLen];omega) (by omega) (Nat.le_refl _) ?_;intro AL cL w2 hgA _ hbA _)
  rw [List.nil_append] at hgA;have hs:=sk (t:=91) hgA HT.o.symm (fun b hb=>HB.o b (List.mem_of_mem_take hb)) (by have:=HT.o;omega)
  have bb:=qb w2 (.cells #[.slice AL 400 cL, .int .i64 0] 91);have HS:=ag hs;have HK:=ag (qc hbA bb);have HZ:Hd (w.heap.size<=w2.heap.size/\∀ad,AL=some ad->w.heap.size<=ad.block):=ag ⟨hbA.size,fun ad e=>(hgA.form.2.2 ad e).1⟩;clear hs bb hgA hbA;go_wp2_with fail;go_ret;exact ⟨w2.heap.size,AL,cL,rfl,HS.o,HZ.o,HK.o⟩
 ·have HT:Hd (bs.take 400=bs):=ag (List.take_of_length_le (by rw [HL.o];omega))
  go_upto_region 4 with (at_builtin;refine aD _ (mk:=u8b) (fun _=>rfl) rfl _ _ 39 rfl 5 i1 (u8b 0) 1 underlying39 hi hi0 hi1 hi2 rfl (B:=w.heap.size) (xs := []) rfl rfl (Gr.nil _ _) A _ _ bs rfl HL.o.symm HR.o (by simp only [maxLen];omega) (by omega) (Nat.le_refl _) ?_;intro AL cL w2 hgA _ hbA _)
  rw [List.nil_append] at hgA;have hs:=sk (t:=91) hgA HL.o.symm HB.o (by rw [HL.o];omega)
  have bb:=qb w2 (.cells #[.slice AL L cL, .int .i64 0] 91);have HS:=ag hs;have HK:=ag (qc hbA bb);have HZ:Hd (w.heap.size<=w2.heap.size/\∀ad,AL=some ad->w.heap.size<=ad.block):=ag ⟨hbA.size,fun ad e=>(hgA.form.2.2 ad e).1⟩;clear hs bb hgA hbA;go_wp2_with fail;go_ret;exact ⟨w2.heap.size,AL,cL,rfl,by rw [HT.o];exact HS.o,HZ.o,HK.o⟩
def Zl (w:World) (x:Fx):Prop:=∃z:Int,z.natAbs<64/\El w x (z:Rat)
structure Q3 (w:World) (G:Nat) (v0 v1 v2:Value):Prop where
 c0:w.cell? ⟨G,0,none⟩=some v0
 c1:w.cell? ⟨G,1,none⟩=some v1
 c2:w.cell? ⟨G,2,none⟩=some v2
 f0:w.frozen? ⟨G,0,none⟩=false
 f1:w.frozen? ⟨G,1,none⟩=false
 f2:w.frozen? ⟨G,2,none⟩=false
 lt:G<w.heap.size
 nl:NL w G
structure Zr (w:World) (B:Nat) (A:Option Addr) (c:Nat) (vs:List Fx):Prop where
 fr:Fr w B A c vs
 ni:NoI w A
 el:∀v∈vs,Zl w v
structure Zw (w:World) (s:Sl):Prop where
 rd:RdF w s.A s.vs
 cap:s.vs.length<=s.c
 el:∀v∈s.vs,Zl w v
def Fz (C:Sl) (rows:List Sl) (g:Nat):Prop:=∃s,(s=C\/s∈rows)/\s.A.map (·.block)=some g
section
variable {w w' w'':World} {S:Nat->Prop} {B G c g:Nat} {A:Option Addr} {x y:Fx} {vs:List Fx} {s C:Sl} {v0 v1 v2 u:Value}
theorem Zl.kp (h:Zl w x) (k:Kp S w w') (nl:∀g,S g->NL w g):Zl w' x:=by
 obtain ⟨z,hz,e⟩:=h;exact ⟨z,hz,k.ok e.ok nl,e.rp⟩
theorem Zl.below (h:Zl w x) (hb:Below w.heap.size w w'):Zl w' x:=by
 obtain ⟨z,hz,e⟩:=h;exact ⟨z,hz,e.below hb⟩
theorem Zl.ok (h:Zl w x):x.ok w:=by
 obtain ⟨_,_,e⟩:=h;exact e.ok
theorem Q3.kp (h:Q3 w G v0 v1 v2) (k:Kp S w w') (hG:¬S G):Q3 w' G v0 v1 v2:=
 ⟨(k.cell (p:=⟨G,0,none⟩) h.lt hG).trans h.c0,(k.cell (p:=⟨G,1,none⟩) h.lt hG).trans h.c1,(k.cell (p:=⟨G,2,none⟩) h.lt hG).trans h.c2,
   (k.frozen (p:=⟨G,0,none⟩) h.lt hG).trans h.f0,(k.frozen (p:=⟨G,1,none⟩) h.lt hG).trans h.f1,(k.frozen (p:=⟨G,2,none⟩) h.lt hG).trans h.f2,Nat.lt_of_lt_of_le h.lt k.size,h.nl.kp k hG⟩
theorem Q3.below (h:Q3 w G v0 v1 v2) (hb:Below w.heap.size w w'):Q3 w' G v0 v1 v2:=h.kp (fo (fun _=>False) hb) (fun h=>h)
theorem Q3.new (w:World) (v0 v1 v2:Value) (t:TypeId) (h0:isL v0=false) (h1:isL v1=false) (h2:isL v2=false):Q3 (w.alloc (.cells #[v0,v1,v2] t)) w.heap.size v0 v1 v2:=
 ⟨by go_simp,by go_simp,by go_simp,by go_simp,by go_simp,by go_simp,by simp,⟨_,_,heap_alloc_new w _,fun u hu=>by
  simp at hu;rcases hu with rfl|rfl|rfl
  ·exact h0
  ·exact h1
  ·exact h2⟩⟩
theorem Q3.set0 (h:Q3 w G v0 v1 v2) (hu:isL u=false):Q3 (w.setCell ⟨G,0,none⟩ u) G u v1 v2:=by
 have c0:=h.c0;have c1:=h.c1;have c2:=h.c2;have f0:=h.f0;have f1:=h.f1;have f2:=h.f2;exact ⟨by simp [go_sem,c0],by simp [go_sem,c1],by simp [go_sem,c2],by simp [go_sem,f0],by simp [go_sem,f1],by simp [go_sem,f2],by simpa [World.setCell] using h.lt,h.nl.set 0 hu⟩
theorem Q3.set1 (h:Q3 w G v0 v1 v2) (hu:isL u=false):Q3 (w.setCell ⟨G,1,none⟩ u) G v0 u v2:=by
 have c0:=h.c0;have c1:=h.c1;have c2:=h.c2;have f0:=h.f0;have f1:=h.f1;have f2:=h.f2;exact ⟨by simp [go_sem,c0],by simp [go_sem,c1],by simp [go_sem,c2],by simp [go_sem,f0],by simp [go_sem,f1],by simp [go_sem,f2],by simpa [World.setCell] using h.lt,h.nl.set 1 hu⟩
theorem Q3.set2 (h:Q3 w G v0 v1 v2) (hu:isL u=false):Q3 (w.setCell ⟨G,2,none⟩ u) G v0 v1 u:=by
 have c0:=h.c0;have c1:=h.c1;have c2:=h.c2;have f0:=h.f0;have f1:=h.f1;have f2:=h.f2;exact ⟨by simp [go_sem,c0],by simp [go_sem,c1],by simp [go_sem,c2],by simp [go_sem,f0],by simp [go_sem,f1],by simp [go_sem,f2],by simpa [World.setCell] using h.lt,h.nl.set 2 hu⟩
theorem Zr.nil (w:World) (B:Nat):Zr w B none 0 []:=⟨rR _ _,NoI.nil _,fun v hv=>absurd hv (by simp)⟩
theorem Zr.kp (h:Zr w B A c vs) (k:Kp S w w') (nl:∀g,S g->NL w g) (hA:∀g,A.map (·.block)=some g->¬S g):Zr w' B A c vs:=
 ⟨k.fr h.fr (fun ad e=>hA _ (by rw [e];rfl)),h.ni.kp k hA,fun v hv=>(h.el v hv).kp k nl⟩
theorem Zr.below (h:Zr w B A c vs) (hb:Below w.heap.size w w'):Zr w' B A c vs:=⟨h.fr.below hb,h.ni.below hb,fun v hv=>(h.el v hv).below hb⟩
theorem Zr.lt (h:Zr w B A c vs) (hg:A.map (·.block)=some g):B<=g/\g<w.heap.size:=h.fr.lt g hg
theorem Zr.zs (h:Zr w B A c vs):Zw w ⟨A,c,vs⟩:=⟨h.fr.rd,h.fr.caps.1,h.el⟩
theorem Zw.kp (h:Zw w s) (k:Kp S w w') (nl:∀g,S g->NL w g) (hA:∀g,s.A.map (·.block)=some g->¬S g):Zw w' s:=
 ⟨k.rdf h.rd (fun _ ad e=>hA _ (by rw [e];rfl)),h.cap,fun v hv=>(h.el v hv).kp k nl⟩
theorem Zw.below (h:Zw w s) (hb:Below w.heap.size w w'):Zw w' s:=⟨h.rd.below hb,h.cap,fun v hv=>(h.el v hv).below hb⟩
theorem Zw.ok (h:Zw w s):s.ok w:=⟨h.rd,fun v hv=>by
 obtain ⟨z,_,e⟩:=h.el v hv;exact e.ok,h.cap⟩
theorem ka (w:World) (h:Zr w B A c vs) (ad:Addr) (c2:Nat) (y:Fx) (hr:RdF w (some ad) [y]) (hy:Zl w y) (hmax:vs.length+1<=1000) (hbase:B<=w.heap.size) :
 ∃A' c' w',(Builtin.append_ #[22,22] 22 #[.slice A vs.length c, .slice (some ad) 1 c2]).run prog w = .ok (.slice A' (vs.length+1) c') w'/\Zr w' B A' c' (vs ++ [y])/\Kp (fun a=>A.map (·.block)=some a) w w'/\(A'.map (·.block)=A.map (·.block)\/A'.map (·.block)=some w.heap.size):=by
 obtain ⟨A',c',w',hrun,h1,h3,h4,h5⟩:=fS w h.fr (some ad) c2 [y] hr hmax hbase;have h6:=lB w h.fr h.ni ad c2 [y] hr (by simp) hmax hrun
 have h7:NoI w' A':=fun g hg=>h6 g (by cases A' with
  | none=>cases hg
  | some a'=>simpa [Value.ownBlock] using hg)
 have kk:Kp (fun a=>A.map (·.block)=some a) w w':=ci h4 (fun k e=>e);refine ⟨A',c',w',hrun,⟨h1,h7,fun v hv=>?_⟩,kk,h5⟩;rcases List.mem_append.1 hv with hv|hv
 ·exact (h.el v hv).kp kk h.ni.nlr
 ·rw [List.mem_singleton] at hv;rw [hv];exact hy.kp kk h.ni.nlr
theorem iB (w:World) {ops:Array Oper} {rest:List Oper} {o:Oper} {a:Act} {Q:Exit->Act->World->Prop} (hgd:o.guard=none) (s x:Operand)
 (ho:o.op = .call { callee := .builtin .append,args := #[s,x],argTypes := #[22,22]}) (hty:o.type=22)
 {n:Nat} (hs:a.eval s = .slice A n c) (hn:n=vs.length) (h:Zr w B A c vs)
 (ad:Addr) (c2:Nat) (y:Fx) (hx:a.eval x = .slice (some ad) 1 c2) (hr:RdF w (some ad) [y]) (hy:Zl w y) (hmax:n+1<=1000) (hbase:B<=w.heap.size)
 (hK:∀A' c' w',Zr w' B A' c' (vs ++ [y])->Kp (fun a=>A.map (·.block)=some a) w w'->(A'.map (·.block)=A.map (·.block)\/A'.map (·.block)=some w.heap.size)->wpList prog ops Q rest (a.put o.dst (.slice A' (n+1) c')) w') :
 wpList prog ops Q (o::rest) a w:=by
 subst hn;obtain ⟨A',c',w',hrun,h1,h2,h3⟩:=ka w h ad c2 y hr hy hmax hbase;refine wpList_plain hgd fun K hK'=>?_;unfold Oper.wp execOp;simp only [ho,hty,resolve,invoke,builtin,Sem.run_bind,Sem.run_pure,Result.andThen_ok,List.map_toArray,List.map_cons,List.map_nil,hs,hx,hrun];exact hK' _ _ (hK A' c' w' h1 h2 h3)
theorem jp (w:World) {ops:Array Oper} {o:Oper} {a:Act} {K:Act->World->Prop} {Q:Exit->Act->World->Prop} {X:Prop} (hgd:o.guard=none) (s x:Operand)
 (ho:o.op = .call { callee := .builtin .append,args := #[s,x],argTypes := #[22,22]}) (hty:o.type=22)
 {n:Nat} (hs:a.eval s = .slice A n c) (hn:n=vs.length) (h:Zr w B A c vs)
 (ad:Addr) (c2:Nat) (y:Fx) (hx:a.eval x = .slice (some ad) 1 c2) (hr:RdF w (some ad) [y]) (hy:Zl w y) (hmax:n+1<=1000) (hbase:B<=w.heap.size)
 (hK:∀A' c' w',Zr w' B A' c' (vs ++ [y])->Kp (fun a=>A.map (·.block)=some a) w w'->(A'.map (·.block)=A.map (·.block)\/A'.map (·.block)=some w.heap.size)->K (a.put o.dst (.slice A' (n+1) c')) w') :
 if Region.wanted o (yielded ops a.tmps)=true then Oper.wp prog o a w K Q else X:=by
 have hw:Region.wanted o (yielded ops a.tmps)=true:=by simp [Region.wanted,hgd]
 rw [if_pos hw];subst hn;obtain ⟨A',c',w',hrun,h1,h2,h3⟩:=ka w h ad c2 y hr hy hmax hbase;unfold Oper.wp execOp;simp only [ho,hty,resolve,invoke,builtin,Sem.run_bind,Sem.run_pure,Result.andThen_ok,List.map_toArray,List.map_cons,List.map_nil,hs,hx,hrun];exact hK A' c' w' h1 h2 h3
end
structure Pm (w:World) (B G n:Nat) (C:Sl) (A2:Option Addr) (c2:Nat) (rows:List Sl) (A3:Option Addr) (c3:Nat) (rs:List Fx):Prop where
 lt:G<B
 sz:B<=w.heap.size
 nG:NL w G
 cz:Zw w C
 gr:Gr Sl.val 22 w B A2 c2 rows
 n2:NLr w A2
 rz:∀r∈rows,Zw w r/\r.vs.length=n
 rr:Zr w B A3 c3 rs
 ge:∀g,Fz C rows g->G<g/\g<w.heap.size
 s2:∀g,Fz C rows g->A2.map (·.block)≠some g
 s3:∀g,Fz C rows g->A3.map (·.block)≠some g
 s23:∀g,A2.map (·.block)=some g->A3.map (·.block)≠some g
def Pt (G:Nat) (C:Sl) (A2:Option Addr) (rows:List Sl) (A3:Option Addr) (g:Nat):Prop:=g=G\/A2.map (·.block)=some g\/A3.map (·.block)=some g\/Fz C rows g
section
variable {w w':World} {S:Nat->Prop} {B G n c2 c3 c2' c3' g:Nat} {C r:Sl} {A2 A3 A2' A3':Option Addr} {rows:List Sl} {rs:List Fx} {y:Fx}
theorem Pm.bd (h:Pm w B G n C A2 c2 rows A3 c3 rs) (hp:Pt G C A2 rows A3 g):G<=g/\g<w.heap.size:=by
 have h1:=h.lt;have h2:=h.sz;rcases hp with rfl|hp|hp|hp
 ·omega
 ·have:=kM h.gr hp;omega
 ·have:=h.rr.lt hp;omega
 ·have:=h.ge g hp;omega
theorem Pm.kp (h:Pm w B G n C A2 c2 rows A3 c3 rs) (k:Kp S w w') (nl:∀g,S g->NL w g) (hd:∀g,G<g->Pt G C A2 rows A3 g->¬S g) (nG:NL w' G):Pm w' B G n C A2 c2 rows A3 c3 rs:=by
 have h1:=h.lt;have d2:∀g,A2.map (·.block)=some g->¬S g:=fun g e=>hd g (by have:=kM h.gr e;omega) (.inr (.inl e))
 have d3:∀g,A3.map (·.block)=some g->¬S g:=fun g e=>hd g (by have:=h.rr.lt e;omega) (.inr (.inr (.inl e)))
 have d4:∀g,Fz C rows g->¬S g:=fun g e=>hd g (by have:=h.ge g e;omega) (.inr (.inr (.inr e)))
 exact ⟨h.lt,Nat.le_trans h.sz k.size,nG,h.cz.kp k nl (fun g e=>d4 g ⟨C, .inl rfl,e⟩),k.gr h.gr (fun ad e=>d2 _ (by rw [e];rfl)),h.n2.kp k d2,fun r hr=>⟨(h.rz r hr).1.kp k nl (fun g e=>d4 g ⟨r, .inr hr,e⟩),(h.rz r hr).2⟩,h.rr.kp k nl d3,fun g hg=>⟨(h.ge g hg).1,Nat.lt_of_lt_of_le (h.ge g hg).2 k.size⟩,h.s2,h.s3,h.s23⟩
theorem Pm.far (h:Pm w B G n C A2 c2 rows A3 c3 rs) (k:Kp S w w') (nl:∀g,S g->NL w g) (hd:∀g,Pt G C A2 rows A3 g->¬S g):Pm w' B G n C A2 c2 rows A3 c3 rs:=
 h.kp k nl (fun g _=>hd g) (h.nG.kp k (hd G (.inl rfl)))
theorem Pm.below (h:Pm w B G n C A2 c2 rows A3 c3 rs) (hb:Below w.heap.size w w'):Pm w' B G n C A2 c2 rows A3 c3 rs:=h.far (fo (fun _=>False) hb) (fun _ h=>h.elim) (fun _ _ h=>h)
theorem Pm.set (h:Pm w B G n C A2 c2 rows A3 c3 rs) (i:Nat) (v:Value) (hv:isL v=false):Pm (w.setCell ⟨G,i,none⟩ v) B G n C A2 c2 rows A3 c3 rs:=
 h.kp (rM w G i v) (fun g e=>by rw [e];exact h.nG) (fun g hg _ e=>by omega) (h.nG.set i hv)
theorem Fz.app (h:Fz C (rows ++ [r]) g):Fz C rows g\/r.A.map (·.block)=some g:=by
 obtain ⟨s,hs,e⟩:=h;rcases hs with hs|hs
 ·exact .inl ⟨s, .inl hs,e⟩
 ·rcases List.mem_append.1 hs with hs|hs
  ·exact .inl ⟨s, .inr hs,e⟩
  ·rw [List.mem_singleton] at hs;exact .inr (by rw [<-hs];exact e)
theorem Pm.row (h:Pm w B G n C A2 c2 rows A3 c3 rs) (hr:Zw w r) (hl:r.vs.length=n) (ge:∀g,r.A.map (·.block)=some g->G<g/\g<w.heap.size) (ho:∀g,r.A.map (·.block)=some g->¬Pt G C A2 rows A3 g)
 (gr:Gr Sl.val 22 w' B A2' c2' (rows ++ [r])) (n2:NLr w' A2') (k:Kp (fun a=>A2.map (·.block)=some a) w w') (hat:A2'.map (·.block)=A2.map (·.block)\/A2'.map (·.block)=some w.heap.size):Pm w' B G n C A2' c2' (rows ++ [r]) A3 c3 rs:=by
 have h1:=h.lt;have d3:∀g,A3.map (·.block)=some g->¬A2.map (·.block)=some g:=fun g e e2=>h.s23 g e2 e;have nl:∀g,A2.map (·.block)=some g->NL w g:=h.n2;have hn:∀g,g<w.heap.size->A2.map (·.block)≠some g->A2'.map (·.block)≠some g:=fun g hg hne e=>by
  rcases hat with h|h
  ·exact hne (h.symm.trans e)
  ·rw [h] at e;injection e with e;omega
 refine ⟨h.lt,Nat.le_trans h.sz k.size,h.nG.kp k (fun e=>by have:=kM h.gr e;omega),h.cz.kp k nl (fun g e=>h.s2 g ⟨C, .inl rfl,e⟩),gr,n2,fun s hs=>?_,h.rr.kp k nl d3,fun g hg=>?_,fun g hg=>?_,fun g hg=>?_,fun g hg e=>?_⟩
 ·rcases List.mem_append.1 hs with hs|hs
  ·exact ⟨(h.rz s hs).1.kp k nl (fun g e=>h.s2 g ⟨s, .inr hs,e⟩),(h.rz s hs).2⟩
  ·rw [List.mem_singleton] at hs;rw [hs];exact ⟨hr.kp k nl (fun g e e2=>ho g e (.inr (.inl e2))),hl⟩
 ·rcases hg.app with hg|hg
  ·exact ⟨(h.ge g hg).1,Nat.lt_of_lt_of_le (h.ge g hg).2 k.size⟩
  ·exact ⟨(ge g hg).1,Nat.lt_of_lt_of_le (ge g hg).2 k.size⟩
 ·rcases hg.app with hg|hg
  ·exact hn g (h.ge g hg).2 (h.s2 g hg)
  ·exact hn g (ge g hg).2 (fun e=>ho g hg (.inr (.inl e)))
 ·rcases hg.app with hg|hg
  ·exact h.s3 g hg
  ·exact fun e=>ho g hg (.inr (.inr (.inl e)))
 ·rcases hat with h'|h'
  ·exact h.s23 g (h'.symm.trans hg) e
  ·rw [h'] at hg;injection hg with hg;have:=(h.rr.lt e).2;omega
theorem Pm.rgt (h:Pm w B G n C A2 c2 rows A3 c3 rs) {vs:List Fx} (zr:Zr w' B A3' c3' vs) (k:Kp (fun a=>A3.map (·.block)=some a) w w') (hat:A3'.map (·.block)=A3.map (·.block)\/A3'.map (·.block)=some w.heap.size):Pm w' B G n C A2 c2 rows A3' c3' vs:=by
 have h1:=h.lt;have d2:∀g,A2.map (·.block)=some g->¬A3.map (·.block)=some g:=fun g e e2=>h.s23 g e e2;have nl:∀g,A3.map (·.block)=some g->NL w g:=h.rr.ni.nlr;have hn:∀g,g<w.heap.size->A3.map (·.block)≠some g->A3'.map (·.block)≠some g:=fun g hg hne e=>by
  rcases hat with h|h
  ·exact hne (h.symm.trans e)
  ·rw [h] at e;injection e with e;omega
 exact ⟨h.lt,Nat.le_trans h.sz k.size,h.nG.kp k (fun e=>by have:=h.rr.lt e;omega),h.cz.kp k nl (fun g e=>h.s3 g ⟨C, .inl rfl,e⟩),k.gr h.gr (fun ad e=>d2 _ (by rw [e];rfl)),h.n2.kp k d2,
  fun s hs=>⟨(h.rz s hs).1.kp k nl (fun g e=>h.s3 g ⟨s, .inr hs,e⟩),(h.rz s hs).2⟩,zr,fun g hg=>⟨(h.ge g hg).1,Nat.lt_of_lt_of_le (h.ge g hg).2 k.size⟩,h.s2,fun g hg=>hn g (h.ge g hg).2 (h.s3 g hg),fun g hg=>hn g (kM h.gr hg).2 (h.s23 g hg)⟩
theorem Pm.start (w:World) (B G n:Nat) (C:Sl) (hz:Zw w C) (nG:NL w G) (lt:G<B) (sz:B<=w.heap.size) (ge:∀g,C.A.map (·.block)=some g->G<g/\g<w.heap.size):Pm w B G n C none 0 [] none 0 []:=
 ⟨lt,sz,nG,hz,Gr.nil _ _,NLr.nil _,fun r hr=>absurd hr (by simp),Zr.nil _ _,(fun g hg=>by
  obtain ⟨s,hs,e⟩:=hg;rcases hs with rfl|hs
  ·exact ge g e
  ·exact absurd hs (by simp)),(fun g _ e=>by cases e),(fun g _ e=>by cases e),(fun g e=>by cases e)⟩
end
structure Ip (w:World) (p:Pg):Prop where
 r1:1<=p.rows.length
 r2:p.rows.length<=3
 c1:1<=p.cost.vs.length
 c2:p.cost.vs.length<=5
 lb:p.right.vs.length=p.rows.length
 rd:Rd Sl.val w p.rA p.rows
 cap:p.rows.length<=p.rc
 cz:Zw w p.cost
 bz:Zw w p.right
 rz:∀r∈p.rows,Zw w r/\r.vs.length=p.cost.vs.length
theorem Ip.below {w w':World} {p:Pg} (h:Ip w p) (hb:Below w.heap.size w w'):Ip w' p:=⟨h.r1,h.r2,h.c1,h.c2,h.lb,h.rd.below hb rfl,h.cap,h.cz.below hb,h.bz.below hb,fun r hr=>⟨(h.rz r hr).1.below hb,(h.rz r hr).2⟩⟩
theorem Ip.ok {w:World} {p:Pg} (h:Ip w p):p.ok w:=⟨h.cz.ok,h.bz.ok,h.rd,fun r hr=>(h.rz r hr).1.ok,h.cap⟩
theorem Pm.ip {w:World} {B G n m c2 c3:Nat} {C:Sl} {A2 A3:Option Addr} {rows:List Sl} {rs:List Fx} (h:Pm w B G n C A2 c2 rows A3 c3 rs) (hn:C.vs.length=n) (hr:rows.length=m) (hb:rs.length=m) (n1:1<=n) (n5:n<=5) (m1:1<=m) (m3:m<=3):Ip w ⟨C,A2,c2,rows,⟨A3,c3,rs⟩⟩:=
 ⟨by rw [hr];exact m1,by rw [hr];exact m3,by rw [hn];exact n1,by rw [hn];exact n5,by rw [hr];exact hb,h.gr.rd,h.gr.form.1,h.cz,h.rr.zs,fun r hx=>⟨(h.rz r hx).1,by rw [hn];exact (h.rz r hx).2⟩⟩
end Go.Proofs.YtkpfbekmaafehaaGreat
