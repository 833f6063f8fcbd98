/- Arguments that came in, opened to what the walks ask -/
import Derived.Test.YtkpfbekmaafehaaGreatRows
import Derived.Test.YtkpfbekmaafehaaGreatBase
import Derived.ProofKit
import Derived.OpenShut
import Derived.ShutString
import Derived.ChangeOld
import Derived.Below
import Derived.Test.YtkpfbekmaafehaaGreatTk
import Derived.Test.YtkpfbekmaafehaaGreatSqW
import Derived.Test.YtkpfbekmaafehaaGreatSqK
namespace Go.Proofs.YtkpfbekmaafehaaGreat
set_option maxRecDepth 100000
open Go.ChangeShapes Go.WideShapes Go.ChangeAt Go.RowKit
theorem zC:ownKnob Tryz.prog.godebug=none:=by kernel_rfl
theorem zO:laidOutB Tryz.prog=true:=by kernel_rfl
theorem pf {w:World} {a:Addr} {v:Value} (h:w.cell? a=some v):a.block<w.heap.size:=by
 rcases Nat.lt_or_ge a.block w.heap.size with h1|h1
 ·exact h1
 ·simp [World.cell?,Array.getElem?_eq_none h1] at h
theorem Du {H:Type} {enc:TypeId×Value→H} {W:World} {base:Nat} {spare:Nat→Bool} {held:Bool} {t:TypeId} {a:Option Addr} {len cap:Nat} {d:DataW H} {p:List MemPlace}
 (ht:Tryz.prog.underlying t=some (.slice 58)) (h:DataW.Trod enc Tryz.prog W base spare held t (.slice a len cap) d p):∃xs:List Nat,xs.length=len∧Nt W a cap xs:=by
 obtain ⟨fuel,hf⟩:=h;rcases open_ints ht Tryz.underlying58 (by kernel_rfl) hf with ⟨hcs,_⟩|⟨x,l,c,zs,hcs,_,hl,hm,hz,_,hcell,hwz⟩
 ·simp [Value.cells] at hcs;obtain ⟨rfl,rfl,rfl⟩:=hcs;exact ⟨[],rfl,Nt.nil _ _ _ (by omega)⟩
 ·simp [Value.cells] at hcs;obtain ⟨rfl,rfl,rfl⟩:=hcs;unfold maxLen at hm;have hzl:len≤zs.length:=by
   rw [hz];split <;> omega
  have hnum:∀k (hk:k<zs.length),0≤zs[k]∧zs[k]<4294967296:=by
   intro k hk;have:=hwz _ (List.getElem_mem hk);simp [Lit.wf,IntKind.min,IntKind.max,IntKind.signed,IntKind.bits] at this;omega
  have hlen:((zs.take len).map Int.toNat).length=len:=by simp;omega
  refine ⟨(zs.take len).map Int.toNat,hlen,⟨by rw [hlen];exact hl,hm,?_,?_⟩⟩
  ·intro y hy;obtain ⟨z,hz1,rfl⟩:=List.mem_map.1 hy;obtain ⟨k,hk,rfl⟩:=List.getElem_of_mem (List.mem_of_mem_take hz1);have:=hnum k hk;omega
  ·intro hn;rw [hlen] at hn;have h0:=hcell 0 (by omega)
   refine ⟨x,rfl,?_,fun k hk=>?_⟩
   ·have:=pf h0
    rwa [aM] at this
   ·rw [hlen] at hk;rw [hcell k (by omega)]
    have h1:=hnum k (by omega)
    simp only [List.getElem_map,List.getElem_take];rw [List.getD_eq_getElem?_getD,List.getElem?_eq_getElem (by omega),Option.getD_some]
    simp only [lmv]
    congr 2
    omega
set_option maxRecDepth 100000
open Go.RowKit
section
variable {P:Program} {md:Region.Mode} {ops:Array Oper} {Q:Exit→Act→World→Prop} {S:World→Prop} {k:Nat}
def jL (P:Program) (md:Region.Mode) (ops:Array Oper) (Q:Exit→Act→World→Prop) (S:World→Prop) (k:Nat):Nat→Array Bool→Act→World→Prop
 | 0,ls,a,w=>Region.ready md ops ls = []∧Q .normal a w
 | f+1,ls,a,w=>(Region.ready md ops ls = []→Q .normal a w)∧∀i∈Region.ready md ops ls,wpOp P ops Q i (fun a2 w2=>(i<k→S w2)∧jL P md ops Q S k f (ls.setIfInBounds i true) a2 w2) a w
theorem jL.any:∀(f:Nat) (ls:Array Bool) (a:Act) (w:World),jL P md ops Q S k f ls a w→wpAny P md ops Q f ls a w
 | 0,_,_,_,h=>h
 | f+1,_,_,_,h=>⟨h.1,fun i hi=>wpOp_mono (fun a2 w2 h2=>jL.any f _ a2 w2 h2.2) (h.2 i hi)⟩
def uh (md:Region.Mode) (ops:Array Oper) (ls:Array Bool):Prop:=∀m om,ops[m]? = some om→ls.getD m false=true→∀e∈om.after,Region.binds md e=true→ls.getD e.on false=true
theorem uh.set {ls:Array Bool} {j:Nat} (h:uh md ops ls) (hj:j∈Region.ready md ops ls):uh md ops (ls.setIfInBounds j true):=by
 intro m om hm hl e he hb;obtain ⟨_,oj,hoj,hall⟩:=mem_ready.1 hj;rcases Nat.decEq j m with hjm|hjm
 ·rw [getD_set_ne false hjm] at hl;exact getD_set_true (h m om hm hl e he hb)
 ·subst hjm;rw [hoj] at hm;injection hm with hm;subst hm;exact getD_set_true (hall e he hb)
theorem jL.first {i:Nat} {oi:Oper} {v:Value} (hi:ops[i]? = some oi) (hsel:∀(j:Nat) (o:Oper) cs b,ops[j]? = some o→o.op ≠ .select cs b) (hQ:∀c a w,Q (.panic c) (a.put oi.dst v) w→Q (.panic c) a w)
 (late:∀ls,uh md ops ls→ls.getD i false=false→∀j,k≤j→j ∉ Region.ready md ops ls) :
 ∀(f:Nat) (ls:Array Bool) (a:Act) (w:World),uh md ops ls→(∀j oj,ops[j]? = some oj→j≠i→ls.getD j true=false→(∀e∈oj.after,Region.binds md e=true→e.on≠i)→oi.apart ops oj=true) →
  i∈Region.ready md ops ls→YieldsIf P ops S oi v a→S w→jL P md ops Q S k f (ls.setIfInBounds i true) (a.put oi.dst v) w→jL P md ops Q S k (f+1) ls a w:=by
 intro f
 induction f with
 | zero=>
   intro ls a w _ _ hr hy hS H;constructor
   ·intro h0;rw [h0] at hr;cases hr
   ·intro j hj;rcases Nat.decEq j i with hji|hji
    ·have h3:=ready_mono hj hji;rw [H.1] at h3;cases h3
    ·subst hji;exact hy.wpOp hi hS ⟨fun _=>hS,H⟩
 | succ f ih=>
   intro ls a w hc hfree hr hy hS H;constructor
   ·intro h0;rw [h0] at hr;cases hr
   ·intro j hj;rcases Nat.decEq j i with hji|hji
    ·have hu:=(mem_ready.1 hr).1;obtain ⟨hju,oj,hoj,hall⟩:=mem_ready.1 hj;have hu2:ls.getD i false=false:=by
      rcases Nat.lt_or_ge i ls.size with h|h
      ·simp [h] at hu⊢;exact hu
      ·simp [Array.getElem?_eq_none h]
     have hno:∀e∈oj.after,Region.binds md e=true→e.on≠i:=by
      intro e he hb e1;have h1:=hall e he hb;rw [e1,hu2] at h1;cases h1
     have hjk:j<k:=by
      rcases Nat.lt_or_ge j k with h|h
      ·exact h
      ·exact absurd hj (late ls hc hu2 j h)
     have h2:=wpOp_putIf hoj (hfree j oj hoj hji hju hno) (fun cs b=>hsel i oi cs b hi) (fun cs b=>hsel j oj cs b hoj) hQ hy (H.2 j (ready_mono hj hji));refine wpOp_mono ?_ h2;intro a2 w2 h3;have hS2:=h3.2.1 hjk;refine ⟨fun _=>hS2,ih (ls.setIfInBounds j true) a2 w2 (hc.set hj) ?_ (ready_mono hr (Ne.symm hji)) h3.1 hS2 (by rw [Array.setIfInBounds_comm _ _ hji];exact h3.2.2)⟩
     intro m om hm hmi hmu hmo;refine hfree m om hm hmi ?_ hmo;rcases Nat.decEq j m with h|h
     ·rwa [getD_set_ne true h] at hmu
     ·subst h;exact hju
    ·subst hji;exact hy.wpOp hi hS ⟨fun _=>hS,H⟩
def wtS (SU:List dC) (i:Nat):Nat→Nat→Bool
 | 0,_=>false
 | f+1,m=>match SU[m]? with
   | none=>false
   | some e=>e.2.2.1.any fun x=>Nat.beq x i || wtS SU i f x
theorem yp {SU:List dC} {i:Nat} {ls:Array Bool} (h:jo md ops=SU) (hc:uh md ops ls) (hu:ls.getD i false=false):∀f m om,wtS SU i f m=true→ops[m]? = some om→¬ ∀e∈om.after,Region.binds md e=true→ls.getD e.on false=true
 | 0,m,om,hw,_,_=>by cases hw
 | f+1,m,om,hw,hm,ha=>by
   have hs:=fU h m;rw [hm,Option.map_some] at hs;rw [wtS,hs] at hw;obtain ⟨x,hx,hb⟩:=List.any_eq_true.1 hw;rw [List.mem_map] at hx;obtain ⟨e,he,rfl⟩:=hx;rw [List.mem_filter] at he;have hl:=ha e (by simpa using he.1) he.2
   rw [Bool.or_eq_true] at hb;rcases hb with hb|hb
   ·rw [Nat.eq_of_beq_eq_true hb,hu] at hl;cases hl
   ·cases ho:ops[e.on]? with
    | none=>
      have hs2:=fU h e.on;rw [ho,Option.map_none] at hs2
      cases f with
      | zero=>cases hb
      | succ f=>rw [wtS,hs2] at hb;cases hb
    | some o2=>exact yp h hc hu f e.on o2 hb ho (hc e.on o2 ho hl)
def ltS (SU:List dC) (k i:Nat):Bool:=(List.range (SU.length-k)).all fun n=>wtS SU i 6 (k+n)
theorem Dw {SU:List dC} {i:Nat} (h:jo md ops=SU) (hl:ltS SU k i=true):∀ls,uh md ops ls→ls.getD i false=false→∀j,k≤j→j ∉ Region.ready md ops ls:=by
 intro ls hc hu j hj hr;obtain ⟨_,oj,hoj,hall⟩:=mem_ready.1 hr;have hlen:SU.length=ops.size:=by rw [←h,jo,List.length_map,Array.length_toList]
 have hlt:=(Array.getElem?_eq_some_iff.1 hoj).1;have hw:=List.all_eq_true.1 hl (j-k) (List.mem_range.2 (by omega))
 rw [show k+(j-k)=j from by omega] at hw
 exact yp h hc hu 6 j oj hw hoj hall
def clS (SU:List dC) (ls:List Bool):Bool:=(List.range SU.length).all fun m => !(ls.getD m false) || (match SU[m]? with
 | none=>true
 | some e=>e.2.2.1.all fun x=>ls.getD x false)
theorem DG {SU:List dC} {ls:List Bool} (h:jo md ops=SU) (hl:clS SU ls=true):uh md ops ls.toArray:=by
 intro m om hm hlm e he hb;have hlen:SU.length=ops.size:=by rw [←h,jo,List.length_map,Array.length_toList]
 have hlt:=(Array.getElem?_eq_some_iff.1 hm).1;have hw:=List.all_eq_true.1 hl m (List.mem_range.2 (by omega))
 have hs:=fU h m;rw [hm,Option.map_some] at hs;rw [fQ] at hlm;rw [hlm,hs] at hw;simp only [Bool.not_true,Bool.false_or] at hw;rw [fQ];exact List.all_eq_true.1 hw e.on (List.mem_map.2 ⟨e,List.mem_filter.2 ⟨by simpa using he,hb⟩,rfl⟩)
variable {oi:Oper} {f:Nat} {ls:List Bool} {SU:List dC} {a:Act} {w:World}
theorem mY (HU:pP md ops SU) (i:Nat) (v:Value) (hi:ops[i]? = some oi) (h:jL P md ops Q S k f (ls.toArray.setIfInBounds i true) (a.put oi.dst v) w) (hc:(tf SU ls i && qF SU ls i && ltS SU k i && clS SU ls)=true:=by kernel_rfl) (hQ:∀c a w,Q (.panic c) (a.put oi.dst v) w→Q (.panic c) a w:=by exact fun _ _ _ h=>h)
 (hw:Region.wanted oi (yielded ops a.tmps)=true:=by first|rfl|kernel_rfl) (hr:∀w,S w→(execOp a.eval oi).run P w = .ok (.value v) w:=by intro w hSw;go_simp;(try with_reducible rfl)) (hS:S w:=by assumption):jL P md ops Q S k (f+1) ls.toArray a w:=by
 rw [Bool.and_eq_true,Bool.and_eq_true,Bool.and_eq_true] at hc;exact jL.first hi (Region.noSelect_spec HU.out.1) hQ (Dw HU.out.2 hc.1.2) f _ a w (DG HU.out.2 hc.2) (Region.free_spec hi (kN HU.out.2 hc.1.1.2)) (by have:=nO HU.out.2 hc.1.1.1;simpa using this) (Or.inl ⟨hw,hr⟩) hS h
theorem qW (HU:pP md ops SU) (i:Nat) (ho:ops[i]? = some oi)
 (h:∀K':Act→World→Prop,Shut (∀a w,S w→(S w→jL P md ops Q S k f (ls.toArray.setIfInBounds i true) a w)→K' a w)→if Region.wanted oi (yielded ops a.tmps)=true then Oper.wp P oi a w K' Q else K' (a.put oi.dst undef) w) (hr:xD SU ls = [i]:=by kernel_rfl):jL P md ops Q S k (f+1) ls.toArray a w:=by
 have hr2:=tkn HU hr;refine ⟨fun h0=>(by rw [hr2] at h0;cases h0),fun j hj=>?_⟩
 rw [hr2,List.mem_singleton] at hj;subst hj;exact wpOp_step ho (fun K' hK=>h K' (fun a w hS hW=>hK a w ⟨fun _=>hS,hW hS⟩))
theorem Bh (HU:pP md ops SU) (i:Nat) (ho:ops[i]? = some oi)
 (h:∀K':Act→World→Prop,Shut (∀a w,jL P md ops Q S k f (ls.toArray.setIfInBounds i true) a w→K' a w)→if Region.wanted oi (yielded ops a.tmps)=true then Oper.wp P oi a w K' Q else K' (a.put oi.dst undef) w) (hr:xD SU ls = [i]:=by kernel_rfl) (hk:Nat.ble k i=true:=by kernel_rfl):jL P md ops Q S k (f+1) ls.toArray a w:=by
 have hr2:=tkn HU hr;refine ⟨fun h0=>(by rw [hr2] at h0;cases h0),fun j hj=>?_⟩
 rw [hr2,List.mem_singleton] at hj;subst hj;have hk2:=Nat.le_of_ble_eq_true hk;exact wpOp_step ho (fun K' hK=>h K' (fun a w hW=>hK a w ⟨fun h=>absurd h (by omega),hW⟩))
theorem tkdK (hr:Region.ready md ops ls.toArray = []) (h:Q .normal a w):∀f,jL P md ops Q S k f ls.toArray a w
 | 0=>⟨hr,h⟩
 | _+1=>⟨fun _=>h,by rw [hr];simp⟩
theorem tkiK (k:Nat) (SU:List dC) (ls:List Bool) {id:Nat} (hm:P.follows .mixedOrders=true) (hs:Region.noSelect ops=true) (h1:jo .any ops=SU) (hl:Array.replicate ops.size false=ls.toArray) (hS:S w.drew) (h:pP .any ops SU→S w.drew→jL P .any ops Q S k ops.size ls.toArray a w.drew):(Code.region id ops true).wp P Q a w:=by
 refine wp_region_any hm (jL.any (S:=S) (k:=k) _ _ _ _ ?_);rw [hl];exact h (ag ⟨hs,h1⟩) hS
end
set_option maxRecDepth 100000
open Go.RowKit
abbrev u8b (n:Nat):Value := .int .u8 (n:Int)
structure Tp (w:World) (G:Nat) (A:Option Addr) (c:Nat) (bs:List Nat) (k:Nat):Prop where
 c0:w.cell? ⟨G,0,none⟩=some (.slice A bs.length c)
 c1:w.cell? ⟨G,1,none⟩=some (.int .i64 (k:Int))
 f1:w.frozen? ⟨G,1,none⟩=false
 lt:G<w.heap.size
 rd:Rd u8b w A bs
 by_:∀b∈bs,b<256
 k:k≤bs.length
 l:bs.length≤400
 nl:NL w G
 ap:0<bs.length→∀ad,A=some ad→ad.block≠G
section
variable {w w':World} {G c k:Nat} {A:Option Addr} {bs:List Nat} {S:Nat→Prop}
theorem Tp.kp (h:Tp w G A c bs k) (kk:Kp S w w') (hG:¬S G) (hA:0<bs.length→∀ad,A=some ad→¬S ad.block):Tp w' G A c bs k:=by
 obtain ⟨cur,t,e1,hn⟩:=h.nl;exact ⟨(kk.cell (p:=⟨G,0,none⟩) h.lt hG).trans h.c0,(kk.cell (p:=⟨G,1,none⟩) h.lt hG).trans h.c1,(kk.frozen (p:=⟨G,1,none⟩) h.lt hG).trans h.f1,Nat.lt_of_lt_of_le h.lt kk.size,kk.rd h.rd hA,h.by_,h.k,h.l,⟨cur,t,(kk.block _ h.lt hG).trans e1,hn⟩,h.ap⟩
theorem Tp.below (h:Tp w G A c bs k) (hb:Below w.heap.size w w'):Tp w' G A c bs k:=h.kp (fo (fun _=>False) hb) (fun h=>h) (fun _ _ _ h=>h)
theorem Tp.next (h:Tp w G A c bs k) (hk:k<bs.length):Tp (w.setCell ⟨G,1,none⟩ (.int .i64 ((k:Int)+1))) G A c bs (k+1)∧Kp (fun a=>a=G) w (w.setCell ⟨G,1,none⟩ (.int .i64 ((k:Int)+1))):=by
 have kk:=(Kp.refl (fun a=>a=G) w).set (S:=fun a=>a=G) rfl 1 (.int .i64 ((k:Int)+1));have c0:=h.c0;have c1:=h.c1;have f1:=h.f1;exact ⟨⟨by simp [go_sem,c0],by simp [go_sem,c1],by simp [go_sem,f1],by simpa [World.setCell] using h.lt,kk.rd h.rd (fun hn ad e=>h.ap hn ad e),h.by_,hk,h.l,h.nl.set 1 rfl,h.ap⟩,kk⟩
end
set_option maxHeartbeats 800000 in
theorem wW (w:World) (G c k n:Nat) (A:Option Addr) (bs:List Nat) (h:Tp w G A c bs k) (h1:1≤n) (hn:n≤1000) :
 Calls Tryz.prog 27 #[.pointer (some ⟨G,0,none⟩), .int .i64 (n:Int)] w fun e w'=>∃v k':Nat,e = .returned (.int .i64 (v:Int))∧v<n∧Tp w' G A c bs k'∧Kp (fun a=>a=G) w w':=by
 have HT:=ag h;have c0:=h.c0;have c1:=h.c1;have f1:=h.f1;have hk:=h.k;have hl:=h.l;obtain ⟨L,hL⟩:∃L,bs.length=L:=⟨_,rfl⟩;have HL:=ag hL;rw [hL] at c0 hk hl;clear h hL;go_enter Tryz.func27,Tryz.ntmps27;go_upto_region 1 with fail;by_cases hkL:L≤k
 ·go_region;have bd:=(ah w.heap.size w).drew;have HT2:=ag (HT.out.below bd);have HK:=ag (fo (fun a=>a=G) bd);clear c0 c1 f1 bd;generalize w.drew=wd at *;go_wp2_with fail;go_ret;exact ⟨0,k,rfl,by omega,HT2.out,HK.out⟩
 ·by_cases hn2:n<2
  ·go_region;have bd:=(ah w.heap.size w).drew;have HT2:=ag (HT.out.below bd);have HK:=ag (fo (fun a=>a=G) bd);clear c0 c1 f1 bd;generalize w.drew=wd at *;go_wp2_with fail;go_ret;exact ⟨0,k,rfl,by omega,HT2.out,HK.out⟩
  ·go_region;have bd:=(ah w.heap.size w).drew;have ht:=HT.out.below bd;have hkk:=fo (fun a=>a=G) bd;clear c0 c1 f1 bd;generalize w.drew=wd at *;have c1:=ht.c1;have f1:=ht.f1;have hkl:k<bs.length:=by rw [HL.out];omega
   have nx:=ht.next hkl
   have NX:=ag nx.1;have HK:=ag (hkk.trans nx.2);clear nx ht hkk;go_upto_region 4 with fail;generalize (wd.setCell ⟨G,1,none⟩ (.int .i64 ((k:Int)+1)))=we at *;clear c1 f1;have c0:=NX.out.c0;have c1:=NX.out.c1;rw [HL.out] at c0;obtain ⟨ad,rfl,_,hc⟩:=(NX.out.rd) (by omega)
   have e0:=hc k hkl;have hb:=NX.out.by_ _ (List.getElem_mem hkl);obtain ⟨b,hb0⟩:∃b,bs[k]=b:=⟨_,rfl⟩;rw [hb0] at e0 hb;have hw1:IntKind.i64.wrap ((k:Int)+1-1)=(k:Int):=by
    rw [show (k:Int)+1-1=k from by omega];exact IntWalk.i64_in _ (by omega)
   have hw2:IntKind.i64.wrap (b:Int)=(b:Int):=IntWalk.i64_in _ (by omega)
   have hc1:we.cell? ⟨G,1,none⟩=some (.int .i64 ((k:Int)+1)):=by
    have:=NX.out.c1;rw [show ((k+1:Nat):Int)=(k:Int)+1 from by omega] at this
    exact this
   clear hc hb0 c1;go_region;go_wp2_with fail;have bd:=(ah we.heap.size we).drew;have ht:=NX.out.below bd;have hkk:=HK.out.trans (fo (fun a=>a=G) bd);clear c0 hc1 e0 bd;generalize we.drew=wf at *;go_ret;exact ⟨b % n,k+1,(show Ending.returned (.int .i64 ((b:Int) % (n:Int))) = .returned (.int .i64 ((b % n:Nat):Int)) from by rw [Int.natCast_emod]),Nat.mod_lt _ (by omega),ht,hkk⟩
theorem dy (w:World) (G c k:Nat) (n:Int) (A:Option Addr) (bs:List Nat) (h:Tp w G A c bs k) (h1:1≤n) (hn:n≤1000) :
 Calls Tryz.prog 27 #[.pointer (some ⟨G,0,none⟩), .int .i64 n] w fun e w'=>∃(v:Int) (k':Nat),e = .returned (.int .i64 v)∧0≤v∧v<n∧Tp w' G A c bs k'∧Kp (fun a=>a=G) w w':=by
 obtain ⟨m,rfl⟩:=Int.eq_ofNat_of_zero_le (show 0≤n by omega)
 refine (wW w G c k m A bs h (by omega) (by omega)).mono ?_
 rintro e w' ⟨v,k',rfl,hv,tp,kk⟩;exact ⟨v,k',rfl,by omega,by omega,tp,kk⟩
theorem wU:(Tryz.prog.info? 5).map (fun i=>(i.zero,i.size,i.bytes))=some (some (.int .u8 0),1,1):=by kernel_rfl
theorem sk {w:World} {B c n:Nat} {A:Option Addr} {bs:List Nat} {e t:TypeId} (h:Gr u8b e w B A c bs) (hn:n=bs.length) (hb:∀b∈bs,b<256) (hl:bs.length≤400) :
 Tp (w.alloc (.cells #[.slice A n c, .int .i64 0] t)) w.heap.size A c bs 0:=by
 subst hn;have hx:=heap_alloc_new w (.cells #[.slice A bs.length c, .int .i64 0] t);refine ⟨by go_simp,by go_simp,by go_simp,by simp,h.rd.below ((ah w.heap.size w).alloc (Nat.le_refl _) _) rfl,hb,Nat.zero_le _,hl,⟨_,_,hx,fun u hu=>?_⟩,fun _ ad e=>?_⟩
 ·simp at hu;rcases hu with rfl|rfl <;> rfl
 ·have:=(h.form.2.2 ad e).2;omega
def TpNew (w:World) (bs:List Nat) (e:Ending) (w':World):Prop:=∃(G:Nat) (A':Option Addr) (c':Nat),e = .returned (.pointer (some ⟨G,0,none⟩))∧Tp w' G A' c' bs 0∧(w.heap.size≤G∧∀ad,A'=some ad→w.heap.size≤ad.block)∧Below w.heap.size w w'
set_option maxHeartbeats 800000 in
theorem sn (w:World) (A:Option Addr) (c:Nat) (bs:List Nat) (h:Rd u8b w A bs) (hc:bs.length≤c) (hm:c≤9223372036854775807) (hb:∀b∈bs,b<256) :
 Calls Tryz.prog 21 #[.slice A bs.length c] w (TpNew w (bs.take 400)):=by
 have HR:=ag h;have HB:=ag hb;obtain ⟨L,hL⟩:∃L,bs.length=L:=⟨_,rfl⟩;have HL:=ag hL;have hlL:L≤c:=by rw [←hL];exact hc
 rw [hL];obtain ⟨i1,hi,hi0,hi1,hi2⟩:=info_parts wU;clear h hb hL hc;go_enter Tryz.func21,Tryz.ntmps21;by_cases hbig:L > 400
 ·have HT:Hid ((bs.take 400).length=400):=ag (by rw [List.length_take,HL.out];omega)
  go_upto_region 3 with fail;go_upto_region 4 with (at_builtin;refine aD _ (mk:=u8b) (fun _=>rfl) rfl _ _ 39 rfl 5 i1 (u8b 0) 1 Tryz.underlying39 hi hi0 hi1 hi2 rfl (B:=w.heap.size) (xs := []) rfl rfl (Gr.nil _ _) A _ _ (bs.take 400) rfl HT.out.symm (HR.out.take 400) (by simp only [maxLen];omega) (by omega) (Nat.le_refl _) ?_;intro AL cL w2 hgA _ hbA _)
  rw [List.nil_append] at hgA;have hs:=sk (t:=91) hgA HT.out.symm (fun b hb=>HB.out b (List.mem_of_mem_take hb)) (by have:=HT.out;omega)
  have bb:=(ah w2.heap.size w2).alloc (Nat.le_refl _) (.cells #[.slice AL 400 cL, .int .i64 0] 91);have HS:=ag hs;have HK:=ag (ai hbA bb hbA.size);have HZ:Hid (w.heap.size≤w2.heap.size∧∀ad,AL=some ad→w.heap.size≤ad.block):=ag ⟨hbA.size,fun ad e=>(hgA.form.2.2 ad e).1⟩;clear hs bb hgA hbA;go_wp2_with fail;go_ret;exact ⟨w2.heap.size,AL,cL,rfl,HS.out,HZ.out,HK.out⟩
 ·have HT:Hid (bs.take 400=bs):=ag (List.take_of_length_le (by rw [HL.out];omega))
  go_upto_region 4 with (at_builtin;refine aD _ (mk:=u8b) (fun _=>rfl) rfl _ _ 39 rfl 5 i1 (u8b 0) 1 Tryz.underlying39 hi hi0 hi1 hi2 rfl (B:=w.heap.size) (xs := []) rfl rfl (Gr.nil _ _) A _ _ bs rfl HL.out.symm HR.out (by simp only [maxLen];omega) (by omega) (Nat.le_refl _) ?_;intro AL cL w2 hgA _ hbA _)
  rw [List.nil_append] at hgA;have hs:=sk (t:=91) hgA HL.out.symm HB.out (by rw [HL.out];omega)
  have bb:=(ah w2.heap.size w2).alloc (Nat.le_refl _) (.cells #[.slice AL L cL, .int .i64 0] 91);have HS:=ag hs;have HK:=ag (ai hbA bb hbA.size);have HZ:Hid (w.heap.size≤w2.heap.size∧∀ad,AL=some ad→w.heap.size≤ad.block):=ag ⟨hbA.size,fun ad e=>(hgA.form.2.2 ad e).1⟩;clear hs bb hgA hbA;go_wp2_with fail;go_ret;exact ⟨w2.heap.size,AL,cL,rfl,by rw [HT.out];exact HS.out,HZ.out,HK.out⟩
set_option maxRecDepth 100000
open Go.RowKit
def Zl (w:World) (x:Fx):Prop:=∃z:Int,z.natAbs<64∧El w x (z:Rat)
structure Q3 (w:World) (G:Nat) (v0 v1 v2:Value):Prop where
 c0:w.cell? ⟨G,0,none⟩=some v0
 c1:w.cell? ⟨G,1,none⟩=some v1
 c2:w.cell? ⟨G,2,none⟩=some v2
 f0:w.frozen? ⟨G,0,none⟩=false
 f1:w.frozen? ⟨G,1,none⟩=false
 f2:w.frozen? ⟨G,2,none⟩=false
 lt:G<w.heap.size
 nl:NL w G
structure Zr (w:World) (B:Nat) (A:Option Addr) (c:Nat) (vs:List Fx):Prop where
 fr:Fr w B A c vs
 ni:NoI w A
 el:∀v∈vs,Zl w v
structure Zw (w:World) (s:Sl):Prop where
 rd:RdF w s.A s.vs
 cap:s.vs.length≤s.c
 el:∀v∈s.vs,Zl w v
def Fz (C:Sl) (rows:List Sl) (g:Nat):Prop:=∃s,(s=C∨s∈rows)∧s.A.map (·.block)=some g
section
variable {w w' w'':World} {S:Nat→Prop} {B G c g:Nat} {A:Option Addr} {x y:Fx} {vs:List Fx} {s C:Sl} {v0 v1 v2 u:Value}
theorem NL.kp (h:NL w g) (k:Kp S w w') (hg:¬S g):NL w' g:=by
 obtain ⟨cur,t,e,hn⟩:=h;exact ⟨cur,t,(k.block g (Array.getElem?_eq_some_iff.1 e).1 hg).trans e,hn⟩
theorem NLr.kp (h:NLr w A) (k:Kp S w w') (hA:∀g,A.map (·.block)=some g→¬S g):NLr w' A:=fun g hg=>(h g hg).kp k (hA g hg)
theorem NoI.kp (h:NoI w A) (k:Kp S w w') (hA:∀g,A.map (·.block)=some g→¬S g):NoI w' A:=fun g hg=>by
 obtain ⟨cur,t,e,hn⟩:=h g hg;exact ⟨cur,t,(k.block g (Array.getElem?_eq_some_iff.1 e).1 (hA g hg)).trans e,hn⟩
theorem NoI.nlr (h:NoI w A):NLr w A:=fun g hg=>by
 obtain ⟨cur,t,e,hn⟩:=h g hg;exact ⟨cur,t,e,fun u hu=>rN (hn u hu)⟩
theorem Zl.kp (h:Zl w x) (k:Kp S w w') (nl:∀g,S g→NL w g):Zl w' x:=by
 obtain ⟨z,hz,e⟩:=h;exact ⟨z,hz,k.ok e.ok nl,e.rp⟩
theorem Zl.below (h:Zl w x) (hb:Below w.heap.size w w'):Zl w' x:=by
 obtain ⟨z,hz,e⟩:=h;exact ⟨z,hz,e.below hb⟩
theorem Zl.ok (h:Zl w x):x.ok w:=by
 obtain ⟨_,_,e⟩:=h;exact e.ok
theorem Q3.kp (h:Q3 w G v0 v1 v2) (k:Kp S w w') (hG:¬S G):Q3 w' G v0 v1 v2:=
 ⟨(k.cell (p:=⟨G,0,none⟩) h.lt hG).trans h.c0,(k.cell (p:=⟨G,1,none⟩) h.lt hG).trans h.c1,(k.cell (p:=⟨G,2,none⟩) h.lt hG).trans h.c2,
   (k.frozen (p:=⟨G,0,none⟩) h.lt hG).trans h.f0,(k.frozen (p:=⟨G,1,none⟩) h.lt hG).trans h.f1,(k.frozen (p:=⟨G,2,none⟩) h.lt hG).trans h.f2,Nat.lt_of_lt_of_le h.lt k.size,h.nl.kp k hG⟩
theorem Q3.below (h:Q3 w G v0 v1 v2) (hb:Below w.heap.size w w'):Q3 w' G v0 v1 v2:=h.kp (fo (fun _=>False) hb) (fun h=>h)
theorem Q3.new (w:World) (v0 v1 v2:Value) (t:TypeId) (h0:isL v0=false) (h1:isL v1=false) (h2:isL v2=false):Q3 (w.alloc (.cells #[v0,v1,v2] t)) w.heap.size v0 v1 v2:=
 ⟨by go_simp,by go_simp,by go_simp,by go_simp,by go_simp,by go_simp,by simp,⟨_,_,heap_alloc_new w _,fun u hu=>by
  simp at hu;rcases hu with rfl|rfl|rfl
  ·exact h0
  ·exact h1
  ·exact h2⟩⟩
theorem Q3.set0 (h:Q3 w G v0 v1 v2) (hu:isL u=false):Q3 (w.setCell ⟨G,0,none⟩ u) G u v1 v2:=by
 have c0:=h.c0;have c1:=h.c1;have c2:=h.c2;have f0:=h.f0;have f1:=h.f1;have f2:=h.f2;exact ⟨by simp [go_sem,c0],by simp [go_sem,c1],by simp [go_sem,c2],by simp [go_sem,f0],by simp [go_sem,f1],by simp [go_sem,f2],by simpa [World.setCell] using h.lt,h.nl.set 0 hu⟩
theorem Q3.set1 (h:Q3 w G v0 v1 v2) (hu:isL u=false):Q3 (w.setCell ⟨G,1,none⟩ u) G v0 u v2:=by
 have c0:=h.c0;have c1:=h.c1;have c2:=h.c2;have f0:=h.f0;have f1:=h.f1;have f2:=h.f2;exact ⟨by simp [go_sem,c0],by simp [go_sem,c1],by simp [go_sem,c2],by simp [go_sem,f0],by simp [go_sem,f1],by simp [go_sem,f2],by simpa [World.setCell] using h.lt,h.nl.set 1 hu⟩
theorem Q3.set2 (h:Q3 w G v0 v1 v2) (hu:isL u=false):Q3 (w.setCell ⟨G,2,none⟩ u) G v0 v1 u:=by
 have c0:=h.c0;have c1:=h.c1;have c2:=h.c2;have f0:=h.f0;have f1:=h.f1;have f2:=h.f2;exact ⟨by simp [go_sem,c0],by simp [go_sem,c1],by simp [go_sem,c2],by simp [go_sem,f0],by simp [go_sem,f1],by simp [go_sem,f2],by simpa [World.setCell] using h.lt,h.nl.set 2 hu⟩
theorem rM (w:World) (g i:Nat) (v:Value):Kp (fun a=>a=g) w (w.setCell ⟨g,i,none⟩ v):=(Kp.refl (fun a=>a=g) w).set (S:=fun a=>a=g) rfl _ _
theorem Zr.nil (w:World) (B:Nat):Zr w B none 0 []:=⟨rR _ _,NoI.nil _,fun v hv=>absurd hv (by simp)⟩
theorem Zr.kp (h:Zr w B A c vs) (k:Kp S w w') (nl:∀g,S g→NL w g) (hA:∀g,A.map (·.block)=some g→¬S g):Zr w' B A c vs:=
 ⟨k.fr h.fr (fun ad e=>hA _ (by rw [e];rfl)),h.ni.kp k hA,fun v hv=>(h.el v hv).kp k nl⟩
theorem Zr.below (h:Zr w B A c vs) (hb:Below w.heap.size w w'):Zr w' B A c vs:=⟨h.fr.below hb,h.ni.below hb,fun v hv=>(h.el v hv).below hb⟩
theorem Zr.lt (h:Zr w B A c vs) (hg:A.map (·.block)=some g):B≤g∧g<w.heap.size:=h.fr.lt g hg
theorem Zr.zs (h:Zr w B A c vs):Zw w ⟨A,c,vs⟩:=⟨h.fr.rd,h.fr.caps.1,h.el⟩
theorem Zw.kp (h:Zw w s) (k:Kp S w w') (nl:∀g,S g→NL w g) (hA:∀g,s.A.map (·.block)=some g→¬S g):Zw w' s:=
 ⟨k.rdf h.rd (fun _ ad e=>hA _ (by rw [e];rfl)),h.cap,fun v hv=>(h.el v hv).kp k nl⟩
theorem Zw.below (h:Zw w s) (hb:Below w.heap.size w w'):Zw w' s:=⟨h.rd.below hb,h.cap,fun v hv=>(h.el v hv).below hb⟩
theorem Zw.ok (h:Zw w s):s.ok w:=⟨h.rd,fun v hv=>by
 obtain ⟨z,_,e⟩:=h.el v hv;exact e.ok,h.cap⟩
theorem ka (w:World) (h:Zr w B A c vs) (ad:Addr) (c2:Nat) (y:Fx) (hr:RdF w (some ad) [y]) (hy:Zl w y) (hmax:vs.length+1≤1000) (hbase:B≤w.heap.size) :
 ∃A' c' w',(Builtin.append_ #[22,22] 22 #[.slice A vs.length c, .slice (some ad) 1 c2]).run Tryz.prog w = .ok (.slice A' (vs.length+1) c') w'∧Zr w' B A' c' (vs ++ [y])∧Kp (fun a=>A.map (·.block)=some a) w w'∧(A'.map (·.block)=A.map (·.block)∨A'.map (·.block)=some w.heap.size):=by
 obtain ⟨A',c',w',hrun,h1,h3,h4,h5⟩:=fS w h.fr (some ad) c2 [y] hr hmax hbase;have h6:=lB w h.fr h.ni ad c2 [y] hr (by simp) hmax hrun
 have h7:NoI w' A':=fun g hg=>h6 g (by cases A' with
  | none=>cases hg
  | some a'=>simpa [Value.ownBlock] using hg)
 have kk:Kp (fun a=>A.map (·.block)=some a) w w':=ci h4 (fun k e=>e);refine ⟨A',c',w',hrun,⟨h1,h7,fun v hv=>?_⟩,kk,h5⟩;rcases List.mem_append.1 hv with hv|hv
 ·exact (h.el v hv).kp kk h.ni.nlr
 ·rw [List.mem_singleton] at hv;rw [hv];exact hy.kp kk h.ni.nlr
theorem iB (w:World) {ops:Array Oper} {rest:List Oper} {o:Oper} {a:Act} {Q:Exit→Act→World→Prop} (hgd:o.guard=none) (s x:Operand)
 (ho:o.op = .call { callee := .builtin .append,args := #[s,x],argTypes := #[22,22]}) (hty:o.type=22)
 {n:Nat} (hs:a.eval s = .slice A n c) (hn:n=vs.length) (h:Zr w B A c vs)
 (ad:Addr) (c2:Nat) (y:Fx) (hx:a.eval x = .slice (some ad) 1 c2) (hr:RdF w (some ad) [y]) (hy:Zl w y) (hmax:n+1≤1000) (hbase:B≤w.heap.size)
 (hK:∀A' c' w',Zr w' B A' c' (vs ++ [y])→Kp (fun a=>A.map (·.block)=some a) w w'→(A'.map (·.block)=A.map (·.block)∨A'.map (·.block)=some w.heap.size)→wpList Tryz.prog ops Q rest (a.put o.dst (.slice A' (n+1) c')) w') :
 wpList Tryz.prog ops Q (o::rest) a w:=by
 subst hn;obtain ⟨A',c',w',hrun,h1,h2,h3⟩:=ka w h ad c2 y hr hy hmax hbase;refine wpList_plain hgd fun K hK'=>?_;unfold Oper.wp execOp;simp only [ho,hty,resolve,invoke,builtin,Sem.run_bind,Sem.run_pure,Result.andThen_ok,List.map_toArray,List.map_cons,List.map_nil,hs,hx,hrun];exact hK' _ _ (hK A' c' w' h1 h2 h3)
theorem jp (w:World) {ops:Array Oper} {o:Oper} {a:Act} {K:Act→World→Prop} {Q:Exit→Act→World→Prop} {X:Prop} (hgd:o.guard=none) (s x:Operand)
 (ho:o.op = .call { callee := .builtin .append,args := #[s,x],argTypes := #[22,22]}) (hty:o.type=22)
 {n:Nat} (hs:a.eval s = .slice A n c) (hn:n=vs.length) (h:Zr w B A c vs)
 (ad:Addr) (c2:Nat) (y:Fx) (hx:a.eval x = .slice (some ad) 1 c2) (hr:RdF w (some ad) [y]) (hy:Zl w y) (hmax:n+1≤1000) (hbase:B≤w.heap.size)
 (hK:∀A' c' w',Zr w' B A' c' (vs ++ [y])→Kp (fun a=>A.map (·.block)=some a) w w'→(A'.map (·.block)=A.map (·.block)∨A'.map (·.block)=some w.heap.size)→K (a.put o.dst (.slice A' (n+1) c')) w') :
 if Region.wanted o (yielded ops a.tmps)=true then Oper.wp Tryz.prog o a w K Q else X:=by
 have hw:Region.wanted o (yielded ops a.tmps)=true:=by simp [Region.wanted,hgd]
 rw [if_pos hw];subst hn;obtain ⟨A',c',w',hrun,h1,h2,h3⟩:=ka w h ad c2 y hr hy hmax hbase;unfold Oper.wp execOp;simp only [ho,hty,resolve,invoke,builtin,Sem.run_bind,Sem.run_pure,Result.andThen_ok,List.map_toArray,List.map_cons,List.map_nil,hs,hx,hrun];exact hK A' c' w' h1 h2 h3
end
structure Pm (w:World) (B G n:Nat) (C:Sl) (A2:Option Addr) (c2:Nat) (rows:List Sl) (A3:Option Addr) (c3:Nat) (rs:List Fx):Prop where
 lt:G<B
 sz:B≤w.heap.size
 nG:NL w G
 cz:Zw w C
 gr:Gr Sl.val 22 w B A2 c2 rows
 n2:NLr w A2
 rz:∀r∈rows,Zw w r∧r.vs.length=n
 rr:Zr w B A3 c3 rs
 ge:∀g,Fz C rows g→G<g∧g<w.heap.size
 s2:∀g,Fz C rows g→A2.map (·.block)≠some g
 s3:∀g,Fz C rows g→A3.map (·.block)≠some g
 s23:∀g,A2.map (·.block)=some g→A3.map (·.block)≠some g
def Pt (G:Nat) (C:Sl) (A2:Option Addr) (rows:List Sl) (A3:Option Addr) (g:Nat):Prop:=g=G∨A2.map (·.block)=some g∨A3.map (·.block)=some g∨Fz C rows g
section
variable {w w':World} {S:Nat→Prop} {B G n c2 c3 c2' c3' g:Nat} {C r:Sl} {A2 A3 A2' A3':Option Addr} {rows:List Sl} {rs:List Fx} {y:Fx}
theorem kM {α : Type} {mk : α → Value} {e:TypeId} {c:Nat} {A:Option Addr} {xs:List α} (h:Gr mk e w B A c xs) (hg:A.map (·.block)=some g):B≤g∧g<w.heap.size:=by
 cases A with
 | none=>cases hg
 | some a=>injection hg with hg;subst hg;exact h.form.2.2 a rfl
theorem Pm.bd (h:Pm w B G n C A2 c2 rows A3 c3 rs) (hp:Pt G C A2 rows A3 g):G≤g∧g<w.heap.size:=by
 have h1:=h.lt;have h2:=h.sz;rcases hp with rfl|hp|hp|hp
 ·omega
 ·have:=kM h.gr hp;omega
 ·have:=h.rr.lt hp;omega
 ·have:=h.ge g hp;omega
theorem Pm.kp (h:Pm w B G n C A2 c2 rows A3 c3 rs) (k:Kp S w w') (nl:∀g,S g→NL w g) (hd:∀g,G<g→Pt G C A2 rows A3 g→¬S g) (nG:NL w' G):Pm w' B G n C A2 c2 rows A3 c3 rs:=by
 have h1:=h.lt;have d2:∀g,A2.map (·.block)=some g→¬S g:=fun g e=>hd g (by have:=kM h.gr e;omega) (.inr (.inl e))
 have d3:∀g,A3.map (·.block)=some g→¬S g:=fun g e=>hd g (by have:=h.rr.lt e;omega) (.inr (.inr (.inl e)))
 have d4:∀g,Fz C rows g→¬S g:=fun g e=>hd g (by have:=h.ge g e;omega) (.inr (.inr (.inr e)))
 exact ⟨h.lt,Nat.le_trans h.sz k.size,nG,h.cz.kp k nl (fun g e=>d4 g ⟨C, .inl rfl,e⟩),k.gr h.gr (fun ad e=>d2 _ (by rw [e];rfl)),h.n2.kp k d2,fun r hr=>⟨(h.rz r hr).1.kp k nl (fun g e=>d4 g ⟨r, .inr hr,e⟩),(h.rz r hr).2⟩,h.rr.kp k nl d3,fun g hg=>⟨(h.ge g hg).1,Nat.lt_of_lt_of_le (h.ge g hg).2 k.size⟩,h.s2,h.s3,h.s23⟩
theorem Pm.far (h:Pm w B G n C A2 c2 rows A3 c3 rs) (k:Kp S w w') (nl:∀g,S g→NL w g) (hd:∀g,Pt G C A2 rows A3 g→¬S g):Pm w' B G n C A2 c2 rows A3 c3 rs:=
 h.kp k nl (fun g _=>hd g) (h.nG.kp k (hd G (.inl rfl)))
theorem Pm.below (h:Pm w B G n C A2 c2 rows A3 c3 rs) (hb:Below w.heap.size w w'):Pm w' B G n C A2 c2 rows A3 c3 rs:=h.far (fo (fun _=>False) hb) (fun _ h=>h.elim) (fun _ _ h=>h)
theorem Pm.set (h:Pm w B G n C A2 c2 rows A3 c3 rs) (i:Nat) (v:Value) (hv:isL v=false):Pm (w.setCell ⟨G,i,none⟩ v) B G n C A2 c2 rows A3 c3 rs:=
 h.kp (rM w G i v) (fun g e=>by rw [e];exact h.nG) (fun g hg _ e=>by omega) (h.nG.set i hv)
theorem Fz.app (h:Fz C (rows ++ [r]) g):Fz C rows g∨r.A.map (·.block)=some g:=by
 obtain ⟨s,hs,e⟩:=h;rcases hs with hs|hs
 ·exact .inl ⟨s, .inl hs,e⟩
 ·rcases List.mem_append.1 hs with hs|hs
  ·exact .inl ⟨s, .inr hs,e⟩
  ·rw [List.mem_singleton] at hs;exact .inr (by rw [←hs];exact e)
theorem Pm.row (h:Pm w B G n C A2 c2 rows A3 c3 rs) (hr:Zw w r) (hl:r.vs.length=n) (ge:∀g,r.A.map (·.block)=some g→G<g∧g<w.heap.size) (ho:∀g,r.A.map (·.block)=some g→¬Pt G C A2 rows A3 g)
 (gr:Gr Sl.val 22 w' B A2' c2' (rows ++ [r])) (n2:NLr w' A2') (k:Kp (fun a=>A2.map (·.block)=some a) w w') (hat:A2'.map (·.block)=A2.map (·.block)∨A2'.map (·.block)=some w.heap.size):Pm w' B G n C A2' c2' (rows ++ [r]) A3 c3 rs:=by
 have h1:=h.lt;have d3:∀g,A3.map (·.block)=some g→¬A2.map (·.block)=some g:=fun g e e2=>h.s23 g e2 e;have nl:∀g,A2.map (·.block)=some g→NL w g:=h.n2;have hn:∀g,g<w.heap.size→A2.map (·.block)≠some g→A2'.map (·.block)≠some g:=fun g hg hne e=>by
  rcases hat with h|h
  ·exact hne (h.symm.trans e)
  ·rw [h] at e;injection e with e;omega
 refine ⟨h.lt,Nat.le_trans h.sz k.size,h.nG.kp k (fun e=>by have:=kM h.gr e;omega),h.cz.kp k nl (fun g e=>h.s2 g ⟨C, .inl rfl,e⟩),gr,n2,fun s hs=>?_,h.rr.kp k nl d3,fun g hg=>?_,fun g hg=>?_,fun g hg=>?_,fun g hg e=>?_⟩
 ·rcases List.mem_append.1 hs with hs|hs
  ·exact ⟨(h.rz s hs).1.kp k nl (fun g e=>h.s2 g ⟨s, .inr hs,e⟩),(h.rz s hs).2⟩
  ·rw [List.mem_singleton] at hs;rw [hs];exact ⟨hr.kp k nl (fun g e e2=>ho g e (.inr (.inl e2))),hl⟩
 ·rcases hg.app with hg|hg
  ·exact ⟨(h.ge g hg).1,Nat.lt_of_lt_of_le (h.ge g hg).2 k.size⟩
  ·exact ⟨(ge g hg).1,Nat.lt_of_lt_of_le (ge g hg).2 k.size⟩
 ·rcases hg.app with hg|hg
  ·exact hn g (h.ge g hg).2 (h.s2 g hg)
  ·exact hn g (ge g hg).2 (fun e=>ho g hg (.inr (.inl e)))
 ·rcases hg.app with hg|hg
  ·exact h.s3 g hg
  ·exact fun e=>ho g hg (.inr (.inr (.inl e)))
 ·rcases hat with h'|h'
  ·exact h.s23 g (h'.symm.trans hg) e
  ·rw [h'] at hg;injection hg with hg;have:=(h.rr.lt e).2;omega
theorem Pm.rgt (h:Pm w B G n C A2 c2 rows A3 c3 rs) {vs:List Fx} (zr:Zr w' B A3' c3' vs) (k:Kp (fun a=>A3.map (·.block)=some a) w w') (hat:A3'.map (·.block)=A3.map (·.block)∨A3'.map (·.block)=some w.heap.size):Pm w' B G n C A2 c2 rows A3' c3' vs:=by
 have h1:=h.lt;have d2:∀g,A2.map (·.block)=some g→¬A3.map (·.block)=some g:=fun g e e2=>h.s23 g e e2;have nl:∀g,A3.map (·.block)=some g→NL w g:=h.rr.ni.nlr;have hn:∀g,g<w.heap.size→A3.map (·.block)≠some g→A3'.map (·.block)≠some g:=fun g hg hne e=>by
  rcases hat with h|h
  ·exact hne (h.symm.trans e)
  ·rw [h] at e;injection e with e;omega
 exact ⟨h.lt,Nat.le_trans h.sz k.size,h.nG.kp k (fun e=>by have:=h.rr.lt e;omega),h.cz.kp k nl (fun g e=>h.s3 g ⟨C, .inl rfl,e⟩),k.gr h.gr (fun ad e=>d2 _ (by rw [e];rfl)),h.n2.kp k d2,
  fun s hs=>⟨(h.rz s hs).1.kp k nl (fun g e=>h.s3 g ⟨s, .inr hs,e⟩),(h.rz s hs).2⟩,zr,fun g hg=>⟨(h.ge g hg).1,Nat.lt_of_lt_of_le (h.ge g hg).2 k.size⟩,h.s2,fun g hg=>hn g (h.ge g hg).2 (h.s3 g hg),fun g hg=>hn g (kM h.gr hg).2 (h.s23 g hg)⟩
theorem Pm.start (w:World) (B G n:Nat) (C:Sl) (hz:Zw w C) (nG:NL w G) (lt:G<B) (sz:B≤w.heap.size) (ge:∀g,C.A.map (·.block)=some g→G<g∧g<w.heap.size):Pm w B G n C none 0 [] none 0 []:=
 ⟨lt,sz,nG,hz,Gr.nil _ _,NLr.nil _,fun r hr=>absurd hr (by simp),Zr.nil _ _,(fun g hg=>by
  obtain ⟨s,hs,e⟩:=hg;rcases hs with rfl|hs
  ·exact ge g e
  ·exact absurd hs (by simp)),(fun g _ e=>by cases e),(fun g _ e=>by cases e),(fun g e=>by cases e)⟩
end
structure Ip (w:World) (p:Pg):Prop where
 r1:1≤p.rows.length
 r2:p.rows.length≤3
 c1:1≤p.cost.vs.length
 c2:p.cost.vs.length≤5
 lb:p.right.vs.length=p.rows.length
 rd:Rd Sl.val w p.rA p.rows
 cap:p.rows.length≤p.rc
 cz:Zw w p.cost
 bz:Zw w p.right
 rz:∀r∈p.rows,Zw w r∧r.vs.length=p.cost.vs.length
theorem Ip.below {w w':World} {p:Pg} (h:Ip w p) (hb:Below w.heap.size w w'):Ip w' p:=⟨h.r1,h.r2,h.c1,h.c2,h.lb,h.rd.below hb rfl,h.cap,h.cz.below hb,h.bz.below hb,fun r hr=>⟨(h.rz r hr).1.below hb,(h.rz r hr).2⟩⟩
theorem Ip.ok {w:World} {p:Pg} (h:Ip w p):p.ok w:=⟨h.cz.ok,h.bz.ok,h.rd,fun r hr=>(h.rz r hr).1.ok,h.cap⟩
theorem Pm.ip {w:World} {B G n m c2 c3:Nat} {C:Sl} {A2 A3:Option Addr} {rows:List Sl} {rs:List Fx} (h:Pm w B G n C A2 c2 rows A3 c3 rs) (hn:C.vs.length=n) (hr:rows.length=m) (hb:rs.length=m) (n1:1≤n) (n5:n≤5) (m1:1≤m) (m3:m≤3):Ip w ⟨C,A2,c2,rows,⟨A3,c3,rs⟩⟩:=
 ⟨by rw [hr];exact m1,by rw [hr];exact m3,by rw [hn];exact n1,by rw [hn];exact n5,by rw [hr];exact hb,h.gr.rd,h.gr.form.1,h.cz,h.rr.zs,fun r hx=>⟨(h.rz r hx).1,by rw [hn];exact (h.rz r hx).2⟩⟩
end Go.Proofs.YtkpfbekmaafehaaGreat
