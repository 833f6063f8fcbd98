/- Words for intervals: blocks whose cells are known, two fractions in a block -/
import Derived.Test.YtkpfbekmaafehaaGreatFrC
import Derived.Test.YtkpfbekmaafehaaGreatFrcA
import Derived.Test.YtkpfbekmaafehaaGreatBase
import Derived.Test.YtkpfbekmaafehaaGreatSpB
import Derived.OwnWalk
import Derived.KernelRfl
import Derived.Deep.CutBlock
import Derived.Deep.DeepCutAuto
import Derived.Test.YtkpfbekmaafehaaGreatFrD
import Derived.Test.YtkpfbekmaafehaaGreatFrG
import Derived.Laws.MakeOwn
import Derived.Deep.RegionHeld3
import Derived.Laws.OwnMore
namespace Go.Proofs.YtkpfbekmaafehaaGreat
open _root_.Go.Proofs.Tryz
set_option maxRecDepth 100000
open Go.RowKit
section
variable {w w':World} {G H:Nat} {arr:Array Value}
def vV (arr:Array Value):Prop:=∀v∈arr.toList,dY v=false
end
def NoI (w:World) (A:Option Addr):Prop:=∀g,A.map (·.block)=some g->∃cur t,w.heap[g]? = some (.cells cur t (0,0))/\vV cur
theorem NoI.nil (w:World):NoI w none:=fun g h=>by cases h
theorem NoI.below {w w':World} {A:Option Addr} (h:NoI w A) (hb:Below w.heap.size w w'):NoI w' A:=fun g hg=>by
 obtain ⟨cur,t,e,hn⟩:=h g hg;have hl:g<w.heap.size:=(Array.getElem?_eq_some_iff.1 e).1;exact ⟨cur,t,(hb.block g hl).trans e,hn⟩
theorem dI (vs:List Fx):∀u∈aS vs,dY u=false:=by
 induction vs with
 | nil=>intro u hu;cases hu
 | cons v vs ih=>
   intro u hu;rw [aS] at hu;simp only [List.mem_cons] at hu;rcases hu with rfl|rfl|rfl|hu
   ·rfl
   ·rfl
   ·rfl
   ·exact ih u hu
theorem uZ:∃i z,prog.info? 29=some i/\i.zero=some z/\i.size=3/\z.cells.size=3/\i.bytes<=1000/\vV z.cells:=by
 have h:(prog.info? 29).any (fun i=>i.zero.any (fun z=>decide (z.cells.size=3) && z.cells.toList.all (fun v => !dY v)) && decide (i.size=3) && decide (i.bytes<=1000))=true:=by kernel_rfl
 cases hi:prog.info? 29 with
 | none=>rw [hi] at h;cases h
 | some i=>
   rw [hi] at h
   cases hz:i.zero with
   | none=>simp [hz] at h
   | some z=>
     simp only [hz,Option.any_some,Bool.and_eq_true,decide_eq_true_eq,List.all_eq_true,Bool.not_eq_true'] at h;exact ⟨i,z,rfl,hz,h.1.2,h.1.1.1,h.2,h.1.1.2⟩
theorem fK {z:Array Value} {n:Nat} {u:Value} (h:u∈(Builtin.zeroCells z n).toList):u∈z.toList:=by
 rw [Builtin.zeroCells,Array.toList_map,List.mem_map] at h;obtain ⟨a,ha,rfl⟩:=h;have h1:a<n*z.size:=by simpa using ha
 have hz:0<z.size:=by
  rcases Nat.eq_zero_or_pos z.size with e|e
  ·rw [e] at h1;omega
  ·exact e
 rw [getElem!_pos z (a % z.size) (Nat.mod_lt _ hz)];exact Array.mem_toList_iff.2 (Array.getElem_mem _)
theorem lB (w:World) {B c:Nat} {A:Option Addr} {xs:List Fx} (hown:Fr w B A c xs) (hno:NoI w A) (ad:Addr) (c2:Nat) (ys:List Fx) (hr:RdF w (some ad) ys) (hy:0<ys.length) (hmax:xs.length+ys.length<=1000)
 {v':Value} {w':World} (hrun:(Builtin.append_ #[22,22] 22 #[.slice A xs.length c, .slice (some ad) ys.length c2]).run prog w = .ok v' w') :
 ∀g,v'.ownBlock=some g->∃cur t,w'.heap[g]? = some (.cells cur t (0,0))/\vV cur:=by
 obtain ⟨i,z,hi,hz,hsize,hzs,hby,hzn⟩:=uZ;have hnews:∀j u,(aS ys)[j]? = some u->w.cell? (ad.add j)=some u:=by
  intro j u hu;obtain ⟨k,hk,hcase⟩:=mL ys j u hu;obtain ⟨ad',e',_,hc⟩:=hr (by omega)
  injection e' with e';subst e';obtain ⟨h0,h1,h2⟩:=hc k hk;have hoff:(ad.add (k*3)).off=ad.off+k*3:=by
   unfold Addr.add
   split
   ·rename_i h0;rw [h0];rfl
   ·rfl
  rcases hcase with ⟨rfl,rfl⟩|⟨rfl,rfl⟩|⟨rfl,rfl⟩
  ·exact h0
  ·rw [show ad.add (k*3+1)=⟨(ad.add (k*3)).block,(ad.add (k*3)).off+1,none⟩ from by rw [aM,hoff];exact if_neg (by omega)]
   exact h1
  ·rw [show ad.add (k*3+2)=⟨(ad.add (k*3)).block,(ad.add (k*3)).off+2,none⟩ from by rw [aM,hoff];exact if_neg (by omega)]
   exact h2
 have hl:(aS ys).length=ys.length*i.size:=by rw [hsize];exact dJ ys
 have hb:=Nat.mul_le_mul hmax hby;rcases hown.2 with ⟨hv,h0⟩|⟨g,cap,cur,hv,hbg,hg,hnc,hcm,hcs,htake⟩
 ·simp only [Value.slice.injEq] at hv;obtain ⟨rfl,_,rfl⟩:=hv;have hx:xs = []:=List.eq_nil_of_length_eq_zero h0;subst hx;rw [List.length_nil,run_append_nil (P:=prog) w 22 22 29 i z underlying22 hi hz ad ys.length c2 (aS ys) hl hnews hy (by simp at hmax;omega) (by simp at hb;omega)] at hrun
  injection hrun with e1 e2;subst e1 e2;intro g hg;simp [Value.ownBlock] at hg;subst hg;refine ⟨_,_,heap_alloc_new _ _,fun u hu=>?_⟩;rw [Array.toList_append,List.mem_append] at hu;rcases hu with h|h
  ·exact dI ys u (by simpa using h)
  ·exact hzn u (fK h)
 ·simp only [Value.slice.injEq] at hv;obtain ⟨rfl,_,rfl⟩:=hv;obtain ⟨cur',t',hg',hcn⟩:=hno g rfl;rw [hg] at hg';obtain ⟨rfl,rfl⟩:cur=cur'/\29=t':=by simpa using hg'
  have hxl:(aS xs).length=xs.length*i.size:=by rw [hsize];exact dJ xs
  by_cases hroom:xs.length+ys.length<=c
  ·have hfit:xs.length*i.size+(aS ys).length<=cur.size:=by
    rw [hl,hcs,<-Nat.add_mul,hsize];exact Nat.mul_le_mul_right _ hroom
   rw [run_append_room (P:=prog) w 22 22 29 i underlying22 hi g xs.length c cur hg ad ys.length c2 (aS ys) hl hnews (jd ys) hroom hfit] at hrun;injection hrun with e1 e2;subst e1 e2;intro g' hg';simp [Value.ownBlock] at hg';subst hg';refine ⟨_,_,setRow_heap w g cur _ _ _ hg,fun u hu=>?_⟩;rw [List.mem_append,List.mem_append] at hu;rcases hu with (h|h)|h
   ·exact hcn u (List.mem_of_mem_take h)
   ·exact dI ys u h
   ·exact hcn u (List.mem_of_mem_drop h)
  ·have holds:∀j u,(aS xs)[j]? = some u->w.cell? ((⟨g,0,none⟩:Addr).add j)=some u:=World.ownsRow.cells (g:=g) hown rfl;rw [run_append_grow (P:=prog) w 22 22 29 i z underlying22 hi hz ⟨g,0,none⟩ xs.length c (aS xs) hxl holds ad ys.length c2 (aS ys) hl hnews (by omega) (by omega) (growslice_fits (by omega) (by omega))] at hrun
   injection hrun with e1 e2;subst e1 e2;intro g' hg';simp [Value.ownBlock] at hg';subst hg';refine ⟨_,_,heap_alloc_new _ _,fun u hu=>?_⟩;rw [Array.toList_append,Array.toList_append,List.mem_append,List.mem_append] at hu;rcases hu with (h|h)|h
   ·exact dI xs u h
   ·exact dI ys u h
   ·exact hzn u (fK h)
theorem rR (w:World) (B:Nat):Fr w B none 0 []:=World.ownsRow_nil _ _ _ _
theorem uE (w:World) (o:Obj):(w.alloc o).heap.size=w.heap.size+1:=by simp
abbrev iv (z:Int):Value := .int .i64 z
theorem tM:(prog.info? 3).map (fun i=>(i.zero,i.size,i.bytes))=some (some (iv 0),1,8):=by kernel_rfl
theorem yi:(prog.info? 4).map (fun i=>(i.zero,i.size,i.bytes))=some (some (.bool false),1,1):=by kernel_rfl
theorem vh (vs:List Fx) (x:Fx):∀i,(((aS vs).set (i*3) (.bool x.b)).set (i*3+1) (.slice x.A x.xs.length x.c)).set (i*3+2) (.slice x.D x.ys.length x.d)=aS (vs.set i x):=by
 induction vs with
 | nil=>intro i;simp [aS]
 | cons v vs ih=>
   intro i
   cases i with
   | zero=>simp [aS]
   | succ i=>
     have e:(i+1)*3=i*3+1+1+1:=by omega
     rw [aS,e];simp only [List.set_cons_succ,aS];rw [ih i]
theorem dr:(prog.info? 29).map (fun i=>(i.zero,i.size,i.bytes))=some (some Fx.nil.val,3,56):=by kernel_rfl
theorem dm (n:Nat):(madeCells Fx.nil.val.cells (n*3)).toList=aS (List.replicate n Fx.nil):=by
 apply List.ext_getElem?
 intro i;rw [Array.getElem?_toList];simp only [madeCells,Array.getElem?_map];rcases Nat.lt_or_ge i (n*3) with h|h
 ·have hk:i/3<(List.replicate n Fx.nil).length:=by simp;omega
  obtain ⟨h0,h1,h2⟩:=gH (List.replicate n Fx.nil) (i/3) hk;rcases (show i % 3=0\/i % 3=1\/i % 3=2 by omega) with e|e|e
  ·have ei:i=i/3*3:=by omega
   rw [<-ei] at h0;rw [h0];simp [h,Value.cells,e]
  ·have ei:i=i/3*3+1:=by omega
   rw [<-ei] at h1;rw [h1];simp [h,Value.cells,e]
  ·have ei:i=i/3*3+2:=by omega
   rw [<-ei] at h2;rw [h2];simp [h,Value.cells,e]
 ·rw [List.getElem?_eq_none (by rw [dJ];simp;omega)]
  simp [h]
section
variable {w w':World} {B g H:Nat} {A:Option Addr} {c:Nat} {vs:List Fx}
theorem Fr.noI (h:Fr w B A vs.length vs):NoI w A:=fun k hk=>by
 rcases h.2 with ⟨hv,_⟩|⟨g,cap,cur,hv,_,hg,_,_,hcs,ht⟩
 ·simp only [Value.slice.injEq] at hv;obtain ⟨rfl,_,_⟩:=hv;cases hk
 ·simp only [Value.slice.injEq] at hv;obtain ⟨rfl,_,rfl⟩:=hv;simp at hk;subst hk;refine ⟨cur,_,hg,fun u hu=>dI vs u ?_⟩;rw [<-ht,List.take_of_length_le (by simp [hcs])]
  exact hu
theorem Fr.kept {row:Option Nat} (h:Fr w B A c vs) (hg:w.grownBy w' row) (hne:∀ad,A=some ad->some ad.block≠row):Fr w' B A c vs:=
 World.ownsRow.kept h hg (by
  cases A with
  | none=>exact .inl rfl
  | some ad=>exact .inr (hne ad rfl))
theorem rO (w:World) (p:Addr) (u:Value):w.grownBy (w.setCell p u) (some p.block):=
 ⟨rfl,rfl,rfl,by simp [World.setCell],fun k _ hne=>Below.heap_setCell _ _ _ _ (fun e=>hne (by rw [e]))⟩
theorem Fr.far (h:Fr w B A c vs) {p:Addr} (hp:∀ad,A=some ad->ad.block≠p.block) (u:Value):Fr (w.setCell p u) B A c vs:=
 h.kept (rO w p u) (fun ad e he=>hp ad e (Option.some.inj he))
theorem Fr.free (h:Fr w B (some ⟨g,0,none⟩) c vs) (k:Nat):w.frozen? ⟨g,k,none⟩=false:=World.ownsRow.frozenAt h k
theorem Fr.put (h:Fr w B (some ⟨g,0,none⟩) c vs) (i:Nat) (x:Fx):Fr (((w.setCell ⟨g,i*3,none⟩ (.bool x.b)).setCell ⟨g,i*3+1,none⟩ (.slice x.A x.xs.length x.c)).setCell ⟨g,i*3+2,none⟩ (.slice x.D x.ys.length x.d)) B (some ⟨g,0,none⟩) c (vs.set i x):=by
 have h1:=(World.ownsRow.stored h (i*3) (.bool x.b)).1;have h2:=(World.ownsRow.stored h1 (i*3+1) (.slice x.A x.xs.length x.c)).1;have h3:=(World.ownsRow.stored h2 (i*3+2) (.slice x.D x.ys.length x.d)).1;unfold Fr;rw [List.length_set,<-vh];exact h3
def NI (w:World) (G:Nat):Prop:=∃cur t fr,w.heap[G]? = some (.cells cur t fr)/\vV cur
theorem Nt.sepN {A:Option Addr} {c:Nat} {xs:List Nat} {G:Nat} (h:Nt w A c xs) (bk:NI w G) (hx:0<xs.length):∀ad,A=some ad->ad.block≠G:=fun ad e hG=>by
 obtain ⟨ad',e',_,hc,_⟩:=h.at 0 hx;rw [e] at e';injection e' with e';subst e';obtain ⟨cur,t,fr,hblk,hn⟩:=bk;have hb0:(ad.add 0).block=G:=by rw [aM];exact hG
 unfold World.cell? at hc;rw [hb0,hblk] at hc;simp only at hc
 split at hc
 ·cases hc
 ·have hm:=Array.mem_of_getElem? hc;have:=hn (.int .u32 (xs[0]:Int)) (by simpa using hm)
  simp [dY] at this
theorem CI {x:Fx} {i j k:Nat} {v0 v1 v2:Value} (h:x.ok w) (bk:NI w g):x.ok (((w.setCell ⟨g,i,none⟩ v0).setCell ⟨g,j,none⟩ v1).setCell ⟨g,k,none⟩ v2):=by
 constructor
 ·rcases Nat.eq_zero_or_pos x.xs.length with h0|h0
  ·exact h.num.nil_any h0 _
  ·have hs:=h.num.sepN bk h0;exact dH (dH (dH h.num hs _) hs _) hs _
 ·rcases Nat.eq_zero_or_pos x.ys.length with h0|h0
  ·exact h.den.nil_any h0 _
  ·have hs:=h.den.sepN bk h0;exact dH (dH (dH h.den hs _) hs _) hs _
theorem yV {wc:World} {i j k:Nat} {v0 v1 v2:Value} (h:Below B w wc) (hG:B<=g):Below B w (((wc.setCell ⟨g,i,none⟩ v0).setCell ⟨g,j,none⟩ v1).setCell ⟨g,k,none⟩ v2):=
 ((h.setCell (p:=⟨g,i,none⟩) hG _).setCell (p:=⟨g,j,none⟩) hG _).setCell (p:=⟨g,k,none⟩) hG _
structure Qr (w:World) (B:Nat) (A:Option Addr) (vs:List Fx):Prop where
 fr:Fr w B A vs.length vs
 ok:∀v∈vs,v.ok w
theorem Qr.below (h:Qr w B A vs) (hb:Below w.heap.size w w'):Qr w' B A vs:=⟨h.fr.below hb,fun v hv=>(h.ok v hv).below hb⟩
theorem Qr.blk (h:Qr w B (some ⟨g,0,none⟩) vs):NI w g:=by
 obtain ⟨cur,t,e,hn⟩:=h.fr.noI g rfl;exact ⟨cur,t,_,e,hn⟩
theorem Qr.lt (h:Qr w B (some ⟨g,0,none⟩) vs):B<=g/\g<w.heap.size:=h.fr.lt g rfl
theorem Qr.put (h:Qr w B (some ⟨g,0,none⟩) vs) (i:Nat) {x:Fx} (hx:x.ok w):Qr (((w.setCell ⟨g,i*3,none⟩ (.bool x.b)).setCell ⟨g,i*3+1,none⟩ (.slice x.A x.xs.length x.c)).setCell ⟨g,i*3+2,none⟩ (.slice x.D x.ys.length x.d)) B (some ⟨g,0,none⟩) (vs.set i x):=by
 have bk:=h.blk;refine ⟨by rw [List.length_set];exact h.fr.put i x,fun v hv=>?_⟩
 rcases List.mem_or_eq_of_mem_set hv with h1|h1
 ·exact CI (h.ok v h1) bk
 ·rw [h1];exact CI hx bk
theorem Qr.cells (h:Qr w B (some ⟨g,0,none⟩) vs) (k:Nat) (hk:k<vs.length):w.cell? ⟨g,k*3,none⟩=some (.bool vs[k].b)/\w.cell? ⟨g,k*3+1,none⟩=some (.slice vs[k].A vs[k].xs.length vs[k].c)/\w.cell? ⟨g,k*3+2,none⟩=some (.slice vs[k].D vs[k].ys.length vs[k].d):=by
 obtain ⟨h0,h1,h2⟩:=gH vs k hk;have hc:=fun j hj=>World.ownsRow.cellAt h.fr j hj;exact ⟨(hc (k*3) (by omega)).trans h0,(hc (k*3+1) (by omega)).trans h1,(hc (k*3+2) (by omega)).trans h2⟩
theorem Qr.free (h:Qr w B (some ⟨g,0,none⟩) vs) (k:Nat):w.frozen? ⟨g,k,none⟩=false:=h.fr.free k
end
structure Ef (w:World) (p:Addr) (x:Fx):Prop where
 lt:p.block<w.heap.size
 c0:w.cell? p=some (.bool x.b)
 c1:w.cell? ⟨p.block,p.off+1,none⟩=some (.slice x.A x.xs.length x.c)
 c2:w.cell? ⟨p.block,p.off+2,none⟩=some (.slice x.D x.ys.length x.d)
theorem Ef.below {w w':World} {p:Addr} {x:Fx} (h:Ef w p x) (hb:Below w.heap.size w w'):Ef w' p x:=
 ⟨Nat.lt_of_lt_of_le h.lt hb.size,(hb.cell (p:=p) h.lt).trans h.c0,(hb.cell (p:=⟨p.block,p.off+1,none⟩) h.lt).trans h.c1,(hb.cell (p:=⟨p.block,p.off+2,none⟩) h.lt).trans h.c2⟩
theorem RdF.at {w:World} {A:Option Addr} {vs:List Fx} (h:RdF w A vs) (k:Nat) (hk:k<vs.length):∃ad,A=some ad/\Ef w (ad.add (k*3)) vs[k]:=by
 obtain ⟨ad,e,hl,hc⟩:=h (by omega)
 obtain ⟨h0,h1,h2⟩:=hc k hk;exact ⟨ad,e,by rw [aM];exact hl,h0,h1,h2⟩
structure Nm (w:World) (x:Fx) (q:Rat):Prop where
 ok:x.ok w
 v:x.v
 q:x.q=q
 l:x.xs.length<=10000
 m:x.ys.length<=10000
theorem Nm.of {w:World} {x:Fx} {q:Rat} (h:x.ok w) (r:Rp x q) (s:Sz q 128 128):Nm w x q:=⟨h,r.v s,r.q,r.l1 s,r.l2 s⟩
theorem BH (n:Int):okS (Rat.divInt n 1)=okS (n:Rat):=by rw [Rat.divInt_eq_div];congr 1;grind
theorem BT (w:World) (x y:Fx) (p q:Rat) (hx:Nm w x p) (hy:Nm w y q) (hz:Sz (p-q) 128 128) :
 Calls prog 89 #[x.val,y.val] w fun e w'=>∃z:Fx,e = .returned (.tuple #[z.val, .int .i64 0])/\Rp z (p-q)/\Nm w' z (p-q)/\Below w.heap.size w w':=by
 refine (zV w x y _ hx.ok hy.ok hx.l hx.m hy.l hy.m (Bl hx.v hy.v hx.q hy.q hz)).mono ?_;rintro e w' ⟨z,rfl,hs,ok,bb⟩;exact ⟨z,rfl,Rp.of hs,Nm.of ok (Rp.of hs) hz,bb⟩
theorem BZ (w:World) (x y:Fx) (p q:Rat) (hx:Nm w x p) (hy:Nm w y q) (hq:q≠0) (hz:Sz (p/q) 128 128) :
 Calls prog 115 #[x.val,y.val] w fun e w'=>∃z:Fx,e = .returned (.tuple #[z.val, .int .i64 0])/\Rp z (p/q)/\Nm w' z (p/q)/\Below w.heap.size w w':=by
 have h:uR x y=okS (p/q):=by
  rw [uR,if_pos ⟨hx.v,hy.v⟩,if_neg (fun e=>hq (by rw [<-hy.q];exact (vN hy.v.1).2 e)),hx.q,hy.q];exact pl hz
 refine (zY w x y _ hx.ok hy.ok hx.l hx.m hy.l hy.m h).mono ?_;rintro e w' ⟨z,rfl,hs,ok,bb⟩;exact ⟨z,rfl,Rp.of hs,Nm.of ok (Rp.of hs) hz,bb⟩
def isL:Value->Bool | .int .u32 _=>true|_=>false
theorem rN {u:Value} (h:dY u=false):isL u=false:=by
 cases u <;> first|rfl | (simp [dY] at h)
structure Kp (S:Nat->Prop) (w w':World):Prop where
 os:w'.os=w.os
 tape:w'.tape=w.tape
 output:w'.output=w.output
 size:w.heap.size<=w'.heap.size
 block:∀k,k<w.heap.size->¬S k->w'.heap[k]? = w.heap[k]?
section
variable {S:Nat->Prop} {w w' w'':World} {B g k c:Nat} {A:Option Addr}
theorem Kp.refl (S:Nat->Prop) (w:World):Kp S w w:=⟨rfl,rfl,rfl,Nat.le_refl _,fun _ _ _=>rfl⟩
theorem Kp.trans (h:Kp S w w') (h':Kp S w' w''):Kp S w w'':=
 ⟨h'.os.trans h.os,h'.tape.trans h.tape,h'.output.trans h.output,Nat.le_trans h.size h'.size,fun k hk hS=>(h'.block k (Nat.lt_of_lt_of_le hk h.size) hS).trans (h.block k hk hS)⟩
theorem fo (S:Nat->Prop) (h:Below w.heap.size w w'):Kp S w w':=⟨h.os,h.tape,h.output,h.size,fun k hk _=>h.block k hk⟩
theorem Kp.then (h:Kp S w w') (hb:Below w'.heap.size w' w''):Kp S w w'':=h.trans (fo S hb)
theorem Kp.set (h:Kp S w w') (hg:S g) (k:Nat) (v:Value):Kp S w (w'.setCell ⟨g,k,none⟩ v):=
 h.trans ⟨rfl,rfl,rfl,by simp [World.setCell],fun i _ hi=>Below.heap_setCell _ _ _ _ (fun e=>hi (e ▸ hg))⟩
theorem Kp.set3 (h:Kp S w w') (hg:S g) (i j k:Nat) (v0 v1 v2:Value):Kp S w (((w'.setCell ⟨g,i,none⟩ v0).setCell ⟨g,j,none⟩ v1).setCell ⟨g,k,none⟩ v2):=((h.set hg i v0).set hg j v1).set hg k v2
theorem Kp.below (h:Kp S w w') (hS:∀g,S g->B<=g) (hB:B<=w.heap.size):Below B w w':=
 ⟨h.os,h.tape,h.output,h.size,fun k hk=>h.block k (Nat.lt_of_lt_of_le hk hB) (fun hs=>by have:=hS k hs;omega)⟩
theorem Kp.mono {S':Nat->Prop} (h:Kp S w w') (hS:∀g,S g->S' g):Kp S' w w':=⟨h.os,h.tape,h.output,h.size,fun k hk hn=>h.block k hk (fun hs=>hn (hS k hs))⟩
theorem Kp.cell (h:Kp S w w') {p:Addr} (hl:p.block<w.heap.size) (hp:¬S p.block):w'.cell? p=w.cell? p:=World.cell?_of_block (w:=w) (h.block p.block hl hp)
theorem Kp.frozen (h:Kp S w w') {p:Addr} (hl:p.block<w.heap.size) (hp:¬S p.block):w'.frozen? p=w.frozen? p:=World.frozen?_of_block (w:=w) (h.block p.block hl hp)
theorem Kp.rd {α : Type} {mk : α -> Value} {xs:List α} (h:Kp S w w') (r:Rd mk w A xs) (hA:0<xs.length->∀ad,A=some ad->¬S ad.block):Rd mk w' A xs:=fun hn=>by
 obtain ⟨ad,e,hl,hc⟩:=r hn;refine ⟨ad,e,Nat.lt_of_lt_of_le hl h.size,fun k hk=>?_⟩;have e2:(ad.add k).block=ad.block:=aM _ _;exact (h.cell (p:=ad.add k) (by rw [e2];exact hl) (by rw [e2];exact hA hn ad e)).trans (hc k hk)
theorem Kp.rdf {vs:List Fx} (h:Kp S w w') (r:RdF w A vs) (hA:0<vs.length->∀ad,A=some ad->¬S ad.block):RdF w' A vs:=fun hn=>by
 obtain ⟨ad,e,hl,hc⟩:=r hn;refine ⟨ad,e,Nat.lt_of_lt_of_le hl h.size,fun k hk=>?_⟩;obtain ⟨h0,h1,h2⟩:=hc k hk;have e2:(ad.add (k*3)).block=ad.block:=aM _ _;have ns:=hA hn ad e;exact ⟨(h.cell (p:=ad.add (k*3)) (by rw [e2];exact hl) (by rw [e2];exact ns)).trans h0,(h.cell (p:=⟨(ad.add (k*3)).block,_,none⟩) (by show (ad.add (k*3)).block<_;rw [e2];exact hl) (by show ¬S (ad.add (k*3)).block;rw [e2];exact ns)).trans h1,
  (h.cell (p:=⟨(ad.add (k*3)).block,_,none⟩) (by show (ad.add (k*3)).block<_;rw [e2];exact hl) (by show ¬S (ad.add (k*3)).block;rw [e2];exact ns)).trans h2⟩
def NL (w:World) (G:Nat):Prop:=∃cur t,w.heap[G]? = some (.cells cur t (0,0))/\∀u∈cur.toList,isL u=false
theorem NoI.nl (h:NoI w (some ⟨g,0,none⟩)):NL w g:=by
 obtain ⟨cur,t,e,hn⟩:=h g rfl;exact ⟨cur,t,e,fun u hu=>rN (hn u hu)⟩
theorem Qr.nl {vs:List Fx} (h:Qr w B (some ⟨g,0,none⟩) vs):NL w g:=h.fr.noI.nl
theorem NL.below (h:NL w g) (hb:Below w.heap.size w w'):NL w' g:=by
 obtain ⟨cur,t,e,hn⟩:=h;exact ⟨cur,t,(hb.block g (Array.getElem?_eq_some_iff.1 e).1).trans e,hn⟩
theorem NL.far {G:Nat} {v:Value} (h:NL w g) (hne:g≠G):NL (w.setCell ⟨G,k,none⟩ v) g:=by
 obtain ⟨cur,t,e,hn⟩:=h;exact ⟨cur,t,(Below.heap_setCell _ _ _ _ hne).trans e,hn⟩
theorem NL.set (h:NL w g) (k:Nat) {v:Value} (hv:isL v=false):NL (w.setCell ⟨g,k,none⟩ v) g:=by
 obtain ⟨cur,t,e,hn⟩:=h;refine ⟨_,t,heap_setCell_same w g k cur t v e,fun u hu=>?_⟩;rw [Array.toList_setIfInBounds] at hu;rcases List.mem_or_eq_of_mem_set hu with h1|h1
 ·exact hn u h1
 ·rw [h1];exact hv
theorem Nt.offS {xs:List Nat} (h:Nt w A c xs) (nl:∀g,S g->NL w g) (hx:0<xs.length):∀ad,A=some ad->¬S ad.block:=fun ad e hs=>by
 obtain ⟨ad',e',_,hc,_⟩:=h.at 0 hx;rw [e] at e';injection e' with e';subst e';obtain ⟨cur,t,hblk,hn⟩:=nl _ hs;unfold World.cell? at hc;rw [aM,hblk] at hc;simp only at hc
 split at hc
 ·cases hc
 ·have hm:=Array.mem_of_getElem? hc;have:=hn (.int .u32 (xs[0]:Int)) (by simpa using hm)
  simp [isL] at this
theorem Kp.nt {xs:List Nat} (h:Kp S w w') (n:Nt w A c xs) (nl:∀g,S g->NL w g):Nt w' A c xs:=⟨n.cap,n.max,n.u,h.rd n.rd (n.offS nl)⟩
theorem Kp.ok {x:Fx} (h:Kp S w w') (n:x.ok w) (nl:∀g,S g->NL w g):x.ok w':=⟨h.nt n.num nl,h.nt n.den nl⟩
theorem Kp.fr {vs:List Fx} (h:Kp S w w') (r:Fr w B A c vs) (hA:∀ad,A=some ad->¬S ad.block):Fr w' B A c vs:=by
 obtain ⟨h1,h2⟩:=r;refine ⟨h1,?_⟩;rcases h2 with h2|⟨g,cap,cur,hv,hg,hh,r⟩
 ·exact Or.inl h2
 ·simp only [Value.slice.injEq] at hv;obtain ⟨rfl,_,rfl⟩:=hv;exact Or.inr ⟨g,c,cur,rfl,hg,by rw [h.block g (Array.getElem?_eq_some_iff.1 hh).1 (hA _ rfl)];exact hh,r⟩
theorem Kp.gr {α : Type} {mk : α -> Value} {e:TypeId} {xs:List α} (h:Kp S w w') (r:Gr mk e w B A c xs) (hA:∀ad,A=some ad->¬S ad.block):Gr mk e w' B A c xs:=by
 obtain ⟨h1,h2⟩:=r;refine ⟨h1,?_⟩;rcases h2 with h2|⟨g,cap,cur,hv,hg,hh,r⟩
 ·exact Or.inl h2
 ·simp only [Value.slice.injEq] at hv;obtain ⟨rfl,_,rfl⟩:=hv;exact Or.inr ⟨g,c,cur,rfl,hg,by rw [h.block g (Array.getElem?_eq_some_iff.1 hh).1 (hA _ rfl)];exact hh,r⟩
theorem Kp.qr {vs:List Fx} (h:Kp S w w') (r:Qr w B A vs) (nl:∀g,S g->NL w g) (hA:∀ad,A=some ad->¬S ad.block):Qr w' B A vs:=⟨h.fr r.fr hA,fun v hv=>h.ok (r.ok v hv) nl⟩
end
def NLr (w:World) (A:Option Addr):Prop:=∀g,A.map (·.block)=some g->NL w g
theorem NLr.nil (w:World):NLr w none:=fun g h=>by cases h
theorem qP {P:Program} (w:World) {α : Type} {mk : α -> Value} (hone:∀x,(mk x).oneCell'=true) (hml:∀x,isL (mk x)=false) (t ty e:TypeId) (i:TypeInfo) (z:Value) (bytes:Nat) (ht:P.underlying t=some (.slice e)) (hi:P.info? e=some i) (hz:i.zero=some z)
 (hsize:i.size=1) (hby:i.bytes=bytes) (hzl:∀u∈z.cells.toList,isL u=false) {B c:Nat} {A:Option Addr} {xs:List α} (hown:Gr mk e w B A c xs) (hno:NLr w A)
 (ad:Addr) (c2:Nat) (ys:List α) (hr:Rd mk w (some ad) ys) (hy:0<ys.length) (hmax:xs.length+ys.length<=maxLen) (hbytes:(xs.length+ys.length)*bytes<=140737488355328)
 {v':Value} {w':World} (hrun:(Builtin.append_ #[t,t] ty #[.slice A xs.length c, .slice (some ad) ys.length c2]).run P w = .ok v' w'):∀g,v'.ownBlock=some g->NL w' g:=by
 have hmm:∀(l:List α),∀u∈l.map mk,isL u=false:=fun l u hu=>by
  obtain ⟨x,_,rfl⟩:=List.mem_map.1 hu;exact hml x
 have hnews:∀j u,(ys.map mk)[j]? = some u->w.cell? (ad.add j)=some u:=by
  intro j u hu;rw [List.getElem?_map] at hu;rcases Nat.lt_or_ge j ys.length with h1|h1
  ·rw [List.getElem?_eq_getElem h1] at hu;simp at hu;subst hu;obtain ⟨ad',e',_,hc⟩:=hr (by omega)
   injection e' with e';subst e';exact hc j h1
  ·rw [List.getElem?_eq_none h1] at hu;simp at hu
 have hl:(ys.map mk).length=ys.length*i.size:=by rw [hsize];simp
 rcases hown.2 with ⟨hv,h0⟩|⟨g,cap,cur,hv,hbg,hg,hnc,hcm,hcs,htake⟩
 ·simp only [Value.slice.injEq] at hv;obtain ⟨rfl,_,rfl⟩:=hv;have hx:xs = []:=List.eq_nil_of_length_eq_zero h0;subst hx;rw [List.length_nil,run_append_nil (P:=P) w t ty e i z ht hi hz ad ys.length c2 (ys.map mk) hl hnews hy (by simp [maxLen] at hmax;omega) (by rw [hby];simp at hbytes;omega)] at hrun
  injection hrun with e1 e2;subst e1 e2;intro g hg;simp [Value.ownBlock] at hg;subst hg;refine ⟨_,_,heap_alloc_new _ _,fun u hu=>?_⟩;rw [Array.toList_append,List.mem_append] at hu;rcases hu with h|h
  ·exact hmm ys u (by simpa using h)
  ·exact hzl u (fK h)
 ·simp only [Value.slice.injEq] at hv;obtain ⟨rfl,_,rfl⟩:=hv;obtain ⟨cur',t',hg',hcn⟩:=hno g rfl;rw [hg] at hg';obtain ⟨rfl,rfl⟩:cur=cur'/\e=t':=by simpa using hg'
  have hxl:(xs.map mk).length=xs.length*i.size:=by rw [hsize];simp
  by_cases hroom:xs.length+ys.length<=c
  ·have hfit:xs.length*i.size+(ys.map mk).length<=cur.size:=by
    rw [hl,hcs,<-Nat.add_mul,hsize];exact Nat.mul_le_mul_right _ hroom
   rw [run_append_room (P:=P) w t ty e i ht hi g xs.length c cur hg ad ys.length c2 (ys.map mk) hl hnews (fun u hu=>by obtain ⟨x,_,rfl⟩:=List.mem_map.1 hu;exact hone x) hroom hfit] at hrun
   injection hrun with e1 e2;subst e1 e2;intro g' hg';simp [Value.ownBlock] at hg';subst hg';refine ⟨_,_,setRow_heap w g cur _ _ _ hg,fun u hu=>?_⟩;rw [List.mem_append,List.mem_append] at hu;rcases hu with (h|h)|h
   ·exact hcn u (List.mem_of_mem_take h)
   ·exact hmm ys u h
   ·exact hcn u (List.mem_of_mem_drop h)
  ·have holds:∀j u,(xs.map mk)[j]? = some u->w.cell? ((⟨g,0,none⟩:Addr).add j)=some u:=World.ownsRow.cells (g:=g) hown rfl;rw [run_append_grow (P:=P) w t ty e i z ht hi hz ⟨g,0,none⟩ xs.length c (xs.map mk) hxl holds ad ys.length c2 (ys.map mk) hl hnews (by omega) (by simp only [maxLen] at hmax;omega) (growslice_fits (by simp only [maxLen] at hmax;omega) (by rw [hby];omega))] at hrun
   injection hrun with e1 e2;subst e1 e2;intro g' hg';simp [Value.ownBlock] at hg';subst hg';refine ⟨_,_,heap_alloc_new _ _,fun u hu=>?_⟩;rw [Array.toList_append,Array.toList_append,List.mem_append,List.mem_append] at hu;rcases hu with (h|h)|h
   ·exact hmm xs u h
   ·exact hmm ys u h
   ·exact hzl u (fK h)
theorem fD {P:Program} (w:World) {α : Type} {mk : α -> Value} (hone:∀x,(mk x).oneCell'=true) (hml:∀x,isL (mk x)=false) {ops:Array Oper} {rest:List Oper} {o:Oper} {a:Act} {Q:Exit->Act->World->Prop} (hgd:o.guard=none) (s x:Operand) (t:TypeId)
 (ho:o.op = .call { callee := .builtin .append,args := #[s,x],argTypes := #[t,t]})
 (e:TypeId) (i:TypeInfo) (z:Value) (bytes:Nat) (ht:P.underlying t=some (.slice e)) (hi:P.info? e=some i) (hz:i.zero=some z)
 (hsize:i.size=1) (hby:i.bytes=bytes) (hzs:z.cells.size=1) (hzl:∀u∈z.cells.toList,isL u=false) {B c n:Nat} {A:Option Addr} {xs:List α} (hs:a.eval s = .slice A n c) (hn:n=xs.length) (hown:Gr mk e w B A c xs) (hno:NLr w A)
 (ad:Addr) (m c2:Nat) (ys:List α) (hx:a.eval x = .slice (some ad) m c2) (hm:m=ys.length) (hr:Rd mk w (some ad) ys) (hy:0<ys.length) (hmax:n+m<=maxLen) (hbytes:(n+m)*bytes<=140737488355328) (hbase:B<=w.heap.size)
 (h:∀A' c' w',Gr mk e w' B A' c' (xs++ys)->NLr w' A'->w.grownBy w' (A.map (·.block))->Below B w w'->(A'.map (·.block)=A.map (·.block)\/A'.map (·.block)=some w.heap.size) ->
   wpList P ops Q rest (a.put o.dst (.slice A' (n+m) c')) w'):wpList P ops Q (o::rest) a w:=by
 subst hn hm;obtain ⟨A',c',w',hrun,h1,h2,h3,h4⟩:=fJ (P:=P) w hone t o.type e i z bytes ht hi hz hsize hby hzs hown (some ad) c2 ys hr hmax hbytes hbase;have h6:=qP w hone hml t o.type e i z bytes ht hi hz hsize hby hzl hown hno ad c2 ys hr hy hmax hbytes hrun
 have h7:NLr w' A':=fun g hg=>h6 g (by cases A' with
  | none=>cases hg
  | some a'=>simpa [Value.ownBlock] using hg)
 refine wpList_plain hgd fun K hK=>?_;unfold Oper.wp execOp;simp only [ho,resolve,invoke,builtin,Sem.run_bind,Sem.run_pure,Result.andThen_ok,List.map_toArray,List.map_cons,List.map_nil,hs,hx,hrun];exact hK _ _ (h A' c' w' h1 h7 h2 h3 h4)
theorem ci {w w':World} {row:Option Nat} {S:Nat->Prop} (hg:w.grownBy w' row) (hS:∀k,row=some k->S k):Kp S w w':=
 ⟨hg.os,hg.tape,hg.output,hg.size,fun k hk hn=>hg.block k hk (fun e=>hn (hS k e.symm))⟩
theorem oP (N:Nat) (hN:N<=1000) (w:World):(Instr.makeSlice 22 (.int .i64 (N:Int)) (.int .i64 (N:Int))).run prog w = .ok (.slice (some ⟨w.heap.size,0,none⟩) N N) (w.alloc (.cells (madeCells Fx.nil.val.cells (N*3)) 29)):=by
 obtain ⟨i1,hi,hi0,hi1,hi2⟩:=info_parts dr;have h:=run_makeSlice (P:=prog) (w:=w) 22 29 i1 Fx.nil.val underlying22 hi hi0 .i64 .i64 (N:Int) (N:Int) (by omega) (Int.le_refl _) (by rw [hi1,Int.toNat_natCast];omega) (by rw [hi2];omega) (by omega)
 rw [hi1] at h;simpa only [Int.toNat_natCast] using h
theorem Bs (w:World) (N B:Nat) (hN:N<=1000) (hB:B<=w.heap.size):Qr (w.alloc (.cells (madeCells Fx.nil.val.cells (N*3)) 29)) B (some ⟨w.heap.size,0,none⟩) (List.replicate N Fx.nil):=by
 refine ⟨?_,fun v hv=>by rw [List.eq_of_mem_replicate hv];exact Fx.nil_ok _⟩
 unfold Fr;rw [List.length_replicate,<-dm];exact World.ownsRow_lit w _ N hB (by simp only [maxLen];omega) (size_madeCells _ _)
structure El (w:World) (x:Fx) (q:Rat):Prop where
 ok:x.ok w
 rp:Rp x q
theorem El.below {w w':World} {x:Fx} {q:Rat} (h:El w x q) (hb:Below w.heap.size w w'):El w' x q:=⟨h.ok.below hb,h.rp⟩
theorem El.nm {w:World} {x:Fx} {q:Rat} (h:El w x q) (s:Sz q 128 128):Nm w x q:=Nm.of h.ok h.rp s
end Go.Proofs.YtkpfbekmaafehaaGreat
