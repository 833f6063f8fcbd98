/- The walk of drydockref16.modest -/
import Derived.Test.YtkpfbekmaafehaaGreatSxC
import Derived.Test.YtkpfbekmaafehaaGreatRfB
import Derived.Test.YtkpfbekmaafehaaGreatSpB
import Derived.Test.YtkpfbekmaafehaaGreatSqN
import Derived.Test.YtkpfbekmaafehaaGreatRows
import Derived.Test.YtkpfbekmaafehaaGreatBase
import Derived.ProofKit
import Derived.OpenShut
import Derived.ShutString
import Derived.ChangeOld
import Derived.Below
import Derived.Test.YtkpfbekmaafehaaGreatSqW
import Derived.Test.YtkpfbekmaafehaaGreatSrD
import Derived.Test.YtkpfbekmaafehaaGreatSqL
import Derived.Test.YtkpfbekmaafehaaGreatSvC
import Derived.Lib.SmallJoins
import Derived.Test.YtkpfbekmaafehaaGreatFrcA
namespace Go.Proofs.YtkpfbekmaafehaaGreat
set_option maxRecDepth 100000
open Go.RowKit
open Go.ChangeShapes Go.WideShapes Go.ChangeAt Go.RowKit
theorem zC:ownKnob Tryz.prog.godebug=none:=by kernel_rfl
structure Q3 (w:World) (G:Nat) (v0 v1 v2:Value):Prop where
 c0:w.cell? ⟨G,0,none⟩=some v0
 c1:w.cell? ⟨G,1,none⟩=some v1
 c2:w.cell? ⟨G,2,none⟩=some v2
 f0:w.frozen? ⟨G,0,none⟩=false
 f1:w.frozen? ⟨G,1,none⟩=false
 f2:w.frozen? ⟨G,2,none⟩=false
 lt:G<w.heap.size
 nl:NL w G
section
variable {w w' w'':World} {S:Nat->Prop} {B G c g:Nat} {A:Option Addr} {x y:Fx} {vs:List Fx} {s C:Sl} {v0 v1 v2 u:Value}
theorem Q3.kp (h:Q3 w G v0 v1 v2) (k:Kp S w w') (hG:¬S G):Q3 w' G v0 v1 v2:=
 ⟨(k.cell (p:=⟨G,0,none⟩) h.lt hG).trans h.c0,(k.cell (p:=⟨G,1,none⟩) h.lt hG).trans h.c1,(k.cell (p:=⟨G,2,none⟩) h.lt hG).trans h.c2,
   (k.frozen (p:=⟨G,0,none⟩) h.lt hG).trans h.f0,(k.frozen (p:=⟨G,1,none⟩) h.lt hG).trans h.f1,(k.frozen (p:=⟨G,2,none⟩) h.lt hG).trans h.f2,Nat.lt_of_lt_of_le h.lt k.size,h.nl.kp k hG⟩
theorem Q3.below (h:Q3 w G v0 v1 v2) (hb:Below w.heap.size w w'):Q3 w' G v0 v1 v2:=h.kp (fo (fun _=>False) hb) (fun h=>h)
theorem Q3.new (w:World) (v0 v1 v2:Value) (t:TypeId) (h0:isL v0=false) (h1:isL v1=false) (h2:isL v2=false):Q3 (w.alloc (.cells #[v0,v1,v2] t)) w.heap.size v0 v1 v2:=
 ⟨by go_simp,by go_simp,by go_simp,by go_simp,by go_simp,by go_simp,by simp,⟨_,_,heap_alloc_new w _,fun u hu=>by
  simp at hu;rcases hu with rfl|rfl|rfl
  ·exact h0
  ·exact h1
  ·exact h2⟩⟩
theorem Q3.set0 (h:Q3 w G v0 v1 v2) (hu:isL u=false):Q3 (w.setCell ⟨G,0,none⟩ u) G u v1 v2:=by
 have c0:=h.c0;have c1:=h.c1;have c2:=h.c2;have f0:=h.f0;have f1:=h.f1;have f2:=h.f2;exact ⟨by simp [go_sem,c0],by simp [go_sem,c1],by simp [go_sem,c2],by simp [go_sem,f0],by simp [go_sem,f1],by simp [go_sem,f2],by simpa [World.setCell] using h.lt,h.nl.set 0 hu⟩
theorem Q3.set1 (h:Q3 w G v0 v1 v2) (hu:isL u=false):Q3 (w.setCell ⟨G,1,none⟩ u) G v0 u v2:=by
 have c0:=h.c0;have c1:=h.c1;have c2:=h.c2;have f0:=h.f0;have f1:=h.f1;have f2:=h.f2;exact ⟨by simp [go_sem,c0],by simp [go_sem,c1],by simp [go_sem,c2],by simp [go_sem,f0],by simp [go_sem,f1],by simp [go_sem,f2],by simpa [World.setCell] using h.lt,h.nl.set 1 hu⟩
theorem Q3.set2 (h:Q3 w G v0 v1 v2) (hu:isL u=false):Q3 (w.setCell ⟨G,2,none⟩ u) G v0 v1 u:=by
 have c0:=h.c0;have c1:=h.c1;have c2:=h.c2;have f0:=h.f0;have f1:=h.f1;have f2:=h.f2;exact ⟨by simp [go_sem,c0],by simp [go_sem,c1],by simp [go_sem,c2],by simp [go_sem,f0],by simp [go_sem,f1],by simp [go_sem,f2],by simpa [World.setCell] using h.lt,h.nl.set 2 hu⟩
end
theorem vA.below {w w':World} {p:Pg} {s:Sn} (h:vA w p s) (hb:Below w.heap.size w w'):vA w' p s:=⟨h.ok.below hb,h.sm,h.chk⟩
open Go.Joins Go.ChangeShapes Go.WideShapes Go.ChangeAt Go.RowKit
theorem Cz {z:Int} (h:(Lit.int .u8 z).wf=true):0<=z/\z<=255:=by
 simp [Lit.wf,IntKind.min,IntKind.max,IntKind.signed,IntKind.bits] at h;omega
theorem vA.nmv {w:World} {p:Pg} {s:Sn} (h:vA w p s):Nm w s.v s.v.q:=⟨h.ok.v,(h.chk.V.v 0 (by simp)).1,rfl,h.sm.ev.1,h.sm.ev.2⟩
section
variable {P:Program} {md:Region.Mode} {ops:Array Oper} {Q:Exit->Act->World->Prop} {S:World->Prop} {k:Nat} {SU:List dC}
theorem count_upd {ls:List Bool} {i:Nat} (h:ls.getD i true=false):(ls.set i true).count false+1=ls.count false:=by
 induction ls generalizing i with
 | nil=>simp at h
 | cons b ls ih=>
   cases i with
   | zero=>
     simp at h;subst h;simp
   | succ i=>
     have:=ih (i:=i) (by simpa using h)
     simp only [List.set_cons_succ,List.count_cons];omega
theorem jL.walk (HU:pP md ops SU) (I:List Bool->Act->World->Prop)
 (hstep:∀ls a w i,I ls a w->i<k->tf SU ls i=true->wpOp P ops Q i (fun a2 w2=>S w2/\I (ls.set i true) a2 w2) a w)
 (hmore:∀ls a w,I ls a w->(∀i,i<k->ls.getD i true=true)\/((∃i,tf SU ls i=true/\i<SU.length)/\∀j,k<=j->tf SU ls j=false))
 (hfin:∀f ls a w,I ls a w->(∀i,i<k->ls.getD i true=true)->f=ls.count false->jL P md ops Q S k f ls.toArray a w) :
 ∀f ls a w,I ls a w->f=ls.count false->jL P md ops Q S k f ls.toArray a w
 | 0,ls,a,w,h,hf=>by
   rcases hmore ls a w h with h1|⟨⟨i,hi,hl⟩,_⟩
   ·exact hfin 0 ls a w h h1 hf
   ·have hu:ls.getD i true=false:=by
     rw [tf] at hi;have:=(Bool.and_eq_true _ _ ▸ hi).1;simpa using this
    have:=count_upd hu;omega
 | f+1,ls,a,w,h,hf=>by
   rcases hmore ls a w h with h1|⟨⟨i,hi,hl⟩,hj⟩
   ·exact hfin (f+1) ls a w h h1 hf
   ·refine ⟨fun h0=>?_,fun j hjr=>?_⟩
    ·have hm:i∈xD SU ls:=by
      rw [xD,List.mem_filter,List.mem_range];exact ⟨hl,hi⟩
     rw [<-Br HU.o.2,h0] at hm;cases hm
    ·have hm:j∈xD SU ls:=by rw [<-Br HU.o.2];exact hjr
     rw [xD,List.mem_filter] at hm;have hjk:j<k:=by
      rcases Nat.lt_or_ge j k with h2|h2
      ·exact h2
      ·rw [hj j h2] at hm;cases hm.2
     have hu:ls.getD j true=false:=by
      have h3:=hm.2;rw [tf] at h3;have:=(Bool.and_eq_true _ _ ▸ h3).1;simpa using this
     refine wpOp_mono (fun a2 w2 h2=>⟨fun _=>h2.1,?_⟩) (hstep ls a w j h hjk hm.2);have e:ls.toArray.setIfInBounds j true=(ls.set j true).toArray:=by simp
     rw [e];exact jL.walk HU I hstep hmore hfin f _ a2 w2 h2.2 (by have:=count_upd hu;omega)
end
def Lz (w:World) (l:Nat) (arr:Array Value) (t:TypeId):Prop:=w.heap[l]? = some (.cells arr t (0,0))
section
variable {w w':World} {S:Nat->Prop} {l g:Nat} {arr:Array Value} {t:TypeId}
theorem Lz.lt (h:Lz w l arr t):l<w.heap.size:=(Array.getElem?_eq_some_iff.1 h).1
theorem Lz.kp (h:Lz w l arr t) (k:Kp S w w') (hl:¬S l):Lz w' l arr t:=(k.block l h.lt hl).trans h
theorem Lz.new (w:World) (arr:Array Value) (t:TypeId):Lz (w.alloc (.cells arr t)) w.heap.size arr t:=heap_alloc_new w _
theorem Lz.rd {s:Sl} (h:Lz w l #[s.val] t):Rd Sl.val w (some ⟨l,0,none⟩) [s]:=fun _=>⟨_,rfl,h.lt,fun k hk=>by
 have hk0:k=0:=by simp at hk;omega
 subst hk0
 show w.cell? ⟨l,0,none⟩=some s.val
 unfold Lz at h;simp [World.cell?,h]⟩
theorem Lz.rdf {x:Fx} (h:Lz w l x.cells t):RdF w (some ⟨l,0,none⟩) [x]:=fun _=>⟨_,rfl,h.lt,fun k hk=>by
 have hk0:k=0:=by simp at hk;omega
 subst hk0;unfold Lz at h;refine ⟨?_,?_,?_⟩ <;> simp [World.cell?,Addr.add,h]⟩
theorem lz_ne {a b:Array Value} {t u:TypeId} (h:Lz w g a t) (k:Lz w l b u) (hn:t≠u):¬g=l:=fun e=>by
 subst e;unfold Lz at h k;rw [h] at k;injection k with k;injection k with _ k;exact hn k
end
theorem fp_ne:(29:TypeId)≠25:=by decide
theorem sp_ne:(22:TypeId)≠25:=by decide
def LW (b0 b1 b6 b7 b8 b10 b11 b12:Bool):List Bool := [b0,b1,true,true,true,true,b6,b7,b8,true,b10,b11,b12,false]
def AW9 (a0:Act) (v0 v1 v6 v7 v8 v10 v11 v12:Value):Act:=((((((((a0.put (some 19) v0).put (some 20) v1).put (some 25) v6).put (some 26) v7).put (some 27) v8).put (some 29) v10).put (some 30) v11).put (some 6) v12)
def SUW:List dC := [(some 19,[],[],none),(some 20,[19],[0],none),(some 21,[1],[],none),(some 22,[21],[2],none),(some 23,[22],[3],none),(some 24,[23],[4],none),(some 25,[24],[5,0],none),(some 26,[25],[6],none),(some 27,[26],[7],none),(some 28,[5],[],none),(some 29,[28],[9],none),(some 30,[20,27,29],[1,8,10],none),(some 6,[],[],none),(none,[6,30],[12,11,6,0,1,2,3,4,5,6,7,8,9,10,11,12],none)]
def CW9 (b0 b1 b6 b7 b8 b10 b11 _:Bool):Prop:=(b1=true->b0=true)/\(b6=true->b0=true)/\(b7=true->b6=true)/\(b8=true->b7=true)/\(b11=true->b1=true/\b8=true/\b10=true)
theorem moreW {b0 b1 b6 b7 b8 b10 b11 b12:Bool} (h:CW9 b0 b1 b6 b7 b8 b10 b11 b12):(∀i,i<13->(LW b0 b1 b6 b7 b8 b10 b11 b12).getD i true=true)\/((∃i,tf SUW (LW b0 b1 b6 b7 b8 b10 b11 b12) i=true/\i<SUW.length)/\∀j,13<=j->tf SUW (LW b0 b1 b6 b7 b8 b10 b11 b12) j=false):=by
 obtain ⟨h1,h6,h7,h8,h11⟩:=h;by_cases all:b11=true/\b12=true
 ·obtain ⟨rfl,rfl⟩:=all;obtain ⟨rfl,rfl,rfl⟩:=h11 rfl;obtain rfl:=h8 rfl;obtain rfl:=h7 rfl;obtain rfl:=h6 rfl;exact .inl (by decide)
 ·refine .inr ⟨?_,fun j hj=>?_⟩
  ·cases b0
   ·exact ⟨0,rfl,by decide⟩
   cases b1
   ·exact ⟨1,rfl,by decide⟩
   cases b6
   ·exact ⟨6,rfl,by decide⟩
   cases b7
   ·exact ⟨7,rfl,by decide⟩
   cases b8
   ·exact ⟨8,rfl,by decide⟩
   cases b10
   ·exact ⟨10,rfl,by decide⟩
   cases b11
   ·exact ⟨11,rfl,by decide⟩
   cases b12
   ·exact ⟨12,rfl,by decide⟩
   exact absurd ⟨rfl,rfl⟩ all
  ·rcases Nat.lt_or_ge j 14 with hj2|hj2
   ·obtain rfl:j=13:=by omega
    cases hr:tf SUW (LW b0 b1 b6 b7 b8 b10 b11 b12) 13 with
    | false=>rfl
    | true=>
      exfalso
      simp [tf,SUW,LW] at hr;exact all (by grind)
   ·rw [tf,List.getElem?_eq_none (by show 14<=j;exact hj2)]
    simp
theorem cW_0 {b0 b1 b6 b7 b8 b10 b11 b12:Bool} (hr:tf SUW (LW b0 b1 b6 b7 b8 b10 b11 b12) 0=true):b0=false:=by
 simp [tf,SUW,LW] at hr
 grind
theorem cW_1 {b0 b1 b6 b7 b8 b10 b11 b12:Bool} (hr:tf SUW (LW b0 b1 b6 b7 b8 b10 b11 b12) 1=true):b1=false/\b0=true:=by
 simp [tf,SUW,LW] at hr
 grind
theorem cW_6 {b0 b1 b6 b7 b8 b10 b11 b12:Bool} (hr:tf SUW (LW b0 b1 b6 b7 b8 b10 b11 b12) 6=true):b6=false/\b0=true:=by
 simp [tf,SUW,LW] at hr
 grind
theorem cW_7 {b0 b1 b6 b7 b8 b10 b11 b12:Bool} (hr:tf SUW (LW b0 b1 b6 b7 b8 b10 b11 b12) 7=true):b7=false/\b6=true:=by
 simp [tf,SUW,LW] at hr
 grind
theorem cW_8 {b0 b1 b6 b7 b8 b10 b11 b12:Bool} (hr:tf SUW (LW b0 b1 b6 b7 b8 b10 b11 b12) 8=true):b8=false/\b7=true:=by
 simp [tf,SUW,LW] at hr
 grind
theorem cW_10 {b0 b1 b6 b7 b8 b10 b11 b12:Bool} (hr:tf SUW (LW b0 b1 b6 b7 b8 b10 b11 b12) 10=true):b10=false:=by
 simp [tf,SUW,LW] at hr
 grind
theorem cW_11 {b0 b1 b6 b7 b8 b10 b11 b12:Bool} (hr:tf SUW (LW b0 b1 b6 b7 b8 b10 b11 b12) 11=true):b11=false/\b1=true/\b8=true/\b10=true:=by
 simp [tf,SUW,LW] at hr
 grind
theorem cW_12 {b0 b1 b6 b7 b8 b10 b11 b12:Bool} (hr:tf SUW (LW b0 b1 b6 b7 b8 b10 b11 b12) 12=true):b12=false:=by
 simp [tf,SUW,LW] at hr
 grind
theorem walkW {P:Program} {md:Region.Mode} {ops:Array Oper} {Q:Exit->Act->World->Prop} {S:World->Prop} {a0:Act} (HU:pP md ops SUW) {o0 o1 o6 o7 o8 o10 o11 o12:Oper} (ho0:ops[0]? = some o0) (ho1:ops[1]? = some o1) (ho6:ops[6]? = some o6) (ho7:ops[7]? = some o7) (ho8:ops[8]? = some o8) (ho10:ops[10]? = some o10) (ho11:ops[11]? = some o11) (ho12:ops[12]? = some o12)
 (J:Bool->Bool->Bool->Bool->Bool->Bool->Bool->Bool->Value->Value->Value->Value->Value->Value->Value->Value->World->Prop)
 (s0:∀(b0 b1 b6 b7 b8 b10 b11 b12:Bool) (v0 v1 v6 v7 v8 v10 v11 v12:Value) (w:World),CW9 b0 b1 b6 b7 b8 b10 b11 b12->b0=false->J b0 b1 b6 b7 b8 b10 b11 b12 v0 v1 v6 v7 v8 v10 v11 v12 w->∀K':Act->World->Prop,Shut (∀u w2,S w2->J true b1 b6 b7 b8 b10 b11 b12 u v1 v6 v7 v8 v10 v11 v12 w2->K' (AW9 a0 u v1 v6 v7 v8 v10 v11 v12) w2)->∀a:Act,AW9 a0 v0 v1 v6 v7 v8 v10 v11 v12=a->if Region.wanted o0 (yielded ops a.tmps)=true then Oper.wp P o0 a w K' Q else K' (a.put o0.dst undef) w)
 (s1:∀(b0 b1 b6 b7 b8 b10 b11 b12:Bool) (v0 v1 v6 v7 v8 v10 v11 v12:Value) (w:World),CW9 b0 b1 b6 b7 b8 b10 b11 b12->b1=false->b0=true->J b0 b1 b6 b7 b8 b10 b11 b12 v0 v1 v6 v7 v8 v10 v11 v12 w->∀K':Act->World->Prop,Shut (∀u w2,S w2->J b0 true b6 b7 b8 b10 b11 b12 v0 u v6 v7 v8 v10 v11 v12 w2->K' (AW9 a0 v0 u v6 v7 v8 v10 v11 v12) w2)->∀a:Act,AW9 a0 v0 v1 v6 v7 v8 v10 v11 v12=a->if Region.wanted o1 (yielded ops a.tmps)=true then Oper.wp P o1 a w K' Q else K' (a.put o1.dst undef) w)
 (s6:∀(b0 b1 b6 b7 b8 b10 b11 b12:Bool) (v0 v1 v6 v7 v8 v10 v11 v12:Value) (w:World),CW9 b0 b1 b6 b7 b8 b10 b11 b12->b6=false->b0=true->J b0 b1 b6 b7 b8 b10 b11 b12 v0 v1 v6 v7 v8 v10 v11 v12 w->∀K':Act->World->Prop,Shut (∀u w2,S w2->J b0 b1 true b7 b8 b10 b11 b12 v0 v1 u v7 v8 v10 v11 v12 w2->K' (AW9 a0 v0 v1 u v7 v8 v10 v11 v12) w2)->∀a:Act,AW9 a0 v0 v1 v6 v7 v8 v10 v11 v12=a->if Region.wanted o6 (yielded ops a.tmps)=true then Oper.wp P o6 a w K' Q else K' (a.put o6.dst undef) w)
 (s7:∀(b0 b1 b6 b7 b8 b10 b11 b12:Bool) (v0 v1 v6 v7 v8 v10 v11 v12:Value) (w:World),CW9 b0 b1 b6 b7 b8 b10 b11 b12->b7=false->b6=true->J b0 b1 b6 b7 b8 b10 b11 b12 v0 v1 v6 v7 v8 v10 v11 v12 w->∀K':Act->World->Prop,Shut (∀u w2,S w2->J b0 b1 b6 true b8 b10 b11 b12 v0 v1 v6 u v8 v10 v11 v12 w2->K' (AW9 a0 v0 v1 v6 u v8 v10 v11 v12) w2)->∀a:Act,AW9 a0 v0 v1 v6 v7 v8 v10 v11 v12=a->if Region.wanted o7 (yielded ops a.tmps)=true then Oper.wp P o7 a w K' Q else K' (a.put o7.dst undef) w)
 (s8:∀(b0 b1 b6 b7 b8 b10 b11 b12:Bool) (v0 v1 v6 v7 v8 v10 v11 v12:Value) (w:World),CW9 b0 b1 b6 b7 b8 b10 b11 b12->b8=false->b7=true->J b0 b1 b6 b7 b8 b10 b11 b12 v0 v1 v6 v7 v8 v10 v11 v12 w->∀K':Act->World->Prop,Shut (∀u w2,S w2->J b0 b1 b6 b7 true b10 b11 b12 v0 v1 v6 v7 u v10 v11 v12 w2->K' (AW9 a0 v0 v1 v6 v7 u v10 v11 v12) w2)->∀a:Act,AW9 a0 v0 v1 v6 v7 v8 v10 v11 v12=a->if Region.wanted o8 (yielded ops a.tmps)=true then Oper.wp P o8 a w K' Q else K' (a.put o8.dst undef) w)
 (s10:∀(b0 b1 b6 b7 b8 b10 b11 b12:Bool) (v0 v1 v6 v7 v8 v10 v11 v12:Value) (w:World),CW9 b0 b1 b6 b7 b8 b10 b11 b12->b10=false->J b0 b1 b6 b7 b8 b10 b11 b12 v0 v1 v6 v7 v8 v10 v11 v12 w->∀K':Act->World->Prop,Shut (∀u w2,S w2->J b0 b1 b6 b7 b8 true b11 b12 v0 v1 v6 v7 v8 u v11 v12 w2->K' (AW9 a0 v0 v1 v6 v7 v8 u v11 v12) w2)->∀a:Act,AW9 a0 v0 v1 v6 v7 v8 v10 v11 v12=a->if Region.wanted o10 (yielded ops a.tmps)=true then Oper.wp P o10 a w K' Q else K' (a.put o10.dst undef) w)
 (s11:∀(b0 b1 b6 b7 b8 b10 b11 b12:Bool) (v0 v1 v6 v7 v8 v10 v11 v12:Value) (w:World),CW9 b0 b1 b6 b7 b8 b10 b11 b12->b11=false->b1=true->b8=true->b10=true->J b0 b1 b6 b7 b8 b10 b11 b12 v0 v1 v6 v7 v8 v10 v11 v12 w->∀K':Act->World->Prop,Shut (∀u w2,S w2->J b0 b1 b6 b7 b8 b10 true b12 v0 v1 v6 v7 v8 v10 u v12 w2->K' (AW9 a0 v0 v1 v6 v7 v8 v10 u v12) w2)->∀a:Act,AW9 a0 v0 v1 v6 v7 v8 v10 v11 v12=a->if Region.wanted o11 (yielded ops a.tmps)=true then Oper.wp P o11 a w K' Q else K' (a.put o11.dst undef) w)
 (s12:∀(b0 b1 b6 b7 b8 b10 b11 b12:Bool) (v0 v1 v6 v7 v8 v10 v11 v12:Value) (w:World),CW9 b0 b1 b6 b7 b8 b10 b11 b12->b12=false->J b0 b1 b6 b7 b8 b10 b11 b12 v0 v1 v6 v7 v8 v10 v11 v12 w->∀K':Act->World->Prop,Shut (∀u w2,S w2->J b0 b1 b6 b7 b8 b10 b11 true v0 v1 v6 v7 v8 v10 v11 u w2->K' (AW9 a0 v0 v1 v6 v7 v8 v10 v11 u) w2)->∀a:Act,AW9 a0 v0 v1 v6 v7 v8 v10 v11 v12=a->if Region.wanted o12 (yielded ops a.tmps)=true then Oper.wp P o12 a w K' Q else K' (a.put o12.dst undef) w)
 (fin:∀(v0 v1 v6 v7 v8 v10 v11 v12:Value) (w:World),J true true true true true true true true v0 v1 v6 v7 v8 v10 v11 v12 w->jL P md ops Q S 13 1 (LW true true true true true true true true).toArray (AW9 a0 v0 v1 v6 v7 v8 v10 v11 v12) w)
 {v0 v1 v6 v7 v8 v10 v11 v12:Value} {w:World} (h0:AW9 a0 v0 v1 v6 v7 v8 v10 v11 v12=a0) (hJ:J false false false false false false false false v0 v1 v6 v7 v8 v10 v11 v12 w):jL P md ops Q S 13 9 (LW false false false false false false false false).toArray a0 w:=by
 refine jL.walk HU (fun ls a w=>∃b0 b1 b6 b7 b8 b10 b11 b12 v0 v1 v6 v7 v8 v10 v11 v12,ls=LW b0 b1 b6 b7 b8 b10 b11 b12/\CW9 b0 b1 b6 b7 b8 b10 b11 b12/\a=AW9 a0 v0 v1 v6 v7 v8 v10 v11 v12/\J b0 b1 b6 b7 b8 b10 b11 b12 v0 v1 v6 v7 v8 v10 v11 v12 w) ?_ ?_ ?_ 9 _ a0 w ⟨false,false,false,false,false,false,false,false,v0,v1,v6,v7,v8,v10,v11,v12,rfl,by unfold CW9;decide,h0.symm,hJ⟩ (by decide)
 ·rintro ls a w i ⟨b0,b1,b6,b7,b8,b10,b11,b12,v0,v1,v6,v7,v8,v10,v11,v12,rfl,hc,rfl,hj⟩ hi hr;have hi2:i=0\/i=1\/i=2\/i=3\/i=4\/i=5\/i=6\/i=7\/i=8\/i=9\/i=10\/i=11\/i=12:=by omega
  rcases hi2 with rfl|rfl|rfl|rfl|rfl|rfl|rfl|rfl|rfl|rfl|rfl|rfl|rfl
  ·have e:=cW_0 hr;refine wpOp_step ho0 (fun K' hK=>s0 b0 b1 b6 b7 b8 b10 b11 b12 v0 v1 v6 v7 v8 v10 v11 v12 w hc e hj K' (fun u w2 hS hj2=>hK _ _ ⟨hS,true,b1,b6,b7,b8,b10,b11,b12,_,_,_,_,_,_,_,_,rfl,?_,rfl,hj2⟩) _ rfl);obtain ⟨h1,h6,h7,h8,h11⟩:=hc;refine ⟨?_,?_,?_,?_,?_⟩ <;> grind
  ·obtain ⟨e,d0⟩:=cW_1 hr;refine wpOp_step ho1 (fun K' hK=>s1 b0 b1 b6 b7 b8 b10 b11 b12 v0 v1 v6 v7 v8 v10 v11 v12 w hc e d0 hj K' (fun u w2 hS hj2=>hK _ _ ⟨hS,b0,true,b6,b7,b8,b10,b11,b12,_,_,_,_,_,_,_,_,rfl,?_,rfl,hj2⟩) _ rfl);obtain ⟨h1,h6,h7,h8,h11⟩:=hc;refine ⟨?_,?_,?_,?_,?_⟩ <;> grind
  ·simp [tf,SUW,LW] at hr
  ·simp [tf,SUW,LW] at hr
  ·simp [tf,SUW,LW] at hr
  ·simp [tf,SUW,LW] at hr
  ·obtain ⟨e,d0⟩:=cW_6 hr;refine wpOp_step ho6 (fun K' hK=>s6 b0 b1 b6 b7 b8 b10 b11 b12 v0 v1 v6 v7 v8 v10 v11 v12 w hc e d0 hj K' (fun u w2 hS hj2=>hK _ _ ⟨hS,b0,b1,true,b7,b8,b10,b11,b12,_,_,_,_,_,_,_,_,rfl,?_,rfl,hj2⟩) _ rfl);obtain ⟨h1,h6,h7,h8,h11⟩:=hc;refine ⟨?_,?_,?_,?_,?_⟩ <;> grind
  ·obtain ⟨e,d0⟩:=cW_7 hr;refine wpOp_step ho7 (fun K' hK=>s7 b0 b1 b6 b7 b8 b10 b11 b12 v0 v1 v6 v7 v8 v10 v11 v12 w hc e d0 hj K' (fun u w2 hS hj2=>hK _ _ ⟨hS,b0,b1,b6,true,b8,b10,b11,b12,_,_,_,_,_,_,_,_,rfl,?_,rfl,hj2⟩) _ rfl);obtain ⟨h1,h6,h7,h8,h11⟩:=hc;refine ⟨?_,?_,?_,?_,?_⟩ <;> grind
  ·obtain ⟨e,d0⟩:=cW_8 hr;refine wpOp_step ho8 (fun K' hK=>s8 b0 b1 b6 b7 b8 b10 b11 b12 v0 v1 v6 v7 v8 v10 v11 v12 w hc e d0 hj K' (fun u w2 hS hj2=>hK _ _ ⟨hS,b0,b1,b6,b7,true,b10,b11,b12,_,_,_,_,_,_,_,_,rfl,?_,rfl,hj2⟩) _ rfl);obtain ⟨h1,h6,h7,h8,h11⟩:=hc;refine ⟨?_,?_,?_,?_,?_⟩ <;> grind
  ·simp [tf,SUW,LW] at hr
  ·have e:=cW_10 hr;refine wpOp_step ho10 (fun K' hK=>s10 b0 b1 b6 b7 b8 b10 b11 b12 v0 v1 v6 v7 v8 v10 v11 v12 w hc e hj K' (fun u w2 hS hj2=>hK _ _ ⟨hS,b0,b1,b6,b7,b8,true,b11,b12,_,_,_,_,_,_,_,_,rfl,?_,rfl,hj2⟩) _ rfl);obtain ⟨h1,h6,h7,h8,h11⟩:=hc;refine ⟨?_,?_,?_,?_,?_⟩ <;> grind
  ·obtain ⟨e,d0,d1,d2⟩:=cW_11 hr;refine wpOp_step ho11 (fun K' hK=>s11 b0 b1 b6 b7 b8 b10 b11 b12 v0 v1 v6 v7 v8 v10 v11 v12 w hc e d0 d1 d2 hj K' (fun u w2 hS hj2=>hK _ _ ⟨hS,b0,b1,b6,b7,b8,b10,true,b12,_,_,_,_,_,_,_,_,rfl,?_,rfl,hj2⟩) _ rfl);obtain ⟨h1,h6,h7,h8,h11⟩:=hc;refine ⟨?_,?_,?_,?_,?_⟩ <;> grind
  ·have e:=cW_12 hr;refine wpOp_step ho12 (fun K' hK=>s12 b0 b1 b6 b7 b8 b10 b11 b12 v0 v1 v6 v7 v8 v10 v11 v12 w hc e hj K' (fun u w2 hS hj2=>hK _ _ ⟨hS,b0,b1,b6,b7,b8,b10,b11,true,_,_,_,_,_,_,_,_,rfl,?_,rfl,hj2⟩) _ rfl);obtain ⟨h1,h6,h7,h8,h11⟩:=hc;refine ⟨?_,?_,?_,?_,?_⟩ <;> grind
 ·rintro ls a w ⟨b0,b1,b6,b7,b8,b10,b11,b12,v0,v1,v6,v7,v8,v10,v11,v12,rfl,hc,rfl,hj⟩;exact moreW hc
 ·rintro f ls a w ⟨b0,b1,b6,b7,b8,b10,b11,b12,v0,v1,v6,v7,v8,v10,v11,v12,rfl,hc,rfl,hj⟩ hall hf;have e0:b0=true:=hall 0 (by omega)
  have e1:b1=true:=hall 1 (by omega)
  have e6:b6=true:=hall 6 (by omega)
  have e7:b7=true:=hall 7 (by omega)
  have e8:b8=true:=hall 8 (by omega)
  have e10:b10=true:=hall 10 (by omega)
  have e11:b11=true:=hall 11 (by omega)
  have e12:b12=true:=hall 12 (by omega)
  subst e0 e1 e6 e7 e8 e10 e11 e12;have hf1:f=1:=by rw [hf];decide
  subst hf1;exact fin v0 v1 v6 v7 v8 v10 v11 v12 w hj
structure JW (w0:World) (big:Fx) (r:Rat) (b0 b1 b6 b7 b8 b10 b11 b12:Bool) (v0 v1 v6 v7 v8 v10 v11 v12:Value) (w:World):Prop where
 bw:Below w0.heap.size w0 w
 x0:b0=true->∃x:Fx,v0=x.val/\El w x 1
 x1:b1=true->∃(l:Nat) (x:Fx),v1 = .slice (some ⟨l,0,none⟩) 1 1/\Lz w l x.cells 29/\El w x 1
 x6:b6=true->∃x:Fx,v6=x.val/\El w x r
 x7:b7=true->∃(l:Nat) (x:Fx),v7 = .slice (some ⟨l,0,none⟩) 1 1/\Lz w l x.cells 29/\El w x r
 x8:b8=true->∃(l k:Nat) (x:Fx),v8 = .slice (some ⟨l,0,none⟩) 1 1/\Lz w l #[.slice (some ⟨k,0,none⟩) 1 1] 22/\Lz w k x.cells 29/\El w x r
 x10:b10=true->∃l:Nat,v10 = .slice (some ⟨l,0,none⟩) 1 1/\Lz w l big.cells 29
 x11:b11=true->v11 = .agg #[v1,v8,v10]
 x12:b12=true->∃l:Nat,v12 = .pointer (some ⟨l,0,none⟩)/\Q3 w l (.slice none 0 0) (.slice none 0 0) (.slice none 0 0)/\Lz w l #[.slice none 0 0, .slice none 0 0, .slice none 0 0] 25/\w0.heap.size<=l
theorem JW.below {w0 w w':World} {big:Fx} {r:Rat} {b0 b1 b6 b7 b8 b10 b11 b12:Bool} {v0 v1 v6 v7 v8 v10 v11 v12:Value} (h:JW w0 big r b0 b1 b6 b7 b8 b10 b11 b12 v0 v1 v6 v7 v8 v10 v11 v12 w) (hb:Below w.heap.size w w'):JW w0 big r b0 b1 b6 b7 b8 b10 b11 b12 v0 v1 v6 v7 v8 v10 v11 v12 w':=by
 have k:=fo (fun _=>False) hb;refine ⟨qd h.bw hb,fun a=>?_,fun a=>?_,fun a=>?_,fun a=>?_,fun a=>?_,fun a=>?_,h.x11,fun a=>?_⟩
 ·obtain ⟨x,e,h1⟩:=h.x0 a;exact ⟨x,e,h1.below hb⟩
 ·obtain ⟨l,x,e,h1,h2⟩:=h.x1 a;exact ⟨l,x,e,h1.kp k (fun h=>h),h2.below hb⟩
 ·obtain ⟨x,e,h1⟩:=h.x6 a;exact ⟨x,e,h1.below hb⟩
 ·obtain ⟨l,x,e,h1,h2⟩:=h.x7 a;exact ⟨l,x,e,h1.kp k (fun h=>h),h2.below hb⟩
 ·obtain ⟨l,j,x,e,h1,h2,h3⟩:=h.x8 a;exact ⟨l,j,x,e,h1.kp k (fun h=>h),h2.kp k (fun h=>h),h3.below hb⟩
 ·obtain ⟨l,e,h1⟩:=h.x10 a;exact ⟨l,e,h1.kp k (fun h=>h)⟩
 ·obtain ⟨l,e,h1,h2,h3⟩:=h.x12 a;exact ⟨l,e,h1.below hb,h2.kp k (fun h=>h),h3⟩
end Go.Proofs.YtkpfbekmaafehaaGreat
