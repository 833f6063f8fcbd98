/- A region walked by what holds at each of its states, whatever the order. -/
import Derived.Test.YtkpfbekmaafehaaGreatSvF
import Derived.Test.YtkpfbekmaafehaaGreatSvK
namespace Go.Proofs.YtkpfbekmaafehaaGreat
set_option maxRecDepth 100000
open Go.RowKit
section
variable {P:Program} {md:Region.Mode} {ops:Array Oper} {Q:Exit→Act→World→Prop} {S:World→Prop} {k:Nat} {SU:List dC}
theorem count_upd {ls:List Bool} {i:Nat} (h:ls.getD i true=false):(ls.set i true).count false+1=ls.count false:=by
 induction ls generalizing i with
 | nil=>simp at h
 | cons b ls ih=>
   cases i with
   | zero=>
     simp at h;subst h;simp
   | succ i=>
     have:=ih (i:=i) (by simpa using h)
     simp only [List.set_cons_succ,List.count_cons];omega
theorem jL.walk (HU:pP md ops SU) (I:List Bool→Act→World→Prop)
 (hstep:∀ls a w i,I ls a w→i<k→tf SU ls i=true→wpOp P ops Q i (fun a2 w2=>S w2∧I (ls.set i true) a2 w2) a w)
 (hmore:∀ls a w,I ls a w→(∀i,i<k→ls.getD i true=true)∨((∃i,tf SU ls i=true∧i<SU.length)∧∀j,k≤j→tf SU ls j=false))
 (hfin:∀f ls a w,I ls a w→(∀i,i<k→ls.getD i true=true)→f=ls.count false→jL P md ops Q S k f ls.toArray a w) :
 ∀f ls a w,I ls a w→f=ls.count false→jL P md ops Q S k f ls.toArray a w
 | 0,ls,a,w,h,hf=>by
   rcases hmore ls a w h with h1|⟨⟨i,hi,hl⟩,_⟩
   ·exact hfin 0 ls a w h h1 hf
   ·have hu:ls.getD i true=false:=by
     rw [tf] at hi;have:=(Bool.and_eq_true _ _ ▸ hi).1;simpa using this
    have:=count_upd hu;omega
 | f+1,ls,a,w,h,hf=>by
   rcases hmore ls a w h with h1|⟨⟨i,hi,hl⟩,hj⟩
   ·exact hfin (f+1) ls a w h h1 hf
   ·refine ⟨fun h0=>?_,fun j hjr=>?_⟩
    ·have hm:i∈xD SU ls:=by
      rw [xD,List.mem_filter,List.mem_range];exact ⟨hl,hi⟩
     rw [←Br HU.out.2,h0] at hm;cases hm
    ·have hm:j∈xD SU ls:=by rw [←Br HU.out.2];exact hjr
     rw [xD,List.mem_filter] at hm;have hjk:j<k:=by
      rcases Nat.lt_or_ge j k with h2|h2
      ·exact h2
      ·rw [hj j h2] at hm;cases hm.2
     have hu:ls.getD j true=false:=by
      have h3:=hm.2;rw [tf] at h3;have:=(Bool.and_eq_true _ _ ▸ h3).1;simpa using this
     refine wpOp_mono (fun a2 w2 h2=>⟨fun _=>h2.1,?_⟩) (hstep ls a w j h hjk hm.2);have e:ls.toArray.setIfInBounds j true=(ls.set j true).toArray:=by simp
     rw [e];exact jL.walk HU I hstep hmore hfin f _ a2 w2 h2.2 (by have:=count_upd hu;omega)
end
end Go.Proofs.YtkpfbekmaafehaaGreat
