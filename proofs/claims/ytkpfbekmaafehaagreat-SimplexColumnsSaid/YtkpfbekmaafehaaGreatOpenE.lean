/- Rows of small signed numbers that came in as arguments. -/
import Derived.Test.YtkpfbekmaafehaaGreatOpenB
namespace Go.Proofs.YtkpfbekmaafehaaGreat
set_option maxRecDepth 100000
open Go.Joins Go.ChangeShapes Go.WideShapes Go.ChangeAt Go.RowKit
theorem wf_i8 {z:Int} (h:(Lit.int .i8 z).wf=true) : -128≤z∧z≤127:=by
 simp [Lit.wf,IntKind.min,IntKind.max,IntKind.signed,IntKind.bits] at h;omega
theorem i8_of_ints {H:Type} {enc:TypeId×Value→H} {W:World} {base:Nat} {spare:Nat→Bool} {held:Bool} {t:TypeId} {a:Option Addr} {len cap:Nat} {d:DataW H} {p:List MemPlace}
 (ht:Tryz.prog.underlying t=some (.slice 54)) (h:DataW.Trod enc Tryz.prog W base spare held t (.slice a len cap) d p):∃zs:List Int,zs.length=len∧Rd (Value.int .i8) W a zs∧zs.length≤cap∧cap≤9223372036854775807∧∀z∈zs,-128≤z∧z≤127:=by
 obtain ⟨fuel,hf⟩:=h;rcases open_ints ht Tryz.underlying54 (by kernel_rfl) hf with ⟨hcs,_⟩|⟨x,l,c,zs,hcs,_,hl,hm,hz,_,hcell,hwz⟩
 ·simp [Value.cells] at hcs;obtain ⟨rfl,rfl,rfl⟩:=hcs;exact ⟨[],rfl,fun h=>absurd h (by simp),Nat.le_refl _,by omega,fun b hb=>absurd hb (by simp)⟩
 ·simp [Value.cells] at hcs;obtain ⟨rfl,rfl,rfl⟩:=hcs;unfold maxLen at hm;have hzl:len≤zs.length:=by
   rw [hz];split <;> omega
  have hlen:(zs.take len).length=len:=by simp;omega
  refine ⟨zs.take len,hlen,fun hn=>?_,by rw [hlen];exact hl,hm,fun b hb=>?_⟩
  ·rw [hlen] at hn;have h0:=hcell 0 (by omega)
   refine ⟨x,rfl,?_,fun k hk=>?_⟩
   ·have:=pf h0
    rwa [aM] at this
   ·rw [hlen] at hk;rw [hcell k (by omega)]
    simp only [List.getElem_take];rw [List.getD_eq_getElem?_getD,List.getElem?_eq_getElem (by omega),Option.getD_some]
  ·exact wf_i8 (hwz _ (List.mem_of_mem_take hb))
end Go.Proofs.YtkpfbekmaafehaaGreat
