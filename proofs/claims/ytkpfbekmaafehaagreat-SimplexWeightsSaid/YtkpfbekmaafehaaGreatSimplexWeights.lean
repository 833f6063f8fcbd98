/- SimplexWeights: for every input the law returns true, and each argument reads be -/
import Derived.Test.YtkpfbekmaafehaaGreatSwWeights
import Derived.Test.YtkpfbekmaafehaaGreatSxW
namespace Go.Proofs.YtkpfbekmaafehaaGreat
open _root_.Go.Proofs.Tryz
set_option maxRecDepth 100000
open Go.ChangeShapes Go.WideShapes Go.ChangeAt Go.RowKit
open Go.ChangeMaps (open_string shut_string)
theorem simplexWeights_lifted (os:Go.Os) (started:os.Started) (H:Type) (enc:TypeId×Value->H) :
 ReturnsInHanded {} Tryz.checked os 11 .any (Rows.simplexWeightsSpec.pre6 enc prog Tryz.f11 Rows.simplexWeightsRow.domain false) (Rows.simplexWeightsSpec.post enc prog Tryz.f11 false true false false):=by
 refine returnsInHanded_of_change (C:=Tryz.checked) zC started (by kernel_rfl) func11
  (ChangeSpec.witness6 (enc:=enc) (C:=Tryz.checked) false ⟨#[],#[.int .u8 0, .int .u8 0],[]⟩ 8 (by kernel_rfl) (by kernel_rfl) (by kernel_rfl) (by kernel_rfl)) ?_
 intro W base args ds gs before hval0 hW hcnd _;have hval:∀(j:Nat) t v,Tryz.f11.params[j]? = some t->args[j]? = some v->Value.okWide prog W .any base t v:=hval0;have hW':=hW;obtain ⟨p,q,hA0,hV,rfl,hfz,hnd⟩:=hW;have hA:DataW.TrodAll enc prog W 0 (fun _=>true) true Tryz.f11.params.toList args.toList ds p:=hA0;rw [Tryz.params11] at hA hval;obtain ⟨v0,vs0,d0,ds0,p0,q0,hargs,rfl,rfl,h0,r0⟩:=trodAll_cons hA;obtain ⟨v1,vs1,d1,ds1,p1,q1,rfl,rfl,rfl,h1,r1⟩:=trodAll_cons r0;obtain ⟨rfl,rfl,rfl⟩:=trodAll_nil r1;obtain rfl:args = #[v0,v1]:=by cases args;simp_all
 obtain ⟨rfl,rfl⟩:=trodVars_none hV;obtain ⟨a0,rfl,rfl,rfl,w0⟩:=open_int underlying5 (hval 0 5 v0 rfl rfl) h0;obtain ⟨a1,rfl,rfl,rfl,w1⟩:=open_int underlying5 (hval 1 5 v1 rfl rfl) h1;clear hA0 hval0;refine (weights_law W a0 a1 w0 w1).mono fun e W' ⟨he,bel⟩=>?_;subst he;exact ⟨_,rfl,_,_,_,[],_,[],hW',trodAll_mk1 (shut_bool underlying4 _),(trodAll_cons_mk (shut_int underlying5 w0) (trodAll_cons_mk (shut_int underlying5 w1) trodAll_mk0)),rfl,bel.frame _,fun h=>by cases h⟩
theorem simplexWeights_proved:Rows.SimplexWeightsSaid:=
 OpenClaim.holds_of_wide 11 Tryz.f11 rfl rfl rfl rfl rfl rfl rfl ⟨rfl,rfl,rfl,rfl,rfl⟩ rfl rfl rfl rfl rfl (by kernel_rfl) func11 (by kernel_rfl)
  (of_decide_eq_true (by kernel_rfl)) (by unfold Func.isWrapper;first | (rw [if_pos (by decide +kernel)];kernel_rfl) | (rw [if_neg (by decide +kernel)];exact ⟨rfl,rfl⟩))
  (fun os started H enc _=>simplexWeights_lifted os started H enc)
end Go.Proofs.YtkpfbekmaafehaaGreat
