/- A solution that came in as an argument, opened to what the walks ask. -/
import Derived.Test.YtkpfbekmaafehaaGreatOpenP
import Derived.Test.YtkpfbekmaafehaaGreatSwCheck
namespace Go.Proofs.YtkpfbekmaafehaaGreat
set_option maxRecDepth 100000
open Go.Joins Go.ChangeShapes Go.WideShapes Go.ChangeAt Go.RowKit Go.Deep
section
variable {H:Type} {enc:TypeId×Value→H} {W:World} {base:Nat} {spare:Nat→Bool} {held:Bool}
theorem sn_of_arg {b0:Nat} {r:Reach} {v:Value} {d:DataW H} {p:List MemPlace} (hv:Value.okWide Tryz.prog W r b0 31 v) (h:DataW.Trod enc Tryz.prog W base spare held 31 v d p) :
    ∃q:Sn,v=q.val∧q.ok W∧(Wt 31 d→q.rb):=by
  obtain ⟨cs,rfl,hsz⟩:=okWide_struct Tryz.underlying31 hv;have h7:Tryz.prog.cellsOf 31=7:=by kernel_rfl
  rw [h7] at hsz;obtain ⟨l⟩:=cs;have hl:l.length=7:=hsz;obtain ⟨fuel,hf⟩:=h
  match l,hl with
  | [c0,c1,c2,c3,c4,c5,c6],_=>
    have hf2:DataW.trod enc Tryz.prog W base spare held fuel 31 [c0,c1,c2,c3,c4,c5,c6]=some (d,p):=by simpa [Value.cells] using hf
    obtain ⟨ys,m,_,hy,_,hlen,hg⟩:=DataW.trod_struct Tryz.underlying31 hf2;have k3:Tryz.prog.cellsOf 3=1:=by kernel_rfl
    have k22:Tryz.prog.cellsOf 22=1:=by kernel_rfl
    have k29:Tryz.prog.cellsOf 29=3:=by kernel_rfl
    have h0:DataW.trod enc Tryz.prog W base spare held m 3 [c0]=ys[0]? :=by simpa [k3] using hg 0 _ rfl
    have h1:DataW.trod enc Tryz.prog W base spare held m 22 [c1]=ys[1]? :=by simpa [k22] using hg 1 _ rfl
    have h2:DataW.trod enc Tryz.prog W base spare held m 22 [c2]=ys[2]? :=by simpa [k22] using hg 2 _ rfl
    have h3:DataW.trod enc Tryz.prog W base spare held m 22 [c3]=ys[3]? :=by simpa [k22] using hg 3 _ rfl
    have h4:DataW.trod enc Tryz.prog W base spare held m 29 [c4,c5,c6]=ys[4]? :=by simpa [k29] using hg 4 _ rfl
    match ys,hlen with
    | [y0,y1,y2,y3,y4],_=>
      obtain ⟨kd,hk,_⟩:=DataW.trod_int Tryz.underlying3 h0;simp only [List.cons.injEq,and_true] at hk;subst hk;obtain ⟨X,rfl,okX,wX⟩:=sl_of_wt h1;obtain ⟨Y,rfl,okY,wY⟩:=sl_of_wt h2;obtain ⟨R,rfl,okR,wR⟩:=sl_of_wt h3;obtain ⟨x,rfl,rfl,rfl,okx,wx⟩:=fx_of_wt h4;have hd:d = .agg [y0.1,y1.1,y2.1,y3.1,y4.1]:=(Prod.mk.inj hy).1;refine ⟨⟨kd,X,Y,R,x⟩,rfl,⟨okX,okY,okR,okx⟩,fun hw=>?_⟩;rw [hd] at hw;exact ⟨wX (wt_agg (i:=1) Tryz.underlying31 hw rfl rfl),wY (wt_agg (i:=2) Tryz.underlying31 hw rfl rfl),wR (wt_agg (i:=3) Tryz.underlying31 hw rfl rfl),wx (wt_agg (i:=4) Tryz.underlying31 hw rfl rfl)⟩
end
end Go.Proofs.YtkpfbekmaafehaaGreat
