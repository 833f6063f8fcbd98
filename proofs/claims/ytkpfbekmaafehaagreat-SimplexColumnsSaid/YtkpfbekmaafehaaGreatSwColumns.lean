/- The walk of drydocklaw16.SimplexColumns. -/
import Derived.Test.YtkpfbekmaafehaaGreatSvF
import Derived.Test.YtkpfbekmaafehaaGreatSvJ
import Derived.Test.YtkpfbekmaafehaaGreatOpenE
namespace Go.Proofs.YtkpfbekmaafehaaGreat
set_option maxRecDepth 100000
open Go.RowKit
section
variable {n m nx ny nr nx' ny' nr':Nat} {k k':Int} {a a':Nat→Nat→Rat} {b c c' ux uy ur ux' uy' ur':Nat→Rat} {q q':Rat}
theorem sum_ext {f g:Nat→Rat} (x:Nat→Rat) (e:∀j,j<n→f j=g j):aj (fun j=>f j*(if j<n then x j else 0)) (n+1)=aj (fun j=>g j*x j) n:=by
 rw [aj,if_neg (Nat.lt_irrefl n),Rat.mul_zero,Rat.add_zero];exact ay fun j hj=>by rw [if_pos hj,e j hj]
theorem lpx_ext {x:Nat→Rat} (h:LPx m n a b x) (e:∀r,r<m→∀j,j<n→a' r j=a r j):LPx m (n+1) a' b (fun j=>if j<n then x j else 0):=
 ⟨fun j _=>by
  show 0≤(if j<n then x j else 0)
  split
  ·rename_i hj;exact h.nn j hj
  ·exact Rat.le_refl,fun r hr=>by rw [sum_ext x (e r hr)];exact h.eq r hr⟩
theorem col_law (e:∀r,r<m→∀j,j<n→a' r j=a r j) (ec:∀j,j<n→c' j=c j) (h:dN k n m nx ny nr a b c ux uy ur q) (h':dN k' (n+1) m nx' ny' nr' a' b c' ux' uy' ur' q') :
 (k=1→k'=3∨k'=1∧¬q<q')∧(k=3→k'=3):=by
 refine ⟨fun hk=>?_,fun hk=>?_⟩
 ·subst hk;have o:=h.opt;have p:=lpx_ext o.pt e;rcases h'.kind with rfl|rfl|rfl
  ·have o':=h'.opt;have h1:=kJ p o'.le;rw [o'.vy,sum_ext ux ec,o.vx] at h1;exact .inr ⟨rfl,Rat.not_lt.2 h1⟩
  ·exact (iF p h'.inf.1).elim
  ·exact .inl rfl
 ·subst hk;have o:=h.unb.1;have p:=lpx_ext o.pt e;rcases h'.kind with rfl|rfl|rfl
  ·exact (pg h'.opt (⟨p,lpx_ext o.dir e,by rw [sum_ext ur ec];exact o.neg⟩:Ba m (n+1) a' b c' _ _)).elim
  ·exact (iF p h'.inf.1).elim
  ·rfl
end
structure Ck9 (w0 w:World) (G B:Nat) (C:Sl):Prop where
 bf:Below w0.heap.size w0 w
 cz:Zw w C
 hc:∀g,C.A.map (·.block)=some g→g<B∧¬G=g
 o:w0.heap.size≤G∧G<B
theorem Ck9.kk {w0 w w':World} {G B:Nat} {C:Sl} {S:Nat→Prop} (h:Ck9 w0 w G B C) (kk:Kp S w w') (nl:∀g,S g→NL w g) (hd:∀g,S g→g=G∨B≤g):Ck9 w0 w' G B C:=by
 have o:=h.o;exact ⟨h.bf.trans (kk.below (fun g e=>by have:=hd g e;omega) h.bf.size),h.cz.kp kk nl (fun g e e2=>by have:=hd g e2;have:=h.hc g e;omega),h.hc,o⟩
theorem Ck9.below {w0 w w':World} {G B:Nat} {C:Sl} (h:Ck9 w0 w G B C) (hb:Below w.heap.size w w'):Ck9 w0 w' G B C:=h.kk (fo (fun _=>False) hb) (fun _ h=>h.elim) (fun _ h=>h.elim)
theorem tmod_bd (a b:Int) (hb:0<b) : -b<a.tmod b∧a.tmod b<b:=by
 have h1:=Int.tmod_lt_of_pos a hb;have h2:=Int.tmod_lt_of_pos (-a) hb;rw [Int.neg_tmod] at h2;omega
set_option maxHeartbeats 4000000 in
theorem columns_law (w:World) (A:Option Addr) (c:Nat) (bs:List Nat) (cost:Int) (AC:Option Addr) (cC:Nat) (cs:List Int) (h:Rd u8b w A bs) (hc:bs.length≤c) (hm:c≤9223372036854775807) (hb:∀b∈bs,b<256) (hcost:(Lit.int .i8 cost).wf=true)
 (hC:Rd (Value.int .i8) w AC cs) (hCc:cs.length≤cC) (hCm:cC≤9223372036854775807) (hCb:∀z∈cs,-128≤z∧z≤127) :
 Calls Tryz.prog 9 #[.slice A bs.length c, .int .i8 cost, .slice AC cs.length cC] w fun e w'=>e = .returned (.bool true)∧Below w.heap.size w w':=by
 have HCR:=ag hC;have HCB:=ag hCb;have HC9:=ag (And.intro hCc hCm);have HCO:=ag (wf_i8 hcost);clear hC hCb hCc hCm hcost;have HR:=ag h;have HB:=ag hb;clear h hb;go_enter Tryz.func9,Tryz.ntmps9;go_wp2_with fail;refine (sn w A c bs HR.out hc hm HB.out).mono ?_;rintro e wa ⟨G1,A1,k1,rfl,tp,hge,bb⟩;have HGE:=ag hge.1;have HTP:=ag tp;have HBW:=ag bb;clear tp hge bb;go_wp2_with fail;refine (wV wa G1 k1 0 A1 _ HTP.out).mono ?_;rintro e wb ⟨p,_,rfl,ip,-,kp⟩;replace HBW:=ag (HBW.out.trans (kp.below (B:=w.heap.size) (fun a e=>by rw [e];exact HGE.out) HBW.out.size))
 have HIP:=ag ip;clear HTP HGE ip kp;go_upto_region 2 with fail;have q0:=Q3.new wb p.cost.val (.slice p.rA p.rows.length p.rc) p.right.val 25 rfl rfl rfl;have bb:=(ah wb.heap.size wb).alloc (Nat.le_refl _) (.cells #[.slice p.cost.A p.cost.vs.length p.cost.c, .slice p.rA p.rows.length p.rc, .slice p.right.A p.right.vs.length p.right.c] 25);generalize (wb.alloc (.cells #[.slice p.cost.A p.cost.vs.length p.cost.c, .slice p.rA p.rows.length p.rc, .slice p.right.A p.right.vs.length p.right.c] 25))=wc at q0 bb⊢;generalize wb.heap.size=g4 at q0⊢;replace HIP:=ag (HIP.out.below bb);replace HBW:=ag (ai HBW.out bb HBW.out.size)
 have HPB:=ag q0;have c0:=q0.c0;have c1:=q0.c1;have c2:=q0.c2;clear q0 bb;go_wp2_with fail;refine (uA wc p HIP.out.ok HIP.out.small.1 HIP.out.small.2).mono ?_;rintro e wd ⟨s,rfl,good,bb⟩;replace HIP:=ag (HIP.out.below bb);replace HPB:=ag (HPB.out.below bb);replace HBW:=ag (ai HBW.out bb HBW.out.size);have HGD:=ag good;clear good c0 c1 c2 bb;go_upto_region 3 with fail;have sb:=(cY wd s 31).1;have bb:=(cY wd s 31).2;generalize (wd.alloc (.cells #[.int .i64 s.kind, .slice s.X.A s.X.vs.length s.X.c, .slice s.Y.A s.Y.vs.length s.Y.c, .slice s.R.A s.R.vs.length s.R.c, .bool s.v.b, .slice s.v.A s.v.xs.length s.v.c, .slice s.v.D s.v.ys.length s.v.d] 31))=we at sb bb⊢
 generalize wd.heap.size=g5 at sb⊢;have HPS:Hid (Pj we p s g4 g5):=ag ⟨HIP.out.below bb,HGD.out.below bb,HPB.out.below bb,sb⟩;replace HBW:=ag (ai HBW.out bb HBW.out.size);clear sb bb HIP HPB HGD;obtain ⟨n,hn⟩:∃n,p.cost.vs.length=n:=⟨_,rfl⟩;obtain ⟨m,hm_⟩:∃m,p.rows.length=m:=⟨_,rfl⟩;have HN:=ag hn;have HM:=ag hm_;have HN1:Hid (0<n):=ag (by rw [←hn];exact HPS.out.ip.c1)
 have hn5:n≤5:=by rw [←hn];exact HPS.out.ip.c2
 have hm3:m≤3:=by rw [←hm_];exact HPS.out.ip.r2
 have HM1:Hid (1≤m):=ag (by rw [←hm_];exact HPS.out.ip.r1)
 have HLB:Hid (p.right.vs.length=m):=ag (by rw [←hm_];exact HPS.out.ip.lb)
 clear hn hm_;have HCZ:=ag HPS.out.ip.cz;have HSC:Hid (∀w',Below we.heap.size we w'→w'.cell? ⟨g4,0,none⟩=some (.slice p.cost.A n p.cost.c)∧w'.cell? ⟨g4,2,none⟩=some (.slice p.right.A m p.right.c)):=ag (fun w' hb=>by
  have q:=(HPS.out.below hb).pb;have h0:=q.c0;have h2:=q.c2;rw [show p.cost.val = .slice p.cost.A p.cost.vs.length p.cost.c from rfl,HN.out] at h0;rw [show p.right.val = .slice p.right.A p.right.vs.length p.right.c from rfl,HLB.out] at h2;exact ⟨h0,h2⟩)
 have hcb:=HCO.out;have hwc:IntKind.i64.wrap cost=cost:=IntWalk.i64_in _ (by omega)
 have ht8 : -8<cost.tmod 8∧cost.tmod 8<8:=tmod_bd cost 8 (by omega)
 have hw8:IntKind.i64.wrap (cost.tmod 8)=cost.tmod 8:=IntWalk.i64_in _ (by omega)
 generalize we=w0 at *
 go_cut [10] (fun v wx=>∃(g10:Nat) (A1:Option Addr) (c1:Nat) (y:Fx),v = .pointer (some ⟨g10,0,none⟩)∧Q3 wx g10 (.slice A1 (n+1) c1) (.slice none 0 0) (.slice p.right.A m p.right.c)∧Zr wx w0.heap.size A1 c1 (p.cost.vs ++ [y])∧(∀g,A1.map (·.block)=some g→¬g10=g)∧w0.heap.size≤g10∧Below w0.heap.size w0 wx)
 case first=>
  have HSP:Hid (∀w',Below w0.heap.size w0 w'→(w'.cell? ⟨g4,0,none⟩=some (.slice p.cost.A n p.cost.c)∧w'.cell? ⟨g4,2,none⟩=some (.slice p.right.A m p.right.c))):=ag (fun _ bz=>(HSC.out _ bz));refine fR HSP (by kernel_rfl) (fun hHeld=>?_)
  have bz:=(ah w0.heap.size w0).drew;generalize w0.drew=wd at *;refine tki [(some 23,[],[],none),(some 24,[7],[],none),(some 25,[24],[1],none),(some 26,[23,25],[0,2],none),(some 27,[1],[],none),(some 28,[27],[4],none),(some 29,[28],[5],none),(some 30,[29],[6,3],none),(some 31,[30],[7],none),(some 32,[26,31],[3,8,7],none),(some 33,[7],[],none),(some 34,[33],[10],none),(some 35,[32,34],[9,11],none),(some 10,[],[],none),(none,[10,35],[13,12,9,0,1,2,3,4,5,6,7,8,9,10,11,12,13],none)] [false,false,false,false,false,false,false,false,false,false,false,false,false,false,false] (by kernel_rfl) (by kernel_rfl) (by kernel_rfl) (fun HSU=>?_)
  refine tks HSU 1 (.pointer (some ⟨g4,0,none⟩)) rfl ?_;simp only [tz];refine tks HSU 2 (.slice p.cost.A n p.cost.c) rfl ?_;simp only [tz];refine tks HSU 4 (.int .i8 cost) rfl ?_;simp only [tz];refine tks HSU 5 (.int .i64 cost) rfl ?_;simp only [tz];refine tks HSU 6 (.int .i64 (cost.tmod 8)) rfl ?_;simp only [tz];refine tks HSU 10 (.pointer (some ⟨g4,2,none⟩)) rfl ?_;simp only [tz];refine tks HSU 11 (.slice p.right.A m p.right.c) rfl ?_;simp only [tz];refine wpAnyH_ready (rs := [0,13]) (tkn HSU (by kernel_rfl)) (by simp) ?_
  refine AllReadyH.cons rfl (fun K hK=>?_) ?_
  ·go_simp;have bb:=(ah wd.heap.size wd).alloc (Nat.le_refl _) (.cells #[] 29);have z23:=Zr.lit wd w0.heap.size bz.size;replace bz:=ai bz bb bz.size;clear bb hHeld;generalize wd.heap.size=g23 at z23⊢;generalize (wd.alloc (.cells #[] 29))=we at *;generalize we=wd at *;refine hK.out _ _ (HSP.out _ bz) (fun hHeld=>?_);clear hK K;try simp only [tz]
   refine wpAnyH_ready (rs := [3,13]) (tkn HSU (by kernel_rfl)) (by simp) ?_
   refine AllReadyH.cons rfl (fun K hK=>?_) ?_
   ·refine step_append_zm wd rfl _ _ rfl rfl rfl rfl z23 p.cost.A n p.cost.c p.cost.vs rfl HN.out.symm (HCZ.out.below bz).rd (HCZ.out.below bz).el (by rw [HN.out];exact HN1.out) (by omega) bz.size ?_
    intro A26 c26 we z26 kk hat;rw [List.nil_append] at z26;have hb:∀g,((some (⟨g23,0,none⟩:Addr))).map (·.block)=some g→w0.heap.size≤g:=fun g e=>(z23.lt e).1;replace bz:=bz.trans (kk.below hb bz.size);clear z23 kk hat hb hHeld;generalize we=wd at *;refine hK.out _ _ (HSP.out _ bz) (fun hHeld=>?_);clear hK K;try simp only [tz]
    refine wpAnyH_ready (rs := [7,13]) (tkn HSU (by kernel_rfl)) (by simp) ?_
    refine AllReadyH.cons rfl (fun K hK=>?_) ?_
    ·go_simp;go_at_call 26;refine (dS wd (cost.tmod 8) (by omega) (by omega)).mono ?_
     rintro e we ⟨y,rfl,ey,bb⟩;have zy:Zl we y:=⟨cost.tmod 8,by omega,ey⟩
     replace z26:=z26.below bb;replace bz:=ai bz bb bz.size;clear bb hHeld;clear ey;generalize we=wd at *;refine hK.out _ _ (HSP.out _ bz) (fun hHeld=>?_);clear hK K;try simp only [tz]
     refine wpAnyH_ready (rs := [8,13]) (tkn HSU (by kernel_rfl)) (by simp) ?_
     refine AllReadyH.cons rfl (fun K hK=>?_) ?_
     ·go_simp;have lit:=eN zy.ok;have bb:=(au zy.ok).2;replace z26:=z26.below bb;replace zy:=zy.below bb;replace bz:=ai bz bb bz.size;clear bb hHeld;generalize wd.heap.size=g31 at lit⊢;generalize (wd.alloc (.cells #[.bool y.b, .slice y.A y.xs.length y.c, .slice y.D y.ys.length y.d] 29))=wd at *;refine hK.out _ _ (HSP.out _ bz) (fun hHeld=>?_);clear hK K;try simp only [tz]
      refine wpAnyH_ready (rs := [9,13]) (tkn HSU (by kernel_rfl)) (by simp) ?_
      refine AllReadyH.cons rfl (fun K hK=>?_) ?_
      ·refine jp wd rfl _ _ rfl rfl (n:=n) (by first|rfl | (simp;done)) HN.out.symm z26 ⟨g31,0,none⟩ 1 y rfl lit zy (by omega) bz.size ?_
       intro A32 c32 we z32 kk hat;have hb:∀g,(A26).map (·.block)=some g→w0.heap.size≤g:=fun g e=>(z26.lt e).1;replace bz:=bz.trans (kk.below hb bz.size);clear z26 kk hat hb hHeld lit;generalize we=wd at *;refine hK.out _ _ (HSP.out _ bz) (fun hHeld=>?_);clear hK K;try simp only [tz]
       refine tks HSU 12 (.agg #[.slice A32 (n+1) c32, .slice none 0 0, .slice p.right.A m p.right.c]) rfl ?_;simp only [tz];refine tk1 HSU 13 rfl (fun K hK=>?_);go_simp;have bb:=(ah wd.heap.size wd).alloc (Nat.le_refl _) (.cells #[.slice none 0 0, .slice none 0 0, .slice none 0 0] 25);have q10:=Q3.new wd (.slice none 0 0) (.slice none 0 0) (.slice none 0 0) 25 rfl rfl rfl;have h10:=bz.size;have hne:∀g,(A32).map (·.block)=some g→¬wd.heap.size=g:=fun g e=>by have:=(z32.lt e).2;omega
       replace z32:=z32.below bb;replace bz:=ai bz bb bz.size;clear bb hHeld;generalize wd.heap.size=g10 at q10 h10 hne⊢;generalize (wd.alloc (.cells #[.slice none 0 0, .slice none 0 0, .slice none 0 0] 25))=we at *;generalize we=wd at *;refine hK.out _ _ (HSP.out _ bz) (fun hHeld=>?_);clear hK K;try simp only [tz]
       refine tk1 HSU 14 rfl (fun K hK=>?_);clear hHeld;have k0:=q10.c0;have k1:=q10.c1;have k2:=q10.c2;have f0:=q10.f0;have f1:=q10.f1;have f2:=q10.f2;go_simp;clear k0 k1 k2 f0 f1 f2;have k3:=(Kp.refl (fun a=>a=g10) wd).set3 (S:=fun a=>a=g10) rfl 0 1 2 (.slice A32 (n+1) c32) (.slice none 0 0) (.slice p.right.A m p.right.c);replace z32:=z32.kp k3 (fun a e=>by rw [e];exact q10.nl) (fun g e e2=>hne g e e2.symm)
       replace q10:=((q10.set0 (u := .slice A32 (n+1) c32) rfl).set1 (u := .slice none 0 0) rfl).set2 (u := .slice p.right.A m p.right.c) rfl;replace bz:=bz.trans (k3.below (fun a e=>by rw [e];exact h10) bz.size)
       clear k3;generalize (((wd.setCell ⟨g10,0,none⟩ (.slice A32 (n+1) c32)).setCell ⟨g10,1,none⟩ (.slice none 0 0)).setCell ⟨g10,2,none⟩ (.slice p.right.A m p.right.c))=we at *;generalize we=wd at *;refine hK.out _ _ (HSP.out _ bz) (fun hHeld=>?_);clear hK K;try simp only [tz]
       refine wpAnyH_done (tkn HSU (by kernel_rfl)) ?_ _
       go_wp2_with fail;go_meet
       case rel=>exact ⟨g10,A32,c32,y,rfl,q10,z32,hne,h10,bz⟩
      refine AllReadyH.cons rfl (fun K hK=>?_) ?_
      ·go_simp;have bb:=(ah wd.heap.size wd).alloc (Nat.le_refl _) (.cells #[.slice none 0 0, .slice none 0 0, .slice none 0 0] 25);have q10:=Q3.new wd (.slice none 0 0) (.slice none 0 0) (.slice none 0 0) 25 rfl rfl rfl;have h10:=bz.size;have hne:∀g,(A26).map (·.block)=some g→¬wd.heap.size=g:=fun g e=>by have:=(z26.lt e).2;omega
       replace z26:=z26.below bb;replace zy:=zy.below bb;replace lit:=lit.below bb;replace bz:=ai bz bb bz.size;clear bb hHeld;generalize wd.heap.size=g10 at q10 h10 hne⊢;generalize (wd.alloc (.cells #[.slice none 0 0, .slice none 0 0, .slice none 0 0] 25))=we at *;generalize we=wd at *;refine hK.out _ _ (HSP.out _ bz) (fun hHeld=>?_);clear hK K;try simp only [tz]
       refine tk1 HSU 9 rfl (fun K hK=>?_);refine jp wd rfl _ _ rfl rfl (n:=n) (by first|rfl | (simp;done)) HN.out.symm z26 ⟨g31,0,none⟩ 1 y rfl lit zy (by omega) bz.size ?_
       intro A32 c32 we z32 kk hat;have hb:∀g,(A26).map (·.block)=some g→w0.heap.size≤g:=fun g e=>(z26.lt e).1;have hne2:∀g,A32.map (·.block)=some g→¬g10=g:=fun g e=>by
        rcases hat with h|h
        ·exact hne g (h.symm.trans e)
        ·have h2:=Option.some.inj (h.symm.trans e);have:=q10.lt;omega
       replace q10:=q10.kp kk (fun e=>hne _ e rfl);clear hne;have hne:=hne2;clear hne2;replace bz:=bz.trans (kk.below hb bz.size);clear z26 kk hat hb hHeld lit;generalize we=wd at *;refine hK.out _ _ (HSP.out _ bz) (fun hHeld=>?_);clear hK K;try simp only [tz]
       refine tks HSU 12 (.agg #[.slice A32 (n+1) c32, .slice none 0 0, .slice p.right.A m p.right.c]) rfl ?_;simp only [tz];refine tk1 HSU 14 rfl (fun K hK=>?_);clear hHeld;have k0:=q10.c0;have k1:=q10.c1;have k2:=q10.c2;have f0:=q10.f0;have f1:=q10.f1;have f2:=q10.f2;go_simp;clear k0 k1 k2 f0 f1 f2;have k3:=(Kp.refl (fun a=>a=g10) wd).set3 (S:=fun a=>a=g10) rfl 0 1 2 (.slice A32 (n+1) c32) (.slice none 0 0) (.slice p.right.A m p.right.c);replace z32:=z32.kp k3 (fun a e=>by rw [e];exact q10.nl) (fun g e e2=>hne g e e2.symm)
       replace q10:=((q10.set0 (u := .slice A32 (n+1) c32) rfl).set1 (u := .slice none 0 0) rfl).set2 (u := .slice p.right.A m p.right.c) rfl;replace bz:=bz.trans (k3.below (fun a e=>by rw [e];exact h10) bz.size)
       clear k3;generalize (((wd.setCell ⟨g10,0,none⟩ (.slice A32 (n+1) c32)).setCell ⟨g10,1,none⟩ (.slice none 0 0)).setCell ⟨g10,2,none⟩ (.slice p.right.A m p.right.c))=we at *;generalize we=wd at *;refine hK.out _ _ (HSP.out _ bz) (fun hHeld=>?_);clear hK K;try simp only [tz]
       refine wpAnyH_done (tkn HSU (by kernel_rfl)) ?_ _
       go_wp2_with fail;go_meet
       case rel=>exact ⟨g10,A32,c32,y,rfl,q10,z32,hne,h10,bz⟩
      exact AllReadyH.nil
     refine AllReadyH.cons rfl (fun K hK=>?_) ?_
     ·go_simp;have bb:=(ah wd.heap.size wd).alloc (Nat.le_refl _) (.cells #[.slice none 0 0, .slice none 0 0, .slice none 0 0] 25);have q10:=Q3.new wd (.slice none 0 0) (.slice none 0 0) (.slice none 0 0) 25 rfl rfl rfl;have h10:=bz.size;have hne:∀g,(A26).map (·.block)=some g→¬wd.heap.size=g:=fun g e=>by have:=(z26.lt e).2;omega
      replace z26:=z26.below bb;replace zy:=zy.below bb;replace bz:=ai bz bb bz.size;clear bb hHeld;generalize wd.heap.size=g10 at q10 h10 hne⊢;generalize (wd.alloc (.cells #[.slice none 0 0, .slice none 0 0, .slice none 0 0] 25))=we at *;generalize we=wd at *;refine hK.out _ _ (HSP.out _ bz) (fun hHeld=>?_);clear hK K;try simp only [tz]
      refine tk1 HSU 8 rfl (fun K hK=>?_);go_simp;have lit:=eN zy.ok;have bb:=(au zy.ok).2;replace z26:=z26.below bb;replace zy:=zy.below bb;replace q10:=q10.below bb;replace bz:=ai bz bb bz.size;clear bb hHeld;generalize wd.heap.size=g31 at lit⊢;generalize (wd.alloc (.cells #[.bool y.b, .slice y.A y.xs.length y.c, .slice y.D y.ys.length y.d] 29))=wd at *;refine hK.out _ _ (HSP.out _ bz) (fun hHeld=>?_);clear hK K;try simp only [tz]
      refine tk1 HSU 9 rfl (fun K hK=>?_);refine jp wd rfl _ _ rfl rfl (n:=n) (by first|rfl | (simp;done)) HN.out.symm z26 ⟨g31,0,none⟩ 1 y rfl lit zy (by omega) bz.size ?_
      intro A32 c32 we z32 kk hat;have hb:∀g,(A26).map (·.block)=some g→w0.heap.size≤g:=fun g e=>(z26.lt e).1;have hne2:∀g,A32.map (·.block)=some g→¬g10=g:=fun g e=>by
       rcases hat with h|h
       ·exact hne g (h.symm.trans e)
       ·have h2:=Option.some.inj (h.symm.trans e);have:=q10.lt;omega
      replace q10:=q10.kp kk (fun e=>hne _ e rfl);clear hne;have hne:=hne2;clear hne2;replace bz:=bz.trans (kk.below hb bz.size);clear z26 kk hat hb hHeld lit;generalize we=wd at *;refine hK.out _ _ (HSP.out _ bz) (fun hHeld=>?_);clear hK K;try simp only [tz]
      refine tks HSU 12 (.agg #[.slice A32 (n+1) c32, .slice none 0 0, .slice p.right.A m p.right.c]) rfl ?_;simp only [tz];refine tk1 HSU 14 rfl (fun K hK=>?_);clear hHeld;have k0:=q10.c0;have k1:=q10.c1;have k2:=q10.c2;have f0:=q10.f0;have f1:=q10.f1;have f2:=q10.f2;go_simp;clear k0 k1 k2 f0 f1 f2;have k3:=(Kp.refl (fun a=>a=g10) wd).set3 (S:=fun a=>a=g10) rfl 0 1 2 (.slice A32 (n+1) c32) (.slice none 0 0) (.slice p.right.A m p.right.c);replace z32:=z32.kp k3 (fun a e=>by rw [e];exact q10.nl) (fun g e e2=>hne g e e2.symm)
      replace q10:=((q10.set0 (u := .slice A32 (n+1) c32) rfl).set1 (u := .slice none 0 0) rfl).set2 (u := .slice p.right.A m p.right.c) rfl;replace bz:=bz.trans (k3.below (fun a e=>by rw [e];exact h10) bz.size)
      clear k3;generalize (((wd.setCell ⟨g10,0,none⟩ (.slice A32 (n+1) c32)).setCell ⟨g10,1,none⟩ (.slice none 0 0)).setCell ⟨g10,2,none⟩ (.slice p.right.A m p.right.c))=we at *;generalize we=wd at *;refine hK.out _ _ (HSP.out _ bz) (fun hHeld=>?_);clear hK K;try simp only [tz]
      refine wpAnyH_done (tkn HSU (by kernel_rfl)) ?_ _
      go_wp2_with fail;go_meet
      case rel=>exact ⟨g10,A32,c32,y,rfl,q10,z32,hne,h10,bz⟩
     exact AllReadyH.nil
    refine AllReadyH.cons rfl (fun K hK=>?_) ?_
    ·go_simp;have bb:=(ah wd.heap.size wd).alloc (Nat.le_refl _) (.cells #[.slice none 0 0, .slice none 0 0, .slice none 0 0] 25);have q10:=Q3.new wd (.slice none 0 0) (.slice none 0 0) (.slice none 0 0) 25 rfl rfl rfl;have h10:=bz.size;have hne:∀g,(A26).map (·.block)=some g→¬wd.heap.size=g:=fun g e=>by have:=(z26.lt e).2;omega
     replace z26:=z26.below bb;replace bz:=ai bz bb bz.size;clear bb hHeld;generalize wd.heap.size=g10 at q10 h10 hne⊢;generalize (wd.alloc (.cells #[.slice none 0 0, .slice none 0 0, .slice none 0 0] 25))=we at *;generalize we=wd at *;refine hK.out _ _ (HSP.out _ bz) (fun hHeld=>?_);clear hK K;try simp only [tz]
     refine tk1 HSU 7 rfl (fun K hK=>?_);go_simp;go_at_call 26;refine (dS wd (cost.tmod 8) (by omega) (by omega)).mono ?_
     rintro e we ⟨y,rfl,ey,bb⟩;have zy:Zl we y:=⟨cost.tmod 8,by omega,ey⟩
     replace z26:=z26.below bb;replace q10:=q10.below bb;replace bz:=ai bz bb bz.size;clear bb hHeld;clear ey;generalize we=wd at *;refine hK.out _ _ (HSP.out _ bz) (fun hHeld=>?_);clear hK K;try simp only [tz]
     refine tk1 HSU 8 rfl (fun K hK=>?_);go_simp;have lit:=eN zy.ok;have bb:=(au zy.ok).2;replace z26:=z26.below bb;replace zy:=zy.below bb;replace q10:=q10.below bb;replace bz:=ai bz bb bz.size;clear bb hHeld;generalize wd.heap.size=g31 at lit⊢;generalize (wd.alloc (.cells #[.bool y.b, .slice y.A y.xs.length y.c, .slice y.D y.ys.length y.d] 29))=wd at *;refine hK.out _ _ (HSP.out _ bz) (fun hHeld=>?_);clear hK K;try simp only [tz]
     refine tk1 HSU 9 rfl (fun K hK=>?_);refine jp wd rfl _ _ rfl rfl (n:=n) (by first|rfl | (simp;done)) HN.out.symm z26 ⟨g31,0,none⟩ 1 y rfl lit zy (by omega) bz.size ?_
     intro A32 c32 we z32 kk hat;have hb:∀g,(A26).map (·.block)=some g→w0.heap.size≤g:=fun g e=>(z26.lt e).1;have hne2:∀g,A32.map (·.block)=some g→¬g10=g:=fun g e=>by
      rcases hat with h|h
      ·exact hne g (h.symm.trans e)
      ·have h2:=Option.some.inj (h.symm.trans e);have:=q10.lt;omega
     replace q10:=q10.kp kk (fun e=>hne _ e rfl);clear hne;have hne:=hne2;clear hne2;replace bz:=bz.trans (kk.below hb bz.size);clear z26 kk hat hb hHeld lit;generalize we=wd at *;refine hK.out _ _ (HSP.out _ bz) (fun hHeld=>?_);clear hK K;try simp only [tz]
     refine tks HSU 12 (.agg #[.slice A32 (n+1) c32, .slice none 0 0, .slice p.right.A m p.right.c]) rfl ?_;simp only [tz];refine tk1 HSU 14 rfl (fun K hK=>?_);clear hHeld;have k0:=q10.c0;have k1:=q10.c1;have k2:=q10.c2;have f0:=q10.f0;have f1:=q10.f1;have f2:=q10.f2;go_simp;clear k0 k1 k2 f0 f1 f2;have k3:=(Kp.refl (fun a=>a=g10) wd).set3 (S:=fun a=>a=g10) rfl 0 1 2 (.slice A32 (n+1) c32) (.slice none 0 0) (.slice p.right.A m p.right.c);replace z32:=z32.kp k3 (fun a e=>by rw [e];exact q10.nl) (fun g e e2=>hne g e e2.symm)
     replace q10:=((q10.set0 (u := .slice A32 (n+1) c32) rfl).set1 (u := .slice none 0 0) rfl).set2 (u := .slice p.right.A m p.right.c) rfl;replace bz:=bz.trans (k3.below (fun a e=>by rw [e];exact h10) bz.size)
     clear k3;generalize (((wd.setCell ⟨g10,0,none⟩ (.slice A32 (n+1) c32)).setCell ⟨g10,1,none⟩ (.slice none 0 0)).setCell ⟨g10,2,none⟩ (.slice p.right.A m p.right.c))=we at *;generalize we=wd at *;refine hK.out _ _ (HSP.out _ bz) (fun hHeld=>?_);clear hK K;try simp only [tz]
     refine wpAnyH_done (tkn HSU (by kernel_rfl)) ?_ _
     go_wp2_with fail;go_meet
     case rel=>exact ⟨g10,A32,c32,y,rfl,q10,z32,hne,h10,bz⟩
    exact AllReadyH.nil
   refine AllReadyH.cons rfl (fun K hK=>?_) ?_
   ·go_simp;have bb:=(ah wd.heap.size wd).alloc (Nat.le_refl _) (.cells #[.slice none 0 0, .slice none 0 0, .slice none 0 0] 25);have q10:=Q3.new wd (.slice none 0 0) (.slice none 0 0) (.slice none 0 0) 25 rfl rfl rfl;have h10:=bz.size;have hne:∀g,((some (⟨g23,0,none⟩:Addr))).map (·.block)=some g→¬wd.heap.size=g:=fun g e=>by have:=(z23.lt e).2;omega
    replace z23:=z23.below bb;replace bz:=ai bz bb bz.size;clear bb hHeld;generalize wd.heap.size=g10 at q10 h10 hne⊢;generalize (wd.alloc (.cells #[.slice none 0 0, .slice none 0 0, .slice none 0 0] 25))=we at *;generalize we=wd at *;refine hK.out _ _ (HSP.out _ bz) (fun hHeld=>?_);clear hK K;try simp only [tz]
    refine tk1 HSU 3 rfl (fun K hK=>?_);refine step_append_zm wd rfl _ _ rfl rfl rfl rfl z23 p.cost.A n p.cost.c p.cost.vs rfl HN.out.symm (HCZ.out.below bz).rd (HCZ.out.below bz).el (by rw [HN.out];exact HN1.out) (by omega) bz.size ?_
    intro A26 c26 we z26 kk hat;rw [List.nil_append] at z26;have hb:∀g,((some (⟨g23,0,none⟩:Addr))).map (·.block)=some g→w0.heap.size≤g:=fun g e=>(z23.lt e).1;have hne2:∀g,A26.map (·.block)=some g→¬g10=g:=fun g e=>by
     rcases hat with h|h
     ·exact hne g (h.symm.trans e)
     ·have h2:=Option.some.inj (h.symm.trans e);have:=q10.lt;omega
    replace q10:=q10.kp kk (fun e=>hne _ e rfl);clear hne;have hne:=hne2;clear hne2;replace bz:=bz.trans (kk.below hb bz.size);clear z23 kk hat hb hHeld;generalize we=wd at *;refine hK.out _ _ (HSP.out _ bz) (fun hHeld=>?_);clear hK K;try simp only [tz]
    refine tk1 HSU 7 rfl (fun K hK=>?_);go_simp;go_at_call 26;refine (dS wd (cost.tmod 8) (by omega) (by omega)).mono ?_
    rintro e we ⟨y,rfl,ey,bb⟩;have zy:Zl we y:=⟨cost.tmod 8,by omega,ey⟩
    replace z26:=z26.below bb;replace q10:=q10.below bb;replace bz:=ai bz bb bz.size;clear bb hHeld;clear ey;generalize we=wd at *;refine hK.out _ _ (HSP.out _ bz) (fun hHeld=>?_);clear hK K;try simp only [tz]
    refine tk1 HSU 8 rfl (fun K hK=>?_);go_simp;have lit:=eN zy.ok;have bb:=(au zy.ok).2;replace z26:=z26.below bb;replace zy:=zy.below bb;replace q10:=q10.below bb;replace bz:=ai bz bb bz.size;clear bb hHeld;generalize wd.heap.size=g31 at lit⊢;generalize (wd.alloc (.cells #[.bool y.b, .slice y.A y.xs.length y.c, .slice y.D y.ys.length y.d] 29))=wd at *;refine hK.out _ _ (HSP.out _ bz) (fun hHeld=>?_);clear hK K;try simp only [tz]
    refine tk1 HSU 9 rfl (fun K hK=>?_);refine jp wd rfl _ _ rfl rfl (n:=n) (by first|rfl | (simp;done)) HN.out.symm z26 ⟨g31,0,none⟩ 1 y rfl lit zy (by omega) bz.size ?_
    intro A32 c32 we z32 kk hat;have hb:∀g,(A26).map (·.block)=some g→w0.heap.size≤g:=fun g e=>(z26.lt e).1;have hne2:∀g,A32.map (·.block)=some g→¬g10=g:=fun g e=>by
     rcases hat with h|h
     ·exact hne g (h.symm.trans e)
     ·have h2:=Option.some.inj (h.symm.trans e);have:=q10.lt;omega
    replace q10:=q10.kp kk (fun e=>hne _ e rfl);clear hne;have hne:=hne2;clear hne2;replace bz:=bz.trans (kk.below hb bz.size);clear z26 kk hat hb hHeld lit;generalize we=wd at *;refine hK.out _ _ (HSP.out _ bz) (fun hHeld=>?_);clear hK K;try simp only [tz]
    refine tks HSU 12 (.agg #[.slice A32 (n+1) c32, .slice none 0 0, .slice p.right.A m p.right.c]) rfl ?_;simp only [tz];refine tk1 HSU 14 rfl (fun K hK=>?_);clear hHeld;have k0:=q10.c0;have k1:=q10.c1;have k2:=q10.c2;have f0:=q10.f0;have f1:=q10.f1;have f2:=q10.f2;go_simp;clear k0 k1 k2 f0 f1 f2;have k3:=(Kp.refl (fun a=>a=g10) wd).set3 (S:=fun a=>a=g10) rfl 0 1 2 (.slice A32 (n+1) c32) (.slice none 0 0) (.slice p.right.A m p.right.c);replace z32:=z32.kp k3 (fun a e=>by rw [e];exact q10.nl) (fun g e e2=>hne g e e2.symm)
    replace q10:=((q10.set0 (u := .slice A32 (n+1) c32) rfl).set1 (u := .slice none 0 0) rfl).set2 (u := .slice p.right.A m p.right.c) rfl;replace bz:=bz.trans (k3.below (fun a e=>by rw [e];exact h10) bz.size)
    clear k3;generalize (((wd.setCell ⟨g10,0,none⟩ (.slice A32 (n+1) c32)).setCell ⟨g10,1,none⟩ (.slice none 0 0)).setCell ⟨g10,2,none⟩ (.slice p.right.A m p.right.c))=we at *;generalize we=wd at *;refine hK.out _ _ (HSP.out _ bz) (fun hHeld=>?_);clear hK K;try simp only [tz]
    refine wpAnyH_done (tkn HSU (by kernel_rfl)) ?_ _
    go_wp2_with fail;go_meet
    case rel=>exact ⟨g10,A32,c32,y,rfl,q10,z32,hne,h10,bz⟩
   exact AllReadyH.nil
  refine AllReadyH.cons rfl (fun K hK=>?_) ?_
  ·go_simp;have bb:=(ah wd.heap.size wd).alloc (Nat.le_refl _) (.cells #[.slice none 0 0, .slice none 0 0, .slice none 0 0] 25);have q10:=Q3.new wd (.slice none 0 0) (.slice none 0 0) (.slice none 0 0) 25 rfl rfl rfl;have h10:=bz.size;replace bz:=ai bz bb bz.size;clear bb hHeld;generalize wd.heap.size=g10 at q10 h10⊢;generalize (wd.alloc (.cells #[.slice none 0 0, .slice none 0 0, .slice none 0 0] 25))=we at *;generalize we=wd at *;refine hK.out _ _ (HSP.out _ bz) (fun hHeld=>?_);clear hK K;try simp only [tz]
   refine tk1 HSU 0 rfl (fun K hK=>?_);go_simp;have bb:=(ah wd.heap.size wd).alloc (Nat.le_refl _) (.cells #[] 29);have z23:=Zr.lit wd w0.heap.size bz.size;have hne:∀g,(some (⟨wd.heap.size,0,none⟩:Addr)).map (·.block)=some g→¬g10=g:=fun g e=>by injection e with e;have:=q10.lt;have e2:wd.heap.size=g:=e;omega
   replace q10:=q10.below bb;replace bz:=ai bz bb bz.size;clear bb hHeld;generalize wd.heap.size=g23 at hne z23⊢;generalize (wd.alloc (.cells #[] 29))=we at *;generalize we=wd at *;refine hK.out _ _ (HSP.out _ bz) (fun hHeld=>?_);clear hK K;try simp only [tz]
   refine tk1 HSU 3 rfl (fun K hK=>?_);refine step_append_zm wd rfl _ _ rfl rfl rfl rfl z23 p.cost.A n p.cost.c p.cost.vs rfl HN.out.symm (HCZ.out.below bz).rd (HCZ.out.below bz).el (by rw [HN.out];exact HN1.out) (by omega) bz.size ?_
   intro A26 c26 we z26 kk hat;rw [List.nil_append] at z26;have hb:∀g,((some (⟨g23,0,none⟩:Addr))).map (·.block)=some g→w0.heap.size≤g:=fun g e=>(z23.lt e).1;have hne2:∀g,A26.map (·.block)=some g→¬g10=g:=fun g e=>by
    rcases hat with h|h
    ·exact hne g (h.symm.trans e)
    ·have h2:=Option.some.inj (h.symm.trans e);have:=q10.lt;omega
   replace q10:=q10.kp kk (fun e=>hne _ e rfl);clear hne;have hne:=hne2;clear hne2;replace bz:=bz.trans (kk.below hb bz.size);clear z23 kk hat hb hHeld;generalize we=wd at *;refine hK.out _ _ (HSP.out _ bz) (fun hHeld=>?_);clear hK K;try simp only [tz]
   refine tk1 HSU 7 rfl (fun K hK=>?_);go_simp;go_at_call 26;refine (dS wd (cost.tmod 8) (by omega) (by omega)).mono ?_
   rintro e we ⟨y,rfl,ey,bb⟩;have zy:Zl we y:=⟨cost.tmod 8,by omega,ey⟩
   replace z26:=z26.below bb;replace q10:=q10.below bb;replace bz:=ai bz bb bz.size;clear bb hHeld;clear ey;generalize we=wd at *;refine hK.out _ _ (HSP.out _ bz) (fun hHeld=>?_);clear hK K;try simp only [tz]
   refine tk1 HSU 8 rfl (fun K hK=>?_);go_simp;have lit:=eN zy.ok;have bb:=(au zy.ok).2;replace z26:=z26.below bb;replace zy:=zy.below bb;replace q10:=q10.below bb;replace bz:=ai bz bb bz.size;clear bb hHeld;generalize wd.heap.size=g31 at lit⊢;generalize (wd.alloc (.cells #[.bool y.b, .slice y.A y.xs.length y.c, .slice y.D y.ys.length y.d] 29))=wd at *;refine hK.out _ _ (HSP.out _ bz) (fun hHeld=>?_);clear hK K;try simp only [tz]
   refine tk1 HSU 9 rfl (fun K hK=>?_);refine jp wd rfl _ _ rfl rfl (n:=n) (by first|rfl | (simp;done)) HN.out.symm z26 ⟨g31,0,none⟩ 1 y rfl lit zy (by omega) bz.size ?_
   intro A32 c32 we z32 kk hat;have hb:∀g,(A26).map (·.block)=some g→w0.heap.size≤g:=fun g e=>(z26.lt e).1;have hne2:∀g,A32.map (·.block)=some g→¬g10=g:=fun g e=>by
    rcases hat with h|h
    ·exact hne g (h.symm.trans e)
    ·have h2:=Option.some.inj (h.symm.trans e);have:=q10.lt;omega
   replace q10:=q10.kp kk (fun e=>hne _ e rfl);clear hne;have hne:=hne2;clear hne2;replace bz:=bz.trans (kk.below hb bz.size);clear z26 kk hat hb hHeld lit;generalize we=wd at *;refine hK.out _ _ (HSP.out _ bz) (fun hHeld=>?_);clear hK K;try simp only [tz]
   refine tks HSU 12 (.agg #[.slice A32 (n+1) c32, .slice none 0 0, .slice p.right.A m p.right.c]) rfl ?_;simp only [tz];refine tk1 HSU 14 rfl (fun K hK=>?_);clear hHeld;have k0:=q10.c0;have k1:=q10.c1;have k2:=q10.c2;have f0:=q10.f0;have f1:=q10.f1;have f2:=q10.f2;go_simp;clear k0 k1 k2 f0 f1 f2;have k3:=(Kp.refl (fun a=>a=g10) wd).set3 (S:=fun a=>a=g10) rfl 0 1 2 (.slice A32 (n+1) c32) (.slice none 0 0) (.slice p.right.A m p.right.c);replace z32:=z32.kp k3 (fun a e=>by rw [e];exact q10.nl) (fun g e e2=>hne g e e2.symm)
   replace q10:=((q10.set0 (u := .slice A32 (n+1) c32) rfl).set1 (u := .slice none 0 0) rfl).set2 (u := .slice p.right.A m p.right.c) rfl;replace bz:=bz.trans (k3.below (fun a e=>by rw [e];exact h10) bz.size)
   clear k3;generalize (((wd.setCell ⟨g10,0,none⟩ (.slice A32 (n+1) c32)).setCell ⟨g10,1,none⟩ (.slice none 0 0)).setCell ⟨g10,2,none⟩ (.slice p.right.A m p.right.c))=we at *;generalize we=wd at *;refine hK.out _ _ (HSP.out _ bz) (fun hHeld=>?_);clear hK K;try simp only [tz]
   refine wpAnyH_done (tkn HSU (by kernel_rfl)) ?_ _
   go_wp2_with fail;go_meet
   case rel=>exact ⟨g10,A32,c32,y,rfl,q10,z32,hne,h10,bz⟩
  exact AllReadyH.nil
 case rest=>
  obtain ⟨g10,A1,cA,y0,rfl,q,z1,hne,h10,bb⟩:=hcut;obtain ⟨i1,si,si0,si1,si2⟩:=info_parts jt;obtain ⟨B,hB⟩:∃B,wc.heap.size=B:=⟨_,rfl⟩;have HCS:Hid (Ck9 w0 wc g10 B ⟨A1,cA,p.cost.vs ++ [y0]⟩):=ag ⟨bb,z1.zs,fun g e=>⟨by have:=(z1.lt e).2;omega,hne g e⟩,⟨h10,by have:=q.lt;omega⟩⟩
  have HPM:Hid (Pm wc B g10 (n+1) slN none 0 [] none 0 []):=ag (Pm.start wc B g10 (n+1) slN ⟨fun h=>absurd h (by simp),Nat.le_refl _,fun v hv=>absurd hv (by simp)⟩ q.nl (by have:=q.lt;omega) (Nat.le_of_eq hB.symm) (fun g e=>by cases e))
  have HQ:=ag q;clear q z1 hne h10 bb hB;clear HSC HCZ hwc ht8 hw8;go_wp2_with fail;go_loopw [11] (fun iv wx=>∃(i:Nat) (A2:Option Addr) (c2:Nat) (rows:List Sl),i≤m∧iv = .int .i64 i∧rows.length=i∧(∀r,r<i→∀j,j<n→fxV (rows.getD r ⟨none,0,[]⟩).vs j=p.a r j)∧Pm wx B g10 (n+1) slN A2 c2 rows none 0 []∧Q3 wx g10 (.slice A1 (n+1) cA) (.slice A2 i c2) (.slice p.right.A m p.right.c)∧Ck9 w0 wx g10 B ⟨A1,cA,p.cost.vs ++ [y0]⟩) (fun iv _=>m-(intOf iv).toNat)
  case atStart=>exact ⟨0,none,0,[],by omega,rfl,rfl,(fun r hr=>absurd hr (by omega)),HPM.out,HQ.out,HCS.out⟩
  case round=>
   clear HPM HQ HCS;obtain ⟨i,A2,c2,rows,hi,rfl,hil,hnew,pm,q,cs⟩:=hrel;have HIL:=ag hil;have HNW:=ag hnew;have HPM:=ag pm;have HQ:=ag q;have HCS:=ag cs;have c1:wr.cell? ⟨g4,1,none⟩=some (.slice p.rA m p.rc):=by rw [←HM.out];exact (HPS.out.below cs.bf).pb.c1
   clear hil hnew pm q cs;by_cases hlt:i<m
   ·have hir:i<p.rows.length:=by rw [HM.out];exact hlt
    obtain ⟨sr,hsr⟩:∃r,p.rows[i]=r:=⟨_,rfl⟩;have hrz:=HPS.out.ip.rz _ (List.getElem_mem hir);rw [hsr,HN.out] at hrz;have HSZ:=ag hrz.1;have HSL:=ag hrz.2;have hpa:∀j,p.a i j=fxV sr.vs j:=fun j=>by rw [CM hir hsr]
    have HRC:Hid (∃ad,p.rA=some ad∧∀w',Below w0.heap.size w0 w'→w'.cell? ⟨g4,1,none⟩=some (.slice (some ad) m p.rc)∧w'.cell? (ad.add i)=some (.slice sr.A n sr.c)):=ag (by
     obtain ⟨ad,e,_,_⟩:=HPS.out.ip.rd (by omega)
     refine ⟨ad,e,fun w' hb=>?_⟩;obtain ⟨ad',e',_,hc'⟩:=HPS.out.ip.rd.below hb rfl (by omega)
     rw [e] at e';injection e' with e';subst e';have h2:=hc' i hir;rw [hsr] at h2;have h1:=(HPS.out.below hb).pb.c1;rw [e,HM.out] at h1;rw [←HSL.out];exact ⟨h1,h2⟩)
    have HNEW:Hid (∀(y:Fx) (r:Sl),r.vs=sr.vs ++ [y]→∀k,k<i+1→∀j,j<n→fxV ((rows ++ [r]).getD k ⟨none,0,[]⟩).vs j=p.a k j):=ag (fun y r hr k hk j hj=>by
     rcases Nat.lt_or_ge k i with h1|h1
     ·rw [bC _ _ _ (by rw [List.length_append,HIL.out];omega),List.getElem_append_left (by rw [HIL.out];exact h1),←bC _ _ ⟨none,0,[]⟩ (by rw [HIL.out];exact h1)]
      exact HNW.out k h1 j hj
     ·obtain rfl:k=i:=by omega
      rw [bC _ _ _ (by rw [List.length_append,HIL.out];simp),List.getElem_append_right (by rw [HIL.out];exact Nat.le_refl _)]
      simp only [HIL.out,Nat.sub_self,List.getElem_cons_zero];rw [hr,BS (by rw [HSL.out];exact hj),hpa j])
    obtain ⟨adr,hadr,hrc⟩:=HRC.out;have HRD:=ag hrc;clear HRC hrz hsr hpa hrc
    go_upto_if 46 with fail
    go_cut [12] (fun v wx=>∃cv:Int,v = .int .i64 cv ∧ -5<cv∧cv<5∧wx=wr)
    case first=>
     by_cases hic:i<cs.length
     ·obtain ⟨adC,hadC,_,hcc⟩:=HCR.out.below (ai HBW.out HCS.out.bf HBW.out.size) rfl (by omega)
      subst hadC;have e0:=hcc i hic;have hb:=HCB.out _ (List.getElem_mem hic);obtain ⟨z,hz⟩:∃z,cs[i]=z:=⟨_,rfl⟩;rw [hz] at e0 hb;have hwz:IntKind.i64.wrap z=z:=IntWalk.i64_in _ (by omega)
      have ht5:=tmod_bd z 5 (by omega)
      have hw5:IntKind.i64.wrap (z.tmod 5)=z.tmod 5:=IntWalk.i64_in _ (by omega)
      clear hz hcc;go_wp2_with fail;go_meet
      case rel=>exact ⟨z.tmod 5,rfl,ht5.1,ht5.2,rfl⟩
     ·go_wp2_with fail;go_meet
      case rel=>exact ⟨0,rfl,by omega,by omega,rfl⟩
    case rest=>
     obtain ⟨cv,rfl,hcv0,hcv5,rfl⟩:=hcut;generalize wc=wr at *;go_upto_region 10 with fail;clear c1;have pm:=HPM.out.below (ah wr.heap.size wr).drew;have q:=HQ.out.below (ah wr.heap.size wr).drew;have cs:=HCS.out.below (ah wr.heap.size wr).drew;refine tkiK (S:=fun w'=>w'.cell? ⟨g10,1,none⟩=some (.slice A2 i c2)∧w'.cell? ⟨g4,1,none⟩=some (.slice (some adr) m p.rc)∧w'.cell? (adr.add i)=some (.slice sr.A n sr.c)) 16 [(some 53,[10],[],none),(some 54,[53],[0],none),(some 55,[],[],none),(some 56,[7],[],none),(some 57,[56],[3],none),(some 58,[11],[],none),(some 59,[57,58],[4,5],none),(some 60,[59],[6],none),(some 61,[55,60],[2,7],none),(some 62,[12],[],none),(some 63,[62],[9,8],none),(some 64,[63],[10],none),(some 65,[61,64],[8,11,10],none),(some 66,[65],[12],none),(some 67,[54,66],[1,13,12],none),(some 68,[10],[0,1,2,3,4,5,6,7,8,9,10,11,12,13,14],none),(none,[68,67],[15,14,14,0,1,2,3,4,5,6,7,8,9,10,11,12,13,14],none)] [false,false,false,false,false,false,false,false,false,false,false,false,false,false,false,false,false] (by kernel_rfl) (by kernel_rfl) (by kernel_rfl) (by kernel_rfl) ⟨q.c1,HRD.out _ cs.bf⟩ (fun HSU hHeld=>?_)
     generalize wr.drew=wd at *;refine mY HSU 0 (.pointer (some ⟨g10,1,none⟩)) rfl ?_;simp only [tz];refine mY HSU 1 (.slice A2 i c2) rfl ?_;simp only [tz];refine mY HSU 3 (.pointer (some ⟨g4,1,none⟩)) rfl ?_;simp only [tz];refine mY HSU 4 (.slice (some adr) m p.rc) rfl ?_;simp only [tz];refine mY HSU 5 (.int .i64 (i:Int)) rfl ?_;simp only [tz];refine mY HSU 6 (.pointer (some (adr.add i))) rfl ?_;simp only [tz];refine mY HSU 7 (.slice sr.A n sr.c) rfl ?_;simp only [tz];refine mY HSU 9 (.int .i64 cv) rfl ?_;simp only [tz];refine qW HSU 2 rfl (fun K hK=>?_);go_simp;have bb:=(ah wd.heap.size wd).alloc (Nat.le_refl _) (.cells #[] 29)
     have z55:=Zr.lit wd B pm.sz;have o55:¬Pt g10 slN A2 rows none wd.heap.size:=fun hp=>by have:=(pm.bd hp).2;omega
     replace pm:=pm.below bb;replace q:=q.below bb;replace cs:=cs.below bb;clear bb hHeld;generalize wd.heap.size=g55 at z55 o55⊢;generalize (wd.alloc (.cells #[] 29))=we at *;generalize we=wd at *;refine hK.out _ _ ⟨q.c1,HRD.out _ cs.bf⟩ (fun hHeld=>?_);clear hK K;try simp only [tz]
     refine qW HSU 8 rfl (fun K hK=>?_);refine step_append_zm wd rfl _ _ rfl rfl rfl rfl z55 sr.A n sr.c sr.vs rfl HSL.out.symm (HSZ.out.below cs.bf).rd (HSZ.out.below cs.bf).el (by rw [HSL.out];exact HN1.out) (by omega) pm.sz ?_
     intro A61 c61 we z61 kk hat;rw [List.nil_append] at z61;have o61:∀g,A61.map (·.block)=some g→¬Pt g10 slN A2 rows none g:=fun g e hp=>by
      rcases hat with h|h
      ·have h2:g55=g:=Option.some.inj (h.symm.trans e);rw [←h2] at hp;exact o55 hp
      ·exact absurd (Option.some.inj (h.symm.trans e)) (Nat.ne_of_gt (pm.bd hp).2)
     have nk:=z55.ni.nlr;have hb:∀g,(some (⟨g55,0,none⟩:Addr)).map (·.block)=some g→B≤g:=fun g e=>(z55.lt e).1;replace pm:=pm.far kk nk (fun g hp e=>by have h2:g55=g:=Option.some.inj e;rw [←h2] at hp;exact o55 hp)
     replace q:=q.kp kk (fun e=>by have:=hb _ e;have:=pm.lt;omega)
     replace cs:=cs.kk kk nk (fun g e => .inr (hb g e));clear z55 o55 kk hat nk hb hHeld;generalize we=wd at *;refine hK.out _ _ ⟨q.c1,HRD.out _ cs.bf⟩ (fun hHeld=>?_);clear hK K;try simp only [tz]
     refine qW HSU 10 rfl (fun K hK=>?_);go_simp;go_at_call 26;refine (dS wd cv (by omega) (by omega)).mono ?_
     rintro e we ⟨y,rfl,ey,bb⟩;have zy:Zl we y:=⟨cv,by omega,ey⟩
     replace z61:=z61.below bb;replace pm:=pm.below bb;replace q:=q.below bb;replace cs:=cs.below bb;clear ey bb hHeld;generalize we=wd at *;refine hK.out _ _ ⟨q.c1,HRD.out _ cs.bf⟩ (fun hHeld=>?_);clear hK K;try simp only [tz]
     refine qW HSU 11 rfl (fun K hK=>?_);go_simp;have lit:=eN zy.ok;have bb:=(au zy.ok).2;replace zy:=zy.below bb;replace z61:=z61.below bb;replace pm:=pm.below bb;replace q:=q.below bb;replace cs:=cs.below bb;clear bb hHeld;generalize wd.heap.size=g64 at lit⊢;generalize (wd.alloc (.cells #[.bool y.b, .slice y.A y.xs.length y.c, .slice y.D y.ys.length y.d] 29))=wd at *;refine hK.out _ _ ⟨q.c1,HRD.out _ cs.bf⟩ (fun hHeld=>?_);clear hK K;try simp only [tz]
     refine qW HSU 12 rfl (fun K hK=>?_);refine jp wd rfl _ _ rfl rfl (n:=n) (by first|rfl | (simp;done)) HSL.out.symm z61 ⟨g64,0,none⟩ 1 y rfl lit zy (by omega) pm.sz ?_
     intro A65 c65 we z65 kk hat;have o65:∀g,A65.map (·.block)=some g→¬Pt g10 slN A2 rows none g:=fun g e hp=>by
      rcases hat with h|h
      ·exact o61 g (h.symm.trans e) hp
      ·exact absurd (Option.some.inj (h.symm.trans e)) (Nat.ne_of_gt (pm.bd hp).2)
     have nk:=z61.ni.nlr;have hb:∀g,A61.map (·.block)=some g→B≤g:=fun g e=>(z61.lt e).1;replace pm:=pm.far kk nk (fun g hp e=>o61 g e hp);replace q:=q.kp kk (fun e=>by have:=hb _ e;have:=pm.lt;omega)
     replace cs:=cs.kk kk nk (fun g e => .inr (hb g e));clear z61 o61 kk hat nk hb lit zy hHeld;generalize we=wd at *;refine hK.out _ _ ⟨q.c1,HRD.out _ cs.bf⟩ (fun hHeld=>?_);clear hK K;try simp only [tz]
     refine qW HSU 13 rfl (fun K hK=>?_);go_simp;have lit:Rd Sl.val _ (some ⟨wd.heap.size,0,none⟩) [⟨A65,c65,sr.vs ++ [y]⟩]:=Rd.one_ wd 22 _ (.slice A65 (n+1) c65) (by show Value.slice A65 (n+1) c65=Value.slice A65 (sr.vs ++ [y]).length c65;rw [List.length_append,HSL.out,List.length_singleton])
     have bb:=(ah wd.heap.size wd).alloc (Nat.le_refl _) (.cells #[.slice A65 (n+1) c65] 22);replace z65:=z65.below bb;replace pm:=pm.below bb;replace q:=q.below bb;replace cs:=cs.below bb;clear bb hHeld;generalize wd.heap.size=g66 at lit⊢;generalize (wd.alloc (.cells #[.slice A65 (n+1) c65] 22))=wd at *;refine hK.out _ _ ⟨q.c1,HRD.out _ cs.bf⟩ (fun hHeld=>?_);clear hK K;try simp only [tz]
     refine qW HSU 14 rfl (fun K hK=>?_);refine bE wd (mk:=Sl.val) (fun _=>rfl) (fun _=>rfl) rfl _ _ 23 rfl 22 i1 (.slice none 0 0) 24 Tryz.underlying23 si si0 si1 si2 rfl (by intro u hu;simp [Value.cells] at hu;subst hu;rfl) rfl HIL.out.symm pm.gr pm.n2 ⟨g66,0,none⟩ 1 1 [⟨A65,c65,sr.vs ++ [y]⟩] rfl rfl lit (by simp) (by simp only [maxLen];omega) (by omega) pm.sz ?_
     intro A4 c4 we h1 h2 h3 _ h5;have kk:Kp (fun a=>A2.map (·.block)=some a) wd we:=ci h3 (fun k e=>e);have hb:∀g,A2.map (·.block)=some g→B≤g:=fun g e=>(kM pm.gr e).1;have hG:=pm.lt;have pm2:=pm.row z65.zs (by rw [List.length_append,HSL.out,List.length_singleton]) (fun g e=>⟨by have:=(z65.lt e).1;omega,(z65.lt e).2⟩) o65 h1 h2 kk h5
     replace q:=q.kp kk (fun e=>by have:=hb _ e;omega)
     replace cs:=cs.kk kk pm.n2 (fun g e => .inr (hb g e));clear pm z65 lit o65 h1 h2 h3 h5 kk hb hG hHeld;have pm:=pm2;clear pm2;generalize we=wd at *;refine hK.out _ _ ⟨q.c1,HRD.out _ cs.bf⟩ (fun hHeld=>?_);clear hK K;try simp only [tz]
     refine mY HSU 15 (.pointer (some ⟨g10,1,none⟩)) rfl ?_;simp only [tz];refine Bh HSU 16 rfl (fun K hK=>?_);clear hHeld;have k0:=q.c1;have kf0:=q.f1;go_simp;clear k0 kf0;replace pm:=pm.set 1 (.slice A4 (i+1) c4) rfl;replace cs:=cs.kk (rM wd g10 1 (.slice A4 (i+1) c4)) (fun g e=>by rw [e];exact q.nl) (fun g e => .inl e)
     replace q:=q.set1 (u := .slice A4 (i+1) c4) rfl;generalize (wd.setCell ⟨g10,1,none⟩ (.slice A4 (i+1) c4))=wd at *;refine hK.out _ _ ?_;clear hK K;try simp only [tz]
     refine tkdK (tkn HSU (by kernel_rfl)) ?_ _
     go_wp2_with fail;go_roundw
     case rel=>exact ⟨i+1,A4,c4,rows ++ [⟨A65,c65,sr.vs ++ [y]⟩],by omega,by go_num,by rw [List.length_append,HIL.out,List.length_singleton],HNEW.out y ⟨A65,c65,sr.vs ++ [y]⟩ rfl,pm,q,cs⟩
     case measure=>simp [intOf];omega
   ·have him:m=i:=by omega
    subst him;have q:=HQ.out;have k0:=q.c0;have k1:=q.c1;have k2:=q.c2;clear q;go_wp2_with fail;have pj:=HPS.out.below HCS.out.bf;have okq:(⟨⟨A1,cA,p.cost.vs ++ [y0]⟩,A2,c2,rows,p.right⟩:Pg).ok wr:=⟨HCS.out.cz.ok,pj.ip.bz.ok,HPM.out.gr.rd,fun r hr=>(HPM.out.rz r hr).1.ok,HPM.out.gr.form.1⟩;have hln:(p.cost.vs ++ [y0]).length=n+1:=by rw [List.length_append,HN.out,List.length_singleton]
    have hsm:=zz (p:=⟨⟨A1,cA,p.cost.vs ++ [y0]⟩,A2,c2,rows,p.right⟩) (by show 1≤rows.length;rw [HIL.out];exact HM1.out) (by show rows.length≤4;rw [HIL.out];omega) (by show 1≤(p.cost.vs ++ [y0]).length;omega) (by show (p.cost.vs ++ [y0]).length≤6;omega) (by show p.right.vs.length=rows.length;rw [HLB.out,HIL.out]) (fun v hv=>(HCS.out.cz.el v hv).gq) (fun v hv=>(pj.ip.bz.el v hv).gq) (fun r hr=>⟨by rw [(HPM.out.rz r hr).2];exact hln.symm,fun v hv=>((HPM.out.rz r hr).1.el v hv).gq⟩)
    have hcall:=uA wr _ okq hsm.1 hsm.2;rw [show (⟨⟨A1,cA,p.cost.vs ++ [y0]⟩,A2,c2,rows,p.right⟩:Pg).val = .agg #[.slice A1 (n+1) cA, .slice A2 m c2, .slice p.right.A m p.right.c] from by simp only [Pg.val,Sl.val,hln,HIL.out,HLB.out]] at hcall
    refine hcall.mono ?_;rintro e wx ⟨u,rfl,gu,bb⟩;have hlaw:=col_law (a':=(⟨⟨A1,cA,p.cost.vs ++ [y0]⟩,A2,c2,rows,p.right⟩:Pg).a) (c':=(⟨⟨A1,cA,p.cost.vs ++ [y0]⟩,A2,c2,rows,p.right⟩:Pg).c) (n:=n) (m:=m) (fun r hr j hj=>HNW.out r hr j hj) (fun j hj=>BS (by rw [HN.out];exact hj)) (by have:=pj.gd.chk.P;rw [HN.out,HM.out] at this;exact this) (by
     have:=gu.chk.P;rw [show (⟨⟨A1,cA,p.cost.vs ++ [y0]⟩,A2,c2,rows,p.right⟩:Pg).cost.vs.length=n+1 from hln,show (⟨⟨A1,cA,p.cost.vs ++ [y0]⟩,A2,c2,rows,p.right⟩:Pg).rows.length=m from HIL.out] at this;exact this)
    have hku:=gu.chk.P.kind;have hks:=pj.gd.chk.P.kind;have HLAW:=ag hlaw;have HPX:=ag (pj.below bb);have HBQ:=ag (ai (ai HBW.out HCS.out.bf HBW.out.size) bb (ai HBW.out HCS.out.bf HBW.out.size).size);have HGU:=ag gu;clear pj okq hln hsm hcall gu bb hlaw k0 k1 k2 c1 HQ HPM HCS HNW HBW HPS;go_upto_region 12 with fail;have su:=(cY wx u 31).1;have bb:=(cY wx u 31).2;generalize (wx.alloc (.cells #[.int .i64 u.kind, .slice u.X.A u.X.vs.length u.X.c, .slice u.Y.A u.Y.vs.length u.Y.c, .slice u.R.A u.R.vs.length u.R.c, .bool u.v.b, .slice u.v.A u.v.xs.length u.v.c, .slice u.v.D u.v.ys.length u.v.d] 31))=wy at su bb⊢
    generalize wx.heap.size=g13 at su⊢;have HPY:=ag (HPX.out.below bb);replace HGU:=ag (HGU.out.below bb);replace HBQ:=ag (ai HBQ.out bb HBQ.out.size);have sb:=HPY.out.sb;have s0:=sb.c0;have s4:=sb.c4;have s5:=sb.c5;have s6:=sb.c6;have u0:=su.c0;have u4:=su.c4;have u5:=su.c5;have u6:=su.c6;clear su sb bb HPX;rcases hks with hk|hk|hk
    ·rw [hk] at s0;rcases HLAW.out.1 hk with h3|⟨h1,hle⟩
     ·rw [h3] at u0;clear hk h3 hku;go_wp2_with fail;refine (jH wy).mono ?_;rintro e wk ⟨rfl,bb⟩;go_wp2_with fail;go_ret;exact ⟨rfl,ai HBQ.out bb HBQ.out.size⟩
     ·rw [h1] at u0;have HLE:=ag (decide_eq_false hle);clear hk h1 hku hle;go_wp2_with fail;refine (oV wy s.v u.v _ _ false HPY.out.gd.nmv HGU.out.nmv HLE.out).mono ?_;rintro e wz ⟨rfl,bb⟩;replace HBQ:=ag (ai HBQ.out bb HBQ.out.size);clear bb s0 s4 s5 s6 u0 u4 u5 u6;go_wp2_with fail;refine (jH wz).mono ?_;rintro e wk ⟨rfl,bb⟩;go_wp2_with fail;go_ret;exact ⟨rfl,ai HBQ.out bb HBQ.out.size⟩
    ·rw [hk] at s0;clear hk hku;go_wp2_with fail;refine (jH wy).mono ?_;rintro e wk ⟨rfl,bb⟩;go_wp2_with fail;go_ret;exact ⟨rfl,ai HBQ.out bb HBQ.out.size⟩
    ·rw [hk] at s0;rw [HLAW.out.2 hk] at u0;clear hk hku;go_wp2_with fail;refine (jH wy).mono ?_;rintro e wk ⟨rfl,bb⟩;go_wp2_with fail;go_ret;exact ⟨rfl,ai HBQ.out bb HBQ.out.size⟩
end Go.Proofs.YtkpfbekmaafehaaGreat
