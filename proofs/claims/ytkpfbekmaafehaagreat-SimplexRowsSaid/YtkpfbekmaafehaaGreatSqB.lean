/- The walks of a tableau's dot and reduced. -/
import Derived.Test.YtkpfbekmaafehaaGreatSpB
import Derived.Test.YtkpfbekmaafehaaGreatSqP
import Derived.Deep.CutBlock
import Derived.Deep.DeepCutAuto
import Derived.Deep.RegionHeld3
namespace Go.Proofs.YtkpfbekmaafehaaGreat
set_option maxRecDepth 100000
open Go.RowKit
set_option maxHeartbeats 4000000 in
theorem ju (w:World) (B:Nat) (L:Lay) (x:St) (A:Option Addr) (cc:Nat) (vs:List Fx) (c:Nat→Rat) (j:Nat) (h:Tw w B L x) (hc:Cl w A vs c) (hl:vs.length=L.n+L.gs.length) (hj:j≤L.n+L.gs.length) (hB:∀i,i<L.gs.length→x.B i<L.n+L.gs.length) (hN:L.N≤1000) (hf:Fit L.gs.length L.n c x) :
 Calls Tryz.prog 53 #[.pointer (some ⟨L.G,0,none⟩), .slice A vs.length cc, .int .i64 (j:Int)] w fun e w'=>∃y:Fx,e = .returned y.val∧El w' y (bV L.gs.length c x.T x.B j)∧Below w.heap.size w w':=by
 have HNL:Hid (L.N=L.n+L.gs.length+1):=ag rfl;have HT:=ag h;have HC:=ag hc;have HVL:=ag hl;have HBL:=ag hB;have HF:=ag hf;have HJ:=ag hj;have hm:L.gs.length≤1000:=by have:=HNL.out;omega
 have hjN:j<L.N:=by have:=HNL.out;omega
 clear h hc hl hB hf hj;go_enter Tryz.func53,Tryz.ntmps53;go_upto_region 1 with fail;have bw:=(ah w.heap.size w).alloc (Nat.le_refl _) (.cells #[.bool false, .slice none 0 0, .slice none 0 0] 29);have bk:=aK w;generalize (w.alloc (.cells #[.bool false, .slice none 0 0, .slice none 0 0] 29))=wa at bw bk⊢;go_wp2_with fail;refine (dk wa 0 (by omega) (by omega)).mono ?_
 rintro e wn ⟨x1,rfl,el,bb⟩;have HBK0:=ag (bk.below bb);replace bw:=ai bw bb bw.size;clear bb bk;go_upto_region 2 with fail;have a1:=(au el.ok).1;have bb:=(au el.ok).2;have v1:Vl (wn.alloc (.cells x1.cells 29)) wn.heap.size x1 ((0:Int):Rat):=⟨a1,el.rp⟩;clear a1 el;have hs1:w.heap.size<wn.heap.size:=HBK0.out.lt;generalize (wn.alloc (.cells #[.bool x1.b, .slice x1.A x1.xs.length x1.c, .slice x1.D x1.ys.length x1.d] 29))=wm at v1 bb⊢;have HBK1:=ag (HBK0.out.below bb);replace bw:=ai bw bb bw.size;clear HBK0 bb;generalize wn.heap.size=g7 at v1 hs1⊢;have c0:=(HT.out.below bw).c0;go_wp2_with fail;clear c0
 go_loopw [18] (fun i wr=>∃(k:Nat) (xs:Fx),k≤L.gs.length∧i = .int .i64 k∧Vl wr g7 xs (aj (fun i=>c (x.B i)*x.T i j) k)∧Bk3 wr w.heap.size (.bool false) (.slice none 0 0) (.slice none 0 0)∧Below w.heap.size w wr) (fun i _=>L.gs.length-(intOf i).toNat)
 case atStart=>exact ⟨0,x1,by omega,rfl,v1,HBK1.out,bw⟩
 case round=>
  clear v1 HBK1 bw;obtain ⟨k,xs,hk,rfl,v1,bk,bw⟩:=hrel;by_cases hlt:k<L.gs.length
  ·have HTW:=ag (HT.out.below bw);have HCL:=ag (HC.out.below bw);have HV1:=ag v1;have HBKR:=ag bk;have HBW:=ag bw;clear v1 bk bw;have cr:=HTW.out.q.row hlt;obtain ⟨cb,_⟩:=HTW.out.q.bas hlt;have c1:=HTW.out.c1;obtain ⟨bk,hbk⟩:∃bk,x.B k=bk:=⟨_,rfl⟩;have hbl:bk<vs.length:=by rw [←hbk,HVL.out];exact HBL.out k hlt
   obtain ⟨ad,rfl,xc,ef,ec⟩:=HCL.out.at hbl;obtain ⟨xt,ev⟩:=HTW.out.q.mx.el hlt hjN;obtain ⟨gk,hgk⟩:∃gk,L.gs[k]=gk:=⟨_,rfl⟩;rw [hbk] at cb;rw [hgk] at ev cr;have HBKE:=ag hbk;have HEV:=ag ev;have HEF:=ag ef;have HEC:=ag ec;have d0:=ef.c0;have d1:=ef.c1;have d2:=ef.c2;have HSC:Hid (Sz (c bk) 128 128):=ag (HF.out.cs bk (by rw [HVL.out] at hbl;exact hbl)).up
   have HST:Hid (Sz (x.T k j) 128 128):=ag (HF.out.el k hlt j HJ.out).up;have HSM:Hid (Sz (c bk*x.T k j) 128 128):=ag (((HF.out.cs bk (by rw [HVL.out] at hbl;exact hbl)).mul (HF.out.el k hlt j HJ.out)).mono (by omega) (by omega))
   have HSK:Hid (Sz (aj (fun i=>c (x.B i)*x.T i j) k) 128 128):=ag (HF.out.dt j HJ.out k hk).up;have HSN:Hid (Sz (aj (fun i=>c (x.B i)*x.T i j) k+c bk*x.T k j) 128 128):=ag (by
    have:=(HF.out.dt j HJ.out (k+1) (by omega)).up
    rw [aj,hbk] at this;exact this)
   have HNX:Hid (aj (fun i=>c (x.B i)*x.T i j) (k+1)=aj (fun i=>c (x.B i)*x.T i j) k+c bk*x.T k j):=ag (by rw [aj,hbk])
   clear ev ef ec hbk hgk;by_cases h1:c bk=0
   ·have HZ:Hid (bA (c bk) 0=0):=ag (by rw [h1];rfl)
    have HE:Hid (aj (fun i=>c (x.B i)*x.T i j) (k+1)=aj (fun i=>c (x.B i)*x.T i j) k):=ag (by rw [HNX.out,h1];grind)
    clear h1;go_wp2_with fail;refine (aU wr xc _ 0 HEC.out HSC.out HZ.out).mono ?_;rintro e w5 ⟨rfl,bb⟩;go_wp2_with fail;go_roundw
    case rel=>exact ⟨k+1,xs,by omega,by go_num,by rw [HE.out];exact HV1.out.below bb,HBKR.out.below bb,ai HBW.out bb HBW.out.size⟩
    case measure=>simp [intOf];omega
   ·obtain ⟨z,hz⟩:∃z,bA (c bk) 0=z:=⟨_,rfl⟩;have hz0:¬z=0:=by rw [←hz];unfold bA;split <;> (try split) <;> first|omega|grind
    have HZ:=ag hz;clear hz h1;by_cases h2:x.T k j=0
    ·have HZ2:Hid (bA (x.T k j) 0=0):=ag (by rw [h2];rfl)
     have HE:Hid (aj (fun i=>c (x.B i)*x.T i j) (k+1)=aj (fun i=>c (x.B i)*x.T i j) k):=ag (by rw [HNX.out,h2];grind)
     clear h2;go_wp2_with fail;refine (aU wr xc _ z HEC.out HSC.out HZ.out).mono ?_;rintro e w5 ⟨rfl,bb⟩;have e0:=(HEV.out.below bb).c0;have e1:=(HEV.out.below bb).c1;have e2:=(HEV.out.below bb).c2;clear cr cb c1 d0 d1 d2;go_wp2_with fail;refine (aU w5 xt _ 0 (HEV.out.below bb).el HST.out HZ2.out).mono ?_;rintro e w6 ⟨rfl,b6⟩;clear e0 e1 e2;replace b6:=bb.trans (b6.mono bb.size);go_wp2_with fail;go_roundw
     case rel=>exact ⟨k+1,xs,by omega,by go_num,by rw [HE.out];exact HV1.out.below b6,HBKR.out.below b6,ai HBW.out b6 HBW.out.size⟩
     case measure=>simp [intOf];omega
    ·obtain ⟨z2,hz⟩:∃z,bA (x.T k j) 0=z:=⟨_,rfl⟩;have hz2:¬z2=0:=by rw [←hz];unfold bA;split <;> (try split) <;> first|omega|grind
     have HZ2:=ag hz;clear hz h2;go_wp2_with fail;refine (aU wr xc _ z HEC.out HSC.out HZ.out).mono ?_;rintro e w5 ⟨rfl,bb⟩;have e0:=(HEV.out.below bb).c0;have e1:=(HEV.out.below bb).c1;have e2:=(HEV.out.below bb).c2;clear cr cb c1 d0 d1 d2;go_wp2_with fail;refine (aU w5 xt _ z2 (HEV.out.below bb).el HST.out HZ2.out).mono ?_;rintro e w6 ⟨rfl,b6⟩;clear e0 e1 e2;replace b6:=bb.trans (b6.mono bb.size);replace HTW:=ag (HTW.out.below b6);replace HEV:=ag (HEV.out.below b6);replace HEF:=ag (HEF.out.below b6);replace HEC:=ag (HEC.out.below b6);replace HV1:=ag (HV1.out.below b6);replace HBKR:=ag (HBKR.out.below b6)
     replace HBW:=ag (ai HBW.out b6 HBW.out.size);clear HCL bb b6 HZ HZ2;generalize w6=wr at *;have HBK:Hid (∀w',Below wr.heap.size wr w'→w'.cell? ⟨L.gb,k,none⟩=some (.int .i64 (bk:Int))):=ag (fun w' hb=>by
      have:=((HTW.out.below hb).q.bas hlt).1;rw [HBKE.out] at this;exact this)
     have hb1:(z != 0)=true:=by simpa using hz0
     have hb2:(z2 != 0)=true:=by simpa using hz2
     go_upto_region 6 with fail;clear hz0 hz2 hb1 hb2
     go_cut [10,11] (fun s10 s11 w'=>∃(G:Nat) (x3:Fx),s10 = .pointer (some ⟨G,0,none⟩)∧s11 = .int .i64 0∧Vl w' G x3 (c bk*x.T k j)∧Below wr.heap.size wr w')
     case first=>
      have HSP:Hid (∀w',Below wr.heap.size wr w'→(w'.cell? ⟨L.G,1,none⟩=some (.slice (some ⟨L.gb,0,none⟩) L.gs.length L.cb)∧w'.cell? ⟨L.gb,k,none⟩=some (.int .i64 (bk:Int))∧w'.cell? (ad.add (bk*3))=some (.bool xc.b)∧w'.cell? ⟨(ad.add (bk*3)).block,(ad.add (bk*3)).off+1,none⟩=some (.slice xc.A xc.xs.length xc.c)∧w'.cell? ⟨(ad.add (bk*3)).block,(ad.add (bk*3)).off+2,none⟩=some (.slice xc.D xc.ys.length xc.d)∧w'.cell? ⟨gk,j*3,none⟩=some (.bool xt.b)∧w'.cell? ⟨gk,j*3+1,none⟩=some (.slice xt.A xt.xs.length xt.c)∧w'.cell? ⟨gk,j*3+2,none⟩=some (.slice xt.D xt.ys.length xt.d))):=ag (fun _ bz=>⟨(HTW.out.below bz).c1,(HBK.out _ bz),(HEF.out.below bz).c0,(HEF.out.below bz).c1,(HEF.out.below bz).c2,(HEV.out.below bz).c0,(HEV.out.below bz).c1,(HEV.out.below bz).c2⟩)
      refine fR HSP (by kernel_rfl) (fun hHeld=>?_)
      have bz:=(ah wr.heap.size wr).drew;generalize wr.drew=wd at *;refine tki [sE 44 [1] [],sE 45 [0] [],sE 46 [45] [1],sE 47 [46] [2],sE 48 [47] [3],sE 49 [8] [],sE 50 [48,49] [4,5],sE 51 [50] [6],sE 52 [44,51] [0,7],sE 53 [52] [8],sE 54 [9] [],sE 55 [2] [],sE 56 [54,55] [10,11],sE 57 [56] [12],sE 58 [53,57] [9,13],sE 43 [58] [14],sE 59 [43] [15],sE 60 [43] [15],sE 10 [] [],(none,[10,59],[18,16,14,0,1,2,3,4,5,6,7,8,9,10,11,12,13,14,15,16,18],none),sE 11 [60] [17,19,0,1,2,3,4,5,6,7,8,9,10,11,12,13,14,15,16,17,18,19]] [false,false,false,false,false,false,false,false,false,false,false,false,false,false,false,false,false,false,false,false,false] (by kernel_rfl) (by kernel_rfl) (by kernel_rfl) (fun HSU=>?_)
      refine tks HSU 0 (.slice (some ad) vs.length cc) rfl ?_;simp only [tz];refine tks HSU 1 (.pointer (some ⟨L.G,0,none⟩)) rfl ?_;simp only [tz];refine tks HSU 2 (.pointer (some ⟨L.G,0,none⟩)) rfl ?_;simp only [tz];refine tks HSU 3 (.pointer (some ⟨L.G,1,none⟩)) rfl ?_;simp only [tz];refine tks HSU 4 (.slice (some ⟨L.gb,0,none⟩) L.gs.length L.cb) rfl ?_;simp only [tz];refine tks HSU 5 (.int .i64 (k:Int)) rfl ?_;simp only [tz];refine tks HSU 6 (.pointer (some ⟨L.gb,k,none⟩)) rfl ?_;simp only [tz];refine tks HSU 7 (.int .i64 (bk:Int)) rfl ?_;simp only [tz];refine tks HSU 8 (.pointer (some (ad.add (bk*3)))) rfl ?_;simp only [tz]
      refine tks HSU 9 (xc.val) rfl ?_;simp only [tz];refine tks HSU 10 (.slice (some ⟨gk,0,none⟩) L.N L.N) rfl ?_;simp only [tz];refine tks HSU 11 (.int .i64 (j:Int)) rfl ?_;simp only [tz];refine tks HSU 12 (.pointer (some ⟨gk,j*3,none⟩)) rfl ?_;simp only [tz];refine tks HSU 13 (xt.val) rfl ?_;simp only [tz];refine wpAnyH_ready (rs := [14,18]) (tkn HSU (by kernel_rfl)) (by simp) ?_
      refine AllReadyH.cons rfl (fun K hK=>?_) ?_
      ·go_simp;go_at_call 95;refine (rS wd xc xt _ _ (HEC.out.below bz) (HEV.out.below bz).el HSC.out HST.out HSM.out).mono ?_;rintro e wd ⟨x3,rfl,r3,ok3,bb⟩;replace bz:=ai bz bb bz.size;clear bb;refine hK.out _ _ (HSP.out _ bz) (fun hHeld=>?_);clear hK K;try simp only [tz]
       refine tks HSU 15 (.tuple #[x3.val, .int .i64 0]) rfl ?_;simp only [tz];refine tks HSU 16 (x3.val) rfl ?_;simp only [tz];refine tks HSU 17 (.int .i64 0) rfl ?_;simp only [tz];refine tk1 HSU 18 rfl (fun K hK=>?_);go_simp;have k10:=aK wd;have bb:=(ah wd.heap.size wd).alloc (Nat.le_refl _) (.cells #[.bool false, .slice none 0 0, .slice none 0 0] 29);have s10:=bz.size;generalize h10:wd.heap.size=g10 at k10 s10⊢;replace ok3:=ok3.below bb;replace bz:=ai bz bb bz.size;clear bb;generalize (wd.alloc (.cells #[.bool false, .slice none 0 0, .slice none 0 0] 29))=we at *;clear h10;generalize we=wd at *
       refine hK.out _ _ (HSP.out _ bz) (fun hHeld=>?_);clear hK K;try simp only [tz]
       refine tk1 HSU 19 rfl (fun K hK=>?_);have t:=k10;obtain ⟨k0,k1,k2,kf0,kf1,kf2,_,_⟩:=t;go_simp;clear k0 k1 k2 kf0 kf1 kf2;have hk:Fa wd g10 Fx.nil:=⟨k10,Fx.nil_ok _⟩;have a3:=hk.put ok3;have b5:=aR (G:=g10) (a:=(.bool x3.b)) (b:=(.slice x3.A x3.xs.length x3.c)) (c:=(.slice x3.D x3.ys.length x3.d)) bz s10;clear bz hk k10 ok3 hHeld;generalize (((wd.setCell ⟨g10,0,none⟩ (.bool x3.b)).setCell ⟨g10,1,none⟩ (.slice x3.A x3.xs.length x3.c)).setCell ⟨g10,2,none⟩ (.slice x3.D x3.ys.length x3.d))=we at *;have bz:=b5;clear b5;generalize we=wd at *;refine hK.out _ _ (HSP.out _ bz) (fun hHeld=>?_);clear hK K;try simp only [tz]
       refine tk1 HSU 20 rfl (fun K hK=>?_);go_simp;refine hK.out _ _ (HSP.out _ bz) (fun hHeld=>?_);clear hK K;try simp only [tz]
       refine wpAnyH_done (tkn HSU (by kernel_rfl)) ?_ _
       go_wp2_with fail;go_meet
       case rel=>exact ⟨g10,x3,rfl,rfl,⟨a3,r3⟩,bz⟩
      refine AllReadyH.cons rfl (fun K hK=>?_) ?_
      ·go_simp;have k10:=aK wd;have bb:=(ah wd.heap.size wd).alloc (Nat.le_refl _) (.cells #[.bool false, .slice none 0 0, .slice none 0 0] 29);have s10:=bz.size;generalize h10:wd.heap.size=g10 at k10 s10⊢;replace bz:=ai bz bb bz.size;clear bb;generalize (wd.alloc (.cells #[.bool false, .slice none 0 0, .slice none 0 0] 29))=we at *;clear h10;generalize we=wd at *;refine hK.out _ _ (HSP.out _ bz) (fun hHeld=>?_);clear hK K;try simp only [tz]
       refine tk1 HSU 14 rfl (fun K hK=>?_);go_simp;go_at_call 95;refine (rS wd xc xt _ _ (HEC.out.below bz) (HEV.out.below bz).el HSC.out HST.out HSM.out).mono ?_;rintro e wd ⟨x3,rfl,r3,ok3,bb⟩;replace k10:=k10.below bb;replace bz:=ai bz bb bz.size;clear bb;refine hK.out _ _ (HSP.out _ bz) (fun hHeld=>?_);clear hK K;try simp only [tz]
       refine tks HSU 15 (.tuple #[x3.val, .int .i64 0]) rfl ?_;simp only [tz];refine tks HSU 16 (x3.val) rfl ?_;simp only [tz];refine tks HSU 17 (.int .i64 0) rfl ?_;simp only [tz];refine tk1 HSU 19 rfl (fun K hK=>?_);have t:=k10;obtain ⟨k0,k1,k2,kf0,kf1,kf2,_,_⟩:=t;go_simp;clear k0 k1 k2 kf0 kf1 kf2;have hk:Fa wd g10 Fx.nil:=⟨k10,Fx.nil_ok _⟩;have a3:=hk.put ok3;have b5:=aR (G:=g10) (a:=(.bool x3.b)) (b:=(.slice x3.A x3.xs.length x3.c)) (c:=(.slice x3.D x3.ys.length x3.d)) bz s10;clear bz hk k10 ok3 hHeld;generalize (((wd.setCell ⟨g10,0,none⟩ (.bool x3.b)).setCell ⟨g10,1,none⟩ (.slice x3.A x3.xs.length x3.c)).setCell ⟨g10,2,none⟩ (.slice x3.D x3.ys.length x3.d))=we at *
       have bz:=b5;clear b5;generalize we=wd at *;refine hK.out _ _ (HSP.out _ bz) (fun hHeld=>?_);clear hK K;try simp only [tz]
       refine tk1 HSU 20 rfl (fun K hK=>?_);go_simp;refine hK.out _ _ (HSP.out _ bz) (fun hHeld=>?_);clear hK K;try simp only [tz]
       refine wpAnyH_done (tkn HSU (by kernel_rfl)) ?_ _
       go_wp2_with fail;go_meet
       case rel=>exact ⟨g10,x3,rfl,rfl,⟨a3,r3⟩,bz⟩
      exact AllReadyH.nil
     case rest=>
      obtain ⟨G,x3,rfl,rfl,v3,bb⟩:=hcut;have v1:=HV1.out.below bb;have e0:=v1.c0;have e1:=v1.c1;have e2:=v1.c2;have f0:=v3.c0;have f1:=v3.c1;have f2:=v3.c2;have HV3:=ag v3;clear v1 v3;go_wp2_with fail;refine (Ce wc xs x3 _ _ (HV1.out.below bb).el HV3.out.el HSK.out HSM.out HSN.out).mono ?_;rintro e w7 ⟨x4,rfl,r4,ok4,b4⟩;clear e0 e1 e2 f0 f1 f2;have v1:=(HV1.out.below bb).below b4;have t:=v1.fa.bk;obtain ⟨k0,k1,k2,kf0,kf1,kf2,_,_⟩:=t;go_wp2_with fail;go_roundw
      case rel=>exact ⟨k+1,x4,by omega,by go_num,by rw [HNX.out];exact ⟨v1.fa.put ok4,r4⟩,((HBKR.out.below bb).below b4).far (by omega),aR (ai (ai HBW.out bb HBW.out.size) b4 (Nat.le_trans HBW.out.size bb.size)) (by omega)⟩
      case measure=>simp [intOf];omega
  ·obtain rfl:k=L.gs.length:=by omega
   have e0:=v1.c0;have e1:=v1.c1;have e2:=v1.c2;have tk:=bk;obtain ⟨k0,k1,k2,kf0,kf1,kf2,klt,kb⟩:=tk;clear kb;go_wp2_with fail;refine bodyPost_ret (v:=xs.val) (by simp [results,Tryz.results53,go_sem,k0,k1,k2]) rfl ?_
   exact ⟨xs,rfl,⟨bD v1.fa.ok bk rfl rfl rfl,v1.rp⟩,aR bw (Nat.le_refl _)⟩
set_option maxHeartbeats 4000000 in
theorem rj (w:World) (B:Nat) (L:Lay) (x:St) (A:Option Addr) (cc:Nat) (vs:List Fx) (c:Nat→Rat) (j:Nat) (h:Tw w B L x) (hc:Cl w A vs c) (hl:vs.length=L.n+L.gs.length) (hj:j<L.n+L.gs.length) (hB:∀i,i<L.gs.length→x.B i<L.n+L.gs.length) (hN:L.N≤1000) (hf:Fit L.gs.length L.n c x) :
 Calls Tryz.prog 92 #[.pointer (some ⟨L.G,0,none⟩), .slice A vs.length cc, .int .i64 (j:Int)] w fun e w'=>∃y:Fx,e = .returned y.val∧El w' y (cE L.gs.length c x.T x.B j)∧Below w.heap.size w w':=by
 obtain ⟨ad,rfl,xc,ef,ec⟩:=hc.at (k:=j) (by rw [hl];exact hj)
 have HNL:Hid (L.N=L.n+L.gs.length+1):=ag rfl;have HT:=ag h;have HC:=ag hc;have HVL:=ag hl;have HBL:=ag hB;have HF:=ag hf;have HJ:Hid (j≤L.n+L.gs.length):=ag (Nat.le_of_lt hj);have HSC:Hid (Sz (c j) 128 128):=ag (hf.cs j hj).up;have HSD:Hid (Sz (bV L.gs.length c x.T x.B j) 128 128):=ag (hf.dt j (by omega) _ (Nat.le_refl _)).up
 have HSM:Hid (Sz (c j-bV L.gs.length c x.T x.B j) 128 128):=ag (((hf.cs j hj).sub (hf.dt j (by omega) _ (Nat.le_refl _))).mono (by omega) (by omega))
 have hjl:j<vs.length:=by omega
 have HEF0:=ag ef;have HEC0:=ag ec;clear h hc hl hB hf hj ef ec;go_enter Tryz.func92,Tryz.ntmps92;go_upto_region 1 with fail;have bw:=(ah w.heap.size w).alloc (Nat.le_refl _) (.cells #[.bool false, .slice none 0 0, .slice none 0 0] 29);have bk:=aK w;have HTW:=ag (HT.out.below bw);have HCL:=ag (HC.out.below bw);have HEF:=ag (HEF0.out.below bw);have HEC:=ag (HEC0.out.below bw);clear HT HC HEF0 HEC0;generalize (w.alloc (.cells #[.bool false, .slice none 0 0, .slice none 0 0] 29))=w1 at *;have HBK:=ag bk;have HBW:=ag bw;clear bk bw
 go_cut [7,8] (fun s7 s8 w'=>∃(G:Nat) (x3:Fx),s7 = .pointer (some ⟨G,0,none⟩)∧s8 = .int .i64 0∧Vl w' G x3 (c j-bV L.gs.length c x.T x.B j)∧Below w1.heap.size w1 w')
 case first=>
  have HSP:Hid (∀w',Below w1.heap.size w1 w'→(w'.cell? (ad.add (j*3))=some (.bool xc.b)∧w'.cell? ⟨(ad.add (j*3)).block,(ad.add (j*3)).off+1,none⟩=some (.slice xc.A xc.xs.length xc.c)∧w'.cell? ⟨(ad.add (j*3)).block,(ad.add (j*3)).off+2,none⟩=some (.slice xc.D xc.ys.length xc.d))):=ag (fun _ bz=>⟨(HEF.out.below bz).c0,(HEF.out.below bz).c1,(HEF.out.below bz).c2⟩);refine fR HSP (by kernel_rfl) (fun hHeld=>?_)
  have bz:=(ah w1.heap.size w1).drew;generalize w1.drew=wd at *;refine tki [sE 10 [1] [],sE 11 [2] [],sE 12 [10,11] [0,1],sE 13 [12] [2],sE 14 [0] [],sE 15 [1] [],sE 16 [2] [],sE 17 [14,15,16] [4,5,6],sE 18 [13,17] [3,7,7],sE 9 [18] [8],sE 19 [9] [9],sE 20 [9] [9],sE 7 [] [],(none,[7,19],[12,10,8,0,1,2,3,4,5,6,7,8,9,10,12],none),sE 8 [20] [11,13,0,1,2,3,4,5,6,7,8,9,10,11,12,13]] [false,false,false,false,false,false,false,false,false,false,false,false,false,false,false] (by kernel_rfl) (by kernel_rfl) (by kernel_rfl) (fun HSU=>?_)
  refine tks HSU 0 (.slice (some ad) vs.length cc) rfl ?_;simp only [tz];refine tks HSU 1 (.int .i64 (j:Int)) rfl ?_;simp only [tz];refine tks HSU 2 (.pointer (some (ad.add (j*3)))) rfl ?_;simp only [tz];refine tks HSU 3 (xc.val) rfl ?_;simp only [tz];refine tks HSU 4 (.pointer (some ⟨L.G,0,none⟩)) rfl ?_;simp only [tz];refine tks HSU 5 (.slice (some ad) vs.length cc) rfl ?_;simp only [tz];refine tks HSU 6 (.int .i64 (j:Int)) rfl ?_;simp only [tz];refine wpAnyH_ready (rs := [7,12]) (tkn HSU (by kernel_rfl)) (by simp) ?_
  refine AllReadyH.cons rfl (fun K hK=>?_) ?_
  ·go_simp;go_at_call 53;refine (ju wd B L x (some ad) cc vs c j (HTW.out.below bz) (HCL.out.below bz) HVL.out HJ.out HBL.out hN HF.out).mono ?_;rintro e wd ⟨xd,rfl,ed,bb⟩;replace bz:=ai bz bb bz.size;clear bb;refine hK.out _ _ (HSP.out _ bz) (fun hHeld=>?_);clear hK K;try simp only [tz]
   refine wpAnyH_ready (rs := [8,12]) (tkn HSU (by kernel_rfl)) (by simp) ?_
   refine AllReadyH.cons rfl (fun K hK=>?_) ?_
   ·go_simp;go_at_call 89;refine (fX wd xc xd _ _ (HEC.out.below bz) ed HSC.out HSD.out HSM.out).mono ?_;rintro e wd ⟨x3,rfl,r3,ok3,bb⟩;clear ed;replace bz:=ai bz bb bz.size;clear bb;refine hK.out _ _ (HSP.out _ bz) (fun hHeld=>?_);clear hK K;try simp only [tz]
    refine tks HSU 9 (.tuple #[x3.val, .int .i64 0]) rfl ?_;simp only [tz];refine tks HSU 10 (x3.val) rfl ?_;simp only [tz];refine tks HSU 11 (.int .i64 0) rfl ?_;simp only [tz];refine tk1 HSU 12 rfl (fun K hK=>?_);go_simp;have k7:=aK wd;have bb:=(ah wd.heap.size wd).alloc (Nat.le_refl _) (.cells #[.bool false, .slice none 0 0, .slice none 0 0] 29);have s7:=bz.size;generalize h7:wd.heap.size=g7 at k7 s7⊢;replace ok3:=ok3.below bb;replace bz:=ai bz bb bz.size;clear bb;generalize (wd.alloc (.cells #[.bool false, .slice none 0 0, .slice none 0 0] 29))=we at *;clear h7;generalize we=wd at *;refine hK.out _ _ (HSP.out _ bz) (fun hHeld=>?_);clear hK K;try simp only [tz]
    refine tk1 HSU 13 rfl (fun K hK=>?_);have t:=k7;obtain ⟨k0,k1,k2,kf0,kf1,kf2,_,_⟩:=t;go_simp;clear k0 k1 k2 kf0 kf1 kf2;have hk:Fa wd g7 Fx.nil:=⟨k7,Fx.nil_ok _⟩;have a3:=hk.put ok3;have b5:=aR (G:=g7) (a:=(.bool x3.b)) (b:=(.slice x3.A x3.xs.length x3.c)) (c:=(.slice x3.D x3.ys.length x3.d)) bz s7;clear bz hk k7 ok3 hHeld;generalize (((wd.setCell ⟨g7,0,none⟩ (.bool x3.b)).setCell ⟨g7,1,none⟩ (.slice x3.A x3.xs.length x3.c)).setCell ⟨g7,2,none⟩ (.slice x3.D x3.ys.length x3.d))=we at *;have bz:=b5;clear b5;generalize we=wd at *;refine hK.out _ _ (HSP.out _ bz) (fun hHeld=>?_);clear hK K;try simp only [tz]
    refine tk1 HSU 14 rfl (fun K hK=>?_);go_simp;refine hK.out _ _ (HSP.out _ bz) (fun hHeld=>?_);clear hK K;try simp only [tz]
    refine wpAnyH_done (tkn HSU (by kernel_rfl)) ?_ _
    go_wp2_with fail;go_meet
    case rel=>exact ⟨g7,x3,rfl,rfl,⟨a3,r3⟩,bz⟩
   refine AllReadyH.cons rfl (fun K hK=>?_) ?_
   ·go_simp;have k7:=aK wd;have bb:=(ah wd.heap.size wd).alloc (Nat.le_refl _) (.cells #[.bool false, .slice none 0 0, .slice none 0 0] 29);have s7:=bz.size;generalize h7:wd.heap.size=g7 at k7 s7⊢;replace ed:=ed.below bb;replace bz:=ai bz bb bz.size;clear bb;generalize (wd.alloc (.cells #[.bool false, .slice none 0 0, .slice none 0 0] 29))=we at *;clear h7;generalize we=wd at *;refine hK.out _ _ (HSP.out _ bz) (fun hHeld=>?_);clear hK K;try simp only [tz]
    refine tk1 HSU 8 rfl (fun K hK=>?_);go_simp;go_at_call 89;refine (fX wd xc xd _ _ (HEC.out.below bz) ed HSC.out HSD.out HSM.out).mono ?_;rintro e wd ⟨x3,rfl,r3,ok3,bb⟩;clear ed;replace k7:=k7.below bb;replace bz:=ai bz bb bz.size;clear bb;refine hK.out _ _ (HSP.out _ bz) (fun hHeld=>?_);clear hK K;try simp only [tz]
    refine tks HSU 9 (.tuple #[x3.val, .int .i64 0]) rfl ?_;simp only [tz];refine tks HSU 10 (x3.val) rfl ?_;simp only [tz];refine tks HSU 11 (.int .i64 0) rfl ?_;simp only [tz];refine tk1 HSU 13 rfl (fun K hK=>?_);have t:=k7;obtain ⟨k0,k1,k2,kf0,kf1,kf2,_,_⟩:=t;go_simp;clear k0 k1 k2 kf0 kf1 kf2;have hk:Fa wd g7 Fx.nil:=⟨k7,Fx.nil_ok _⟩;have a3:=hk.put ok3;have b5:=aR (G:=g7) (a:=(.bool x3.b)) (b:=(.slice x3.A x3.xs.length x3.c)) (c:=(.slice x3.D x3.ys.length x3.d)) bz s7;clear bz hk k7 ok3 hHeld;generalize (((wd.setCell ⟨g7,0,none⟩ (.bool x3.b)).setCell ⟨g7,1,none⟩ (.slice x3.A x3.xs.length x3.c)).setCell ⟨g7,2,none⟩ (.slice x3.D x3.ys.length x3.d))=we at *
    have bz:=b5;clear b5;generalize we=wd at *;refine hK.out _ _ (HSP.out _ bz) (fun hHeld=>?_);clear hK K;try simp only [tz]
    refine tk1 HSU 14 rfl (fun K hK=>?_);go_simp;refine hK.out _ _ (HSP.out _ bz) (fun hHeld=>?_);clear hK K;try simp only [tz]
    refine wpAnyH_done (tkn HSU (by kernel_rfl)) ?_ _
    go_wp2_with fail;go_meet
    case rel=>exact ⟨g7,x3,rfl,rfl,⟨a3,r3⟩,bz⟩
   exact AllReadyH.nil
  refine AllReadyH.cons rfl (fun K hK=>?_) ?_
  ·go_simp;have k7:=aK wd;have bb:=(ah wd.heap.size wd).alloc (Nat.le_refl _) (.cells #[.bool false, .slice none 0 0, .slice none 0 0] 29);have s7:=bz.size;generalize h7:wd.heap.size=g7 at k7 s7⊢;replace bz:=ai bz bb bz.size;clear bb;generalize (wd.alloc (.cells #[.bool false, .slice none 0 0, .slice none 0 0] 29))=we at *;clear h7;generalize we=wd at *;refine hK.out _ _ (HSP.out _ bz) (fun hHeld=>?_);clear hK K;try simp only [tz]
   refine tk1 HSU 7 rfl (fun K hK=>?_);go_simp;go_at_call 53;refine (ju wd B L x (some ad) cc vs c j (HTW.out.below bz) (HCL.out.below bz) HVL.out HJ.out HBL.out hN HF.out).mono ?_;rintro e wd ⟨xd,rfl,ed,bb⟩;replace k7:=k7.below bb;replace bz:=ai bz bb bz.size;clear bb;refine hK.out _ _ (HSP.out _ bz) (fun hHeld=>?_);clear hK K;try simp only [tz]
   refine tk1 HSU 8 rfl (fun K hK=>?_);go_simp;go_at_call 89;refine (fX wd xc xd _ _ (HEC.out.below bz) ed HSC.out HSD.out HSM.out).mono ?_;rintro e wd ⟨x3,rfl,r3,ok3,bb⟩;clear ed;replace k7:=k7.below bb;replace bz:=ai bz bb bz.size;clear bb;refine hK.out _ _ (HSP.out _ bz) (fun hHeld=>?_);clear hK K;try simp only [tz]
   refine tks HSU 9 (.tuple #[x3.val, .int .i64 0]) rfl ?_;simp only [tz];refine tks HSU 10 (x3.val) rfl ?_;simp only [tz];refine tks HSU 11 (.int .i64 0) rfl ?_;simp only [tz];refine tk1 HSU 13 rfl (fun K hK=>?_);have t:=k7;obtain ⟨k0,k1,k2,kf0,kf1,kf2,_,_⟩:=t;go_simp;clear k0 k1 k2 kf0 kf1 kf2;have hk:Fa wd g7 Fx.nil:=⟨k7,Fx.nil_ok _⟩;have a3:=hk.put ok3;have b5:=aR (G:=g7) (a:=(.bool x3.b)) (b:=(.slice x3.A x3.xs.length x3.c)) (c:=(.slice x3.D x3.ys.length x3.d)) bz s7;clear bz hk k7 ok3 hHeld;generalize (((wd.setCell ⟨g7,0,none⟩ (.bool x3.b)).setCell ⟨g7,1,none⟩ (.slice x3.A x3.xs.length x3.c)).setCell ⟨g7,2,none⟩ (.slice x3.D x3.ys.length x3.d))=we at *
   have bz:=b5;clear b5;generalize we=wd at *;refine hK.out _ _ (HSP.out _ bz) (fun hHeld=>?_);clear hK K;try simp only [tz]
   refine tk1 HSU 14 rfl (fun K hK=>?_);go_simp;refine hK.out _ _ (HSP.out _ bz) (fun hHeld=>?_);clear hK K;try simp only [tz]
   refine wpAnyH_done (tkn HSU (by kernel_rfl)) ?_ _
   go_wp2_with fail;go_meet
   case rel=>exact ⟨g7,x3,rfl,rfl,⟨a3,r3⟩,bz⟩
  exact AllReadyH.nil
 case rest=>
  obtain ⟨G,x3,rfl,rfl,v3,bb⟩:=hcut;have f0:=v3.c0;have f1:=v3.c1;have f2:=v3.c2;have bk:=HBK.out.below bb;have hk:=bk;have tk:=bk;obtain ⟨k0,k1,k2,kf0,kf1,kf2,klt,kb⟩:=tk;clear kb;go_wp2_with fail;refine bodyPost_ret (v:=x3.val) (by simp [results,Tryz.results92,go_sem,k0,k1,k2]) rfl ?_
  exact ⟨x3,rfl,⟨bD v3.fa.ok hk rfl rfl rfl,v3.rp⟩,aR (ai HBW.out bb HBW.out.size) (Nat.le_refl _)⟩
end Go.Proofs.YtkpfbekmaafehaaGreat
