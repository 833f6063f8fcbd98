/- The walks of a tableau's dot and reduced. -/
import Derived.Test.YtkpfbekmaafehaaGreatSpB
import Derived.Test.YtkpfbekmaafehaaGreatSqP
import Derived.Deep.CutBlock
import Derived.Deep.DeepCutAuto
import Derived.Deep.RegionHeld3
namespace Go.Proofs.YtkpfbekmaafehaaGreat
open _root_.Go.Proofs.Tryz
set_option maxHeartbeats 8000000
set_option maxRecDepth 100000
open Go.RowKit
theorem ju (w:World) (B:Nat) (L:Lay) (x:St) (A:Option Addr) (cc:Nat) (vs:List Fx) (c:Nat->Rat) (j:Nat) (h:Tw w B L x) (hc:Cl w A vs c) (hl:vs.length=L.n+L.gs.length) (hj:j<=L.n+L.gs.length) (hB:∀i,i<L.gs.length->x.B i<L.n+L.gs.length) (hN:L.N<=1000) (hf:Fit L.gs.length L.n c x) :
 Calls prog 53 #[.pointer (some ⟨L.G,0,none⟩), .slice A vs.length cc, .int .i64 (j:Int)] w fun e w'=>∃y:Fx,e = .returned y.val/\El w' y (bV L.gs.length c x.T x.B j)/\Below w.heap.size w w':=by
 have cw:Hd (L.N=L.n+L.gs.length+1):=ag rfl;have HT:=ag h;have HC:=ag hc;have cC:=ag hl;have lf:=ag hB;have HF:=ag hf;have HJ:=ag hj;have hm:L.gs.length<=1000:=by have:=cw.o;omega
 have hjN:j<L.N:=by have:=cw.o;omega
 clear h hc hl hB hf hj;go_enter func53,ntmps53;go_upto_region 1 with fail;have bw:=qc w (.cells #[.bool false, .slice none 0 0, .slice none 0 0] 29);have bk:=aK w;generalize (w.alloc (.cells #[.bool false, .slice none 0 0, .slice none 0 0] 29))=wa at bw bk|-;go_wp2_with fail;refine (dk wa 0 (by omega) (by omega)).mono ?_
 rintro e wn ⟨x1,rfl,el,bb⟩;have B7:=ag (bk.below bb);replace bw:=qd bw bb;clear bb bk;go_upto_region 2 with fail;have a1:=(au el.ok).1;have bb:=(au el.ok).2;have v1:Vl (wn.alloc (.cells x1.cells 29)) wn.heap.size x1 ((0:Int):Rat):=⟨a1,el.rp⟩;clear a1 el;have hs1:w.heap.size<wn.heap.size:=B7.o.lt;generalize (wn.alloc (.cells #[.bool x1.b, .slice x1.A x1.xs.length x1.c, .slice x1.D x1.ys.length x1.d] 29))=wm at v1 bb|-;have Eb:=ag (B7.o.below bb);replace bw:=qd bw bb;clear B7 bb;generalize wn.heap.size=g7 at v1 hs1|-;have c0:=(HT.o.below bw).c0;go_wp2_with fail;clear c0
 go_loopw [18] (fun i wr=>∃(k:Nat) (xs:Fx),k<=L.gs.length/\i = .int .i64 k/\Vl wr g7 xs (aj (fun i=>c (x.B i)*x.T i j) k)/\Bk3 wr w.heap.size (.bool false) (.slice none 0 0) (.slice none 0 0)/\Below w.heap.size w wr) (fun i _=>L.gs.length-(intOf i).toNat)
 case atStart=>exact ⟨0,x1,by omega,rfl,v1,Eb.o,bw⟩
 case round=>
  clear v1 Eb bw;obtain ⟨k,xs,hk,rfl,v1,bk,bw⟩:=hrel;by_cases hlt:k<L.gs.length
  ·have aq:=ag (HT.o.below bw);have gD:=ag (HC.o.below bw);have gL:=ag v1;have wU:=ag bk;have aw:=ag bw;clear v1 bk bw;have cr:=aq.o.q.row hlt;obtain ⟨cb,_⟩:=aq.o.q.bas hlt;have c1:=aq.o.c1;obtain ⟨bk,hbk⟩:∃bk,x.B k=bk:=⟨_,rfl⟩;have hbl:bk<vs.length:=by rw [<-hbk,cC.o];exact lf.o k hlt
   obtain ⟨ad,rfl,xc,ef,ec⟩:=gD.o.at hbl;obtain ⟨xt,ev⟩:=aq.o.q.mx.el hlt hjN;obtain ⟨gk,hgk⟩:∃gk,L.gs[k]=gk:=⟨_,rfl⟩;rw [hbk] at cb;rw [hgk] at ev cr;have Fp:=ag hbk;have bf:=ag ev;have gF:=ag ef;have eZ:=ag ec;have d0:=ef.c0;have d1:=ef.c1;have d2:=ef.c2;have fn:Hd (Sz (c bk) 128 128):=ag (HF.o.cs bk (by rw [cC.o] at hbl;exact hbl)).up
   have js:Hd (Sz (x.T k j) 128 128):=ag (HF.o.el k hlt j HJ.o).up;have bt:Hd (Sz (c bk*x.T k j) 128 128):=ag (((HF.o.cs bk (by rw [cC.o] at hbl;exact hbl)).mul (HF.o.el k hlt j HJ.o)).mono (by omega) (by omega))
   have Fq:Hd (Sz (aj (fun i=>c (x.B i)*x.T i j) k) 128 128):=ag (HF.o.dt j HJ.o k hk).up;have sV:Hd (Sz (aj (fun i=>c (x.B i)*x.T i j) k+c bk*x.T k j) 128 128):=ag (by
    have:=(HF.o.dt j HJ.o (k+1) (by omega)).up
    rw [aj,hbk] at this;exact this)
   have cK:Hd (aj (fun i=>c (x.B i)*x.T i j) (k+1)=aj (fun i=>c (x.B i)*x.T i j) k+c bk*x.T k j):=ag (by rw [aj,hbk])
   clear ev ef ec hbk hgk;by_cases h1:c bk=0
   ·have HZ:Hd (bA (c bk) 0=0):=ag (by rw [h1];rfl)
    have HE:Hd (aj (fun i=>c (x.B i)*x.T i j) (k+1)=aj (fun i=>c (x.B i)*x.T i j) k):=ag (by rw [cK.o,h1];grind)
    clear h1;go_wp2_with fail;refine (aU wr xc _ 0 eZ.o fn.o HZ.o).mono ?_;rintro e w5 ⟨rfl,bb⟩;go_wp2_with fail;go_roundw
    case rel=>exact ⟨k+1,xs,by omega,by go_num,by rw [HE.o];exact gL.o.below bb,wU.o.below bb,qd aw.o bb⟩
    case measure=>simp [intOf];omega
   ·obtain ⟨z,hz⟩:∃z,bA (c bk) 0=z:=⟨_,rfl⟩;have hz0:¬z=0:=by rw [<-hz];unfold bA;split <;> (try split) <;> first|omega|grind
    have HZ:=ag hz;clear hz h1;by_cases h2:x.T k j=0
    ·have mt:Hd (bA (x.T k j) 0=0):=ag (by rw [h2];rfl)
     have HE:Hd (aj (fun i=>c (x.B i)*x.T i j) (k+1)=aj (fun i=>c (x.B i)*x.T i j) k):=ag (by rw [cK.o,h2];grind)
     clear h2;go_wp2_with fail;refine (aU wr xc _ z eZ.o fn.o HZ.o).mono ?_;rintro e w5 ⟨rfl,bb⟩;have e0:=(bf.o.below bb).c0;have e1:=(bf.o.below bb).c1;have e2:=(bf.o.below bb).c2;clear cr cb c1 d0 d1 d2;go_wp2_with fail;refine (aU w5 xt _ 0 (bf.o.below bb).el js.o mt.o).mono ?_;rintro e w6 ⟨rfl,b6⟩;clear e0 e1 e2;replace b6:=bb.trans (b6.mono bb.size);go_wp2_with fail;go_roundw
     case rel=>exact ⟨k+1,xs,by omega,by go_num,by rw [HE.o];exact gL.o.below b6,wU.o.below b6,qd aw.o b6⟩
     case measure=>simp [intOf];omega
    ·obtain ⟨z2,hz⟩:∃z,bA (x.T k j) 0=z:=⟨_,rfl⟩;have hz2:¬z2=0:=by rw [<-hz];unfold bA;split <;> (try split) <;> first|omega|grind
     have mt:=ag hz;clear hz h2;go_wp2_with fail;refine (aU wr xc _ z eZ.o fn.o HZ.o).mono ?_;rintro e w5 ⟨rfl,bb⟩;have e0:=(bf.o.below bb).c0;have e1:=(bf.o.below bb).c1;have e2:=(bf.o.below bb).c2;clear cr cb c1 d0 d1 d2;go_wp2_with fail;refine (aU w5 xt _ z2 (bf.o.below bb).el js.o mt.o).mono ?_;rintro e w6 ⟨rfl,b6⟩;clear e0 e1 e2;replace b6:=bb.trans (b6.mono bb.size);replace aq:=ag (aq.o.below b6);replace bf:=ag (bf.o.below b6);replace gF:=ag (gF.o.below b6);replace eZ:=ag (eZ.o.below b6);replace gL:=ag (gL.o.below b6);replace wU:=ag (wU.o.below b6)
     replace aw:=ag (qd aw.o b6);clear gD bb b6 HZ mt;generalize w6=wr at *;have ff:Hd (∀w',Below wr.heap.size wr w'->w'.cell? ⟨L.gb,k,none⟩=some (.int .i64 (bk:Int))):=ag (fun w' hb=>by
      have:=((aq.o.below hb).q.bas hlt).1;rw [Fp.o] at this;exact this)
     have hb1:(z != 0)=true:=by simpa using hz0
     have hb2:(z2 != 0)=true:=by simpa using hz2
     go_upto_region 6 with fail;clear hz0 hz2 hb1 hb2
     go_cut [10,11] (fun s10 s11 w'=>∃(G:Nat) (x3:Fx),s10 = .pointer (some ⟨G,0,none⟩)/\s11 = .int .i64 0/\Vl w' G x3 (c bk*x.T k j)/\Below wr.heap.size wr w')
     case first=>
      have a7:Hd (∀w',Below wr.heap.size wr w'->(w'.cell? ⟨L.G,1,none⟩=some (.slice (some ⟨L.gb,0,none⟩) L.gs.length L.cb)/\w'.cell? ⟨L.gb,k,none⟩=some (.int .i64 (bk:Int))/\w'.cell? (ad.add (bk*3))=some (.bool xc.b)/\w'.cell? ⟨(ad.add (bk*3)).block,(ad.add (bk*3)).off+1,none⟩=some (.slice xc.A xc.xs.length xc.c)/\w'.cell? ⟨(ad.add (bk*3)).block,(ad.add (bk*3)).off+2,none⟩=some (.slice xc.D xc.ys.length xc.d)/\w'.cell? ⟨gk,j*3,none⟩=some (.bool xt.b)/\w'.cell? ⟨gk,j*3+1,none⟩=some (.slice xt.A xt.xs.length xt.c)/\w'.cell? ⟨gk,j*3+2,none⟩=some (.slice xt.D xt.ys.length xt.d))):=ag (fun _ bz=>⟨(aq.o.below bz).c1,(ff.o _ bz),(gF.o.below bz).c0,(gF.o.below bz).c1,(gF.o.below bz).c2,(bf.o.below bz).c0,(bf.o.below bz).c1,(bf.o.below bz).c2⟩)
      refine fR a7 (by kernel_rfl) fun hH=>?_
      have bz:=(ah wr.heap.size wr).drew;generalize wr.drew=wd at *;refine qj 21 fun Ha=>?_
      refine qh Ha 0 (.slice (some ad) vs.length cc) rfl ?_;refine qh Ha 1 (.pointer (some ⟨L.G,0,none⟩)) rfl ?_;refine qh Ha 2 (.pointer (some ⟨L.G,0,none⟩)) rfl ?_;refine qh Ha 3 (.pointer (some ⟨L.G,1,none⟩)) rfl ?_;refine qh Ha 4 (.slice (some ⟨L.gb,0,none⟩) L.gs.length L.cb) rfl ?_;refine qh Ha 5 (.int .i64 (k:Int)) rfl ?_;refine qh Ha 6 (.pointer (some ⟨L.gb,k,none⟩)) rfl ?_;refine qh Ha 7 (.int .i64 (bk:Int)) rfl ?_;refine qh Ha 8 (.pointer (some (ad.add (bk*3)))) rfl ?_
      refine qh Ha 9 (xc.val) rfl ?_;refine qh Ha 10 (.slice (some ⟨gk,0,none⟩) L.N L.N) rfl ?_;refine qh Ha 11 (.int .i64 (j:Int)) rfl ?_;refine qh Ha 12 (.pointer (some ⟨gk,j*3,none⟩)) rfl ?_;refine tks Ha 13 (xt.val) rfl ?_;simp only [tz];refine wpAnyH_ready (rs := [14,18]) (tkn Ha (by kernel_rfl)) (by simp) ?_
      refine AllReadyH.cons rfl (fun K hK=>?_) ?_
      ·go_simp;go_at_call 95;refine (rS wd xc xt _ _ (eZ.o.below bz) (bf.o.below bz).el fn.o js.o bt.o).mono ?_;rintro e wd ⟨x3,rfl,r3,ok3,bb⟩;replace bz:=qd bz bb;clear bb;refine hK.out _ _ (a7.o _ bz) fun hH=>?_;clear hK K;try simp only [tz]
       refine qh Ha 15 (.tuple #[x3.val, .int .i64 0]) rfl ?_;refine qh Ha 16 (x3.val) rfl ?_;refine tks Ha 17 (.int .i64 0) rfl ?_;simp only [tz];refine tk1 Ha 18 rfl fun K hK=>?_;go_simp;have k10:=aK wd;have bb:=qc wd (.cells #[.bool false, .slice none 0 0, .slice none 0 0] 29);have s10:=bz.size;generalize h10:wd.heap.size=g10 at k10 s10|-;replace ok3:=ok3.below bb;replace bz:=qd bz bb;clear bb;generalize (wd.alloc (.cells #[.bool false, .slice none 0 0, .slice none 0 0] 29))=we at *;clear h10;generalize we=wd at *
       refine hK.out _ _ (a7.o _ bz) fun hH=>?_;clear hK K;try simp only [tz]
       refine tk1 Ha 19 rfl fun K hK=>?_;have t:=k10;obtain ⟨k0,k1,k2,aF,aG,aH,_,_⟩:=t;go_simp;clear k0 k1 k2 aF aG aH;have hk:Fa wd g10 Fx.nil:=⟨k10,Fx.nil_ok _⟩;have a3:=hk.put ok3;have b5:=aR (G:=g10) (a:=(.bool x3.b)) (b:=(.slice x3.A x3.xs.length x3.c)) (c:=(.slice x3.D x3.ys.length x3.d)) bz s10;clear bz hk k10 ok3 hH;generalize (((wd.setCell ⟨g10,0,none⟩ (.bool x3.b)).setCell ⟨g10,1,none⟩ (.slice x3.A x3.xs.length x3.c)).setCell ⟨g10,2,none⟩ (.slice x3.D x3.ys.length x3.d))=we at *;have bz:=b5;clear b5;generalize we=wd at *;refine hK.out _ _ (a7.o _ bz) fun hH=>?_;clear hK K;try simp only [tz]
       refine tk1 Ha 20 rfl fun K hK=>?_;go_simp;refine hK.out _ _ (a7.o _ bz) fun hH=>?_;clear hK K;try simp only [tz]
       refine qp Ha ?_
       go_wp2_with fail;go_meet
       case rel=>exact ⟨g10,x3,rfl,rfl,⟨a3,r3⟩,bz⟩
      refine AllReadyH.cons rfl (fun K hK=>?_) ?_
      ·go_simp;have k10:=aK wd;have bb:=qc wd (.cells #[.bool false, .slice none 0 0, .slice none 0 0] 29);have s10:=bz.size;generalize h10:wd.heap.size=g10 at k10 s10|-;replace bz:=qd bz bb;clear bb;generalize (wd.alloc (.cells #[.bool false, .slice none 0 0, .slice none 0 0] 29))=we at *;clear h10;generalize we=wd at *;refine hK.out _ _ (a7.o _ bz) fun hH=>?_;clear hK K;try simp only [tz]
       refine tk1 Ha 14 rfl fun K hK=>?_;go_simp;go_at_call 95;refine (rS wd xc xt _ _ (eZ.o.below bz) (bf.o.below bz).el fn.o js.o bt.o).mono ?_;rintro e wd ⟨x3,rfl,r3,ok3,bb⟩;replace k10:=k10.below bb;replace bz:=qd bz bb;clear bb;refine hK.out _ _ (a7.o _ bz) fun hH=>?_;clear hK K;try simp only [tz]
       refine qh Ha 15 (.tuple #[x3.val, .int .i64 0]) rfl ?_;refine qh Ha 16 (x3.val) rfl ?_;refine tks Ha 17 (.int .i64 0) rfl ?_;simp only [tz];refine tk1 Ha 19 rfl fun K hK=>?_;have t:=k10;obtain ⟨k0,k1,k2,aF,aG,aH,_,_⟩:=t;go_simp;clear k0 k1 k2 aF aG aH;have hk:Fa wd g10 Fx.nil:=⟨k10,Fx.nil_ok _⟩;have a3:=hk.put ok3;have b5:=aR (G:=g10) (a:=(.bool x3.b)) (b:=(.slice x3.A x3.xs.length x3.c)) (c:=(.slice x3.D x3.ys.length x3.d)) bz s10;clear bz hk k10 ok3 hH;generalize (((wd.setCell ⟨g10,0,none⟩ (.bool x3.b)).setCell ⟨g10,1,none⟩ (.slice x3.A x3.xs.length x3.c)).setCell ⟨g10,2,none⟩ (.slice x3.D x3.ys.length x3.d))=we at *
       have bz:=b5;clear b5;generalize we=wd at *;refine hK.out _ _ (a7.o _ bz) fun hH=>?_;clear hK K;try simp only [tz]
       refine tk1 Ha 20 rfl fun K hK=>?_;go_simp;refine hK.out _ _ (a7.o _ bz) fun hH=>?_;clear hK K;try simp only [tz]
       refine qp Ha ?_
       go_wp2_with fail;go_meet
       case rel=>exact ⟨g10,x3,rfl,rfl,⟨a3,r3⟩,bz⟩
      exact AllReadyH.nil
     case rest=>
      obtain ⟨G,x3,rfl,rfl,v3,bb⟩:=hcut;have v1:=gL.o.below bb;have e0:=v1.c0;have e1:=v1.c1;have e2:=v1.c2;have f0:=v3.c0;have f1:=v3.c1;have f2:=v3.c2;have wV:=ag v3;clear v1 v3;go_wp2_with fail;refine (Ce wc xs x3 _ _ (gL.o.below bb).el wV.o.el Fq.o bt.o sV.o).mono ?_;rintro e w7 ⟨x4,rfl,r4,ok4,b4⟩;clear e0 e1 e2 f0 f1 f2;have v1:=(gL.o.below bb).below b4;have t:=v1.fa.bk;obtain ⟨k0,k1,k2,aF,aG,aH,_,_⟩:=t;go_wp2_with fail;go_roundw
      case rel=>exact ⟨k+1,x4,by omega,by go_num,by rw [cK.o];exact ⟨v1.fa.put ok4,r4⟩,((wU.o.below bb).below b4).far (by omega),aR (ai (qd aw.o bb) b4 (Nat.le_trans aw.o.size bb.size)) (by omega)⟩
      case measure=>simp [intOf];omega
  ·obtain rfl:k=L.gs.length:=by omega
   have e0:=v1.c0;have e1:=v1.c1;have e2:=v1.c2;have tk:=bk;obtain ⟨k0,k1,k2,aF,aG,aH,klt,kb⟩:=tk;clear kb;go_wp2_with fail;refine bodyPost_ret (v:=xs.val) (by simp [results,Tryz.results53,go_sem,k0,k1,k2]) rfl ?_
   exact ⟨xs,rfl,⟨bD v1.fa.ok bk rfl rfl rfl,v1.rp⟩,aR bw (Nat.le_refl _)⟩
theorem rj (w:World) (B:Nat) (L:Lay) (x:St) (A:Option Addr) (cc:Nat) (vs:List Fx) (c:Nat->Rat) (j:Nat) (h:Tw w B L x) (hc:Cl w A vs c) (hl:vs.length=L.n+L.gs.length) (hj:j<L.n+L.gs.length) (hB:∀i,i<L.gs.length->x.B i<L.n+L.gs.length) (hN:L.N<=1000) (hf:Fit L.gs.length L.n c x) :
 Calls prog 92 #[.pointer (some ⟨L.G,0,none⟩), .slice A vs.length cc, .int .i64 (j:Int)] w fun e w'=>∃y:Fx,e = .returned y.val/\El w' y (cE L.gs.length c x.T x.B j)/\Below w.heap.size w w':=by
 obtain ⟨ad,rfl,xc,ef,ec⟩:=hc.at (k:=j) (by rw [hl];exact hj)
 have cw:Hd (L.N=L.n+L.gs.length+1):=ag rfl;have HT:=ag h;have HC:=ag hc;have cC:=ag hl;have lf:=ag hB;have HF:=ag hf;have HJ:Hd (j<=L.n+L.gs.length):=ag (Nat.le_of_lt hj);have fn:Hd (Sz (c j) 128 128):=ag (hf.cs j hj).up;have l9:Hd (Sz (bV L.gs.length c x.T x.B j) 128 128):=ag (hf.dt j (by omega) _ (Nat.le_refl _)).up
 have bt:Hd (Sz (c j-bV L.gs.length c x.T x.B j) 128 128):=ag (((hf.cs j hj).sub (hf.dt j (by omega) _ (Nat.le_refl _))).mono (by omega) (by omega))
 have hjl:j<vs.length:=by omega
 have Ec:=ag ef;have Ed:=ag ec;clear h hc hl hB hf hj ef ec;go_enter func92,ntmps92;go_upto_region 1 with fail;have bw:=qc w (.cells #[.bool false, .slice none 0 0, .slice none 0 0] 29);have bk:=aK w;have aq:=ag (HT.o.below bw);have gD:=ag (HC.o.below bw);have gF:=ag (Ec.o.below bw);have eZ:=ag (Ed.o.below bw);clear HT HC Ec Ed;generalize (w.alloc (.cells #[.bool false, .slice none 0 0, .slice none 0 0] 29))=w1 at *;have ff:=ag bk;have aw:=ag bw;clear bk bw
 go_cut [7,8] (fun s7 s8 w'=>∃(G:Nat) (x3:Fx),s7 = .pointer (some ⟨G,0,none⟩)/\s8 = .int .i64 0/\Vl w' G x3 (c j-bV L.gs.length c x.T x.B j)/\Below w1.heap.size w1 w')
 case first=>
  have a7:Hd (∀w',Below w1.heap.size w1 w'->(w'.cell? (ad.add (j*3))=some (.bool xc.b)/\w'.cell? ⟨(ad.add (j*3)).block,(ad.add (j*3)).off+1,none⟩=some (.slice xc.A xc.xs.length xc.c)/\w'.cell? ⟨(ad.add (j*3)).block,(ad.add (j*3)).off+2,none⟩=some (.slice xc.D xc.ys.length xc.d))):=ag (fun _ bz=>⟨(gF.o.below bz).c0,(gF.o.below bz).c1,(gF.o.below bz).c2⟩);refine fR a7 (by kernel_rfl) fun hH=>?_
  have bz:=(ah w1.heap.size w1).drew;generalize w1.drew=wd at *;refine qj 15 fun Ha=>?_
  refine qh Ha 0 (.slice (some ad) vs.length cc) rfl ?_;refine qh Ha 1 (.int .i64 (j:Int)) rfl ?_;refine qh Ha 2 (.pointer (some (ad.add (j*3)))) rfl ?_;refine qh Ha 3 (xc.val) rfl ?_;refine qh Ha 4 (.pointer (some ⟨L.G,0,none⟩)) rfl ?_;refine qh Ha 5 (.slice (some ad) vs.length cc) rfl ?_;refine tks Ha 6 (.int .i64 (j:Int)) rfl ?_;simp only [tz];refine wpAnyH_ready (rs := [7,12]) (tkn Ha (by kernel_rfl)) (by simp) ?_
  refine AllReadyH.cons rfl (fun K hK=>?_) ?_
  ·go_simp;go_at_call 53;refine (ju wd B L x (some ad) cc vs c j (aq.o.below bz) (gD.o.below bz) cC.o HJ.o lf.o hN HF.o).mono ?_;rintro e wd ⟨xd,rfl,ed,bb⟩;replace bz:=qd bz bb;clear bb;refine hK.out _ _ (a7.o _ bz) fun hH=>?_;clear hK K;try simp only [tz]
   refine wpAnyH_ready (rs := [8,12]) (tkn Ha (by kernel_rfl)) (by simp) ?_
   refine AllReadyH.cons rfl (fun K hK=>?_) ?_
   ·go_simp;go_at_call 89;refine (fX wd xc xd _ _ (eZ.o.below bz) ed fn.o l9.o bt.o).mono ?_;rintro e wd ⟨x3,rfl,r3,ok3,bb⟩;clear ed;replace bz:=qd bz bb;clear bb;refine hK.out _ _ (a7.o _ bz) fun hH=>?_;clear hK K;try simp only [tz]
    refine qh Ha 9 (.tuple #[x3.val, .int .i64 0]) rfl ?_;refine qh Ha 10 (x3.val) rfl ?_;refine tks Ha 11 (.int .i64 0) rfl ?_;simp only [tz];refine tk1 Ha 12 rfl fun K hK=>?_;go_simp;have k7:=aK wd;have bb:=qc wd (.cells #[.bool false, .slice none 0 0, .slice none 0 0] 29);have s7:=bz.size;generalize h7:wd.heap.size=g7 at k7 s7|-;replace ok3:=ok3.below bb;replace bz:=qd bz bb;clear bb;generalize (wd.alloc (.cells #[.bool false, .slice none 0 0, .slice none 0 0] 29))=we at *;clear h7;generalize we=wd at *;refine hK.out _ _ (a7.o _ bz) fun hH=>?_;clear hK K;try simp only [tz]
    refine tk1 Ha 13 rfl fun K hK=>?_;have t:=k7;obtain ⟨k0,k1,k2,aF,aG,aH,_,_⟩:=t;go_simp;clear k0 k1 k2 aF aG aH;have hk:Fa wd g7 Fx.nil:=⟨k7,Fx.nil_ok _⟩;have a3:=hk.put ok3;have b5:=aR (G:=g7) (a:=(.bool x3.b)) (b:=(.slice x3.A x3.xs.length x3.c)) (c:=(.slice x3.D x3.ys.length x3.d)) bz s7;clear bz hk k7 ok3 hH;generalize (((wd.setCell ⟨g7,0,none⟩ (.bool x3.b)).setCell ⟨g7,1,none⟩ (.slice x3.A x3.xs.length x3.c)).setCell ⟨g7,2,none⟩ (.slice x3.D x3.ys.length x3.d))=we at *;have bz:=b5;clear b5;generalize we=wd at *;refine hK.out _ _ (a7.o _ bz) fun hH=>?_;clear hK K;try simp only [tz]
    refine tk1 Ha 14 rfl fun K hK=>?_;go_simp;refine hK.out _ _ (a7.o _ bz) fun hH=>?_;clear hK K;try simp only [tz]
    refine qp Ha ?_
    go_wp2_with fail;go_meet
    case rel=>exact ⟨g7,x3,rfl,rfl,⟨a3,r3⟩,bz⟩
   refine AllReadyH.cons rfl (fun K hK=>?_) ?_
   ·go_simp;have k7:=aK wd;have bb:=qc wd (.cells #[.bool false, .slice none 0 0, .slice none 0 0] 29);have s7:=bz.size;generalize h7:wd.heap.size=g7 at k7 s7|-;replace ed:=ed.below bb;replace bz:=qd bz bb;clear bb;generalize (wd.alloc (.cells #[.bool false, .slice none 0 0, .slice none 0 0] 29))=we at *;clear h7;generalize we=wd at *;refine hK.out _ _ (a7.o _ bz) fun hH=>?_;clear hK K;try simp only [tz]
    refine tk1 Ha 8 rfl fun K hK=>?_;go_simp;go_at_call 89;refine (fX wd xc xd _ _ (eZ.o.below bz) ed fn.o l9.o bt.o).mono ?_;rintro e wd ⟨x3,rfl,r3,ok3,bb⟩;clear ed;replace k7:=k7.below bb;replace bz:=qd bz bb;clear bb;refine hK.out _ _ (a7.o _ bz) fun hH=>?_;clear hK K;try simp only [tz]
    refine qh Ha 9 (.tuple #[x3.val, .int .i64 0]) rfl ?_;refine qh Ha 10 (x3.val) rfl ?_;refine tks Ha 11 (.int .i64 0) rfl ?_;simp only [tz];refine tk1 Ha 13 rfl fun K hK=>?_;have t:=k7;obtain ⟨k0,k1,k2,aF,aG,aH,_,_⟩:=t;go_simp;clear k0 k1 k2 aF aG aH;have hk:Fa wd g7 Fx.nil:=⟨k7,Fx.nil_ok _⟩;have a3:=hk.put ok3;have b5:=aR (G:=g7) (a:=(.bool x3.b)) (b:=(.slice x3.A x3.xs.length x3.c)) (c:=(.slice x3.D x3.ys.length x3.d)) bz s7;clear bz hk k7 ok3 hH;generalize (((wd.setCell ⟨g7,0,none⟩ (.bool x3.b)).setCell ⟨g7,1,none⟩ (.slice x3.A x3.xs.length x3.c)).setCell ⟨g7,2,none⟩ (.slice x3.D x3.ys.length x3.d))=we at *
    have bz:=b5;clear b5;generalize we=wd at *;refine hK.out _ _ (a7.o _ bz) fun hH=>?_;clear hK K;try simp only [tz]
    refine tk1 Ha 14 rfl fun K hK=>?_;go_simp;refine hK.out _ _ (a7.o _ bz) fun hH=>?_;clear hK K;try simp only [tz]
    refine qp Ha ?_
    go_wp2_with fail;go_meet
    case rel=>exact ⟨g7,x3,rfl,rfl,⟨a3,r3⟩,bz⟩
   exact AllReadyH.nil
  refine AllReadyH.cons rfl (fun K hK=>?_) ?_
  ·go_simp;have k7:=aK wd;have bb:=qc wd (.cells #[.bool false, .slice none 0 0, .slice none 0 0] 29);have s7:=bz.size;generalize h7:wd.heap.size=g7 at k7 s7|-;replace bz:=qd bz bb;clear bb;generalize (wd.alloc (.cells #[.bool false, .slice none 0 0, .slice none 0 0] 29))=we at *;clear h7;generalize we=wd at *;refine hK.out _ _ (a7.o _ bz) fun hH=>?_;clear hK K;try simp only [tz]
   refine tk1 Ha 7 rfl fun K hK=>?_;go_simp;go_at_call 53;refine (ju wd B L x (some ad) cc vs c j (aq.o.below bz) (gD.o.below bz) cC.o HJ.o lf.o hN HF.o).mono ?_;rintro e wd ⟨xd,rfl,ed,bb⟩;replace k7:=k7.below bb;replace bz:=qd bz bb;clear bb;refine hK.out _ _ (a7.o _ bz) fun hH=>?_;clear hK K;try simp only [tz]
   refine tk1 Ha 8 rfl fun K hK=>?_;go_simp;go_at_call 89;refine (fX wd xc xd _ _ (eZ.o.below bz) ed fn.o l9.o bt.o).mono ?_;rintro e wd ⟨x3,rfl,r3,ok3,bb⟩;clear ed;replace k7:=k7.below bb;replace bz:=qd bz bb;clear bb;refine hK.out _ _ (a7.o _ bz) fun hH=>?_;clear hK K;try simp only [tz]
   refine qh Ha 9 (.tuple #[x3.val, .int .i64 0]) rfl ?_;refine qh Ha 10 (x3.val) rfl ?_;refine tks Ha 11 (.int .i64 0) rfl ?_;simp only [tz];refine tk1 Ha 13 rfl fun K hK=>?_;have t:=k7;obtain ⟨k0,k1,k2,aF,aG,aH,_,_⟩:=t;go_simp;clear k0 k1 k2 aF aG aH;have hk:Fa wd g7 Fx.nil:=⟨k7,Fx.nil_ok _⟩;have a3:=hk.put ok3;have b5:=aR (G:=g7) (a:=(.bool x3.b)) (b:=(.slice x3.A x3.xs.length x3.c)) (c:=(.slice x3.D x3.ys.length x3.d)) bz s7;clear bz hk k7 ok3 hH;generalize (((wd.setCell ⟨g7,0,none⟩ (.bool x3.b)).setCell ⟨g7,1,none⟩ (.slice x3.A x3.xs.length x3.c)).setCell ⟨g7,2,none⟩ (.slice x3.D x3.ys.length x3.d))=we at *
   have bz:=b5;clear b5;generalize we=wd at *;refine hK.out _ _ (a7.o _ bz) fun hH=>?_;clear hK K;try simp only [tz]
   refine tk1 Ha 14 rfl fun K hK=>?_;go_simp;refine hK.out _ _ (a7.o _ bz) fun hH=>?_;clear hK K;try simp only [tz]
   refine qp Ha ?_
   go_wp2_with fail;go_meet
   case rel=>exact ⟨g7,x3,rfl,rfl,⟨a3,r3⟩,bz⟩
  exact AllReadyH.nil
 case rest=>
  obtain ⟨G,x3,rfl,rfl,v3,bb⟩:=hcut;have f0:=v3.c0;have f1:=v3.c1;have f2:=v3.c2;have bk:=ff.o.below bb;have hk:=bk;have tk:=bk;obtain ⟨k0,k1,k2,aF,aG,aH,klt,kb⟩:=tk;clear kb;go_wp2_with fail;refine bodyPost_ret (v:=x3.val) (by simp [results,Tryz.results92,go_sem,k0,k1,k2]) rfl ?_
  exact ⟨x3,rfl,⟨bD v3.fa.ok hk rfl rfl rfl,v3.rp⟩,aR (qd aw.o bb) (Nat.le_refl _)⟩
end Go.Proofs.YtkpfbekmaafehaaGreat
