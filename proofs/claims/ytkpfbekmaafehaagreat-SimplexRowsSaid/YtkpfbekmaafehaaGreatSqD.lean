/- The walk of a tableau's leave. -/
import Derived.Test.YtkpfbekmaafehaaGreatSpB
import Derived.Test.YtkpfbekmaafehaaGreatSqI
import Derived.BigQuiet
import Derived.Deep.QuietTactic
namespace Go.Proofs.YtkpfbekmaafehaaGreat
set_option maxRecDepth 100000
open Go.RowKit
def rK:Option Nat→Int
 | none => -1
 | some a=>(a:Int)
theorem xL {T:Nat→Nat→Rat} {B:Nat→Nat} {L s i:Nat} (h:T i s≤0):dw T B L s (i+1)=dw T B L s i:=by rw [dw,if_pos h]
theorem uV {T:Nat→Nat→Rat} {B:Nat→Nat} {L s i:Nat} (h:¬T i s≤0) (h2:dw T B L s i=none):dw T B L s (i+1)=some i:=by rw [dw,if_neg h,h2]
theorem qA {T:Nat→Nat→Rat} {B:Nat→Nat} {L s i a:Nat} (h:¬T i s≤0) (h2:dw T B L s i=some a) (h3:T i L/T i s<T a L/T a s∨(T i L/T i s=T a L/T a s∧B i<B a)):dw T B L s (i+1)=some i:=by
 rw [dw,if_neg h,h2];exact if_pos h3
theorem qB {T:Nat→Nat→Rat} {B:Nat→Nat} {L s i a:Nat} (h:¬T i s≤0) (h2:dw T B L s i=some a) (h3:¬(T i L/T i s<T a L/T a s∨(T i L/T i s=T a L/T a s∧B i<B a))):dw T B L s (i+1)=some a:=by
 rw [dw,if_neg h,h2];exact if_neg h3
theorem ot (q:Rat):bA q 0≤0↔q≤0:=by
 unfold bA;constructor
 ·intro h
  split at h
  ·grind
  ·split at h
   ·omega
   ·grind
 ·intro h
  split
  ·omega
  ·rw [if_neg (by grind)];omega
set_option maxHeartbeats 4000000 in
theorem uD (w:World) (B:Nat) (L:Lay) (x:St) (j:Nat) (h:Tw w B L x) (hj:j<L.n+L.gs.length) (hN:L.N≤1000) (hBl:∀i,i<L.gs.length→x.B i≤100000) (hs:∀r,r<L.gs.length→∀k,k≤L.n+L.gs.length→Sz (x.T r k) 60 60) :
 Calls Tryz.prog 93 #[.pointer (some ⟨L.G,0,none⟩), .int .i64 (j:Int)] w fun e w'=>e = .returned (.int .i64 (rK (dw x.T x.B (L.n+L.gs.length) j L.gs.length)))∧Below w.heap.size w w':=by
 have HNL:Hid (L.N=L.n+L.gs.length+1):=ag rfl;have HT:=ag h;have HS:=ag hs;have HBL:=ag hBl;have hjN:j<L.N:=by have:=HNL.out;omega
 have hm:L.gs.length≤1000:=by have:=HNL.out;omega
 have HJ:Hid (j≤L.n+L.gs.length):=ag (Nat.le_of_lt hj);obtain ⟨M,hM⟩:∃M,L.n+L.gs.length=M:=⟨_,rfl⟩;have HM:=ag hM;have HMN:Hid (M<L.N):=ag (by have:=HNL.out;omega)
 rw [hM];clear h hs hM hj hBl;go_enter Tryz.func93,Tryz.ntmps93;go_upto_region 3 with fail;have a1:=(au (Fx.nil_ok w)).1;have bw:=(au (Fx.nil_ok w)).2;generalize (w.alloc (.cells #[.bool false, .slice none 0 0, .slice none 0 0] 29))=wm at a1 bw⊢;have c0:=(HT.out.below bw).c0;go_wp2_with fail;clear c0;go_loopw [5,17] (fun av iv wr=>∃(k:Nat) (xl:Fx),k≤L.gs.length∧iv = .int .i64 k∧av = .int .i64 (rK (dw x.T x.B M j k))∧Fa wr w.heap.size xl∧(∀a,dw x.T x.B M j k=some a→Rp xl (x.T a M/x.T a j))∧Below w.heap.size w wr) (fun _ iv _=>L.gs.length-(intOf iv).toNat)
 case atStart=>exact ⟨0,Fx.nil,by omega,rfl,rfl,a1,(fun a h=>by cases h),bw⟩
 case round=>
  clear a1 bw;obtain ⟨k,xl,hk,rfl,rfl,a1,hrl,bw⟩:=hrel;by_cases hlt:k<L.gs.length
  ·have HTW:=ag (HT.out.below bw);have HFA:=ag a1;have HBW:=ag bw;have HRL:=ag hrl;have HKL:=ag hlt;clear a1 bw hrl;obtain ⟨gk,hgk⟩:∃g,L.gs[k]=g:=⟨_,rfl⟩;have HGK:=ag hgk;have cr:=HTW.out.rowg hlt hgk;obtain ⟨xt,ev⟩:=HTW.out.elg hlt hgk hjN;have HEV:=ag ev;have k0:=ev.c0;have k1:=ev.c1;have k2:=ev.c2;have HST:Hid (Sz (x.T k j) 128 128):=ag (HS.out k HKL.out j HJ.out).up;clear hgk ev;obtain ⟨z,hz⟩:∃z,bA (x.T k j) 0=z:=⟨_,rfl⟩;have HZ:=ag hz;by_cases h0:z≤0
   ·have HE:Hid (dw x.T x.B M j (k+1)=dw x.T x.B M j k):=ag (xL ((ot _).1 (by rw [hz];exact h0)))
    clear hz;go_wp2_with fail;refine (aU wr xt _ z HEV.out.el HST.out HZ.out).mono ?_;rintro e w5 ⟨rfl,bb⟩;go_wp2_with fail;go_roundw
    case rel=>exact ⟨k+1,xl,by omega,by go_num,by rw [HE.out],HFA.out.below bb,by rw [HE.out];exact HRL.out,ai HBW.out bb HBW.out.size⟩
    case measure=>simp [intOf];omega
   ·have HPOS:Hid (¬x.T k j≤0):=fun hh=>h0 (by rw [←hz];exact (ot _).2 hh)
    have HNE:Hid (x.T k j≠0):=ag (fun hh=>HPOS.out (by rw [hh];grind))
    clear hz;go_wp2_with fail;refine (aU wr xt _ z HEV.out.el HST.out HZ.out).mono ?_;rintro e w5 ⟨rfl,bb⟩;replace HTW:=ag (HTW.out.below bb);replace HFA:=ag (HFA.out.below bb);replace HEV:=ag (HEV.out.below bb);replace HBW:=ag (ai HBW.out bb HBW.out.size);clear HZ bb k0 k1 k2 cr;generalize w5=wr at *;have HSR:Hid (Sz (x.T k (L.n+L.gs.length)) 128 128):=ag (HS.out k HKL.out _ (Nat.le_refl _)).up;have HSQ:Hid (Sz (x.T k (L.n+L.gs.length)/x.T k j) 128 128):=ag (((HS.out k HKL.out _ (Nat.le_refl _)).div (HS.out k HKL.out j HJ.out) HNE.out).mono (by omega) (by omega))
    go_upto_region 7 with fail
    go_cut [9,10] (fun s9 s10 w'=>∃(G:Nat) (xq:Fx),s9 = .pointer (some ⟨G,0,none⟩)∧s10 = .int .i64 0∧Vl w' G xq (x.T k (L.n+L.gs.length)/x.T k j)∧Below wr.heap.size wr w')
    case first=>
     have HSP:Hid (∀w',Below wr.heap.size wr w'→(w'.cell? ⟨gk,j*3,none⟩=some (.bool xt.b)∧w'.cell? ⟨gk,j*3+1,none⟩=some (.slice xt.A xt.xs.length xt.c)∧w'.cell? ⟨gk,j*3+2,none⟩=some (.slice xt.D xt.ys.length xt.d))):=ag (fun _ bz=>⟨(HEV.out.below bz).c0,(HEV.out.below bz).c1,(HEV.out.below bz).c2⟩);refine fR HSP (by kernel_rfl) (fun hHeld=>?_)
     have bz:=(ah wr.heap.size wr).drew;generalize wr.drew=wd at *;refine tki [sE 29 [0] [],sE 30 [7] [],sE 31 [29,30] [0,1],sE 32 [8] [],sE 33 [1] [],sE 34 [32,33] [3,4],sE 35 [34] [5],sE 36 [31,35] [2,6,2],sE 28 [36] [7],sE 37 [28] [8],sE 38 [28] [8],sE 9 [] [],(none,[9,37],[11,9,7,0,1,2,3,4,5,6,7,8,9,11],none),sE 10 [38] [10,12,0,1,2,3,4,5,6,7,8,9,10,11,12]] [false,false,false,false,false,false,false,false,false,false,false,false,false,false] (by kernel_rfl) (by kernel_rfl) (by kernel_rfl) (fun HSU=>?_)
     refine tks HSU 0 (.pointer (some ⟨L.G,0,none⟩)) rfl ?_;simp only [tz];refine tks HSU 1 (.int .i64 (k:Int)) rfl ?_;simp only [tz];refine tks HSU 3 (.slice (some ⟨gk,0,none⟩) L.N L.N) rfl ?_;simp only [tz];refine tks HSU 4 (.int .i64 (j:Int)) rfl ?_;simp only [tz];refine tks HSU 5 (.pointer (some ⟨gk,j*3,none⟩)) rfl ?_;simp only [tz];refine tks HSU 6 (xt.val) rfl ?_;simp only [tz];refine wpAnyH_ready (rs := [2,11]) (tkn HSU (by kernel_rfl)) (by simp) ?_
     refine AllReadyH.cons rfl (fun K hK=>?_) ?_
     ·go_simp;go_at_call 97;refine (km wd B L x k (HTW.out.below bz) HKL.out hN).mono ?_;rintro e wd ⟨xr,rfl,er,bb⟩;replace bz:=ai bz bb bz.size;clear bb;refine hK.out _ _ (HSP.out _ bz) (fun hHeld=>?_);clear hK K;try simp only [tz]
      refine wpAnyH_ready (rs := [7,11]) (tkn HSU (by kernel_rfl)) (by simp) ?_
      refine AllReadyH.cons rfl (fun K hK=>?_) ?_
      ·go_simp;go_at_call 115;refine (oh wd xr xt _ _ er (HEV.out.below bz).el HSR.out HST.out HNE.out HSQ.out).mono ?_;rintro e wd ⟨x3,rfl,r3,ok3,bb⟩;clear er;replace bz:=ai bz bb bz.size;clear bb;refine hK.out _ _ (HSP.out _ bz) (fun hHeld=>?_);clear hK K;try simp only [tz]
       refine tks HSU 8 (.tuple #[x3.val, .int .i64 0]) rfl ?_;simp only [tz];refine tks HSU 9 (x3.val) rfl ?_;simp only [tz];refine tks HSU 10 (.int .i64 0) rfl ?_;simp only [tz];refine tk1 HSU 11 rfl (fun K hK=>?_);go_simp;have k9:=aK wd;have bb:=(ah wd.heap.size wd).alloc (Nat.le_refl _) (.cells #[.bool false, .slice none 0 0, .slice none 0 0] 29);have s9:=bz.size;generalize h9:wd.heap.size=g9 at k9 s9⊢;replace ok3:=ok3.below bb;replace bz:=ai bz bb bz.size;clear bb;generalize (wd.alloc (.cells #[.bool false, .slice none 0 0, .slice none 0 0] 29))=we at *;clear h9;generalize we=wd at *;refine hK.out _ _ (HSP.out _ bz) (fun hHeld=>?_);clear hK K;try simp only [tz]
       refine tk1 HSU 12 rfl (fun K hK=>?_);have t:=k9;obtain ⟨k0,k1,k2,kf0,kf1,kf2,_,_⟩:=t;go_simp;clear k0 k1 k2 kf0 kf1 kf2;have hk:Fa wd g9 Fx.nil:=⟨k9,Fx.nil_ok _⟩;have a3:=hk.put ok3;have b5:=aR (G:=g9) (a:=(.bool x3.b)) (b:=(.slice x3.A x3.xs.length x3.c)) (c:=(.slice x3.D x3.ys.length x3.d)) bz s9;clear bz hk k9 ok3 hHeld;generalize (((wd.setCell ⟨g9,0,none⟩ (.bool x3.b)).setCell ⟨g9,1,none⟩ (.slice x3.A x3.xs.length x3.c)).setCell ⟨g9,2,none⟩ (.slice x3.D x3.ys.length x3.d))=we at *;have bz:=b5;clear b5;generalize we=wd at *;refine hK.out _ _ (HSP.out _ bz) (fun hHeld=>?_);clear hK K;try simp only [tz]
       refine tk1 HSU 13 rfl (fun K hK=>?_);go_simp;refine hK.out _ _ (HSP.out _ bz) (fun hHeld=>?_);clear hK K;try simp only [tz]
       refine wpAnyH_done (tkn HSU (by kernel_rfl)) ?_ _
       go_wp2_with fail;go_meet
       case rel=>exact ⟨g9,x3,rfl,rfl,⟨a3,r3⟩,bz⟩
      refine AllReadyH.cons rfl (fun K hK=>?_) ?_
      ·go_simp;have k9:=aK wd;have bb:=(ah wd.heap.size wd).alloc (Nat.le_refl _) (.cells #[.bool false, .slice none 0 0, .slice none 0 0] 29);have s9:=bz.size;generalize h9:wd.heap.size=g9 at k9 s9⊢;replace er:=er.below bb;replace bz:=ai bz bb bz.size;clear bb;generalize (wd.alloc (.cells #[.bool false, .slice none 0 0, .slice none 0 0] 29))=we at *;clear h9;generalize we=wd at *;refine hK.out _ _ (HSP.out _ bz) (fun hHeld=>?_);clear hK K;try simp only [tz]
       refine tk1 HSU 7 rfl (fun K hK=>?_);go_simp;go_at_call 115;refine (oh wd xr xt _ _ er (HEV.out.below bz).el HSR.out HST.out HNE.out HSQ.out).mono ?_;rintro e wd ⟨x3,rfl,r3,ok3,bb⟩;clear er;replace k9:=k9.below bb;replace bz:=ai bz bb bz.size;clear bb;refine hK.out _ _ (HSP.out _ bz) (fun hHeld=>?_);clear hK K;try simp only [tz]
       refine tks HSU 8 (.tuple #[x3.val, .int .i64 0]) rfl ?_;simp only [tz];refine tks HSU 9 (x3.val) rfl ?_;simp only [tz];refine tks HSU 10 (.int .i64 0) rfl ?_;simp only [tz];refine tk1 HSU 12 rfl (fun K hK=>?_);have t:=k9;obtain ⟨k0,k1,k2,kf0,kf1,kf2,_,_⟩:=t;go_simp;clear k0 k1 k2 kf0 kf1 kf2;have hk:Fa wd g9 Fx.nil:=⟨k9,Fx.nil_ok _⟩;have a3:=hk.put ok3;have b5:=aR (G:=g9) (a:=(.bool x3.b)) (b:=(.slice x3.A x3.xs.length x3.c)) (c:=(.slice x3.D x3.ys.length x3.d)) bz s9;clear bz hk k9 ok3 hHeld;generalize (((wd.setCell ⟨g9,0,none⟩ (.bool x3.b)).setCell ⟨g9,1,none⟩ (.slice x3.A x3.xs.length x3.c)).setCell ⟨g9,2,none⟩ (.slice x3.D x3.ys.length x3.d))=we at *
       have bz:=b5;clear b5;generalize we=wd at *;refine hK.out _ _ (HSP.out _ bz) (fun hHeld=>?_);clear hK K;try simp only [tz]
       refine tk1 HSU 13 rfl (fun K hK=>?_);go_simp;refine hK.out _ _ (HSP.out _ bz) (fun hHeld=>?_);clear hK K;try simp only [tz]
       refine wpAnyH_done (tkn HSU (by kernel_rfl)) ?_ _
       go_wp2_with fail;go_meet
       case rel=>exact ⟨g9,x3,rfl,rfl,⟨a3,r3⟩,bz⟩
      exact AllReadyH.nil
     refine AllReadyH.cons rfl (fun K hK=>?_) ?_
     ·go_simp;have k9:=aK wd;have bb:=(ah wd.heap.size wd).alloc (Nat.le_refl _) (.cells #[.bool false, .slice none 0 0, .slice none 0 0] 29);have s9:=bz.size;generalize h9:wd.heap.size=g9 at k9 s9⊢;replace bz:=ai bz bb bz.size;clear bb;generalize (wd.alloc (.cells #[.bool false, .slice none 0 0, .slice none 0 0] 29))=we at *;clear h9;generalize we=wd at *;refine hK.out _ _ (HSP.out _ bz) (fun hHeld=>?_);clear hK K;try simp only [tz]
      refine tk1 HSU 2 rfl (fun K hK=>?_);go_simp;go_at_call 97;refine (km wd B L x k (HTW.out.below bz) HKL.out hN).mono ?_;rintro e wd ⟨xr,rfl,er,bb⟩;replace k9:=k9.below bb;replace bz:=ai bz bb bz.size;clear bb;refine hK.out _ _ (HSP.out _ bz) (fun hHeld=>?_);clear hK K;try simp only [tz]
      refine tk1 HSU 7 rfl (fun K hK=>?_);go_simp;go_at_call 115;refine (oh wd xr xt _ _ er (HEV.out.below bz).el HSR.out HST.out HNE.out HSQ.out).mono ?_;rintro e wd ⟨x3,rfl,r3,ok3,bb⟩;clear er;replace k9:=k9.below bb;replace bz:=ai bz bb bz.size;clear bb;refine hK.out _ _ (HSP.out _ bz) (fun hHeld=>?_);clear hK K;try simp only [tz]
      refine tks HSU 8 (.tuple #[x3.val, .int .i64 0]) rfl ?_;simp only [tz];refine tks HSU 9 (x3.val) rfl ?_;simp only [tz];refine tks HSU 10 (.int .i64 0) rfl ?_;simp only [tz];refine tk1 HSU 12 rfl (fun K hK=>?_);have t:=k9;obtain ⟨k0,k1,k2,kf0,kf1,kf2,_,_⟩:=t;go_simp;clear k0 k1 k2 kf0 kf1 kf2;have hk:Fa wd g9 Fx.nil:=⟨k9,Fx.nil_ok _⟩;have a3:=hk.put ok3;have b5:=aR (G:=g9) (a:=(.bool x3.b)) (b:=(.slice x3.A x3.xs.length x3.c)) (c:=(.slice x3.D x3.ys.length x3.d)) bz s9;clear bz hk k9 ok3 hHeld;generalize (((wd.setCell ⟨g9,0,none⟩ (.bool x3.b)).setCell ⟨g9,1,none⟩ (.slice x3.A x3.xs.length x3.c)).setCell ⟨g9,2,none⟩ (.slice x3.D x3.ys.length x3.d))=we at *
      have bz:=b5;clear b5;generalize we=wd at *;refine hK.out _ _ (HSP.out _ bz) (fun hHeld=>?_);clear hK K;try simp only [tz]
      refine tk1 HSU 13 rfl (fun K hK=>?_);go_simp;refine hK.out _ _ (HSP.out _ bz) (fun hHeld=>?_);clear hK K;try simp only [tz]
      refine wpAnyH_done (tkn HSU (by kernel_rfl)) ?_ _
      go_wp2_with fail;go_meet
      case rel=>exact ⟨g9,x3,rfl,rfl,⟨a3,r3⟩,bz⟩
     exact AllReadyH.nil
    case rest=>
     obtain ⟨g9,xq,rfl,rfl,v9,bb⟩:=hcut;rw [HM.out] at v9 HSQ;replace HTW:=ag (HTW.out.below bb);replace HFA:=ag (HFA.out.below bb);replace HBW:=ag (ai HBW.out bb HBW.out.size);have HVQ:=ag v9;clear bb HEV v9 HSR;generalize wc=wr at *;obtain ⟨bk,hbk⟩:∃b,x.B k=b:=⟨_,rfl⟩;have HBK:=ag hbk;have c1:=HTW.out.c1;have cbk:=(HTW.out.q.bas HKL.out).1;rw [hbk] at cbk;clear hbk
     cases hla:dw x.T x.B M j k with
     | none=>
       have HNEW:Hid (dw x.T x.B M j (k+1)=some k):=ag (uV HPOS.out hla);rw [show rK none = -1 from rfl];clear hla HRL;go_upto_region 11 with fail;go_region;have bd:Below wr.heap.size wr wr.drew:=(ah _ _).drew;have HFD:=ag (HFA.out.below bd);have HVD:=ag (HVQ.out.below bd);have HBD:=ag (ai HBW.out bd HBW.out.size);clear bd c1 cbk;generalize wr.drew=wq at *;have f0:=HVD.out.c0;have f1:=HVD.out.c1;have f2:=HVD.out.c2;have t:=HFD.out.bk;obtain ⟨k0,k1,k2,kf0,kf1,kf2,_,_⟩:=t;go_upto_region 12 with fail;go_region;go_wp2_with fail;go_roundw
       case rel=>exact ⟨k+1,xq,by omega,by go_num,by rw [HNEW.out];rfl,(HFD.out.put HVD.out.fa.ok).below ((ah _ _).drew),(fun a ha=>by rw [HNEW.out] at ha;cases ha;exact HVD.out.rp),(aR HBD.out (Nat.le_refl _)).drew⟩
       case measure=>simp [intOf];omega
     | some a=>
       rw [show rK (some a)=(a:Int) from rfl];have HR:=ag (HRL.out a hla);obtain ⟨la1,la2,_,_⟩:=mI _ _ hla;have haM:a<L.gs.length:=by omega
       have HLA:=ag hla;have HAM:=ag haM;have HSA:Hid (Sz (x.T a M/x.T a j) 128 128):=ag (((HS.out a haM M (by have:=HM.out;omega)).div (HS.out a haM j HJ.out) (kt la2)).mono (by omega) (by omega))
       obtain ⟨ba,hba⟩:∃b,x.B a=b:=⟨_,rfl⟩;have HBA:=ag hba;obtain ⟨z3,hz3⟩:∃z,bA (x.T k M/x.T k j) (x.T a M/x.T a j)=z:=⟨_,rfl⟩;have HZ3:=ag hz3;have h5:=du (x.T k M/x.T k j) (x.T a M/x.T a j);rw [hz3] at h5;have H5:=ag h5;clear hla la1 la2 hba hz3 h5 HRL;have f0:=HVQ.out.c0;have f1:=HVQ.out.c1;have f2:=HVQ.out.c2;have k0:=HFA.out.c0;have k1:=HFA.out.c1;have k2:=HFA.out.c2;have ha0:(0:Int)≤(a:Int):=by omega
       go_wp2_with fail;refine (Cc wr xq xl _ _ z3 HVQ.out.el ⟨HFA.out.ok,HR.out⟩ HSQ.out HSA.out HZ3.out).mono ?_;rintro e w5 ⟨rfl,bb⟩;replace HTW:=ag (HTW.out.below bb);replace HFA:=ag (HFA.out.below bb);replace HVQ:=ag (HVQ.out.below bb);replace HBW:=ag (ai HBW.out bb HBW.out.size);clear bb f0 f1 f2 k0 k1 k2 c1 cbk ha0 HZ3;generalize w5=wr at *;have c1:=HTW.out.c1;have cbk:=(HTW.out.q.bas HKL.out).1;rw [HBK.out] at cbk;rcases H5.out with ⟨h6,rfl⟩|⟨h6,rfl⟩|⟨h6,rfl⟩
       ·have HNEW:Hid (dw x.T x.B M j (k+1)=some k):=ag (qA HPOS.out HLA.out (Or.inl h6));clear h6 H5;go_upto_region 11 with fail;go_region;have bd:Below wr.heap.size wr wr.drew:=(ah _ _).drew;have HFD:=ag (HFA.out.below bd);have HVD:=ag (HVQ.out.below bd);have HBD:=ag (ai HBW.out bd HBW.out.size);clear bd c1 cbk;generalize wr.drew=wq at *;have f0:=HVD.out.c0;have f1:=HVD.out.c1;have f2:=HVD.out.c2;have t:=HFD.out.bk;obtain ⟨k0,k1,k2,kf0,kf1,kf2,_,_⟩:=t;go_upto_region 12 with fail;go_region;go_wp2_with fail;go_roundw
        case rel=>exact ⟨k+1,xq,by omega,by go_num,by rw [HNEW.out];rfl,(HFD.out.put HVD.out.fa.ok).below ((ah _ _).drew),(fun a ha=>by rw [HNEW.out] at ha;cases ha;exact HVD.out.rp),(aR HBD.out (Nat.le_refl _)).drew⟩
        case measure=>simp [intOf];omega
       ·have hcba:=(HTW.out.q.bas HAM.out).1;rw [HBA.out] at hcba;have HEQ:=ag h6;clear h6 H5;by_cases h8:bk<ba
        ·have HNEW:Hid (dw x.T x.B M j (k+1)=some k):=ag (qA HPOS.out HLA.out (Or.inr ⟨HEQ.out,by rw [HBK.out,HBA.out];exact h8⟩))
         go_upto_region 11 with fail;go_region;clear hcba;have bd:Below wr.heap.size wr wr.drew:=(ah _ _).drew;have HFD:=ag (HFA.out.below bd);have HVD:=ag (HVQ.out.below bd);have HBD:=ag (ai HBW.out bd HBW.out.size);clear bd c1 cbk;generalize wr.drew=wq at *;have f0:=HVD.out.c0;have f1:=HVD.out.c1;have f2:=HVD.out.c2;have t:=HFD.out.bk;obtain ⟨k0,k1,k2,kf0,kf1,kf2,_,_⟩:=t;go_upto_region 12 with fail;go_region;go_wp2_with fail;go_roundw
         case rel=>exact ⟨k+1,xq,by omega,by go_num,by rw [HNEW.out];rfl,(HFD.out.put HVD.out.fa.ok).below ((ah _ _).drew),(fun a ha=>by rw [HNEW.out] at ha;cases ha;exact HVD.out.rp),(aR HBD.out (Nat.le_refl _)).drew⟩
         case measure=>simp [intOf];omega
        ·have HNEW:Hid (dw x.T x.B M j (k+1)=some a):=ag (qB HPOS.out HLA.out (fun hh=>by
          rcases hh with hh|⟨_,hh⟩
          ·rw [HEQ.out] at hh;grind
          ·rw [HBK.out,HBA.out] at hh;exact h8 hh))
         go_upto_region 11 with fail;go_region;clear hcba;have bd:Below wr.heap.size wr wr.drew:=(ah _ _).drew;have HFD:=ag (HFA.out.below bd);have HVD:=ag (HVQ.out.below bd);have HBD:=ag (ai HBW.out bd HBW.out.size);clear bd c1 cbk;generalize wr.drew=wq at *;go_wp2_with fail;go_roundw
         case rel=>exact ⟨k+1,xl,by omega,by go_num,by rw [HNEW.out];rfl,HFD.out,(fun a' ha=>by rw [HNEW.out] at ha;cases ha;exact HR.out),HBD.out⟩
         case measure=>simp [intOf];omega
       ·have HNEW:Hid (dw x.T x.B M j (k+1)=some a):=ag (qB HPOS.out HLA.out (fun hh=>by
         rcases hh with hh|⟨hh,_⟩
         ·grind
         ·rw [hh] at h6;grind))
        clear h6 H5;go_upto_region 11 with fail;go_region;have bd:Below wr.heap.size wr wr.drew:=(ah _ _).drew;have HFD:=ag (HFA.out.below bd);have HVD:=ag (HVQ.out.below bd);have HBD:=ag (ai HBW.out bd HBW.out.size);clear bd c1 cbk;generalize wr.drew=wq at *;go_wp2_with fail;go_roundw
        case rel=>exact ⟨k+1,xl,by omega,by go_num,by rw [HNEW.out];rfl,HFD.out,(fun a' ha=>by rw [HNEW.out] at ha;cases ha;exact HR.out),HBD.out⟩
        case measure=>simp [intOf];omega
  ·obtain rfl:k=L.gs.length:=by omega
   go_wp2_with fail;go_ret;exact ⟨rfl,bw⟩
end Go.Proofs.YtkpfbekmaafehaaGreat
