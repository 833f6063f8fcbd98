/- The walk of a tableau's leave -/
import Derived.Test.YtkpfbekmaafehaaGreatSpB
import Derived.Test.YtkpfbekmaafehaaGreatSqI
import Derived.BigQuiet
import Derived.Deep.QuietTactic
import Derived.Test.YtkpfbekmaafehaaGreatSqB
import Derived.Test.YtkpfbekmaafehaaGreatSqL
namespace Go.Proofs.YtkpfbekmaafehaaGreat
open _root_.Go.Proofs.Tryz
set_option maxHeartbeats 8000000
set_option maxRecDepth 100000
open Go.RowKit
def rK:Option Nat->Int
 | none => -1
 | some a=>(a:Int)
theorem xL {T:Nat->Nat->Rat} {B:Nat->Nat} {L s i:Nat} (h:T i s<=0):dw T B L s (i+1)=dw T B L s i:=by rw [dw,if_pos h]
theorem uV {T:Nat->Nat->Rat} {B:Nat->Nat} {L s i:Nat} (h:¬T i s<=0) (h2:dw T B L s i=none):dw T B L s (i+1)=some i:=by rw [dw,if_neg h,h2]
theorem qA {T:Nat->Nat->Rat} {B:Nat->Nat} {L s i a:Nat} (h:¬T i s<=0) (h2:dw T B L s i=some a) (h3:T i L/T i s<T a L/T a s\/(T i L/T i s=T a L/T a s/\B i<B a)):dw T B L s (i+1)=some i:=by
 rw [dw,if_neg h,h2];exact if_pos h3
theorem qB {T:Nat->Nat->Rat} {B:Nat->Nat} {L s i a:Nat} (h:¬T i s<=0) (h2:dw T B L s i=some a) (h3:¬(T i L/T i s<T a L/T a s\/(T i L/T i s=T a L/T a s/\B i<B a))):dw T B L s (i+1)=some a:=by
 rw [dw,if_neg h,h2];exact if_neg h3
theorem ot (q:Rat):bA q 0<=0↔q<=0:=by
 unfold bA;constructor
 ·intro h
  split at h
  ·grind
  ·split at h
   ·omega
   ·grind
 ·intro h
  split
  ·omega
  ·rw [if_neg (by grind)];omega
theorem uD (w:World) (B:Nat) (L:Lay) (x:St) (j:Nat) (h:Tw w B L x) (hj:j<L.n+L.gs.length) (hN:L.N<=1000) (hBl:∀i,i<L.gs.length->x.B i<=100000) (hs:∀r,r<L.gs.length->∀k,k<=L.n+L.gs.length->Sz (x.T r k) 60 60) :
 Calls prog 93 #[.pointer (some ⟨L.G,0,none⟩), .int .i64 (j:Int)] w fun e w'=>e = .returned (.int .i64 (rK (dw x.T x.B (L.n+L.gs.length) j L.gs.length)))/\Below w.heap.size w w':=by
 have cw:Hd (L.N=L.n+L.gs.length+1):=ag rfl;have HT:=ag h;have HS:=ag hs;have lf:=ag hBl;have hjN:j<L.N:=by have:=cw.o;omega
 have hm:L.gs.length<=1000:=by have:=cw.o;omega
 have HJ:Hd (j<=L.n+L.gs.length):=ag (Nat.le_of_lt hj);obtain ⟨M,hM⟩:∃M,L.n+L.gs.length=M:=⟨_,rfl⟩;have HM:=ag hM;have tp:Hd (M<L.N):=ag (by have:=cw.o;omega)
 rw [hM];clear h hs hM hj hBl;go_enter func93,ntmps93;go_upto_region 3 with fail;have a1:=(au (Fx.nil_ok w)).1;have bw:=(au (Fx.nil_ok w)).2;generalize (w.alloc (.cells #[.bool false, .slice none 0 0, .slice none 0 0] 29))=wm at a1 bw|-;have c0:=(HT.o.below bw).c0;go_wp2_with fail;clear c0;go_loopw [5,17] (fun av iv wr=>∃(k:Nat) (xl:Fx),k<=L.gs.length/\iv = .int .i64 k/\av = .int .i64 (rK (dw x.T x.B M j k))/\Fa wr w.heap.size xl/\(∀a,dw x.T x.B M j k=some a->Rp xl (x.T a M/x.T a j))/\Below w.heap.size w wr) (fun _ iv _=>L.gs.length-(intOf iv).toNat)
 case atStart=>exact ⟨0,Fx.nil,by omega,rfl,rfl,a1,(fun a h=>by cases h),bw⟩
 case round=>
  clear a1 bw;obtain ⟨k,xl,hk,rfl,rfl,a1,hrl,bw⟩:=hrel;by_cases hlt:k<L.gs.length
  ·have aq:=ag (HT.o.below bw);have cu:=ag a1;have aw:=ag bw;have bU:=ag hrl;have gW:=ag hlt;clear a1 bw hrl;obtain ⟨gk,hgk⟩:∃g,L.gs[k]=g:=⟨_,rfl⟩;have lo:=ag hgk;have cr:=aq.o.rowg hlt hgk;obtain ⟨xt,ev⟩:=aq.o.elg hlt hgk hjN;have bf:=ag ev;have k0:=ev.c0;have k1:=ev.c1;have k2:=ev.c2;have js:Hd (Sz (x.T k j) 128 128):=ag (HS.o k gW.o j HJ.o).up;clear hgk ev;obtain ⟨z,hz⟩:∃z,bA (x.T k j) 0=z:=⟨_,rfl⟩;have HZ:=ag hz;by_cases h0:z<=0
   ·have HE:Hd (dw x.T x.B M j (k+1)=dw x.T x.B M j k):=ag (xL ((ot _).1 (by rw [hz];exact h0)))
    clear hz;go_wp2_with fail;refine (aU wr xt _ z bf.o.el js.o HZ.o).mono ?_;rintro e w5 ⟨rfl,bb⟩;go_wp2_with fail;go_roundw
    case rel=>exact ⟨k+1,xl,by omega,by go_num,by rw [HE.o],cu.o.below bb,by rw [HE.o];exact bU.o,qd aw.o bb⟩
    case measure=>simp [intOf];omega
   ·have lw:Hd (¬x.T k j<=0):=fun hh=>h0 (by rw [<-hz];exact (ot _).2 hh)
    have iD:Hd (x.T k j≠0):=ag (fun hh=>lw.o (by rw [hh];grind))
    clear hz;go_wp2_with fail;refine (aU wr xt _ z bf.o.el js.o HZ.o).mono ?_;rintro e w5 ⟨rfl,bb⟩;replace aq:=ag (aq.o.below bb);replace cu:=ag (cu.o.below bb);replace bf:=ag (bf.o.below bb);replace aw:=ag (qd aw.o bb);clear HZ bb k0 k1 k2 cr;generalize w5=wr at *;have m4:Hd (Sz (x.T k (L.n+L.gs.length)) 128 128):=ag (HS.o k gW.o _ (Nat.le_refl _)).up;have c7:Hd (Sz (x.T k (L.n+L.gs.length)/x.T k j) 128 128):=ag (((HS.o k gW.o _ (Nat.le_refl _)).div (HS.o k gW.o j HJ.o) iD.o).mono (by omega) (by omega))
    go_upto_region 7 with fail
    go_cut [9,10] (fun s9 s10 w'=>∃(G:Nat) (xq:Fx),s9 = .pointer (some ⟨G,0,none⟩)/\s10 = .int .i64 0/\Vl w' G xq (x.T k (L.n+L.gs.length)/x.T k j)/\Below wr.heap.size wr w')
    case first=>
     have a7:Hd (∀w',Below wr.heap.size wr w'->(w'.cell? ⟨gk,j*3,none⟩=some (.bool xt.b)/\w'.cell? ⟨gk,j*3+1,none⟩=some (.slice xt.A xt.xs.length xt.c)/\w'.cell? ⟨gk,j*3+2,none⟩=some (.slice xt.D xt.ys.length xt.d))):=ag (fun _ bz=>⟨(bf.o.below bz).c0,(bf.o.below bz).c1,(bf.o.below bz).c2⟩);refine fR a7 (by kernel_rfl) fun hH=>?_
     have bz:=(ah wr.heap.size wr).drew;generalize wr.drew=wd at *;refine qj 14 fun Ha=>?_
     refine qh Ha 0 (.pointer (some ⟨L.G,0,none⟩)) rfl ?_;refine qh Ha 1 (.int .i64 (k:Int)) rfl ?_;refine qh Ha 3 (.slice (some ⟨gk,0,none⟩) L.N L.N) rfl ?_;refine qh Ha 4 (.int .i64 (j:Int)) rfl ?_;refine qh Ha 5 (.pointer (some ⟨gk,j*3,none⟩)) rfl ?_;refine tks Ha 6 (xt.val) rfl ?_;simp only [tz];refine wpAnyH_ready (rs := [2,11]) (tkn Ha (by kernel_rfl)) (by simp) ?_
     refine AllReadyH.cons rfl (fun K hK=>?_) ?_
     ·go_simp;go_at_call 97;refine (km wd B L x k (aq.o.below bz) gW.o hN).mono ?_;rintro e wd ⟨xr,rfl,er,bb⟩;replace bz:=qd bz bb;clear bb;refine hK.out _ _ (a7.o _ bz) fun hH=>?_;clear hK K;try simp only [tz]
      refine wpAnyH_ready (rs := [7,11]) (tkn Ha (by kernel_rfl)) (by simp) ?_
      refine AllReadyH.cons rfl (fun K hK=>?_) ?_
      ·go_simp;go_at_call 115;refine (oh wd xr xt _ _ er (bf.o.below bz).el m4.o js.o iD.o c7.o).mono ?_;rintro e wd ⟨x3,rfl,r3,ok3,bb⟩;clear er;replace bz:=qd bz bb;clear bb;refine hK.out _ _ (a7.o _ bz) fun hH=>?_;clear hK K;try simp only [tz]
       refine qh Ha 8 (.tuple #[x3.val, .int .i64 0]) rfl ?_;refine qh Ha 9 (x3.val) rfl ?_;refine tks Ha 10 (.int .i64 0) rfl ?_;simp only [tz];refine tk1 Ha 11 rfl fun K hK=>?_;go_simp;have k9:=aK wd;have bb:=qc wd (.cells #[.bool false, .slice none 0 0, .slice none 0 0] 29);have s9:=bz.size;generalize h9:wd.heap.size=g9 at k9 s9|-;replace ok3:=ok3.below bb;replace bz:=qd bz bb;clear bb;generalize (wd.alloc (.cells #[.bool false, .slice none 0 0, .slice none 0 0] 29))=we at *;clear h9;generalize we=wd at *;refine hK.out _ _ (a7.o _ bz) fun hH=>?_;clear hK K;try simp only [tz]
       refine tk1 Ha 12 rfl fun K hK=>?_;have t:=k9;obtain ⟨k0,k1,k2,aF,aG,aH,_,_⟩:=t;go_simp;clear k0 k1 k2 aF aG aH;have hk:Fa wd g9 Fx.nil:=⟨k9,Fx.nil_ok _⟩;have a3:=hk.put ok3;have b5:=aR (G:=g9) (a:=(.bool x3.b)) (b:=(.slice x3.A x3.xs.length x3.c)) (c:=(.slice x3.D x3.ys.length x3.d)) bz s9;clear bz hk k9 ok3 hH;generalize (((wd.setCell ⟨g9,0,none⟩ (.bool x3.b)).setCell ⟨g9,1,none⟩ (.slice x3.A x3.xs.length x3.c)).setCell ⟨g9,2,none⟩ (.slice x3.D x3.ys.length x3.d))=we at *;have bz:=b5;clear b5;generalize we=wd at *;refine hK.out _ _ (a7.o _ bz) fun hH=>?_;clear hK K;try simp only [tz]
       refine tk1 Ha 13 rfl fun K hK=>?_;go_simp;refine hK.out _ _ (a7.o _ bz) fun hH=>?_;clear hK K;try simp only [tz]
       refine qp Ha ?_
       go_wp2_with fail;go_meet
       case rel=>exact ⟨g9,x3,rfl,rfl,⟨a3,r3⟩,bz⟩
      refine AllReadyH.cons rfl (fun K hK=>?_) ?_
      ·go_simp;have k9:=aK wd;have bb:=qc wd (.cells #[.bool false, .slice none 0 0, .slice none 0 0] 29);have s9:=bz.size;generalize h9:wd.heap.size=g9 at k9 s9|-;replace er:=er.below bb;replace bz:=qd bz bb;clear bb;generalize (wd.alloc (.cells #[.bool false, .slice none 0 0, .slice none 0 0] 29))=we at *;clear h9;generalize we=wd at *;refine hK.out _ _ (a7.o _ bz) fun hH=>?_;clear hK K;try simp only [tz]
       refine tk1 Ha 7 rfl fun K hK=>?_;go_simp;go_at_call 115;refine (oh wd xr xt _ _ er (bf.o.below bz).el m4.o js.o iD.o c7.o).mono ?_;rintro e wd ⟨x3,rfl,r3,ok3,bb⟩;clear er;replace k9:=k9.below bb;replace bz:=qd bz bb;clear bb;refine hK.out _ _ (a7.o _ bz) fun hH=>?_;clear hK K;try simp only [tz]
       refine qh Ha 8 (.tuple #[x3.val, .int .i64 0]) rfl ?_;refine qh Ha 9 (x3.val) rfl ?_;refine tks Ha 10 (.int .i64 0) rfl ?_;simp only [tz];refine tk1 Ha 12 rfl fun K hK=>?_;have t:=k9;obtain ⟨k0,k1,k2,aF,aG,aH,_,_⟩:=t;go_simp;clear k0 k1 k2 aF aG aH;have hk:Fa wd g9 Fx.nil:=⟨k9,Fx.nil_ok _⟩;have a3:=hk.put ok3;have b5:=aR (G:=g9) (a:=(.bool x3.b)) (b:=(.slice x3.A x3.xs.length x3.c)) (c:=(.slice x3.D x3.ys.length x3.d)) bz s9;clear bz hk k9 ok3 hH;generalize (((wd.setCell ⟨g9,0,none⟩ (.bool x3.b)).setCell ⟨g9,1,none⟩ (.slice x3.A x3.xs.length x3.c)).setCell ⟨g9,2,none⟩ (.slice x3.D x3.ys.length x3.d))=we at *
       have bz:=b5;clear b5;generalize we=wd at *;refine hK.out _ _ (a7.o _ bz) fun hH=>?_;clear hK K;try simp only [tz]
       refine tk1 Ha 13 rfl fun K hK=>?_;go_simp;refine hK.out _ _ (a7.o _ bz) fun hH=>?_;clear hK K;try simp only [tz]
       refine qp Ha ?_
       go_wp2_with fail;go_meet
       case rel=>exact ⟨g9,x3,rfl,rfl,⟨a3,r3⟩,bz⟩
      exact AllReadyH.nil
     refine AllReadyH.cons rfl (fun K hK=>?_) ?_
     ·go_simp;have k9:=aK wd;have bb:=qc wd (.cells #[.bool false, .slice none 0 0, .slice none 0 0] 29);have s9:=bz.size;generalize h9:wd.heap.size=g9 at k9 s9|-;replace bz:=qd bz bb;clear bb;generalize (wd.alloc (.cells #[.bool false, .slice none 0 0, .slice none 0 0] 29))=we at *;clear h9;generalize we=wd at *;refine hK.out _ _ (a7.o _ bz) fun hH=>?_;clear hK K;try simp only [tz]
      refine tk1 Ha 2 rfl fun K hK=>?_;go_simp;go_at_call 97;refine (km wd B L x k (aq.o.below bz) gW.o hN).mono ?_;rintro e wd ⟨xr,rfl,er,bb⟩;replace k9:=k9.below bb;replace bz:=qd bz bb;clear bb;refine hK.out _ _ (a7.o _ bz) fun hH=>?_;clear hK K;try simp only [tz]
      refine tk1 Ha 7 rfl fun K hK=>?_;go_simp;go_at_call 115;refine (oh wd xr xt _ _ er (bf.o.below bz).el m4.o js.o iD.o c7.o).mono ?_;rintro e wd ⟨x3,rfl,r3,ok3,bb⟩;clear er;replace k9:=k9.below bb;replace bz:=qd bz bb;clear bb;refine hK.out _ _ (a7.o _ bz) fun hH=>?_;clear hK K;try simp only [tz]
      refine qh Ha 8 (.tuple #[x3.val, .int .i64 0]) rfl ?_;refine qh Ha 9 (x3.val) rfl ?_;refine tks Ha 10 (.int .i64 0) rfl ?_;simp only [tz];refine tk1 Ha 12 rfl fun K hK=>?_;have t:=k9;obtain ⟨k0,k1,k2,aF,aG,aH,_,_⟩:=t;go_simp;clear k0 k1 k2 aF aG aH;have hk:Fa wd g9 Fx.nil:=⟨k9,Fx.nil_ok _⟩;have a3:=hk.put ok3;have b5:=aR (G:=g9) (a:=(.bool x3.b)) (b:=(.slice x3.A x3.xs.length x3.c)) (c:=(.slice x3.D x3.ys.length x3.d)) bz s9;clear bz hk k9 ok3 hH;generalize (((wd.setCell ⟨g9,0,none⟩ (.bool x3.b)).setCell ⟨g9,1,none⟩ (.slice x3.A x3.xs.length x3.c)).setCell ⟨g9,2,none⟩ (.slice x3.D x3.ys.length x3.d))=we at *
      have bz:=b5;clear b5;generalize we=wd at *;refine hK.out _ _ (a7.o _ bz) fun hH=>?_;clear hK K;try simp only [tz]
      refine tk1 Ha 13 rfl fun K hK=>?_;go_simp;refine hK.out _ _ (a7.o _ bz) fun hH=>?_;clear hK K;try simp only [tz]
      refine qp Ha ?_
      go_wp2_with fail;go_meet
      case rel=>exact ⟨g9,x3,rfl,rfl,⟨a3,r3⟩,bz⟩
     exact AllReadyH.nil
    case rest=>
     obtain ⟨g9,xq,rfl,rfl,v9,bb⟩:=hcut;rw [HM.o] at v9 c7;replace aq:=ag (aq.o.below bb);replace cu:=ag (cu.o.below bb);replace aw:=ag (qd aw.o bb);have cB:=ag v9;clear bb bf v9 m4;generalize wc=wr at *;obtain ⟨bk,hbk⟩:∃b,x.B k=b:=⟨_,rfl⟩;have ff:=ag hbk;have c1:=aq.o.c1;have cbk:=(aq.o.q.bas gW.o).1;rw [hbk] at cbk;clear hbk
     cases hla:dw x.T x.B M j k with
     | none=>
       have d9:Hd (dw x.T x.B M j (k+1)=some k):=ag (uV lw.o hla);rw [show rK none = -1 from rfl];clear hla bU;go_upto_region 11 with fail;go_region;have bd:Below wr.heap.size wr wr.drew:=(ah _ _).drew;have nC:=ag (cu.o.below bd);have bN:=ag (cB.o.below bd);have nD:=ag (qd aw.o bd);clear bd c1 cbk;generalize wr.drew=wq at *;have f0:=bN.o.c0;have f1:=bN.o.c1;have f2:=bN.o.c2;have t:=nC.o.bk;obtain ⟨k0,k1,k2,aF,aG,aH,_,_⟩:=t;go_upto_region 12 with fail;go_region;go_wp2_with fail;go_roundw
       case rel=>exact ⟨k+1,xq,by omega,by go_num,by rw [d9.o];rfl,(nC.o.put bN.o.fa.ok).below ((ah _ _).drew),(fun a ha=>by rw [d9.o] at ha;cases ha;exact bN.o.rp),(aR nD.o (Nat.le_refl _)).drew⟩
       case measure=>simp [intOf];omega
     | some a=>
       rw [show rK (some a)=(a:Int) from rfl];have HR:=ag (bU.o a hla);obtain ⟨la1,la2,_,_⟩:=mI _ _ hla;have haM:a<L.gs.length:=by omega
       have mb:=ag hla;have CC:=ag haM;have tq:Hd (Sz (x.T a M/x.T a j) 128 128):=ag (((HS.o a haM M (by have:=HM.o;omega)).div (HS.o a haM j HJ.o) (kt la2)).mono (by omega) (by omega))
       obtain ⟨ba,hba⟩:∃b,x.B a=b:=⟨_,rfl⟩;have tt:=ag hba;obtain ⟨z3,hz3⟩:∃z,bA (x.T k M/x.T k j) (x.T a M/x.T a j)=z:=⟨_,rfl⟩;have Ek:=ag hz3;have h5:=du (x.T k M/x.T k j) (x.T a M/x.T a j);rw [hz3] at h5;have H5:=ag h5;clear hla la1 la2 hba hz3 h5 bU;have f0:=cB.o.c0;have f1:=cB.o.c1;have f2:=cB.o.c2;have k0:=cu.o.c0;have k1:=cu.o.c1;have k2:=cu.o.c2;have ha0:(0:Int)<=(a:Int):=by omega
       go_wp2_with fail;refine (Cc wr xq xl _ _ z3 cB.o.el ⟨cu.o.ok,HR.o⟩ c7.o tq.o Ek.o).mono ?_;rintro e w5 ⟨rfl,bb⟩;replace aq:=ag (aq.o.below bb);replace cu:=ag (cu.o.below bb);replace cB:=ag (cB.o.below bb);replace aw:=ag (qd aw.o bb);clear bb f0 f1 f2 k0 k1 k2 c1 cbk ha0 Ek;generalize w5=wr at *;have c1:=aq.o.c1;have cbk:=(aq.o.q.bas gW.o).1;rw [ff.o] at cbk;rcases H5.o with ⟨h6,rfl⟩|⟨h6,rfl⟩|⟨h6,rfl⟩
       ·have d9:Hd (dw x.T x.B M j (k+1)=some k):=ag (qA lw.o mb.o (Or.inl h6));clear h6 H5;go_upto_region 11 with fail;go_region;have bd:Below wr.heap.size wr wr.drew:=(ah _ _).drew;have nC:=ag (cu.o.below bd);have bN:=ag (cB.o.below bd);have nD:=ag (qd aw.o bd);clear bd c1 cbk;generalize wr.drew=wq at *;have f0:=bN.o.c0;have f1:=bN.o.c1;have f2:=bN.o.c2;have t:=nC.o.bk;obtain ⟨k0,k1,k2,aF,aG,aH,_,_⟩:=t;go_upto_region 12 with fail;go_region;go_wp2_with fail;go_roundw
        case rel=>exact ⟨k+1,xq,by omega,by go_num,by rw [d9.o];rfl,(nC.o.put bN.o.fa.ok).below ((ah _ _).drew),(fun a ha=>by rw [d9.o] at ha;cases ha;exact bN.o.rp),(aR nD.o (Nat.le_refl _)).drew⟩
        case measure=>simp [intOf];omega
       ·have hcba:=(aq.o.q.bas CC.o).1;rw [tt.o] at hcba;have nu:=ag h6;clear h6 H5;by_cases h8:bk<ba
        ·have d9:Hd (dw x.T x.B M j (k+1)=some k):=ag (qA lw.o mb.o (Or.inr ⟨nu.o,by rw [ff.o,tt.o];exact h8⟩))
         go_upto_region 11 with fail;go_region;clear hcba;have bd:Below wr.heap.size wr wr.drew:=(ah _ _).drew;have nC:=ag (cu.o.below bd);have bN:=ag (cB.o.below bd);have nD:=ag (qd aw.o bd);clear bd c1 cbk;generalize wr.drew=wq at *;have f0:=bN.o.c0;have f1:=bN.o.c1;have f2:=bN.o.c2;have t:=nC.o.bk;obtain ⟨k0,k1,k2,aF,aG,aH,_,_⟩:=t;go_upto_region 12 with fail;go_region;go_wp2_with fail;go_roundw
         case rel=>exact ⟨k+1,xq,by omega,by go_num,by rw [d9.o];rfl,(nC.o.put bN.o.fa.ok).below ((ah _ _).drew),(fun a ha=>by rw [d9.o] at ha;cases ha;exact bN.o.rp),(aR nD.o (Nat.le_refl _)).drew⟩
         case measure=>simp [intOf];omega
        ·have d9:Hd (dw x.T x.B M j (k+1)=some a):=ag (qB lw.o mb.o (fun hh=>by
          rcases hh with hh|⟨_,hh⟩
          ·rw [nu.o] at hh;grind
          ·rw [ff.o,tt.o] at hh;exact h8 hh))
         go_upto_region 11 with fail;go_region;clear hcba;have bd:Below wr.heap.size wr wr.drew:=(ah _ _).drew;have nC:=ag (cu.o.below bd);have bN:=ag (cB.o.below bd);have nD:=ag (qd aw.o bd);clear bd c1 cbk;generalize wr.drew=wq at *;go_wp2_with fail;go_roundw
         case rel=>exact ⟨k+1,xl,by omega,by go_num,by rw [d9.o];rfl,nC.o,(fun a' ha=>by rw [d9.o] at ha;cases ha;exact HR.o),nD.o⟩
         case measure=>simp [intOf];omega
       ·have d9:Hd (dw x.T x.B M j (k+1)=some a):=ag (qB lw.o mb.o (fun hh=>by
         rcases hh with hh|⟨hh,_⟩
         ·grind
         ·rw [hh] at h6;grind))
        clear h6 H5;go_upto_region 11 with fail;go_region;have bd:Below wr.heap.size wr wr.drew:=(ah _ _).drew;have nC:=ag (cu.o.below bd);have bN:=ag (cB.o.below bd);have nD:=ag (qd aw.o bd);clear bd c1 cbk;generalize wr.drew=wq at *;go_wp2_with fail;go_roundw
        case rel=>exact ⟨k+1,xl,by omega,by go_num,by rw [d9.o];rfl,nC.o,(fun a' ha=>by rw [d9.o] at ha;cases ha;exact HR.o),nD.o⟩
        case measure=>simp [intOf];omega
  ·obtain rfl:k=L.gs.length:=by omega
   go_wp2_with fail;go_ret;exact ⟨rfl,bw⟩
section
variable {m n most:Nat} {c:Nat->Rat} {T:Nat->Nat->Rat} {B:Nat->Nat}
theorem Cf {s:Nat}:∀f j,j<=s->s<j+f->cE m c T B s<0->(∀k,j<=k->k<s->0<=cE m c T B k)->fG m c T B f j=some s:=by
 intro f
 induction f with
 | zero=>intro j h1 h2;omega
 | succ f ih=>
   intro j h1 h2 h3 h4;rw [fG];by_cases h:j=s
   ·subst h;rw [if_pos h3]
   ·have:=h4 j (Nat.le_refl _) (by omega)
    rw [if_neg (by grind)]
    exact ih (j+1) (by omega) (by omega) h3 (fun k k1 k2=>h4 k (by omega) k2)
theorem Ai:∀f j,(∀k,j<=k->k<j+f->0<=cE m c T B k)->fG m c T B f j=none:=by
 intro f
 induction f with
 | zero=>intro j _;rfl
 | succ f ih=>
   intro j h;rw [fG];have:=h j (Nat.le_refl _) (by omega)
   rw [if_neg (by grind)]
   exact ih (j+1) (fun k k1 k2=>h k (by omega) (by omega))
theorem zQ {x:St} {t s i:Nat} (h:gZ m n most c (itP m n most c x t)=some (s,i)):itP m n most c x (t+1)=⟨bY (itP m n most c x t).T i s,cg (itP m n most c x t).B i s⟩:=by
 show ri m n most c (itP m n most c x t)=_
 rw [ri,h]
theorem xH {x:St} {s i:Nat} (he:fG m c x.T x.B most 0=some s) (hl:dw x.T x.B (n+m) s m=some i):gZ m n most c x=some (s,i):=by
 rw [gZ,he];simp only [hl]
theorem xI {x:St} (he:fG m c x.T x.B most 0=none):gZ m n most c x=none:=by rw [gZ,he]
theorem zE {x:St} {s:Nat} (he:fG m c x.T x.B most 0=some s) (hl:dw x.T x.B (n+m) s m=none):gZ m n most c x=none:=by
 rw [gZ,he];simp only [hl]
end
theorem ky (w:World) (B:Nat) (L:Lay) (x:St) (A:Option Addr) (cc:Nat) (vs:List Fx) (c:Nat->Rat) (most K:Nat) (h:Tw w B L x) (hc:Cl w A vs c) (hA:0<vs.length->∀ad,A=some ad->¬L.S ad.block) (hl:vs.length=L.n+L.gs.length) (hmost:most<=L.n) (hN:L.N<=1000)
 (hB:∀t,t<=K->∀i,i<L.gs.length->(itP L.gs.length L.n most c x t).B i<L.n+L.gs.length) (hf:∀t,t<=K->Fit L.gs.length L.n c (itP L.gs.length L.n most c x t)) (hK:gZ L.gs.length L.n most c (itP L.gs.length L.n most c x K)=none) :
 Calls prog 52 #[.pointer (some ⟨L.G,0,none⟩), .slice A vs.length cc, .int .i64 (most:Int)] w fun e w'=>∃t,t<=K/\e = .returned (.int .i64 (rK (fG L.gs.length c (itP L.gs.length L.n most c x t).T (itP L.gs.length L.n most c x t).B most 0)))/\gZ L.gs.length L.n most c (itP L.gs.length L.n most c x t)=none/\Tw w' B L (itP L.gs.length L.n most c x t)/\Kp L.S w w':=by
 have cw:Hd (L.N=L.n+L.gs.length+1):=ag rfl;have HT:=ag h;have HC:=ag hc;have HA:=ag hA;have HL:=ag hl;have yc:=ag hmost;have HB:=ag hB;have HF:=ag hf;have HK:=ag hK;have hml:most<=1000:=by have:=cw.o;omega
 obtain ⟨m,hm⟩:∃m,L.gs.length=m:=⟨_,rfl⟩;obtain ⟨X,hX⟩:∃X,itP L.gs.length L.n most c x=X:=⟨_,rfl⟩;rw [hX] at HB HF HK|-;rw [hm] at HB HF HK HL cw|-;have HM:=ag hm;have HX:Hd (itP m L.n most c x=X):=ag (by rw [<-hm];exact hX)
 have lH:Hd (X 0=x):=ag (by rw [<-HX.o];rfl)
 clear h hc hA hl hmost hB hf hK hm hX;go_enter func52,ntmps52;go_wp2_with fail
 go_loopg [7] (K*(most+2)+(most+1)) (fun kn jv wr=>∃t j:Nat,kn=(K-t)*(most+2)+(most+1-j)/\t<=K/\j<=most/\jv = .int .i64 j/\(∀k,k<j->0<=cE m c (X t).T (X t).B k)/\Tw wr B L (X t)/\Kp L.S w wr)
 case atStart=>exact ⟨0,0,by simp,by omega,by omega,rfl,(fun k hk=>by omega),by rw [lH.o];exact HT.o,Kp.refl _ _⟩
 case round=>
  obtain ⟨t,j,hkn,ht,hj,rfl,hlow,tw,kp⟩:=hrel;have An:=ag hkn;have q9:=ag hlow;have aq:=ag tw;have ax:=ag kp;clear hkn hlow tw kp;by_cases hlt:j<most
  ·have a8:=rj wr B L (X t) A cc vs c j aq.o (HC.o.kp ax.o HT.o.q.nl HA.o) (by rw [HM.o];exact HL.o) (by have:=yc.o;omega) (by rw [HM.o];exact HB.o t ht) hN (by rw [HM.o];exact HF.o t ht)
   rw [HM.o] at a8;have bK:=ag a8;clear a8;obtain ⟨z,hz⟩:∃z,bA (cE m c (X t).T (X t).B j) 0=z:=⟨_,rfl⟩;have HZ:=ag hz;have m4:Hd (Sz (cE m c (X t).T (X t).B j) 128 128):=ag ((((HF.o t ht).cs j (by have:=yc.o;omega)).sub ((HF.o t ht).dt j (by have:=yc.o;omega) _ (Nat.le_refl _))).mono (by omega) (by omega))
   by_cases h0:0<=z
   ·have ia:Hd (0<=cE m c (X t).T (X t).B j):=ag (by
     rcases du (cE m c (X t).T (X t).B j) 0 with ⟨k1,k2⟩|⟨k1,k2⟩|⟨k1,k2⟩
     ·rw [hz] at k2;omega
     ·grind
     ·grind)
    clear hz;go_wp2_with fail;refine bK.o.mono ?_;rintro e w4 ⟨y,rfl,el,bb⟩;go_wp2_with fail;refine (aU w4 y _ z el m4.o HZ.o).mono ?_;rintro e w5 ⟨rfl,b5⟩;go_wp2_with fail
    go_roundg ((K-t)*(most+2)+(most+1-(j+1)))
    case rel=>exact ⟨t,j+1,rfl,ht,by omega,by go_num,(fun k hk=>by
     rcases Nat.lt_or_ge k j with k1|k1
     ·exact q9.o k k1
     ·obtain rfl:k=j:=by omega
      exact ia.o),(aq.o.below bb).below b5,(ax.o.then bb).then b5⟩
    case measure=>have:=An.o;omega
   ·have Au:Hd (cE m c (X t).T (X t).B j<0):=ag (by
     rcases du (cE m c (X t).T (X t).B j) 0 with ⟨k1,k2⟩|⟨k1,k2⟩|⟨k1,k2⟩
     ·exact k1
     ·rw [hz] at k2;omega
     ·rw [hz] at k2;omega)
    clear hz;have m5:Hd (fG m c (X t).T (X t).B most 0=some j):=ag (Cf most 0 (by omega) (by omega) Au.o (fun k _ k2=>q9.o k k2))
    have hb1:(decide (0<=z))=false:=decide_eq_false h0;go_wp2_with fail;refine bK.o.mono ?_;rintro e w4 ⟨y,rfl,el,bb⟩;go_wp2_with fail;refine (aU w4 y _ z el m4.o HZ.o).mono ?_;rintro e w5 ⟨rfl,b5⟩;replace aq:=ag ((aq.o.below bb).below b5);replace ax:=ag ((ax.o.then bb).then b5)
    clear bb b5 el bK HZ;have a8:=uD w5 B L (X t) j aq.o (by have:=yc.o;omega) hN (fun i hi=>by have:=HB.o t ht i (by rw [<-HM.o];exact hi);have:=cw.o;omega) (by rw [HM.o];exact (HF.o t ht).el)
    rw [HM.o] at a8
    cases hla:dw (X t).T (X t).B (L.n+m) j m with
    | none=>
      rw [hla] at a8;have bK:=ag a8;have mb:=ag hla;clear a8 hla;go_wp2_with fail;refine bK.o.mono ?_;rintro e w6 ⟨rfl,b6⟩;rw [show rK none = -1 from rfl];go_wp2_with fail;go_ret;exact ⟨t,ht,by rw [m5.o];rfl,zE m5.o mb.o,aq.o.below b6,ax.o.then b6⟩
    | some i=>
      rw [hla,show rK (some i)=(i:Int) from rfl] at a8;have bK:=ag a8;have cK:Hd (gZ m L.n most c (X t)=some (j,i)):=ag (xH m5.o hla);obtain ⟨l1,l2,_,_⟩:=mI _ _ hla;have lL:Hd (t<K):=ag (by
       rcases Nat.lt_or_ge t K with k1|k1
       ·exact k1
       ·exfalso
        have e:t=K:=by omega
        have:=cK.o;rw [e,HK.o] at this;cases this)
      have AA:Hd (X (t+1)=⟨bY (X t).T i j,cg (X t).B i j⟩):=ag (by
       have:=cK.o;rw [<-HX.o] at this|-;exact zQ this)
      have f8:Hd (i<m):=ag l1;have rD:Hd ((X t).T i j≠0):=ag (kt l2);have hi0:¬(i:Int)<0:=by omega
      clear a8 hla l1 l2;go_wp2_with fail;refine bK.o.mono ?_;rintro e w6 ⟨rfl,b6⟩;replace aq:=ag (aq.o.below b6);replace ax:=ag (ax.o.then b6)
      clear b6 bK;go_wp2_with fail;refine (oK w6 B L (X t) i j aq.o (by rw [HM.o];exact f8.o) (by have:=yc.o;omega) rD.o hN (by rw [HM.o];exact (HF.o t ht).el) (by
       rw [HM.o];have:=(HF.o (t+1) lL.o).el;rw [AA.o] at this;exact this)).mono ?_
      rintro e w7 ⟨rfl,t7,k7⟩;have yq:Hd (Tw w7 B L (X (t+1))):=ag (by rw [AA.o];exact t7)
      have yr:=ag (ax.o.trans k7);clear t7 k7;go_wp2_with fail
      go_roundg ((K-(t+1))*(most+2)+(most+1))
      case rel=>exact ⟨t+1,0,rfl,lL.o,by omega,by go_num,(fun k hk=>by omega),yq.o,yr.o⟩
      case measure=>
       have:=An.o;have e:K-t=(K-(t+1))+1:=by have:=lL.o;omega
       rw [e,Nat.add_mul] at this;omega
  ·obtain rfl:j=most:=by omega
   have m5:Hd (fG m c (X t).T (X t).B j 0=none):=ag (Ai j 0 (fun k _ k2=>q9.o k (by omega)))
   go_wp2_with fail;go_ret;exact ⟨t,ht,by rw [m5.o];rfl,xI m5.o,aq.o,ax.o⟩
theorem BU {g:Nat->Rat} {s:Nat}:∀f j,j<=s->s<j+f->g s≠0->(∀k,j<=k->k<s->g k=0)->nw g f j=some s:=by
 intro f
 induction f with
 | zero=>intro j h1 h2;omega
 | succ f ih=>
   intro j h1 h2 h3 h4;rw [nw];by_cases h:j=s
   ·subst h;rw [if_neg h3]
   ·rw [if_pos (h4 j (Nat.le_refl _) (by omega))]
    exact ih (j+1) (by omega) (by omega) h3 (fun k k1 k2=>h4 k (by omega) k2)
theorem zW {g:Nat->Rat}:∀f j,(∀k,j<=k->k<j+f->g k=0)->nw g f j=none:=by
 intro f
 induction f with
 | zero=>intro j _;rfl
 | succ f ih=>
   intro j h;rw [nw,if_pos (h j (Nat.le_refl _) (by omega))]
   exact ih (j+1) (fun k k1 k2=>h k (by omega) (by omega))
theorem yf {n i:Nat} {x:St} (h:x.B i<n):iJ n x i=x:=by rw [iJ,if_neg (by omega)]
theorem yg {n i:Nat} {x:St} (h:∀k,k<n->x.T i k=0):iJ n x i=x:=by
 rw [iJ]
 split
 ·rw [zW n 0 (fun k _ k2=>h k (by omega))]
 ·rfl
theorem ye {n i j:Nat} {x:St} (hb:n<=x.B i) (hj:j<n) (h:∀k,k<j->x.T i k=0) (hn:x.T i j≠0):iJ n x i=⟨bY x.T i j,cg x.B i j⟩:=by
 rw [iJ,if_pos hb,BU n 0 (by omega) (by omega) hn (fun k _ k2=>h k k2)]
theorem uI (w:World) (B:Nat) (L:Lay) (x:St) (h:Tw w B L x) (hN:L.N<=1000) (hB:∀t,t<=L.gs.length->∀i,i<L.gs.length->(j5 L.n x t).B i<=100000) (hf:∀t,t<=L.gs.length->∀i,i<L.gs.length->∀k,k<=L.n+L.gs.length->Sz ((j5 L.n x t).T i k) 60 60) :
 Calls prog 55 #[.pointer (some ⟨L.G,0,none⟩)] w fun e w'=>e = .returned (.tuple #[])/\Tw w' B L (j5 L.n x L.gs.length)/\Kp L.S w w':=by
 have cw:Hd (L.N=L.n+L.gs.length+1):=ag rfl;have HT:=ag h;have HB:=ag hB;have HF:=ag hf;have hnl:L.n<=1000:=by have:=cw.o;omega
 have hml:L.gs.length<=1000:=by have:=cw.o;omega
 have c0:=h.c0;clear h hB hf;go_enter func55,ntmps55;go_wp2_with fail;clear c0;go_loopw [9] (fun iv wr=>∃i:Nat,i<=L.gs.length/\iv = .int .i64 i/\Tw wr B L (j5 L.n x i)/\Kp L.S w wr) (fun iv _=>L.gs.length-(intOf iv).toNat)
 case atStart=>exact ⟨0,by omega,rfl,HT.o,Kp.refl _ _⟩
 case round=>
  obtain ⟨i,hi,rfl,tw,kp⟩:=hrel;by_cases hlt:i<L.gs.length
  ·obtain ⟨y,hy⟩:∃y,j5 L.n x i=y:=⟨_,rfl⟩;have HY:Hd (j5 L.n x (i+1)=iJ L.n y i):=ag (by rw [<-hy];rfl)
   have Em:Hd (∀r,r<L.gs.length->∀k,k<=L.n+L.gs.length->Sz (y.T r k) 60 60):=ag (by rw [<-hy];exact HF.o i hi)
   have pc:Hd (y.B i<=100000):=ag (by rw [<-hy];exact HB.o i hi i hlt)
   have Ft:Hd (∀r,r<L.gs.length->∀k,k<=L.n+L.gs.length->Sz ((iJ L.n y i).T r k) 60 60):=ag (by rw [<-HY.o];exact HF.o (i+1) hlt)
   rw [hy] at tw;have aq:=ag tw;have ax:=ag kp;have dy:=ag hlt;clear tw kp hy;obtain ⟨gi,hgi⟩:∃g,L.gs[i]=g:=⟨_,rfl⟩;have cp:=ag hgi;clear hgi;go_wp2_with fail;go_loopw [3] (fun jv wr=>∃j:Nat,j<=L.n/\jv = .int .i64 j/\((Tw wr B L y/\(∀k,k<j->y.T i k=0))\/(Tw wr B L (iJ L.n y i)/\(iJ L.n y i).B i<L.n))/\Kp L.S w wr) (fun jv _=>L.n-(intOf jv).toNat)
   case atStart=>exact ⟨0,by omega,rfl, .inl ⟨aq.o,fun k hk=>by omega⟩,ax.o⟩
   case round=>
    clear aq ax;obtain ⟨j,hj,rfl,hor,kp⟩:=hrel;have ax:=ag kp;clear kp;rcases hor with ⟨tw,hz⟩|⟨tw,hbl⟩
    ·obtain ⟨bi,hbi⟩:∃b,y.B i=b:=⟨_,rfl⟩;have mf:=ag hbi;have c1:=tw.c1;have c2:=tw.c2;have cb:=(tw.q.bas dy.o).1;rw [hbi] at cb;have aq:=ag tw;have p4:=ag hz;have hb1:=pc.o;rw [hbi] at hb1;clear tw hz hbi;by_cases hjn:j<L.n
     ·have q1:decide ((j:Int)<(L.n:Int))=true:=decide_eq_true (by omega)
      by_cases hbn:L.n<=bi
      ·have q2:decide ((L.n:Int)<=(bi:Int))=true:=decide_eq_true (by omega)
       go_upto_region 4 with fail
       go_cut [31] (fun v wx=>v = .bool true/\∃q,wx=wr.drewN q)
       case first=>
        go_quiet (fail)
        go_wp2
        go_meet
        case rel=>exact ⟨rfl,nq,rfl⟩
       case rest=>
        obtain ⟨rfl,nq,rfl⟩:=hcut;have hqb:=aJ (ah wr.heap.size wr) nq;replace aq:=ag (aq.o.below hqb);replace ax:=ag (ax.o.then hqb)
        clear q1 q2 c1 c2 cb hqb;generalize wr.drewN nq=wr at *;have hjN:j<L.N:=by have:=cw.o;omega
        obtain ⟨xe,ev⟩:=aq.o.elg dy.o cp.o hjN;have bf:=ag ev;have c0:=aq.o.c0;have cr:=aq.o.rowg dy.o cp.o;have k0:=ev.c0;have k1:=ev.c1;have k2:=ev.c2;have eJ:Hd (Sz (y.T i j) 128 128):=ag (Em.o i dy.o j (by omega)).up
        clear ev;obtain ⟨z,hz⟩:∃z,bA (y.T i j) 0=z:=⟨_,rfl⟩;have HZ:=ag hz;by_cases h0:z=0
        ·subst h0;have HE:Hd (y.T i j=0):=ag ((aZ _).1 hz);clear hz;go_wp2_with fail;refine (aU wr xe _ 0 bf.o.el eJ.o HZ.o).mono ?_;rintro e w5 ⟨rfl,bb⟩;go_wp2_with fail;go_roundw
         case rel=>exact ⟨j+1,by omega,by go_num, .inl ⟨aq.o.below bb,fun k hk=>by
          rcases Nat.lt_or_ge k j with k1|k1
          ·exact p4.o k k1
          ·obtain rfl:k=j:=by omega
           exact HE.o⟩,ax.o.then bb⟩
         case measure=>simp [intOf];omega
        ·have iD:Hd (y.T i j≠0):=ag (fun hh=>h0 (by rw [<-hz];exact (aZ _).2 hh))
         have gD:Hd (iJ L.n y i=⟨bY y.T i j,cg y.B i j⟩):=ag (ye (by rw [mf.o];exact hbn) hjn p4.o iD.o)
         clear hz;have hb2:(z != 0)=true:=by simpa using h0
         go_wp2_with fail;refine (aU wr xe _ z bf.o.el eJ.o HZ.o).mono ?_;rintro e w5 ⟨rfl,bb⟩;replace aq:=ag (aq.o.below bb);replace ax:=ag (ax.o.then bb)
         clear HZ bb bf k0 k1 k2 c0 cr;go_wp2_with fail;refine (oK w5 B L y i j aq.o dy.o (by omega) iD.o hN Em.o (by have:=Ft.o;rw [gD.o] at this;exact this)).mono ?_
         rintro e w7 ⟨rfl,t7,k7⟩;have yq:Hd (Tw w7 B L (iJ L.n y i)):=ag (by rw [gD.o];exact t7)
         have CD:Hd ((iJ L.n y i).B i<L.n):=ag (by rw [gD.o];show cg y.B i j i<L.n;rw [cg,if_pos rfl];exact hjn)
         have yr:=ag (ax.o.trans k7);clear t7 k7;go_wp2_with fail;go_roundw
         case rel=>exact ⟨j+1,by omega,by go_num, .inr ⟨yq.o,CD.o⟩,yr.o⟩
         case measure=>simp [intOf];omega
      ·have q2:decide ((L.n:Int)<=(bi:Int))=false:=decide_eq_false (by omega)
       go_upto_region 4 with fail
       go_cut [31] (fun v wx=>v = .bool false/\∃q,wx=wr.drewN q)
       case first=>
        go_quiet (fail)
        go_wp2
        go_meet
        case rel=>exact ⟨rfl,nq,rfl⟩
       case rest=>
        obtain ⟨rfl,nq,rfl⟩:=hcut;have hqb:=aJ (ah wr.heap.size wr) nq;replace aq:=ag (aq.o.below hqb);replace ax:=ag (ax.o.then hqb)
        clear q1 q2 c1 c2 cb hqb;generalize wr.drewN nq=wr at *;have gD:Hd (iJ L.n y i=y):=ag (yf (by rw [mf.o];omega))
        go_wp2_with fail;go_roundw
        case rel=>exact ⟨i+1,by omega,by go_num,by rw [HY.o,gD.o];exact aq.o,ax.o⟩
        case measure=>simp [intOf];omega
     ·have q1:decide ((j:Int)<(L.n:Int))=false:=decide_eq_false (by omega)
      go_upto_region 4 with fail
      go_cut [31] (fun v wx=>v = .bool false/\∃q,wx=wr.drewN q)
      case first=>
       go_quiet (fail)
       go_wp2
       go_meet
       case rel=>exact ⟨rfl,nq,rfl⟩
      case rest=>
       obtain ⟨rfl,nq,rfl⟩:=hcut;have hqb:=aJ (ah wr.heap.size wr) nq;replace aq:=ag (aq.o.below hqb);replace ax:=ag (ax.o.then hqb)
       clear q1 c1 c2 cb hqb;generalize wr.drewN nq=wr at *;have gD:Hd (iJ L.n y i=y):=ag (yg (fun k hk=>p4.o k (by omega)))
       go_wp2_with fail;go_roundw
       case rel=>exact ⟨i+1,by omega,by go_num,by rw [HY.o,gD.o];exact aq.o,ax.o⟩
       case measure=>simp [intOf];omega
    ·obtain ⟨y2,hy2⟩:∃y2,iJ L.n y i=y2:=⟨_,rfl⟩;rw [hy2] at tw hbl;have gK:=ag hy2;obtain ⟨bi,hbi⟩:∃b,y2.B i=b:=⟨_,rfl⟩;have c1:=tw.c1;have c2:=tw.c2;have cb:=(tw.q.bas dy.o).1;rw [hbi] at cb hbl;have aq:=ag tw;clear tw hbi hy2;have hbn:¬L.n<=bi:=by omega
     have q2:decide ((L.n:Int)<=(bi:Int))=false:=decide_eq_false (by omega)
     go_upto_region 4 with fail
     go_cut [31] (fun v wx=>v = .bool false/\∃q,wx=wr.drewN q)
     case first=>
      by_cases hjn:j<L.n
      ·have q1:decide ((j:Int)<(L.n:Int))=true:=decide_eq_true (by omega)
       go_quiet (fail)
       go_wp2
       go_meet
       case rel=>exact ⟨rfl,nq,rfl⟩
      ·have q1:decide ((j:Int)<(L.n:Int))=false:=decide_eq_false (by omega)
       go_quiet (fail)
       go_wp2
       go_meet
       case rel=>exact ⟨rfl,nq,rfl⟩
     case rest=>
      obtain ⟨rfl,nq,rfl⟩:=hcut;have hqb:=aJ (ah wr.heap.size wr) nq;replace aq:=ag (aq.o.below hqb);replace ax:=ag (ax.o.then hqb)
      clear q2 c1 c2 cb hqb;generalize wr.drewN nq=wr at *;go_wp2_with fail;go_roundw
      case rel=>exact ⟨i+1,by omega,by go_num,by rw [HY.o,gK.o];exact aq.o,ax.o⟩
      case measure=>simp [intOf];omega
  ·obtain rfl:i=L.gs.length:=by omega
   go_wp2_with fail
   go_end0
   exact ⟨rfl,tw,kp⟩
theorem sF {α : Type} (f : α -> Nat) (d : α) (l:List α):∀k,k<=l.length->((l.take k).map f).sum=bG (fun i=>f (l.getD i d)) k:=by
 intro k
 induction k with
 | zero=>intro _;rfl
 | succ k ih=>
   intro h;rw [List.take_succ_eq_append_getElem (by omega),List.map_append,List.sum_append,ih (by omega),bG,List.map_cons,List.map_nil,List.sum_cons,List.sum_nil,Nat.add_zero,bC _ _ _ (by omega)]
theorem xh (g:Nat->Nat->Nat) (n m:Nat):bG (fun i=>bG (g i) m) n=bG (fun j=>bG (fun i=>g i j) n) m:=by
 induction n with
 | zero=>
   have:∀m,bG (fun _=>0) m=0:=by
    intro m
    induction m with
    | zero=>rfl
    | succ m ih=>rw [bG,ih]
   show 0=bG (fun _=>0) m
   rw [this]
 | succ n ih=>
   have add:∀(a b:Nat->Nat) m,bG (fun j=>a j+b j) m=bG a m+bG b m:=by
    intro a b m
    induction m with
    | zero=>rfl
    | succ m ih=>rw [bG,bG,bG,ih];omega
   rw [bG,ih]
   show _=bG (fun j=>bG (fun i=>g i j) n+g n j) m
   rw [add]
theorem re {f g:Nat->Nat}:∀n,(∀i,i<n->f i=g i)->bG f n=bG g n:=by
 intro n
 induction n with
 | zero=>intro _;rfl
 | succ n ih=>intro h;rw [bG,bG,ih (fun i hi=>h i (by omega)),h n (by omega)]
theorem Bd (q:Rat):wgB (-q)=wgB q:=by
 unfold wgB;rw [Rat.neg_num,Rat.neg_den,Int.natAbs_neg];by_cases h:q=0
 ·rw [if_pos h,if_pos (by rw [h];rfl)]
 ·have e1:q = - -q:=by grind
  rw [if_neg h,if_neg (fun e=>h (by rw [e1,e];rfl))]
theorem vD (t:Bool) (q:Rat):wgB (sgT t*q)=wgB q:=by
 cases t
 ·rw [yK]
 ·rw [yJ,show ((0:Int):Rat)-q = -q by grind,Bd]
theorem qU (vs:List Fx):wlF vs=bG (fun i=>wgB (vs.getD i Fx.nil).q) vs.length:=by
 have:=sF (fun v:Fx=>wgB v.q) Fx.nil vs vs.length (Nat.le_refl _);rw [List.take_length] at this;exact this
theorem Pg.vd.wgt {p:Pg} (v:p.vd):Wgt p.rows.length p.cost.vs.length (dG p.rows.length p.cost.vs.length p.a p.b) p.c:=by
 refine ⟨iW,?_,v.r2⟩;have e1:wgA p.rows.length p.cost.vs.length (dG p.rows.length p.cost.vs.length p.a p.b)=(p.rows.map (fun r=>wlF r.vs)).sum:=by
  rw [wgA,xh];have h1:=sF (fun r:Sl=>wlF r.vs) ⟨none,0,[]⟩ p.rows p.rows.length (Nat.le_refl _);rw [List.take_length] at h1;rw [h1];refine re _ fun r hr=>?_;have hm:=List.getElem_mem hr;rw [qU,bC _ _ _ hr,v.la _ hm];refine re _ fun j hj=>?_;rw [kF hj,vD,Pg.a,bC _ _ _ hr]
 have e2:bG (fun r=>wgB (dG p.rows.length p.cost.vs.length p.a p.b r (p.cost.vs.length+p.rows.length))) p.rows.length=wlF p.right.vs:=by
  rw [qU,v.lb];refine re _ fun r hr=>?_;rw [oZ,vD,Pg.b]
 have e3:bG (fun j=>wgB (p.c j)) p.cost.vs.length=wlF p.cost.vs:=by rw [qU];rfl
 have w:=v.wt;omega
structure Sn where
 kind:Int
 X:Sl
 Y:Sl
 R:Sl
 v:Fx
abbrev Sn.cells (s:Sn):Array Value := #[.int .i64 s.kind,s.X.val,s.Y.val,s.R.val, .bool s.v.b, .slice s.v.A s.v.xs.length s.v.c, .slice s.v.D s.v.ys.length s.v.d]
abbrev Sn.val (s:Sn):Value := .agg s.cells
abbrev slN:Sl:=⟨none,0,[]⟩
structure Os (w:World) (B:Nat) (s:Sl) (N:Nat) (f:Nat->Rat):Prop where
 adr:∃g,s.A=some ⟨g,0,none⟩
 cap:s.c=N
 qr:Qr w B s.A s.vs
 len:s.vs.length=N
 rp:∀k (h:k<s.vs.length),Rp s.vs[k] (f k)
theorem Ou.os {w:World} {B g N:Nat} {f:Nat->Rat} (h:Ou w B g N (fun _=>True) f):∃vs:List Fx,vs.length=N/\Os w B ⟨some ⟨g,0,none⟩,N,vs⟩ N f:=by
 obtain ⟨vs,a,b,c⟩:=h.ex;exact ⟨vs,b,⟨g,rfl⟩,rfl,a,b,fun k hk=>c k hk trivial⟩
theorem Os.kp {w w':World} {B N:Nat} {s:Sl} {f:Nat->Rat} {S:Nat->Prop} (h:Os w B s N f) (k:Kp S w w') (nl:∀g,S g->NL w g) (hA:∀ad,s.A=some ad->¬S ad.block):Os w' B s N f:=⟨h.adr,h.cap,k.qr h.qr nl hA,h.len,h.rp⟩
theorem Os.mono {w:World} {B B' N:Nat} {s:Sl} {f:Nat->Rat} (h:Os w B s N f) (hB:B'<=B):Os w B' s N f:=by
 obtain ⟨g,hg⟩:=h.adr;refine ⟨h.adr,h.cap,⟨?_,h.qr.ok⟩,h.len,h.rp⟩;have:=h.qr.fr;unfold Fr at *;obtain ⟨h1,h2⟩:=this;refine ⟨h1,?_⟩;rcases h2 with h2|⟨g',cap,cur,hv,hb,r⟩
 ·exact .inl h2
 ·exact .inr ⟨g',cap,cur,hv,by omega,r⟩
inductive SolS (w:World) (B m n:Nat) (a:Nat->Nat->Rat) (b c:Nat->Rat) (s:Sn):Prop where
 | inf (y:St) (ok:Okx m n (dG m n a b) y) (nx:gZ m n n (bZ n) y=none) (pos:0<bV m (bZ n) y.T y.B (n+m)) (k:s.kind=2) (x:s.X=slN) (r:s.R=slN) (Y:Os w B s.Y m (kr m n b (bZ n) y)) (v:El w s.v 0)
 | opt (y:St) (ok:Okx m n (dG m n a b) y) (ar:Art m n m y) (nx:fG m (cV n c) y.T y.B n 0=none) (k:s.kind=1) (r:s.R=slN) (X:Os w B s.X n (jk m y.T y.B (n+m))) (Y:Os w B s.Y m (kr m n b (cV n c) y)) (v:El w s.v (bV m (cV n c) y.T y.B (n+m)))
 | unb (y:St) (ok:Okx m n (dG m n a b) y) (ar:Art m n m y) (t:Nat) (nx:fG m (cV n c) y.T y.B n 0=some t) (le:dw y.T y.B (n+m) t m=none) (k:s.kind=3) (y0:s.Y=slN) (X:Os w B s.X n (jk m y.T y.B (n+m))) (R:Os w B s.R n (fT m y.T y.B t)) (v:El w s.v 0)
structure Zs (w:World) (G:Nat):Prop where
 c0:w.cell? ⟨G,0,none⟩=some (.int .i64 0)
 c1:w.cell? ⟨G,1,none⟩=some (.slice none 0 0)
 c2:w.cell? ⟨G,2,none⟩=some (.slice none 0 0)
 c3:w.cell? ⟨G,3,none⟩=some (.slice none 0 0)
 c4:w.cell? ⟨G,4,none⟩=some (.bool false)
 c5:w.cell? ⟨G,5,none⟩=some (.slice none 0 0)
 c6:w.cell? ⟨G,6,none⟩=some (.slice none 0 0)
 fz:∀k,w.frozen? ⟨G,k,none⟩=false
 lt:G<w.heap.size
 nl:NL w G
theorem Zs.kp {w w':World} {G:Nat} {S:Nat->Prop} (h:Zs w G) (k:Kp S w w') (hG:¬S G):Zs w' G:=by
 have hc:∀o,w'.cell? ⟨G,o,none⟩=w.cell? ⟨G,o,none⟩:=fun o=>k.cell (p:=⟨G,o,none⟩) h.lt hG;obtain ⟨cur,t,e1,hn⟩:=h.nl;exact ⟨(hc 0).trans h.c0,(hc 1).trans h.c1,(hc 2).trans h.c2,(hc 3).trans h.c3,(hc 4).trans h.c4,(hc 5).trans h.c5,(hc 6).trans h.c6,fun o=>(k.frozen (p:=⟨G,o,none⟩) h.lt hG).trans (h.fz o),Nat.lt_of_lt_of_le h.lt k.size,cur,t,(k.block _ h.lt hG).trans e1,hn⟩
theorem Zs.below {w w':World} {G:Nat} (h:Zs w G) (hb:Below w.heap.size w w'):Zs w' G:=h.kp (fo (fun _=>False) hb) (fun h=>h)
theorem oC (w:World) (e:TypeId):Zs (w.alloc (.cells #[.int .i64 0, .slice none 0 0, .slice none 0 0, .slice none 0 0, .bool false, .slice none 0 0, .slice none 0 0] e)) w.heap.size:=by
 refine ⟨by go_simp,by go_simp,by go_simp,by go_simp,by go_simp,by go_simp,by go_simp,fun k=>by go_simp,by simp,_,_,heap_alloc_new w _,fun u hu=>?_⟩
 simp only [List.mem_cons,List.not_mem_nil,or_false] at hu;rcases hu with rfl|rfl|rfl|rfl|rfl|rfl|rfl <;> rfl
theorem Kp.set7 {S:Nat->Prop} {w w':World} {G:Nat} (h:Kp S w w') (hG:S G) (v0 v1 v2 v3 v4 v5 v6:Value) :
 Kp S w (((((((w'.setCell ⟨G,0,none⟩ v0).setCell ⟨G,1,none⟩ v1).setCell ⟨G,2,none⟩ v2).setCell ⟨G,3,none⟩ v3).setCell ⟨G,4,none⟩ v4).setCell ⟨G,5,none⟩ v5).setCell ⟨G,6,none⟩ v6):=
 ((((((h.set hG 0 v0).set hG 1 v1).set hG 2 v2).set hG 3 v3).set hG 4 v4).set hG 5 v5).set hG 6 v6
theorem SolS.kp {w w':World} {B m n:Nat} {a:Nat->Nat->Rat} {b c:Nat->Rat} {s:Sn} {S:Nat->Prop} (h:SolS w B m n a b c s) (k:Kp S w w') (nl:∀g,S g->NL w g) (hX:∀ad,s.X.A=some ad->¬S ad.block) (hY:∀ad,s.Y.A=some ad->¬S ad.block) (hR:∀ad,s.R.A=some ad->¬S ad.block):SolS w' B m n a b c s:=by
 rcases h with ⟨y,ok,nx,pos,kd,x,r,Y,v⟩|⟨y,ok,ar,nx,kd,r,X,Y,v⟩|⟨y,ok,ar,t,nx,le,kd,y0,X,R,v⟩
 ·exact .inf y ok nx pos kd x r (Y.kp k nl hY) ⟨k.ok v.ok nl,v.rp⟩
 ·exact .opt y ok ar nx kd r (X.kp k nl hX) (Y.kp k nl hY) ⟨k.ok v.ok nl,v.rp⟩
 ·exact .unb y ok ar t nx le kd y0 (X.kp k nl hX) (R.kp k nl hR) ⟨k.ok v.ok nl,v.rp⟩
end Go.Proofs.YtkpfbekmaafehaaGreat
