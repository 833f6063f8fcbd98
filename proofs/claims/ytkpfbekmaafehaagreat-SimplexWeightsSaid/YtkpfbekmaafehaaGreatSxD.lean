/- The walk of drydockref16's run. -/
import Derived.Test.YtkpfbekmaafehaaGreatSpB
import Derived.Test.YtkpfbekmaafehaaGreatSxB
import Derived.Test.YtkpfbekmaafehaaGreatSxC
import Derived.Test.YtkpfbekmaafehaaGreatSqM
import Derived.BigQuiet
import Derived.Deep.QuietTactic
namespace Go.Proofs.YtkpfbekmaafehaaGreat
set_option maxHeartbeats 40000000
set_option maxRecDepth 100000
open Go.RowKit
theorem r16run_any (w:World) (B:Nat) (L:Ly) (x:St) (c:Nat->Rat) (K:Nat) (h:Rtb w B L (extT L.m (L.n+L.m) c x)) (hN:L.N<=1000) (hBl:∀t,t<=K->∀i,i<L.m->(itP L.m L.n L.n c x t).B i<=100000)
 (hf:∀t,t<=K->∀r,r<=L.m->∀k,k<=L.n+L.m->Sz ((extT L.m (L.n+L.m) c (itP L.m L.n L.n c x t)).T r k) 60 60) (hK:gZ L.m L.n L.n c (itP L.m L.n L.n c x K)=none) :
 Calls Tryz.prog 61 #[.pointer (some ⟨L.G,0,none⟩)] w fun e w'=>∃t,t<=K/\e = .returned (.int .i64 (rK (fG L.m c (itP L.m L.n L.n c x t).T (itP L.m L.n L.n c x t).B L.n 0)))/\gZ L.m L.n L.n c (itP L.m L.n L.n c x t)=none/\Rtb w' B L (extT L.m (L.n+L.m) c (itP L.m L.n L.n c x t))/\Kp L.S w w':=by
 have cw:Hd (L.N=L.n+L.m+1):=ag rfl;have HT:=ag h;have HB:=ag hBl;have HF:=ag hf;have HK:=ag hK;have hnl:L.n<=1000:=by have:=cw.o;omega
 have hm:L.m<=1000:=by have:=cw.o;omega
 obtain ⟨X,hX⟩:∃X,itP L.m L.n L.n c x=X:=⟨_,rfl⟩;rw [hX] at HB HF HK|-;have HX:=ag hX;have lH:Hd (X 0=x):=ag (by rw [<-HX.o];rfl)
 obtain ⟨M,hM⟩:∃M,L.n+L.m=M:=⟨_,rfl⟩;rw [hM] at HT HF|-;have HM:=ag hM;have tp:Hd (L.N=M+1):=ag (by rw [cw.o,hM])
 obtain ⟨gm,hgm⟩:∃g,L.g L.m=g:=⟨_,rfl⟩;have cH:=ag hgm;clear h hBl hf hK hX hM hgm;go_enter Tryz.func61,Tryz.ntmps61;go_wp2_with fail
 go_loopg [2] K (fun kn _ wr=>∃t:Nat,kn=K-t/\t<=K/\Rtb wr B L (extT L.m M c (X t))/\Kp L.S w wr)
 case atStart=>exact ⟨0,by omega,by omega,by rw [lH.o];exact HT.o,Kp.refl _ _⟩
 case round=>
  obtain ⟨t,hkn,ht,tw,kp⟩:=hrel;have An:=ag hkn;have br:=ag ht;have yC:=ag tw;have ax:=ag kp;obtain ⟨y,hy⟩:∃y,X t=y:=⟨_,rfl⟩;have HY:=ag hy;rw [hy] at yC;have HS:Hd (∀r,r<L.m->∀k,k<=M->Sz (y.T r k) 60 60):=ag (fun r hr k hk=>by
   have:=HF.o t ht r (Nat.le_of_lt hr) k hk;rw [ext_row hr,hy] at this;exact this)
  have fn:Hd (∀k,k<M->Sz (cE L.m c y.T y.B k) 60 60):=ag (fun k hk=>by
   have:=HF.o t ht L.m (Nat.le_refl _) k (Nat.le_of_lt hk);rw [ext_red hk,hy] at this;exact this)
  clear hkn ht tw kp hy;go_wp2_with fail;generalize wr=wo at *;go_loopw [3] (fun iv wr=>∃j:Nat,j<=L.n/\iv = .int .i64 j/\(∀k,k<j->0<=cE L.m c y.T y.B k)/\Below wo.heap.size wo wr) (fun iv _=>L.n-(intOf iv).toNat)
  case atStart=>exact ⟨0,by omega,rfl,(fun k hk=>by omega),ah _ _⟩
  case round=>
   obtain ⟨j,hj,rfl,hlow,bz⟩:=hrel;have q9:=ag hlow;have aq:=ag (yC.o.below bz);have eS:=ag bz;have c3:=aq.o.c3;clear hlow bz;by_cases hlt:j<L.n
   ·have hjM:j<M:=by have:=HM.o;omega
    have hjN:j<L.N:=by have:=tp.o;omega
    have vS:=ag hjM;obtain ⟨xe,ev⟩:=aq.o.elg (Nat.le_refl L.m) cH.o hjN;rw [ext_red hjM] at ev;have bf:=ag ev;have c1:=aq.o.costg cH.o;have k0:=ev.c0;have k1:=ev.c1;have k2:=ev.c2;clear ev;obtain ⟨z,hz⟩:∃z,bA (cE L.m c y.T y.B j) 0=z:=⟨_,rfl⟩;have HZ:=ag hz;by_cases h0:0<=z
    ·--D{
     have ia:Hd (0<=cE L.m c y.T y.B j):=ag (by
      rcases du (cE L.m c y.T y.B j) 0 with ⟨k1,k2⟩|⟨k1,k2⟩|⟨k1,k2⟩
      ·rw [hz] at k2;omega
      ·grind
      ·grind)
     clear hz;go_wp2_with fail;refine (r2sign_el wr xe _ z bf.o.el (fn.o j vS.o).up HZ.o).mono ?_;rintro e w5 ⟨rfl,b5⟩;go_wp2_with fail;go_roundw
     case rel=>exact ⟨j+1,by omega,by go_num,(fun k hk=>by
      rcases Nat.lt_or_ge k j with k1|k1
      ·exact q9.o k k1
      ·obtain rfl:k=j:=by omega
       exact ia.o),qd eS.o b5⟩
     case measure=>simp [intOf];omega
--D}
    ·have Au:Hd (cE L.m c y.T y.B j<0):=ag (by
      rcases du (cE L.m c y.T y.B j) 0 with ⟨k1,k2⟩|⟨k1,k2⟩|⟨k1,k2⟩
      ·exact k1
      ·rw [hz] at k2;omega
      ·rw [hz] at k2;omega)
     have m5:Hd (fG L.m c y.T y.B L.n 0=some j):=ag (Cf L.n 0 (by omega) (by omega) Au.o (fun k _ k2=>q9.o k k2))
     have hb1:(decide (0<=z))=false:=decide_eq_false h0;have hjn:¬(j:Int)=(L.n:Int):=by omega
     have hjn2:((j:Int) == (L.n:Int))=false:=by simpa using hjn
     clear hz;go_wp2_with fail;refine (r2sign_el wr xe _ z bf.o.el (fn.o j vS.o).up HZ.o).mono ?_;rintro e w5 ⟨rfl,b5⟩;replace aq:=ag (aq.o.below b5);replace eS:=ag (qd eS.o b5);clear b5 c1 c3 k0 k1 k2 bf HZ Au;generalize w5=wk at *;have c3:=aq.o.c3;go_upto_region 8 with fail;have a1:=(au (Fx.nil_ok wk)).1;have bw:=(au (Fx.nil_ok wk)).2;clear c3;generalize (wk.alloc (.cells #[.bool false, .slice none 0 0, .slice none 0 0] 29))=wm at a1 bw|-;have c1:=(aq.o.below bw).c1;go_wp2_with fail;clear c1;rw [show ((L.N:Int)-1)=(M:Int) from by have:=tp.o;omega]
     go_loopw [4,7] (fun av iv wr=>∃(k:Nat) (xl:Fx),k<=L.m/\iv = .int .i64 k/\av = .int .i64 (rK (dw y.T y.B M j k))/\Fa wr wk.heap.size xl/\(∀a,dw y.T y.B M j k=some a->Rp xl (y.T a M/y.T a j))/\Below wk.heap.size wk wr) (fun _ iv _=>L.m-(intOf iv).toNat)
     case atStart=>exact ⟨0,Fx.nil,by omega,rfl,rfl,a1,(fun a h=>by cases h),bw⟩
     case round=>
      clear a1 bw;obtain ⟨k,xl,hk,rfl,rfl,a1,hrl,bw⟩:=hrel;have aw:=ag bw;by_cases hlt2:k<L.m
      ·have FQ:=aq;replace aq:=ag (FQ.o.below bw);have cu:=ag a1;have bU:=ag hrl;have gW:=ag hlt2;clear a1 bw hrl;obtain ⟨gk,hgk⟩:∃g,L.g k=g:=⟨_,rfl⟩;have lo:=ag hgk;have c0:=aq.o.c0;have cr:=aq.o.rowg hlt2 hgk;obtain ⟨xt,ev⟩:=aq.o.elg (Nat.le_of_lt hlt2) hgk hjN;rw [ext_row hlt2] at ev;have bf:=ag ev;have k0:=ev.c0;have k1:=ev.c1;have k2:=ev.c2;have js:Hd (Sz (y.T k j) 128 128):=ag (HS.o k hlt2 j (Nat.le_of_lt vS.o)).up;clear hgk ev;obtain ⟨z2,hz⟩:∃z,bA (y.T k j) 0=z:=⟨_,rfl⟩;have HZ:=ag hz;by_cases h02:z2<=0
       ·--D{
        have HE:Hd (dw y.T y.B M j (k+1)=dw y.T y.B M j k):=ag (xL ((ot _).1 (by rw [hz];exact h02)))
        clear hz;go_wp2_with fail;refine (r2sign_el wr xt _ z2 bf.o.el js.o HZ.o).mono ?_;rintro e w5 ⟨rfl,bb⟩;go_wp2_with fail;go_roundw
        case rel=>exact ⟨k+1,xl,by omega,by go_num,by rw [HE.o],cu.o.below bb,by rw [HE.o];exact bU.o,qd aw.o bb⟩
        case measure=>simp [intOf];omega
--D}
       ·have lw:Hd (¬y.T k j<=0):=fun hh=>h02 (by rw [<-hz];exact (ot _).2 hh)
        have iD:Hd (y.T k j≠0):=ag (fun hh=>lw.o (by rw [hh];grind))
        clear hz;go_wp2_with fail;refine (r2sign_el wr xt _ z2 bf.o.el js.o HZ.o).mono ?_;rintro e w5 ⟨rfl,bb⟩;replace aq:=ag (aq.o.below bb);replace cu:=ag (cu.o.below bb);replace bf:=ag (bf.o.below bb);replace aw:=ag (qd aw.o bb);clear HZ bb k0 k1 k2 c0 cr;generalize w5=wr at *;obtain ⟨xr,ev⟩:=aq.o.elg (Nat.le_of_lt gW.o) lo.o (k:=M) (by have:=tp.o;omega)
        rw [ext_row gW.o] at ev;have wi:=ag ev;clear ev;have m4:Hd (Sz (y.T k M) 128 128):=ag (HS.o k gW.o _ (Nat.le_refl _)).up;have c7:Hd (Sz (y.T k M/y.T k j) 128 128):=ag (((HS.o k gW.o _ (Nat.le_refl _)).div (HS.o k gW.o j (Nat.le_of_lt vS.o)) iD.o).mono (by omega) (by omega))
        go_upto_region 13 with fail
        go_cut [8,9] (fun s8 s9 w'=>∃(G:Nat) (xq:Fx),s8 = .pointer (some ⟨G,0,none⟩)/\s9 = .int .i64 0/\Vl w' G xq (y.T k M/y.T k j)/\Below wr.heap.size wr w')
        case first=>
         have hMN:M<L.N:=by have:=tp.o;omega
         have a7:Hd (∀w',Below wr.heap.size wr w'->(w'.cell? ⟨L.G,0,none⟩=some (.slice (some ⟨L.go,0,none⟩) L.m L.co)/\w'.cell? ⟨L.go,k,none⟩=some (.slice (some ⟨gk,0,none⟩) L.N (L.c k))/\w'.cell? ⟨gk,M*3,none⟩=some (.bool xr.b)/\w'.cell? ⟨gk,M*3+1,none⟩=some (.slice xr.A xr.xs.length xr.c)/\w'.cell? ⟨gk,M*3+2,none⟩=some (.slice xr.D xr.ys.length xr.d)/\w'.cell? ⟨gk,j*3,none⟩=some (.bool xt.b)/\w'.cell? ⟨gk,j*3+1,none⟩=some (.slice xt.A xt.xs.length xt.c)/\w'.cell? ⟨gk,j*3+2,none⟩=some (.slice xt.D xt.ys.length xt.d))):=ag (fun _ bz=>⟨(aq.o.below bz).c0,(aq.o.below bz).rowg gW.o lo.o,(wi.o.below bz).c0,(wi.o.below bz).c1,(wi.o.below bz).c2,(bf.o.below bz).c0,(bf.o.below bz).c1,(bf.o.below bz).c2⟩)
         refine fR a7 (by kernel_rfl) fun hH=>?_
         have bz:=(ah wr.heap.size wr).drew;generalize wr.drew=wd at *;refine qj 27 fun Ha=>?_
         refine qh Ha 0 (.pointer (some ⟨L.G,0,none⟩)) rfl ?_;refine qh Ha 1 (.pointer (some ⟨L.G,0,none⟩)) rfl ?_;refine qh Ha 2 (.pointer (some ⟨L.G,0,none⟩)) rfl ?_;refine qh Ha 3 (.slice (some ⟨L.go,0,none⟩) L.m L.co) rfl ?_;simp only [tz];refine qh Ha 4 (.int .i64 (k:Int)) rfl ?_;refine qh Ha 5 (.pointer (some ⟨L.go,k,none⟩)) rfl ?_;refine qh Ha 6 (.slice (some ⟨gk,0,none⟩) L.N (L.c k)) rfl ?_;refine qh Ha 7 (.int .i64 (M:Int)) rfl ?_;simp only [tz];refine qh Ha 8 (.pointer (some ⟨gk,M*3,none⟩)) rfl ?_
         refine qh Ha 9 (xr.val) rfl ?_;refine qh Ha 10 (.pointer (some ⟨L.G,0,none⟩)) rfl ?_;refine qh Ha 11 (.pointer (some ⟨L.G,0,none⟩)) rfl ?_;simp only [tz];refine qh Ha 12 (.pointer (some ⟨L.G,0,none⟩)) rfl ?_;refine qh Ha 13 (.slice (some ⟨L.go,0,none⟩) L.m L.co) rfl ?_;refine qh Ha 14 (.int .i64 (k:Int)) rfl ?_;refine qh Ha 15 (.pointer (some ⟨L.go,k,none⟩)) rfl ?_;simp only [tz];refine qh Ha 16 (.slice (some ⟨gk,0,none⟩) L.N (L.c k)) rfl ?_;refine qh Ha 17 (.int .i64 (j:Int)) rfl ?_
         refine qh Ha 18 (.pointer (some ⟨gk,j*3,none⟩)) rfl ?_;refine tks Ha 19 (xt.val) rfl ?_;simp only [tz];refine wpAnyH_ready (rs := [20,24]) (tkn Ha (by kernel_rfl)) (by simp) ?_
         refine AllReadyH.cons rfl (fun K hK=>?_) ?_
         ·go_simp;go_at_call 98;refine (r2quo_el wd xr xt _ _ (wi.o.below bz).el (bf.o.below bz).el m4.o js.o iD.o c7.o).mono ?_;rintro e wd ⟨x3,rfl,⟨ok3,r3⟩,bb⟩;replace bz:=qd bz bb;clear bb;refine hK.out _ _ (a7.o _ bz) fun hH=>?_;clear hK K;try simp only [tz]
          refine qh Ha 21 (.tuple #[x3.val, .int .i64 0]) rfl ?_;refine qh Ha 22 (x3.val) rfl ?_;refine tks Ha 23 (.int .i64 0) rfl ?_;simp only [tz];refine tk1 Ha 24 rfl fun K hK=>?_;go_simp;have k8:=aK wd;have bb:=qc wd (.cells #[.bool false, .slice none 0 0, .slice none 0 0] 29);have s8:=bz.size;generalize h8:wd.heap.size=g8 at k8 s8|-;replace ok3:=ok3.below bb;replace bz:=qd bz bb;clear bb;generalize (wd.alloc (.cells #[.bool false, .slice none 0 0, .slice none 0 0] 29))=we at *;clear h8;generalize we=wd at *
          refine hK.out _ _ (a7.o _ bz) fun hH=>?_;clear hK K;try simp only [tz]
          refine tk1 Ha 25 rfl fun K hK=>?_;have t:=k8;obtain ⟨k0,k1,k2,aF,aG,aH,_,_⟩:=t;go_simp;clear k0 k1 k2 aF aG aH;have hk:Fa wd g8 Fx.nil:=⟨k8,Fx.nil_ok _⟩;have a3:=hk.put ok3;have b5:=aR (G:=g8) (a:=(.bool x3.b)) (b:=(.slice x3.A x3.xs.length x3.c)) (c:=(.slice x3.D x3.ys.length x3.d)) bz s8;clear bz hk k8 ok3 hH;generalize (((wd.setCell ⟨g8,0,none⟩ (.bool x3.b)).setCell ⟨g8,1,none⟩ (.slice x3.A x3.xs.length x3.c)).setCell ⟨g8,2,none⟩ (.slice x3.D x3.ys.length x3.d))=we at *;have bz:=b5;clear b5;generalize we=wd at *;refine hK.out _ _ (a7.o _ bz) fun hH=>?_;clear hK K;try simp only [tz]
          refine tk1 Ha 26 rfl fun K hK=>?_;go_simp;refine hK.out _ _ (a7.o _ bz) fun hH=>?_;clear hK K;try simp only [tz]
          refine qp Ha ?_
          go_wp2_with fail;go_meet
          case rel=>exact ⟨g8,x3,rfl,rfl,⟨a3,r3⟩,bz⟩
         refine AllReadyH.cons rfl (fun K hK=>?_) ?_
         ·go_simp;have k8:=aK wd;have bb:=qc wd (.cells #[.bool false, .slice none 0 0, .slice none 0 0] 29);have s8:=bz.size;generalize h8:wd.heap.size=g8 at k8 s8|-;replace bz:=qd bz bb;clear bb;generalize (wd.alloc (.cells #[.bool false, .slice none 0 0, .slice none 0 0] 29))=we at *;clear h8;generalize we=wd at *;refine hK.out _ _ (a7.o _ bz) fun hH=>?_;clear hK K;try simp only [tz]
          refine tk1 Ha 20 rfl fun K hK=>?_;go_simp;go_at_call 98;refine (r2quo_el wd xr xt _ _ (wi.o.below bz).el (bf.o.below bz).el m4.o js.o iD.o c7.o).mono ?_;rintro e wd ⟨x3,rfl,⟨ok3,r3⟩,bb⟩;replace k8:=k8.below bb;replace bz:=qd bz bb;clear bb;refine hK.out _ _ (a7.o _ bz) fun hH=>?_;clear hK K;try simp only [tz]
          refine qh Ha 21 (.tuple #[x3.val, .int .i64 0]) rfl ?_;refine qh Ha 22 (x3.val) rfl ?_;refine tks Ha 23 (.int .i64 0) rfl ?_;simp only [tz];refine tk1 Ha 25 rfl fun K hK=>?_;have t:=k8;obtain ⟨k0,k1,k2,aF,aG,aH,_,_⟩:=t;go_simp;clear k0 k1 k2 aF aG aH;have hk:Fa wd g8 Fx.nil:=⟨k8,Fx.nil_ok _⟩;have a3:=hk.put ok3;have b5:=aR (G:=g8) (a:=(.bool x3.b)) (b:=(.slice x3.A x3.xs.length x3.c)) (c:=(.slice x3.D x3.ys.length x3.d)) bz s8;clear bz hk k8 ok3 hH;generalize (((wd.setCell ⟨g8,0,none⟩ (.bool x3.b)).setCell ⟨g8,1,none⟩ (.slice x3.A x3.xs.length x3.c)).setCell ⟨g8,2,none⟩ (.slice x3.D x3.ys.length x3.d))=we at *
          have bz:=b5;clear b5;generalize we=wd at *;refine hK.out _ _ (a7.o _ bz) fun hH=>?_;clear hK K;try simp only [tz]
          refine tk1 Ha 26 rfl fun K hK=>?_;go_simp;refine hK.out _ _ (a7.o _ bz) fun hH=>?_;clear hK K;try simp only [tz]
          refine qp Ha ?_
          go_wp2_with fail;go_meet
          case rel=>exact ⟨g8,x3,rfl,rfl,⟨a3,r3⟩,bz⟩
         exact AllReadyH.nil
        case rest=>
         obtain ⟨g9,xq,rfl,rfl,v9,bb⟩:=hcut;replace aq:=ag (aq.o.below bb);replace cu:=ag (cu.o.below bb);replace aw:=ag (qd aw.o bb);have cB:=ag v9;clear bb bf wi v9 m4;generalize wc=wr at *;obtain ⟨bk,hbk⟩:∃b,y.B k=b:=⟨_,rfl⟩;have ff:=ag hbk;clear hbk
         cases hla:dw y.T y.B M j k with
         | none=>
           have d9:Hd (dw y.T y.B M j (k+1)=some k):=ag (uV lw.o hla);rw [show rK none = -1 from rfl];clear hla bU
--A{
           go_upto_region 14 with fail
           go_cut [114] (fun s14 w'=>s14 = .bool true/\Below wr.heap.size wr w')
           case first=>
            have a7:Hd (∀w',Below wr.heap.size wr w'->(w'.cell? ⟨wk.heap.size,0,none⟩=some (.bool xl.b)/\w'.cell? ⟨wk.heap.size,1,none⟩=some (.slice xl.A xl.xs.length xl.c)/\w'.cell? ⟨wk.heap.size,2,none⟩=some (.slice xl.D xl.ys.length xl.d)/\w'.cell? ⟨g9,0,none⟩=some (.bool xq.b)/\w'.cell? ⟨g9,1,none⟩=some (.slice xq.A xq.xs.length xq.c)/\w'.cell? ⟨g9,2,none⟩=some (.slice xq.D xq.ys.length xq.d))):=ag (fun _ bz=>⟨(cu.o.below bz).c0,(cu.o.below bz).c1,(cu.o.below bz).c2,(cB.o.below bz).c0,(cB.o.below bz).c1,(cB.o.below bz).c2⟩);refine fR a7 (by kernel_rfl) fun hH=>?_
            have bz:=(ah wr.heap.size wr).drew;generalize wr.drew=wd at *;refine qj 29 fun Ha=>?_
            refine qh Ha 0 (.int .i64 (-1)) rfl ?_;refine tks Ha 1 (.bool true) rfl ?_;simp only [tz];refine tkm Ha 27 [(2,88,0,some true),(0,0,2,none),(0,0,1,some true),(0,0,19,none),(0,0,0,some true)] rfl ?_;simp only [exI,exD,bI,kV,rpS,rpZ,apC,apN];refine qp Ha ?_
            go_wp2_with fail;go_meet
            case rel=>exact ⟨rfl,bz⟩
           case rest=>
            obtain ⟨rfl,bb⟩:=hcut;replace aq:=ag (aq.o.below bb);replace cu:=ag (cu.o.below bb);replace cB:=ag (cB.o.below bb);replace aw:=ag (qd aw.o bb);clear bb;generalize wc=wr at *;have f0:=cB.o.c0;have f1:=cB.o.c1;have f2:=cB.o.c2;have t:=cu.o.bk;obtain ⟨k0,k1,k2,aF,aG,aH,_,_⟩:=t;go_wp2_with fail;go_region;go_wp2_with fail;go_roundw
            case rel=>exact ⟨k+1,xq,by omega,by go_num,by rw [d9.o];rfl,(cu.o.put cB.o.fa.ok).below ((ah _ _).drew),(fun a ha=>by rw [d9.o] at ha;cases ha;exact cB.o.rp),(aR aw.o (Nat.le_refl _)).drew⟩
            case measure=>simp [intOf];omega
--A}
         | some a=>
           rw [show rK (some a)=(a:Int) from rfl];have HR:=ag (bU.o a hla);obtain ⟨la1,la2,_,_⟩:=mI _ _ hla;have haM:a<L.m:=by omega
           have mb:=ag hla;have CC:=ag haM;have tq:Hd (Sz (y.T a M/y.T a j) 128 128):=ag (((HS.o a haM M (Nat.le_refl _)).div (HS.o a haM j (Nat.le_of_lt vS.o)) (kt la2)).mono (by omega) (by omega))
           obtain ⟨ba,hba⟩:∃b,y.B a=b:=⟨_,rfl⟩;have tt:=ag hba;clear hla la1 la2 hba bU;have ha0:¬(a:Int)<0:=by omega
           by_cases hl:y.T k M/y.T k j<y.T a M/y.T a j
           ·have d9:Hd (dw y.T y.B M j (k+1)=some k):=ag (qA lw.o mb.o (Or.inl hl));have l6:Hd (decide (y.T k M/y.T k j<y.T a M/y.T a j)=true):=ag (decide_eq_true hl);clear hl
--A{
            go_upto_region 14 with fail
            go_cut [114] (fun s14 w'=>s14 = .bool true/\Below wr.heap.size wr w')
            case first=>
             have a7:Hd (∀w',Below wr.heap.size wr w'->(w'.cell? ⟨wk.heap.size,0,none⟩=some (.bool xl.b)/\w'.cell? ⟨wk.heap.size,1,none⟩=some (.slice xl.A xl.xs.length xl.c)/\w'.cell? ⟨wk.heap.size,2,none⟩=some (.slice xl.D xl.ys.length xl.d)/\w'.cell? ⟨g9,0,none⟩=some (.bool xq.b)/\w'.cell? ⟨g9,1,none⟩=some (.slice xq.A xq.xs.length xq.c)/\w'.cell? ⟨g9,2,none⟩=some (.slice xq.D xq.ys.length xq.d))):=ag (fun _ bz=>⟨(cu.o.below bz).c0,(cu.o.below bz).c1,(cu.o.below bz).c2,(cB.o.below bz).c0,(cB.o.below bz).c1,(cB.o.below bz).c2⟩);refine fR a7 (by kernel_rfl) fun hH=>?_
             have bz:=(ah wr.heap.size wr).drew;generalize wr.drew=wd at *;refine qj 29 fun Ha=>?_
             refine qh Ha 0 (.int .i64 (a:Int)) rfl ?_;refine qh Ha 1 (.bool false) rfl ?_;refine qh Ha 2 (.bool false) rfl ?_;refine qh Ha 3 (xq.val) rfl ?_;simp only [tz];refine tks Ha 4 (xl.val) rfl ?_;simp only [tz];refine tk1 Ha 5 rfl fun K hK=>?_;go_simp;go_at_call 30;refine (oV wd xq xl _ _ true ((cB.o.below bz).el.nm c7.o) ((⟨(cu.o.below bz).ok,HR.o⟩:El wd xl _).nm tq.o) l6.o).mono ?_;rintro e wd ⟨rfl,bb⟩;replace bz:=qd bz bb;clear bb;refine hK.out _ _ (a7.o _ bz) fun hH=>?_;clear hK K;try simp only [tz]
             refine tkm Ha 23 [(6,92,1,some true),(0,0,19,none),(0,0,0,some true)] rfl ?_;simp only [exI,exD,bI,kV,rpS,rpZ,apC,apN];refine qp Ha ?_
             go_wp2_with fail;go_meet
             case rel=>exact ⟨rfl,bz⟩
            case rest=>
             obtain ⟨rfl,bb⟩:=hcut;replace aq:=ag (aq.o.below bb);replace cu:=ag (cu.o.below bb);replace cB:=ag (cB.o.below bb);replace aw:=ag (qd aw.o bb);clear bb;generalize wc=wr at *;have f0:=cB.o.c0;have f1:=cB.o.c1;have f2:=cB.o.c2;have t:=cu.o.bk;obtain ⟨k0,k1,k2,aF,aG,aH,_,_⟩:=t;go_wp2_with fail;go_region;go_wp2_with fail;go_roundw
             case rel=>exact ⟨k+1,xq,by omega,by go_num,by rw [d9.o];rfl,(cu.o.put cB.o.fa.ok).below ((ah _ _).drew),(fun a ha=>by rw [d9.o] at ha;cases ha;exact cB.o.rp),(aR aw.o (Nat.le_refl _)).drew⟩
             case measure=>simp [intOf];omega
--A}
           ·have l6:Hd (decide (y.T k M/y.T k j<y.T a M/y.T a j)=false):=ag (decide_eq_false hl);by_cases he:y.T k M/y.T k j=y.T a M/y.T a j
            ·have td:Hd (decide (y.T k M/y.T k j=y.T a M/y.T a j)=true):=ag (decide_eq_true he);have nu:=ag he;have dy:Hd (¬y.T k M/y.T k j<y.T a M/y.T a j):=hl;have l5:Hd (∀w',Below wr.heap.size wr w'->w'.cell? ⟨L.gb,k,none⟩=some (.int .i64 (bk:Int))/\w'.cell? ⟨L.gb,a,none⟩=some (.int .i64 (ba:Int))):=ag (fun w' hb=>by
              have h1:=((aq.o.below hb).bas gW.o).1;have h2:=((aq.o.below hb).bas CC.o).1;rw [show (extT L.m M c y).B k=y.B k from rfl,ff.o] at h1;rw [show (extT L.m M c y).B a=y.B a from rfl,tt.o] at h2;exact ⟨h1,h2⟩)
             clear he hl
--A{
             go_upto_region 14 with fail
             go_cut [114] (fun s14 w'=>s14 = .bool (decide (bk<ba))/\Below wr.heap.size wr w')
             case first=>
              have a7:Hd (∀w',Below wr.heap.size wr w'->(w'.cell? ⟨wk.heap.size,0,none⟩=some (.bool xl.b)/\w'.cell? ⟨wk.heap.size,1,none⟩=some (.slice xl.A xl.xs.length xl.c)/\w'.cell? ⟨wk.heap.size,2,none⟩=some (.slice xl.D xl.ys.length xl.d)/\w'.cell? ⟨g9,0,none⟩=some (.bool xq.b)/\w'.cell? ⟨g9,1,none⟩=some (.slice xq.A xq.xs.length xq.c)/\w'.cell? ⟨g9,2,none⟩=some (.slice xq.D xq.ys.length xq.d)/\w'.cell? ⟨L.G,2,none⟩=some (.slice (some ⟨L.gb,0,none⟩) L.m L.cb)/\w'.cell? ⟨L.gb,k,none⟩=some (.int .i64 (bk:Int))/\w'.cell? ⟨L.gb,a,none⟩=some (.int .i64 (ba:Int)))):=ag (fun _ bz=>⟨(cu.o.below bz).c0,(cu.o.below bz).c1,(cu.o.below bz).c2,(cB.o.below bz).c0,(cB.o.below bz).c1,(cB.o.below bz).c2,(aq.o.below bz).c2,(l5.o _ bz).1,(l5.o _ bz).2⟩)
              refine fR a7 (by kernel_rfl) fun hH=>?_
              have bz:=(ah wr.heap.size wr).drew;generalize wr.drew=wd at *;refine qj 29 fun Ha=>?_
              refine qh Ha 0 (.int .i64 (a:Int)) rfl ?_;refine qh Ha 1 (.bool false) rfl ?_;refine qh Ha 2 (.bool false) rfl ?_;refine qh Ha 3 (xq.val) rfl ?_;simp only [tz];refine tks Ha 4 (xl.val) rfl ?_;simp only [tz];refine tk1 Ha 5 rfl fun K hK=>?_;go_simp;go_at_call 30;refine (oV wd xq xl _ _ false ((cB.o.below bz).el.nm c7.o) ((⟨(cu.o.below bz).ok,HR.o⟩:El wd xl _).nm tq.o) l6.o).mono ?_;rintro e wd ⟨rfl,bb⟩;replace bz:=qd bz bb;clear bb;refine hK.out _ _ (a7.o _ bz) fun hH=>?_;clear hK K;try simp only [tz]
              refine tkm Ha 2 [(6,92,1,some false)] rfl ?_;simp only [exI,exD,bI,kV,rpS,rpZ,apC,apN];refine qh Ha 8 (xq.val) rfl ?_;refine tks Ha 9 (xl.val) rfl ?_;simp only [tz];refine tk1 Ha 10 rfl fun K hK=>?_;go_simp;go_at_call 24;refine (gA wd xq xl _ _ true ((cB.o.below bz).el.nm c7.o) ((⟨(cu.o.below bz).ok,HR.o⟩:El wd xl _).nm tq.o) td.o).mono ?_;rintro e wd ⟨rfl,bb⟩;replace bz:=qd bz bb;clear bb;refine hK.out _ _ (a7.o _ bz) fun hH=>?_;clear hK K;try simp only [tz]
              refine qh Ha 11 (.bool true) rfl ?_;refine qh Ha 12 (.pointer (some ⟨L.G,0,none⟩)) rfl ?_;refine qh Ha 13 (.pointer (some ⟨L.G,0,none⟩)) rfl ?_;refine qh Ha 14 (.pointer (some ⟨L.G,2,none⟩)) rfl ?_;simp only [tz];refine qh Ha 15 (.slice (some ⟨L.gb,0,none⟩) L.m L.cb) rfl ?_;refine qh Ha 16 (.int .i64 (k:Int)) rfl ?_;refine qh Ha 17 (.pointer (some ⟨L.gb,k,none⟩)) rfl ?_;refine qh Ha 18 (.int .i64 (bk:Int)) rfl ?_;simp only [tz];refine qh Ha 19 (.pointer (some ⟨L.G,0,none⟩)) rfl ?_
              refine qh Ha 20 (.pointer (some ⟨L.G,0,none⟩)) rfl ?_;refine qh Ha 21 (.pointer (some ⟨L.G,2,none⟩)) rfl ?_;refine qh Ha 22 (.slice (some ⟨L.gb,0,none⟩) L.m L.cb) rfl ?_;simp only [tz];refine qh Ha 23 (.int .i64 (a:Int)) rfl ?_;refine qh Ha 24 (.pointer (some ⟨L.gb,a,none⟩)) rfl ?_;refine qh Ha 25 (.int .i64 (ba:Int)) rfl ?_;refine qh Ha 26 (.bool (decide ((bk:Int)<(ba:Int)))) rfl ?_;simp only [tz];refine qh Ha 27 (.bool (decide ((bk:Int)<(ba:Int)))) rfl ?_;refine tks Ha 28 (.bool (decide ((bk:Int)<(ba:Int)))) rfl ?_;simp only [tz]
              refine qp Ha ?_
              go_wp2_with fail;go_meet
              case rel=>exact ⟨rfl,bz⟩
             case rest=>
              by_cases h8:bk<ba
              ·have d9:Hd (dw y.T y.B M j (k+1)=some k):=ag (qA lw.o mb.o (Or.inr ⟨nu.o,by rw [ff.o,tt.o];exact h8⟩))
               rw [decide_eq_true h8] at hcut;obtain ⟨rfl,bb⟩:=hcut;replace aq:=ag (aq.o.below bb);replace cu:=ag (cu.o.below bb);replace cB:=ag (cB.o.below bb);replace aw:=ag (qd aw.o bb);clear bb;generalize wc=wr at *;have f0:=cB.o.c0;have f1:=cB.o.c1;have f2:=cB.o.c2;have t:=cu.o.bk;obtain ⟨k0,k1,k2,aF,aG,aH,_,_⟩:=t;go_wp2_with fail;go_region;go_wp2_with fail;go_roundw
               case rel=>exact ⟨k+1,xq,by omega,by go_num,by rw [d9.o];rfl,(cu.o.put cB.o.fa.ok).below ((ah _ _).drew),(fun a ha=>by rw [d9.o] at ha;cases ha;exact cB.o.rp),(aR aw.o (Nat.le_refl _)).drew⟩
               case measure=>simp [intOf];omega
              ·have d9:Hd (dw y.T y.B M j (k+1)=some a):=ag (qB lw.o mb.o (fun hh=>by
                rcases hh with hh|⟨_,hh⟩
                ·exact dy.o hh
                ·rw [ff.o,tt.o] at hh;exact h8 hh))
               rw [decide_eq_false h8] at hcut;obtain ⟨rfl,bb⟩:=hcut;replace aq:=ag (aq.o.below bb);replace cu:=ag (cu.o.below bb);replace cB:=ag (cB.o.below bb);replace aw:=ag (qd aw.o bb);clear bb;generalize wc=wr at *;go_wp2_with fail;go_roundw
               case rel=>exact ⟨k+1,xl,by omega,by go_num,by rw [d9.o];rfl,cu.o,(fun a' ha=>by rw [d9.o] at ha;cases ha;exact HR.o),aw.o⟩
               case measure=>simp [intOf];omega
--A}
            ·have td:Hd (decide (y.T k M/y.T k j=y.T a M/y.T a j)=false):=ag (decide_eq_false he);have d9:Hd (dw y.T y.B M j (k+1)=some a):=ag (qB lw.o mb.o (fun hh=>by
              rcases hh with hh|⟨hh,_⟩
              ·exact hl hh
              ·exact he hh))
             clear he hl
--A{
             go_upto_region 14 with fail
             go_cut [114] (fun s14 w'=>s14 = .bool false/\Below wr.heap.size wr w')
             case first=>
              have a7:Hd (∀w',Below wr.heap.size wr w'->(w'.cell? ⟨wk.heap.size,0,none⟩=some (.bool xl.b)/\w'.cell? ⟨wk.heap.size,1,none⟩=some (.slice xl.A xl.xs.length xl.c)/\w'.cell? ⟨wk.heap.size,2,none⟩=some (.slice xl.D xl.ys.length xl.d)/\w'.cell? ⟨g9,0,none⟩=some (.bool xq.b)/\w'.cell? ⟨g9,1,none⟩=some (.slice xq.A xq.xs.length xq.c)/\w'.cell? ⟨g9,2,none⟩=some (.slice xq.D xq.ys.length xq.d))):=ag (fun _ bz=>⟨(cu.o.below bz).c0,(cu.o.below bz).c1,(cu.o.below bz).c2,(cB.o.below bz).c0,(cB.o.below bz).c1,(cB.o.below bz).c2⟩);refine fR a7 (by kernel_rfl) fun hH=>?_
              have bz:=(ah wr.heap.size wr).drew;generalize wr.drew=wd at *;refine qj 29 fun Ha=>?_
              refine qh Ha 0 (.int .i64 (a:Int)) rfl ?_;refine qh Ha 1 (.bool false) rfl ?_;refine qh Ha 2 (.bool false) rfl ?_;refine qh Ha 3 (xq.val) rfl ?_;simp only [tz];refine tks Ha 4 (xl.val) rfl ?_;simp only [tz];refine tk1 Ha 5 rfl fun K hK=>?_;go_simp;go_at_call 30;refine (oV wd xq xl _ _ false ((cB.o.below bz).el.nm c7.o) ((⟨(cu.o.below bz).ok,HR.o⟩:El wd xl _).nm tq.o) l6.o).mono ?_;rintro e wd ⟨rfl,bb⟩;replace bz:=qd bz bb;clear bb;refine hK.out _ _ (a7.o _ bz) fun hH=>?_;clear hK K;try simp only [tz]
              refine tkm Ha 2 [(6,92,1,some false)] rfl ?_;simp only [exI,exD,bI,kV,rpS,rpZ,apC,apN];refine qh Ha 8 (xq.val) rfl ?_;refine tks Ha 9 (xl.val) rfl ?_;simp only [tz];refine tk1 Ha 10 rfl fun K hK=>?_;go_simp;go_at_call 24;refine (gA wd xq xl _ _ false ((cB.o.below bz).el.nm c7.o) ((⟨(cu.o.below bz).ok,HR.o⟩:El wd xl _).nm tq.o) td.o).mono ?_;rintro e wd ⟨rfl,bb⟩;replace bz:=qd bz bb;clear bb;refine hK.out _ _ (a7.o _ bz) fun hH=>?_;clear hK K;try simp only [tz]
              refine tkm Ha 18 [(11,97,0,some false),(0,0,14,none),(0,0,1,some false)] rfl ?_;simp only [exI,exD,bI,kV,rpS,rpZ,apC,apN];refine qp Ha ?_
              go_wp2_with fail;go_meet
              case rel=>exact ⟨rfl,bz⟩
             case rest=>
              obtain ⟨rfl,bb⟩:=hcut;replace aq:=ag (aq.o.below bb);replace cu:=ag (cu.o.below bb);replace cB:=ag (cB.o.below bb);replace aw:=ag (qd aw.o bb);clear bb;generalize wc=wr at *;go_wp2_with fail;go_roundw
              case rel=>exact ⟨k+1,xl,by omega,by go_num,by rw [d9.o];rfl,cu.o,(fun a' ha=>by rw [d9.o] at ha;cases ha;exact HR.o),aw.o⟩
              case measure=>simp [intOf];omega
--A}
      ·obtain rfl:k=L.m:=by omega
       clear a1;replace aq:=ag (aq.o.below bw);replace eS:=ag (eS.o.trans (bw.mono eS.o.size));clear bw aw
       cases hla:dw y.T y.B M j L.m with
       | none=>
         have mb:Hd (dw y.T y.B (L.n+L.m) j L.m=none):=ag (by rw [HM.o];exact hla)
         clear hrl hla;have c0:=aq.o.c0;rw [show rK none = -1 from rfl];go_wp2_with fail;go_ret;exact ⟨t,br.o,by rw [HY.o,m5.o];rfl,by rw [HY.o];exact zE m5.o mb.o,by rw [HY.o];exact aq.o,ax.o.then eS.o⟩
       | some i=>
         have mb:Hd (dw y.T y.B (L.n+L.m) j L.m=some i):=ag (by rw [HM.o];exact hla)
         obtain ⟨l1,l2,_,_⟩:=mI _ _ hla;have cK:Hd (gZ L.m L.n L.n c (X t)=some (j,i)):=ag (by rw [HY.o];exact xH m5.o mb.o)
         have lL:Hd (t<K):=ag (by
          rcases Nat.lt_or_ge t K with k1|k1
          ·exact k1
          ·exfalso
           have e:t=K:=by have:=br.o;omega
           have:=cK.o;rw [e,HK.o] at this;cases this)
         have AA:Hd (X (t+1)=⟨bY y.T i j,cg y.B i j⟩):=ag (by
          have:=cK.o;rw [<-HX.o] at this;rw [<-HX.o,zQ this,HX.o,HY.o])
         have f8:Hd (i<L.m):=ag l1;have rD:Hd (y.T i j≠0):=ag (kt l2);have EK:Hd (extT L.m M c (X (t+1))=⟨bY (extT L.m M c y).T i j,cg (extT L.m M c y).B i j⟩):=ag (by rw [AA.o];exact ext_pivot l1 vS.o (kt l2))
         have hi0:¬(i:Int)<0:=by omega
         clear hrl hla l1 l2;have c0:=aq.o.c0;rw [show rK (some i)=(i:Int) from rfl];go_wp2_with fail;refine (r16pivot_any wr B L (extT L.m M c y) i j aq.o f8.o hjN (by rw [ext_row f8.o];exact rD.o) hN (fun r hr k hk=>by
          have:=HF.o t br.o r hr k (by have:=tp.o;omega)
          rw [HY.o] at this;exact this) (fun r hr k hk=>by
          have:=HF.o (t+1) lL.o r hr k (by have:=tp.o;omega)
          rw [EK.o] at this;exact this)).mono ?_
         rintro e w7 ⟨rfl,t7,k7⟩;have yq:Hd (Rtb w7 B L (extT L.m M c (X (t+1)))):=ag (by rw [EK.o];exact t7)
         have yr:=ag ((ax.o.then eS.o).trans k7)
         clear t7 k7;go_wp2_with fail
         go_roundg (K-(t+1))
         case rel=>exact ⟨t+1,rfl,lL.o,yq.o,yr.o⟩
         case measure=>have:=An.o;have:=lL.o;omega
   ·obtain rfl:j=L.n:=by omega
    have m5:Hd (fG L.m c y.T y.B L.n 0=none):=ag (Ai L.n 0 (fun k _ k2=>q9.o k (by omega)))
    go_wp2_with fail;go_ret;exact ⟨t,br.o,by rw [HY.o,m5.o];rfl,by rw [HY.o];exact xI m5.o,by rw [HY.o];exact aq.o,ax.o.then eS.o⟩
end Go.Proofs.YtkpfbekmaafehaaGreat
