/- The walks of package fraction: Add, Sub -/
import Derived.Test.YtkpfbekmaafehaaGreatFrD
import Derived.Test.YtkpfbekmaafehaaGreatNatG
import Derived.BigRegion
import Derived.RegionTactic
import Derived.Test.YtkpfbekmaafehaaGreatFrC
import Derived.Test.YtkpfbekmaafehaaGreatBase
import Derived.Test.YtkpfbekmaafehaaGreatDivV
import Derived.Test.YtkpfbekmaafehaaGreatFrA
import Derived.Deep.RegionLaw
import Derived.Deep.OwnRows
namespace Go.Proofs.YtkpfbekmaafehaaGreat
open _root_.Go.Proofs.Tryz
set_option maxHeartbeats 8000000
set_option maxRecDepth 100000
open Go.RowKit
theorem AZ {m n:Nat} (hm:(lim m).length<=256) (hn:(lim n).length<=256):pG m n=(lim (m+n),0):=by
 have h1:=jC hm hn;rw [pG,if_neg (by omega),iC,if_neg (by omega)]
theorem rh {m n:Nat} (hm:(lim m).length<=256) (hn:(lim n).length<=256) (h:n<=m):mZ m n=(lim (m-n),0):=by
 rw [mZ,if_neg (by omega),if_neg (by omega)]
theorem wI {m n:Nat} (h:n<=m):0<=i6 m n:=by
 unfold i6
 repeat' split
 all_goals omega
theorem tX {m n:Nat} (h:m<n):¬ 0<=i6 m n:=by
 unfold i6
 repeat' split
 all_goals omega
def jl (x y:Fx):Bool×List Nat×List Nat×Int:=if x.v/\y.v then frS (x.q+y.q) else kP 1
theorem tQ (w:World) (x y:Fx) (S:Bool×List Nat×List Nat×Int) (hx:x.ok w) (hy:y.ok w) (l1:x.xs.length<=10000) (l2:x.ys.length<=10000) (m1:y.xs.length<=10000) (m2:y.ys.length<=10000) (hs:jl x y=S):Calls prog 96 #[x.val,y.val] w (eQ w S):=by
 have HS:=ag hs;clear hs;by_cases hv:x.v/\y.v
 ·skip
  have HV:=ag hv;have bX:=ag hv.1;have cF:=ag hv.2;have DX:Hd (nv x.ys≠0):=ag hv.1.1;have DY:Hd (nv y.ys≠0):=ag hv.2.1;have lx1:(lim (nv x.xs)).length<=128:=hv.1.2.2;have lx2:(lim (nv x.ys)).length<=128:=hv.1.2.1;have ly1:(lim (nv y.xs)).length<=128:=hv.2.2.2;have ly2:(lim (nv y.ys)).length<=128:=hv.2.2.1;clear hv;go_enter func96,ntmps96;go_wp2_with fail;have b0:=qc w (.cells x.cells 29);have bx:=az w (.bool x.b) (.slice x.A x.xs.length x.c) (.slice x.D x.ys.length x.d);have aa:=hx.below b0;have an:=hy.below b0;have sz0:=aB w (.cells x.cells 29);have bw:=b0
  clear b0;generalize (w.alloc (.cells x.cells 29))=wa at bx aa an sz0 bw|-;have b1:=qc wa (.cells y.cells 29);have al:=az wa (.bool y.b) (.slice y.A y.xs.length y.c) (.slice y.D y.ys.length y.d);have sz1:=aB wa (.cells y.cells 29);rw [sz0] at al sz1;replace bx:=bx.below b1;replace aa:=aa.below b1;replace an:=an.below b1;replace bw:=qd bw b1;clear b1;generalize (wa.alloc (.cells y.cells 29))=wb at bx al aa an bw sz1|-;have b2:=qc wb (.cells #[.bool false, .slice none 0 0, .slice none 0 0] 29);have bk:=aK wb
  rw [sz1] at bk;replace bx:=bx.below b2;replace al:=al.below b2;replace aa:=aa.below b2;replace an:=an.below b2;replace bw:=qd bw b2;clear b2 sz0 sz1;generalize (wb.alloc (.cells #[.bool false, .slice none 0 0, .slice none 0 0] 29))=w1 at bx al aa an bw bk|-;refine (aP w1 x true aa l1 l2 (decide_eq_true bX.o)).mono ?_;rintro e wn ⟨rfl,bb⟩;replace bx:=bx.below bb;replace al:=al.below bb;replace bk:=bk.below bb;replace aa:=aa.below bb;replace an:=an.below bb;replace bw:=qd bw bb;clear bb;have ty:=al;obtain ⟨y0,y1,y2,yf0,yf1,yf2,ylt,yb⟩:=ty;clear yb;go_wp2_with fail
  clear y0 y1 y2 yf0 yf1 yf2 ylt;refine (aP wn y true an m1 m2 (decide_eq_true cF.o)).mono ?_;rintro e wn ⟨rfl,bb⟩;replace bx:=bx.below bb;replace al:=al.below bb;replace bk:=bk.below bb;replace aa:=aa.below bb;replace an:=an.below bb;replace bw:=qd bw bb;clear bb;go_upto_region 3 with fail
  go_cut [6,7,8] (fun s1 s2 s3 wx=>∃(A1 A2 A3:Option Addr) (c1 c2 c3:Nat),s1 = .slice A1 (lim (nv x.xs*nv y.ys)).length c1/\s2 = .slice A2 (lim (nv y.xs*nv x.ys)).length c2/\s3 = .slice A3 (lim (nv x.ys*nv y.ys)).length c3/\Nt wx A1 c1 (lim (nv x.xs*nv y.ys))/\Nt wx A2 c2 (lim (nv y.xs*nv x.ys))/\Nt wx A3 c3 (lim (nv x.ys*nv y.ys))/\Below wn.heap.size wn wx)
  case first=>
   have bw0:=ah wn.heap.size wn;have bb:=dd (ah wn.heap.size wn);replace bw0:=qd bw0 bb;replace bx:=bx.below bb;replace al:=al.below bb;replace aa:=aa.below bb;replace an:=an.below bb;replace bw:=qd bw bb;clear bb
   go_region_held3 (fun w'=>w'.cell? ⟨w.heap.size,0,none⟩=some (.bool x.b)/\w'.cell? ⟨w.heap.size,1,none⟩=some (.slice x.A x.xs.length x.c)/\w'.cell? ⟨w.heap.size,2,none⟩=some (.slice x.D x.ys.length x.d)/\w'.cell? ⟨w.heap.size+1,0,none⟩=some (.bool y.b)/\w'.cell? ⟨w.heap.size+1,1,none⟩=some (.slice y.A y.xs.length y.c)/\w'.cell? ⟨w.heap.size+1,2,none⟩=some (.slice y.D y.ys.length y.d))
    (first|exact ⟨bx.c0,bx.c1,bx.c2,al.c0,al.c1,al.c2⟩|go_keep)
    (first
      | (go_at_call 117
         with_reducible refine (ew _ x.A y.D x.c y.d _ _ x.xs y.ys aa.num an.den rfl rfl lx1 ly2).mono ?_
         rintro e wn ⟨A1,c1,rfl,n1,bb⟩;replace bw0:=qd bw0 bb;replace bx:=bx.below bb;replace al:=al.below bb;replace aa:=aa.below bb;replace an:=an.below bb;clear bb)
      | (go_at_call 117
         with_reducible refine (ew _ y.A x.D y.c x.d _ _ y.xs x.ys an.num aa.den rfl rfl ly1 lx2).mono ?_
         rintro e wn ⟨A2,c2,rfl,n2,bb⟩;replace n1:=n1.below bb;replace bw0:=qd bw0 bb;replace bx:=bx.below bb;replace al:=al.below bb;replace aa:=aa.below bb;replace an:=an.below bb;clear bb)
      | (go_at_call 117
         with_reducible refine (ew _ x.D y.D x.d y.d _ _ x.ys y.ys aa.den an.den rfl rfl lx2 ly2).mono ?_
         rintro e wn ⟨A3,c3,rfl,n3,bb⟩;replace n1:=n1.below bb;replace n2:=n2.below bb;replace bw0:=qd bw0 bb;replace bx:=bx.below bb;replace al:=al.below bb;replace aa:=aa.below bb;replace an:=an.below bb;clear bb))
   all_goals
    go_wp2_with fail;go_meet
    case rel=>exact ⟨_,_,_,_,_,_,rfl,rfl,rfl,n1,n2,n3,bw0⟩
  case rest=>
   obtain ⟨A1,A2,AD,c1,c2,cD,rfl,rfl,rfl,na,nb,nd,bb⟩:=hcut;replace bx:=bx.below bb;replace al:=al.below bb;replace bk:=bk.below bb;replace aa:=aa.below bb;replace an:=an.below bb;replace bw:=qd bw bb;clear bb;have lM:=aO lx1 ly2;have lN:=aO ly1 lx2;have lD:=aO lx2 ly2;have hD0:nv x.ys*nv y.ys≠0:=Nat.mul_ne_zero DX.o DY.o;have hS1:x.b=y.b->S=frS (qv x.b (nv x.xs*nv y.ys+nv y.xs*nv x.ys) (nv x.ys*nv y.ys)):=by
    intro e;rw [<-HS.o,jl,if_pos HV.o,Fx.q,Fx.q,<-e,mS DX.o DY.o]
   have hS2:x.b≠y.b->nv y.xs*nv x.ys<=nv x.xs*nv y.ys->S=frS (qv x.b (nv x.xs*nv y.ys-nv y.xs*nv x.ys) (nv x.ys*nv y.ys)):=by
    intro e h;rw [<-HS.o,jl,if_pos HV.o,Fx.q,Fx.q,mC DX.o DY.o e h]
   have hS3:x.b≠y.b->nv x.xs*nv y.ys<=nv y.xs*nv x.ys->S=frS (qv y.b (nv y.xs*nv x.ys-nv x.xs*nv y.ys) (nv x.ys*nv y.ys)):=by
    intro e h;rw [<-HS.o,jl,if_pos HV.o,Fx.q,Fx.q,qo DX.o DY.o e h]
   revert na nb nd lM lN lD hD0 hS1 hS2 hS3
   generalize nv x.xs*nv y.ys=M;generalize nv y.xs*nv x.ys=N;generalize nv x.ys*nv y.ys=D;intro na nb nd lM lN lD hD0 hS1 hS2 hS3;have D0:Hd (D≠0):=hD0;have HS1':=ag hS1;have HS2':=ag hS2;have HS3':=ag hS3;clear hD0 hS1 hS2 hS3;by_cases he:x.b=y.b
   ·have hb:(x.b == y.b)=true:=by simp [he]
    have HE:=ag he;have l3:=jC (k:=256) (by omega:(lim M).length<=256) (by omega:(lim N).length<=256)
    clear he;have tx:=bx;obtain ⟨x0,x1,x2,xf0,xf1,xf2,xlt,xb⟩:=tx;clear xb;have ty:=al;obtain ⟨y0,y1,y2,yf0,yf1,yf2,ylt,yb⟩:=ty;clear yb;go_wp2_with fail;clear x0 x1 x2 xf0 xf1 xf2 xlt;clear y0 y1 y2 yf0 yf1 yf2 ylt;refine (wM _ A1 A2 c1 c2 _ _ (lim M) (lim N) (lim (M+N)) 0 na nb rfl rfl (by rw [am,am];exact AZ (by omega) (by omega))).mono ?_
    rintro e wn ⟨AS,cS,rfl,ns,bb⟩;replace bx:=bx.below bb;replace al:=al.below bb;replace bk:=bk.below bb;replace aa:=aa.below bb;replace an:=an.below bb;replace na:=na.below bb;replace nb:=nb.below bb;replace nd:=nd.below bb;replace bw:=qd bw bb;clear bb;have tx:=bx;obtain ⟨x0,x1,x2,xf0,xf1,xf2,xlt,xb⟩:=tx;clear xb;go_wp2_with fail;clear x0 x1 x2 xf0 xf1 xf2 xlt;have NN:Hd ((lim (nv (lim (M+N)))).length<=512):=ag (by rw [am];omega)
    have DD:Hd ((lim (nv (lim D))).length<=512):=ag (by rw [am];omega)
    have NE:Hd (nv (lim D)≠0):=ag (by rw [am];exact D0.o)
    refine (i7 _ x.b AS AD cS cD _ _ (lim (M+N)) (lim D) ns nd rfl rfl NE.o (by omega) (by omega) NN.o DD.o).mono ?_
    rintro e wn ⟨x1,rfl,hs1,ok1,bb⟩;have cI:=ag hs1;clear hs1;replace bx:=bx.below bb;replace al:=al.below bb;replace bk:=bk.below bb;replace aa:=aa.below bb;replace an:=an.below bb;replace na:=na.below bb;replace nb:=nb.below bb;replace nd:=nd.below bb;replace bw:=qd bw bb;clear bb;have tk:=bk;obtain ⟨k0,k1,k2,aF,aG,aH,klt,kb⟩:=tk;clear kb;go_wp2_with fail;refine bodyPost_ret (v := .tuple #[(x1:Fx).val, .int .i64 (frS (qv x.b (nv (lim (M+N))) (nv (lim D)))).2.2.2]) (by simp [results,Tryz.results96,go_sem,k0,k1,k2]) rfl ?_
    have hS:S=frS (qv x.b (nv (lim (M+N))) (nv (lim D))):=by
     rw [am,am];exact HS1'.o HE.o
    rw [hS];exact ⟨x1,rfl,cI.o,bD ok1 bk rfl rfl rfl,aR bw (by omega)⟩
   ·have hb:(x.b == y.b)=false:=by simpa using he
    have HE:Hd (x.b≠y.b):=he;clear he;by_cases hle:N<=M
    ·have hc:=wI hle;have hZ:=ag hle;have l3:=ao (Nat.sub_le M N);obtain ⟨z,hz⟩:∃z,i6 M N=z:=⟨_,rfl⟩;rw [hz] at hc;have HZ:=ag hz;have hcd:decide (0<=z)=true:=decide_eq_true hc;clear hle hc hz;have tx:=bx;obtain ⟨x0,x1,x2,xf0,xf1,xf2,xlt,xb⟩:=tx;clear xb;have ty:=al;obtain ⟨y0,y1,y2,yf0,yf1,yf2,ylt,yb⟩:=ty;clear yb;go_wp2_with fail;clear x0 x1 x2 xf0 xf1 xf2 xlt;clear y0 y1 y2 yf0 yf1 yf2 ylt;refine (fY _ A1 A2 c1 c2 _ _ (lim M) (lim N) z na nb rfl rfl (by rw [am,am];exact HZ.o)).mono ?_
     rintro e wn ⟨rfl,qq⟩;have bb:=qq.keep;clear qq;replace bx:=bx.below bb;replace al:=al.below bb;replace bk:=bk.below bb;replace aa:=aa.below bb;replace an:=an.below bb;replace na:=na.below bb;replace nb:=nb.below bb;replace nd:=nd.below bb;replace bw:=qd bw bb;clear bb;go_wp2_with fail;refine (vJ _ A1 A2 c1 c2 _ _ (lim M) (lim N) (lim (M-N)) 0 na nb rfl rfl (by rw [am,am];exact rh (by omega) (by omega) hZ.o)).mono ?_
     rintro e wn ⟨AS,cS,rfl,ns,bb⟩;replace bx:=bx.below bb;replace al:=al.below bb;replace bk:=bk.below bb;replace aa:=aa.below bb;replace an:=an.below bb;replace na:=na.below bb;replace nb:=nb.below bb;replace nd:=nd.below bb;replace bw:=qd bw bb;clear bb;have tx:=bx;obtain ⟨x0,x1,x2,xf0,xf1,xf2,xlt,xb⟩:=tx;clear xb;go_wp2_with fail;clear x0 x1 x2 xf0 xf1 xf2 xlt;have NN:Hd ((lim (nv (lim (M-N)))).length<=512):=ag (by rw [am];omega)
     have DD:Hd ((lim (nv (lim D))).length<=512):=ag (by rw [am];omega)
     have NE:Hd (nv (lim D)≠0):=ag (by rw [am];exact D0.o)
     refine (i7 _ x.b AS AD cS cD _ _ (lim (M-N)) (lim D) ns nd rfl rfl NE.o (by omega) (by omega) NN.o DD.o).mono ?_
     rintro e wn ⟨x1,rfl,hs1,ok1,bb⟩;have cI:=ag hs1;clear hs1;replace bx:=bx.below bb;replace al:=al.below bb;replace bk:=bk.below bb;replace aa:=aa.below bb;replace an:=an.below bb;replace na:=na.below bb;replace nb:=nb.below bb;replace nd:=nd.below bb;replace bw:=qd bw bb;clear bb;have tk:=bk;obtain ⟨k0,k1,k2,aF,aG,aH,klt,kb⟩:=tk;clear kb;go_wp2_with fail;refine bodyPost_ret (v := .tuple #[(x1:Fx).val, .int .i64 (frS (qv x.b (nv (lim (M-N))) (nv (lim D)))).2.2.2]) (by simp [results,Tryz.results96,go_sem,k0,k1,k2]) rfl ?_
     have hS:S=frS (qv x.b (nv (lim (M-N))) (nv (lim D))):=by
      rw [am,am];exact HS2'.o HE.o hZ.o
     rw [hS];exact ⟨x1,rfl,cI.o,bD ok1 bk rfl rfl rfl,aR bw (by omega)⟩
    ·have hc:=tX (Nat.lt_of_not_le hle);have hZ:=ag (Nat.le_of_lt (Nat.lt_of_not_le hle));have l3:=ao (Nat.sub_le N M);obtain ⟨z,hz⟩:∃z,i6 M N=z:=⟨_,rfl⟩;rw [hz] at hc;have HZ:=ag hz;have hcd:decide (0<=z)=false:=decide_eq_false hc;clear hle hc hz;have tx:=bx;obtain ⟨x0,x1,x2,xf0,xf1,xf2,xlt,xb⟩:=tx;clear xb;have ty:=al;obtain ⟨y0,y1,y2,yf0,yf1,yf2,ylt,yb⟩:=ty;clear yb;go_wp2_with fail;clear x0 x1 x2 xf0 xf1 xf2 xlt;clear y0 y1 y2 yf0 yf1 yf2 ylt;refine (fY _ A1 A2 c1 c2 _ _ (lim M) (lim N) z na nb rfl rfl (by rw [am,am];exact HZ.o)).mono ?_
     rintro e wn ⟨rfl,qq⟩;have bb:=qq.keep;clear qq;replace bx:=bx.below bb;replace al:=al.below bb;replace bk:=bk.below bb;replace aa:=aa.below bb;replace an:=an.below bb;replace na:=na.below bb;replace nb:=nb.below bb;replace nd:=nd.below bb;replace bw:=qd bw bb;clear bb;go_wp2_with fail;refine (vJ _ A2 A1 c2 c1 _ _ (lim N) (lim M) (lim (N-M)) 0 nb na rfl rfl (by rw [am,am];exact rh (by omega) (by omega) hZ.o)).mono ?_
     rintro e wn ⟨AS,cS,rfl,ns,bb⟩;replace bx:=bx.below bb;replace al:=al.below bb;replace bk:=bk.below bb;replace aa:=aa.below bb;replace an:=an.below bb;replace na:=na.below bb;replace nb:=nb.below bb;replace nd:=nd.below bb;replace bw:=qd bw bb;clear bb;have ty:=al;obtain ⟨y0,y1,y2,yf0,yf1,yf2,ylt,yb⟩:=ty;clear yb;go_wp2_with fail;clear y0 y1 y2 yf0 yf1 yf2 ylt;have NN:Hd ((lim (nv (lim (N-M)))).length<=512):=ag (by rw [am];omega)
     have DD:Hd ((lim (nv (lim D))).length<=512):=ag (by rw [am];omega)
     have NE:Hd (nv (lim D)≠0):=ag (by rw [am];exact D0.o)
     refine (i7 _ y.b AS AD cS cD _ _ (lim (N-M)) (lim D) ns nd rfl rfl NE.o (by omega) (by omega) NN.o DD.o).mono ?_
     rintro e wn ⟨x1,rfl,hs1,ok1,bb⟩;have cI:=ag hs1;clear hs1;replace bx:=bx.below bb;replace al:=al.below bb;replace bk:=bk.below bb;replace aa:=aa.below bb;replace an:=an.below bb;replace na:=na.below bb;replace nb:=nb.below bb;replace nd:=nd.below bb;replace bw:=qd bw bb;clear bb;have tk:=bk;obtain ⟨k0,k1,k2,aF,aG,aH,klt,kb⟩:=tk;clear kb;go_wp2_with fail;refine bodyPost_ret (v := .tuple #[(x1:Fx).val, .int .i64 (frS (qv y.b (nv (lim (N-M))) (nv (lim D)))).2.2.2]) (by simp [results,Tryz.results96,go_sem,k0,k1,k2]) rfl ?_
     have hS:S=frS (qv y.b (nv (lim (N-M))) (nv (lim D))):=by
      rw [am,am];exact HS3'.o HE.o hZ.o
     rw [hS];exact ⟨x1,rfl,cI.o,bD ok1 bk rfl rfl rfl,aR bw (by omega)⟩
 ·skip
  by_cases hvx:x.v
  ·have hvy:¬y.v:=fun h=>hv ⟨hvx,h⟩;have bX:=ag hvx;have cF:Hd (¬y.v):=hvy;have HV:Hd (¬(x.v/\y.v)):=hv;clear hvx hvy hv;go_enter func96,ntmps96;go_wp2_with fail;have b0:=qc w (.cells x.cells 29);have bx:=az w (.bool x.b) (.slice x.A x.xs.length x.c) (.slice x.D x.ys.length x.d);have aa:=hx.below b0;have an:=hy.below b0;have sz0:=aB w (.cells x.cells 29);have bw:=b0;clear b0;generalize (w.alloc (.cells x.cells 29))=wa at bx aa an sz0 bw|-;have b1:=qc wa (.cells y.cells 29);have al:=az wa (.bool y.b) (.slice y.A y.xs.length y.c) (.slice y.D y.ys.length y.d)
   have sz1:=aB wa (.cells y.cells 29);rw [sz0] at al sz1;replace bx:=bx.below b1;replace aa:=aa.below b1;replace an:=an.below b1;replace bw:=qd bw b1;clear b1;generalize (wa.alloc (.cells y.cells 29))=wb at bx al aa an bw sz1|-;have b2:=qc wb (.cells #[.bool false, .slice none 0 0, .slice none 0 0] 29);have bk:=aK wb;rw [sz1] at bk;replace bx:=bx.below b2;replace al:=al.below b2;replace aa:=aa.below b2;replace an:=an.below b2;replace bw:=qd bw b2;clear b2 sz0 sz1;generalize (wb.alloc (.cells #[.bool false, .slice none 0 0, .slice none 0 0] 29))=w1 at bx al aa an bw bk|-
   refine (aP w1 x true aa l1 l2 (decide_eq_true bX.o)).mono ?_;rintro e wn ⟨rfl,bb⟩;replace bx:=bx.below bb;replace al:=al.below bb;replace bk:=bk.below bb;replace aa:=aa.below bb;replace an:=an.below bb;replace bw:=qd bw bb;clear bb;have ty:=al;obtain ⟨y0,y1,y2,yf0,yf1,yf2,ylt,yb⟩:=ty;clear yb;go_wp2_with fail;clear y0 y1 y2 yf0 yf1 yf2 ylt;refine (aP wn y false an m1 m2 (decide_eq_false cF.o)).mono ?_;rintro e wn ⟨rfl,bb⟩;replace bx:=bx.below bb;replace al:=al.below bb;replace bk:=bk.below bb;replace aa:=aa.below bb;replace an:=an.below bb;replace bw:=qd bw bb
   clear bb;have tk:=bk;obtain ⟨k0,k1,k2,aF,aG,aH,klt,kb⟩:=tk;clear kb;go_wp2_with fail;refine bodyPost_ret (v := .tuple #[(Fx.nil:Fx).val, .int .i64 1]) (by simp [results,Tryz.results96,go_sem,k0,k1,k2]) rfl ?_
   rw [<-HS.o,jl,if_neg HV.o];exact ⟨Fx.nil,rfl,⟨rfl,rfl,rfl⟩,Fx.nil_ok _,aR bw (by omega)⟩
  ·have bX:Hd (¬x.v):=hvx;have HV:Hd (¬(x.v/\y.v)):=hv;clear hvx hv;go_enter func96,ntmps96;go_wp2_with fail;have b0:=qc w (.cells x.cells 29);have bx:=az w (.bool x.b) (.slice x.A x.xs.length x.c) (.slice x.D x.ys.length x.d);have aa:=hx.below b0;have an:=hy.below b0;have sz0:=aB w (.cells x.cells 29);have bw:=b0;clear b0;generalize (w.alloc (.cells x.cells 29))=wa at bx aa an sz0 bw|-;have b1:=qc wa (.cells y.cells 29);have al:=az wa (.bool y.b) (.slice y.A y.xs.length y.c) (.slice y.D y.ys.length y.d);have sz1:=aB wa (.cells y.cells 29)
   rw [sz0] at al sz1;replace bx:=bx.below b1;replace aa:=aa.below b1;replace an:=an.below b1;replace bw:=qd bw b1;clear b1;generalize (wa.alloc (.cells y.cells 29))=wb at bx al aa an bw sz1|-;have b2:=qc wb (.cells #[.bool false, .slice none 0 0, .slice none 0 0] 29);have bk:=aK wb;rw [sz1] at bk;replace bx:=bx.below b2;replace al:=al.below b2;replace aa:=aa.below b2;replace an:=an.below b2;replace bw:=qd bw b2;clear b2 sz0 sz1;generalize (wb.alloc (.cells #[.bool false, .slice none 0 0, .slice none 0 0] 29))=w1 at bx al aa an bw bk|-
   refine (aP w1 x false aa l1 l2 (decide_eq_false bX.o)).mono ?_;rintro e wn ⟨rfl,bb⟩;replace bx:=bx.below bb;replace al:=al.below bb;replace bk:=bk.below bb;replace aa:=aa.below bb;replace an:=an.below bb;replace bw:=qd bw bb;clear bb;have tk:=bk;obtain ⟨k0,k1,k2,aF,aG,aH,klt,kb⟩:=tk;clear kb;go_wp2_with fail;refine bodyPost_ret (v := .tuple #[(Fx.nil:Fx).val, .int .i64 1]) (by simp [results,Tryz.results96,go_sem,k0,k1,k2]) rfl ?_
   rw [<-HS.o,jl,if_neg HV.o];exact ⟨Fx.nil,rfl,⟨rfl,rfl,rfl⟩,Fx.nil_ok _,aR bw (by omega)⟩
def yw (x y:Fx):Bool×List Nat×List Nat×Int:=if x.v/\y.v then frS (x.q-y.q) else kP 1
theorem xk (x y:Fx):jl x { y with b := !y.b}=yw x y:=by
 have e:({ y with b := !y.b}:Fx).q = - y.q:=Dl _ _ _;have e2:({ y with b := !y.b}:Fx).v↔y.v:=Iff.rfl;simp only [jl,yw,e,e2,Rat.sub_eq_add_neg]
theorem zV (w:World) (x y:Fx) (S:Bool×List Nat×List Nat×Int) (hx:x.ok w) (hy:y.ok w) (l1:x.xs.length<=10000) (l2:x.ys.length<=10000) (m1:y.xs.length<=10000) (m2:y.ys.length<=10000) (hs:yw x y=S):Calls prog 89 #[x.val,y.val] w (eQ w S):=by
 have HS:Hd (jl x { y with b := !y.b}=S):=ag ((xk x y).trans hs);clear hs;go_enter func89,ntmps89;go_wp2_with fail;have b0:=qc w (.cells x.cells 29);have bx:=az w (.bool x.b) (.slice x.A x.xs.length x.c) (.slice x.D x.ys.length x.d);have aa:=hx.below b0;have an:=hy.below b0;have sz0:=aB w (.cells x.cells 29);have bw:=b0;clear b0;generalize (w.alloc (.cells x.cells 29))=wa at bx aa an sz0 bw|-;have b1:=qc wa (.cells y.cells 29);have al:=az wa (.bool y.b) (.slice y.A y.xs.length y.c) (.slice y.D y.ys.length y.d)
 have sz1:=aB wa (.cells y.cells 29);rw [sz0] at al sz1;replace bx:=bx.below b1;replace aa:=aa.below b1;replace an:=an.below b1;replace bw:=qd bw b1;clear b1;generalize (wa.alloc (.cells y.cells 29))=wb at bx al aa an bw sz1|-;have b2:=qc wb (.cells #[.bool false, .slice none 0 0, .slice none 0 0] 29);have bk:=aK wb;rw [sz1] at bk;replace bx:=bx.below b2;replace al:=al.below b2;replace aa:=aa.below b2;replace an:=an.below b2;replace bw:=qd bw b2;clear b2 sz0 sz1;generalize (wb.alloc (.cells #[.bool false, .slice none 0 0, .slice none 0 0] 29))=w1 at bx al aa an bw bk|-
 go_wp2_with fail;have n20:w.heap.size+1+1≠w.heap.size:=by omega
 have n21:w.heap.size+1+1≠w.heap.size+1:=by omega
 have bb:=dd (ah w1.heap.size w1);replace bx:=bx.below bb;replace al:=al.below bb;replace bk:=bk.below bb;replace aa:=aa.below bb;replace an:=an.below bb;replace bw:=qd bw bb;clear bb
 go_region_held3 (fun w'=>w'.cell? ⟨w.heap.size,0,none⟩=some (.bool x.b)/\w'.cell? ⟨w.heap.size,1,none⟩=some (.slice x.A x.xs.length x.c)/\w'.cell? ⟨w.heap.size,2,none⟩=some (.slice x.D x.ys.length x.d)/\w'.cell? ⟨w.heap.size+1,0,none⟩=some (.bool y.b)/\w'.cell? ⟨w.heap.size+1,1,none⟩=some (.slice y.A y.xs.length y.c)/\w'.cell? ⟨w.heap.size+1,2,none⟩=some (.slice y.D y.ys.length y.d))
  (first|exact ⟨bx.c0,bx.c1,bx.c2,al.c0,al.c1,al.c2⟩|exact ⟨aQ bx.c0 n20,aQ bx.c1 n20,aQ bx.c2 n20,aQ al.c0 n21,aQ al.c1 n21,aQ al.c2 n21⟩|go_keep)
  (first
    | (go_at_call 113
       with_reducible refine (ve _ y).mono ?_
       rintro e wn ⟨rfl,bb⟩;replace bx:=bx.below bb;replace al:=al.below bb;replace bk:=bk.below bb;replace aa:=aa.below bb;replace an:=an.below bb;replace bw:=qd bw bb;clear bb)
    | (go_at_call 96
       with_reducible refine (tQ _ x { y with b := !y.b} S aa ⟨an.num,an.den⟩ l1 l2 m1 m2 HS.o).mono ?_
       rintro e wn ⟨x1,rfl,hs1,ok1,bb⟩;have cI:=ag hs1;replace bx:=bx.below bb;replace al:=al.below bb;replace bk:=bk.below bb;replace bw:=qd bw bb;have kk:=bk;obtain ⟨k0,k1,k2,aF,aG,aH,klt,_⟩:=kk;clear bb hs1))
 all_goals
  go_wp2_with fail;refine bodyPost_ret (v := .tuple #[(x1:Fx).val, .int .i64 S.2.2.2]) (by simp [results,Tryz.results89,go_sem,k0,k1,k2]) rfl ?_
  exact ⟨x1,rfl,cI.o,bD ok1 bk rfl rfl rfl,aR bw (by omega)⟩
theorem wQ {v:Int} (h0 : -9223372036854775808<=v) (h:v<0):IntKind.u64.wrap (-(IntKind.u64.wrap v))=(v.natAbs:Int):=by
 rw [IntKind.wrap_u64,IntKind.wrap_u64];omega
theorem pQ {v:Int} (h0:0<=v) (h:v<=9223372036854775807):IntKind.u64.wrap v=(v.natAbs:Int):=by
 rw [IntKind.wrap_u64];omega
theorem j4 (w:World) (v:Int) (h0 : -9223372036854775808<=v) (h1:v<=9223372036854775807):Calls prog 110 #[.int .i64 v] w fun e w'=>∃A c,e = .returned (.slice A (lim v.natAbs).length c)/\Nt w' A c (lim v.natAbs)/\Below w.heap.size w w':=by
 by_cases hv:v<0
 ·have hw:=wQ h0 hv;have hd:decide (v<0)=true:=decide_eq_true hv;go_enter func110,ntmps110;go_wp2_with fail;refine (jB w v.natAbs (by omega)).mono ?_
  rintro e wn ⟨A',c',rfl,n',bb⟩;go_wp2_with fail;go_ret;exact ⟨A',c',rfl,n',bb⟩
 ·have hw:=pQ (Int.not_lt.1 hv) h1;have hd:decide (v<0)=false:=decide_eq_false hv;go_enter func110,ntmps110;go_wp2_with fail;refine (jB w v.natAbs (by omega)).mono ?_
  rintro e wn ⟨A',c',rfl,n',bb⟩;go_wp2_with fail;go_ret;exact ⟨A',c',rfl,n',bb⟩
theorem mA {n d:Int} (_hd:d≠0):qv (!(decide (n<0) == decide (d<0))) n.natAbs d.natAbs=Rat.divInt n d:=by
 rw [qv,<-Rat.divInt_ofNat];rcases Int.lt_or_le d 0 with h|h
 ·have e:((d.natAbs:Nat):Int) = -d:=by omega
  rw [e,<-Rat.neg_divInt_neg,Int.neg_neg]
  congr 1
  rcases Int.lt_or_le n 0 with g|g
  ·simp [sg,h,g];omega
  ·simp [sg,h,Int.not_lt.2 g];omega
 ·have e:((d.natAbs:Nat):Int)=d:=by omega
  rw [e]
  congr 1
  rcases Int.lt_or_le n 0 with g|g
  ·simp [sg,Int.not_lt.2 h,g];omega
  ·simp [sg,Int.not_lt.2 h,Int.not_lt.2 g];omega
theorem eM {m:Nat} (h:m<18446744073709551616):(lim m).length<=2:=by rw [aA];exact h
def ke (n d:Int):Bool×List Nat×List Nat×Int:=if d=0 then kP 3 else frS (Rat.divInt n d)
theorem xP (w:World) (n d:Int) (S:Bool×List Nat×List Nat×Int) (n0 : -9223372036854775808<=n) (n1:n<=9223372036854775807) (d0 : -9223372036854775808<=d) (d1:d<=9223372036854775807) (hs:ke n d=S):Calls prog 83 #[.int .i64 n, .int .i64 d] w (eQ w S):=by
 have HS:=ag hs;clear hs;by_cases hd:d=0
 ·have HD:=ag hd;have hdd:(d == 0)=true:=by simpa using hd
  clear hd;go_enter func83,ntmps83;go_wp2_with fail;have bw:=qc w (.cells #[.bool false, .slice none 0 0, .slice none 0 0] 29);have bk:=aK w;generalize (w.alloc (.cells #[.bool false, .slice none 0 0, .slice none 0 0] 29))=w1 at bw bk|-;have tk:=bk;obtain ⟨k0,k1,k2,aF,aG,aH,klt,kb⟩:=tk;clear kb;go_wp2_with fail;refine bodyPost_ret (v := .tuple #[(Fx.nil:Fx).val, .int .i64 3]) (by simp [results,Tryz.results83,go_sem,k0,k1,k2]) rfl ?_
  rw [<-HS.o,ke,if_pos HD.o];exact ⟨Fx.nil,rfl,⟨rfl,rfl,rfl⟩,Fx.nil_ok _,bw⟩
 ·have HD:Hd (¬d=0):=hd;have hdd:(d == 0)=false:=by simpa using hd
  have ln:=eM (m:=n.natAbs) (by omega)
  have ld:=eM (m:=d.natAbs) (by omega)
  have lnn:(lim (nv (lim n.natAbs))).length<=512:=by rw [am];omega
  have ldd:(lim (nv (lim d.natAbs))).length<=512:=by rw [am];omega
  have ne:nv (lim d.natAbs)≠0:=by rw [am];omega
  have LNN:=ag lnn;have LDD:=ag ldd;have NE:Hd (nv (lim d.natAbs)≠0):=ne;clear hd lnn ldd ne;go_enter func83,ntmps83;go_wp2_with fail;have bw:=qc w (.cells #[.bool false, .slice none 0 0, .slice none 0 0] 29);have bk:=aK w;generalize (w.alloc (.cells #[.bool false, .slice none 0 0, .slice none 0 0] 29))=w1 at bw bk|-;go_wp2_with fail;refine (j4 w1 n n0 n1).mono ?_;rintro e wn ⟨AN,cN,rfl,na,bb⟩
  try replace bx:=bx.below bb
  try replace al:=al.below bb
  try replace bk:=bk.below bb
  try replace aa:=aa.below bb
  try replace an:=an.below bb
  try replace ok1:=ok1.below bb
  try replace na:=na.below bb
  try replace nb:=nb.below bb
  try replace nc:=nc.below bb
  try replace nd:=nd.below bb
  try replace ne:=ne.below bb
  replace bw:=qd bw bb;clear bb;go_wp2_with fail;refine (j4 wn d d0 d1).mono ?_;rintro e wn ⟨AD,cD,rfl,nb,bb⟩
  try replace bx:=bx.below bb
  try replace al:=al.below bb
  try replace bk:=bk.below bb
  try replace aa:=aa.below bb
  try replace an:=an.below bb
  try replace ok1:=ok1.below bb
  try replace na:=na.below bb
  try replace nb:=nb.below bb
  try replace nc:=nc.below bb
  try replace nd:=nd.below bb
  try replace ne:=ne.below bb
  replace bw:=qd bw bb;clear bb;go_wp2_with fail;refine (i7 _ (!(decide (n<0) == decide (d<0))) AN AD cN cD _ _ (lim n.natAbs) (lim d.natAbs) na nb rfl rfl NE.o (by omega) (by omega) LNN.o LDD.o).mono ?_
  rintro e wn ⟨x1,rfl,hs1,ok1,bb⟩;have cI:=ag hs1;clear hs1
  try replace bx:=bx.below bb
  try replace al:=al.below bb
  try replace bk:=bk.below bb
  try replace aa:=aa.below bb
  try replace an:=an.below bb
  try replace ok1:=ok1.below bb
  try replace na:=na.below bb
  try replace nb:=nb.below bb
  try replace nc:=nc.below bb
  try replace nd:=nd.below bb
  try replace ne:=ne.below bb
  replace bw:=qd bw bb;clear bb;have tk:=bk;obtain ⟨k0,k1,k2,aF,aG,aH,klt,kb⟩:=tk;clear kb;go_wp2_with fail;refine bodyPost_ret (v := .tuple #[(x1:Fx).val, .int .i64 (frS (qv (!(decide (n<0) == decide (d<0))) (nv (lim n.natAbs)) (nv (lim d.natAbs)))).2.2.2]) (by simp [results,Tryz.results83,go_sem,k0,k1,k2]) rfl ?_
  have hS:S=frS (qv (!(decide (n<0) == decide (d<0))) (nv (lim n.natAbs)) (nv (lim d.natAbs))):=by
   rw [<-HS.o,ke,if_neg HD.o,am,am,mA HD.o]
  rw [hS];exact ⟨x1,rfl,cI.o,bD ok1 bk rfl rfl rfl,aR bw (by omega)⟩
theorem kB {x:Fx} (hv:x.v):gz x=(decide (x.q.num<0),lim x.q.num.natAbs,lim x.q.den,0)/\(lim x.q.num.natAbs).length<=128/\(lim x.q.den).length<=128:=by
 have h1:=ao (Nat.div_le_self (nv x.xs) (Nat.gcd (nv x.xs) (nv x.ys)));have h2:=ao (Nat.div_le_self (nv x.ys) (Nat.gcd (nv x.xs) (nv x.ys)));have h3:=hv.2.1;have h4:=hv.2.2;have h5:(lim x.q.num.natAbs).length<=128/\(lim x.q.den).length<=128:=by
  rw [Fx.q,mE hv.1,mB hv.1];omega
 refine ⟨?_,h5⟩;rw [gz,if_pos hv,frS,if_neg];rw [vu];omega
theorem fH (k:Nat):2^k=pw (k/32)*2^(k % 32):=by
 unfold pw;rw [show (4294967296:Nat)=2^32 from rfl,<-Nat.pow_mul,<-Nat.pow_add,Nat.div_add_mod]
theorem rH (k:Nat) (O:List Nat):nv (List.replicate k 0++O)=nv O*pw k:=by
 rw [cj,iX,List.length_replicate,Nat.zero_add,Nat.mul_comm]
theorem tH {O:List Nat} {m k:Nat} (h:nv O=m*2^(k % 32)):nv (List.replicate (k/32) 0++O)=m*2^k:=by
 rw [rH,h,fH k,Nat.mul_assoc,Nat.mul_comm (2^(k % 32))]
theorem qI {X:List Nat} (hu:U32 X) {wh s i:Nat} (hs:s<32) (hi:wh+i<X.length):(X.getD (wh+i+1) 0*4294967296+X[wh+i])/2^s % 4294967296=nv X/(pw wh*2^s)/pw i % 4294967296:=by
 have h1:=jA X hu (wh+i) (by omega)
 have hp:0<2^s:=Nat.pow_pos (by omega)
 have e:nv X/(pw wh*2^s)/pw i=nv X/pw (wh+i)/2^s:=by
  rw [Nat.div_div_eq_div_mul,Nat.div_div_eq_div_mul,jz]
  congr 1
  rw [Nat.mul_assoc,Nat.mul_comm (2^s),<-Nat.mul_assoc]
 rw [e,h1];rcases Nat.lt_or_ge (wh+i+1) X.length with h2|h2
 ·rw [List.drop_eq_getElem_cons hi,List.drop_eq_getElem_cons h2,aT,aT];rw [List.getD_eq_getElem?_getD,List.getElem?_eq_getElem h2,Option.getD_some];exact oL (hu.at _ hi) (hu.at _ h2) hs
 ·rw [List.drop_eq_getElem_cons hi,List.drop_eq_nil_of_le h2,aT,aW];rw [List.getD_eq_getElem?_getD,List.getElem?_eq_none h2,Option.getD_none];simp
theorem pJ {X R:List Nat} (hu:U32 X) {k:Nat} (hk:k/32<X.length) (hl:R.length=X.length-k/32) (h:∀t (ht:t<R.length),R[t]=nv X/(pw (k/32)*2^(k % 32))/pw t % 4294967296):nv R=nv X/2^k:=by
 rw [qs _ _ R hl h,<-fH]
 apply Nat.mod_eq_of_lt
 rw [Nat.div_lt_iff_lt_mul (Nat.pow_pos (by omega))]
 have h1:=fk hu;refine Nat.lt_of_lt_of_le h1 ?_;rw [fH,<-Nat.mul_assoc,<-jz,show X.length-k/32+k/32=X.length from by omega]
 exact Nat.le_mul_of_pos_right _ (Nat.pow_pos (by omega))
theorem oM {X:List Nat} (hu:U32 X) {k:Nat} (hk:X.length<=k/32):nv X/2^k=0:=by
 apply Nat.div_eq_of_lt
 have h1:=fk hu;rw [fH];refine Nat.lt_of_lt_of_le h1 (Nat.le_trans (mT hk) (Nat.le_mul_of_pos_right _ (Nat.pow_pos (by omega))))
theorem jq {P:Program} (w:World) {α : Type} {mk : α -> Value} (hone:∀x,(mk x).oneCell'=true) {ops:Array Oper} {o:Oper} {a:Act} {K:Act->World->Prop} {Q:Exit->Act->World->Prop} {X:Prop} (hgd:o.guard=none) (s x:Operand) (t:TypeId)
 (ho:o.op = .call { callee := .builtin .append,args := #[s,x],argTypes := #[t,t]})
 (e:TypeId) (i:TypeInfo) (z:Value) (bytes:Nat) (ht:P.underlying t=some (.slice e)) (hi:P.info? e=some i) (hz:i.zero=some z)
 (hsize:i.size=1) (hby:i.bytes=bytes) (hzs:z.cells.size=1) {B c n:Nat} {A:Option Addr} {xs:List α} (hs:a.eval s = .slice A n c) (hn:n=xs.length) (hown:Gr mk e w B A c xs)
 (A2:Option Addr) (m c2:Nat) (ys:List α) (hx:a.eval x = .slice A2 m c2) (hm:m=ys.length) (hr:Rd mk w A2 ys) (hmax:n+m<=maxLen) (hbytes:(n+m)*bytes<=140737488355328) (hbase:B<=w.heap.size)
 (h:∀A' c' w',Gr mk e w' B A' c' (xs++ys)->w.grownBy w' (A.map (·.block))->Below B w w'->(A'.map (·.block)=A.map (·.block)\/A'.map (·.block)=some w.heap.size) ->
   K (a.put o.dst (.slice A' (n+m) c')) w') :
 if Region.wanted o (yielded ops a.tmps)=true then Oper.wp P o a w K Q else X:=by
 have hw:Region.wanted o (yielded ops a.tmps)=true:=by simp [Region.wanted,hgd]
 rw [if_pos hw];subst hn hm;obtain ⟨A',c',w',hrun,h1,h2,h3,h4⟩:=fJ (P:=P) w hone t o.type e i z bytes ht hi hz hsize hby hzs hown A2 c2 ys hr hmax hbytes hbase;unfold Oper.wp execOp;simp only [ho,resolve,invoke,builtin,Sem.run_bind,Sem.run_pure,Result.andThen_ok,List.map_toArray,List.map_cons,List.map_nil,hs,hx,hrun];exact h A' c' w' h1 h2 h3 h4
def shiftS (m:Nat) (n:Int):List Nat×Int:=
 if 512<(lim m).length\/(m≠0/\16384<n) then ([],2) else if m=0\/n <= -16384 then ([],0) else if 0<=n then iC (m*2^n.toNat) else (lim (m/2^(-n).toNat),0)
theorem shiftS_big {m:Nat} {n:Int} (h:512<(lim m).length):shiftS m n=([],2):=by rw [shiftS,if_pos (.inl h)]
theorem shiftS_far {m:Nat} {n:Int} (h:m≠0) (h2:16384<n):shiftS m n=([],2):=by rw [shiftS,if_pos (.inr ⟨h,h2⟩)]
theorem shiftS_zero {m:Nat} {n:Int} (h:m=0):shiftS m n=([],0):=by subst h;rw [shiftS,if_neg (by rw [aV];simp),if_pos (.inl rfl)]
theorem shiftS_low {m:Nat} {n:Int} (h:¬ 512<(lim m).length) (h2:n <= -16384):shiftS m n=([],0):=by rw [shiftS,if_neg (by omega),if_pos (.inr h2)]
theorem shiftS_up {m k:Nat} (h:¬ 512<(lim m).length) (h0:m≠0) (h2:(k:Int)<=16384):shiftS m k=iC (m*2^k):=by rw [shiftS,if_neg (by omega),if_neg (by omega),if_pos (by omega),Int.toNat_natCast]
theorem shiftS_down {m k:Nat} (h:¬ 512<(lim m).length) (h0:m≠0) (h2:(k:Int)<16384) (h3:0<k):shiftS m (-(k:Int))=(lim (m/2^k),0):=by
 rw [shiftS,if_neg (by omega),if_neg (by omega),if_neg (by omega)];simp
theorem sizS_small {m:Nat} (h:¬ 512<(lim m).length):iC m=(lim m,0):=by rw [iC,if_neg h]
theorem zD {x y:Nat} (hx:x<4294967296) (hy:y<4294967296):bits .or .u64 (x:Int) ((y:Int)*4294967296)=((y*4294967296+x:Nat):Int):=by
 have h:=u64_or_nat x (y*4294967296) (by omega) (by omega)
 rw [Nat.or_comm,nat_join32 (y*4294967296) x (by omega) hx] at h
 have e1:(((y*4294967296:Nat)):Int)=(y:Int)*4294967296:=by omega
 rw [e1] at h;exact h
theorem kW {w:World} {ad:Addr} {k:Nat} {v:Value} (h:w.cell? (ad.add (k+1))=some v):w.cell? ⟨ad.block,ad.off+(k+1),none⟩=some v:=by
 have e:ad.add (k+1)=⟨ad.block,ad.off+(k+1),none⟩:=by unfold Addr.add;rw [if_neg (by omega)]
 rw [<-e];exact h
end Go.Proofs.YtkpfbekmaafehaaGreat
