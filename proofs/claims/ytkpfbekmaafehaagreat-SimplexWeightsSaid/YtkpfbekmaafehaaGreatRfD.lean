/- The walks of drydockref02: Mul, Quo -/
import Derived.Test.YtkpfbekmaafehaaGreatRfB
import Derived.Deep.RegionHeld3
namespace Go.Proofs.YtkpfbekmaafehaaGreat
open _root_.Go.Proofs.Tryz
set_option maxHeartbeats 8000000
set_option maxRecDepth 100000
open Go.RowKit
theorem kK {x:Fx} {b:Bool} {N D:Nat} (h:x.b=(fP (qv b N D)).1/\x.xs=(fP (qv b N D)).2.1/\x.ys=(fP (qv b N D)).2.2) (hD:D≠0) (lN:(lim N).length<=512) (lD:(lim D).length<=512) :
 Ag (x.b,x.xs,x.ys)=frS (qv b N D)/\x.xs.length<=10000/\x.ys.length<=10000:=by
 obtain ⟨e1,e2,e3⟩:=h;rw [e1,e2,e3];refine ⟨Af _,?_,?_⟩
 ·have:=ao (Nat.div_le_self N (Nat.gcd N D));rw [fP,mE hD];show (lim _).length<=10000;omega
 ·have:=ao (Nat.div_le_self D (Nat.gcd N D));rw [fP,mB hD];show (lim _).length<=10000;omega
theorem qg (w:World) (x y:Fx) (S:Bool×List Nat×List Nat×Int) (hx:x.ok w) (hy:y.ok w) (l1:x.xs.length<=10000) (l2:x.ys.length<=10000) (m1:y.xs.length<=10000) (m2:y.ys.length<=10000) (hs:pe x y=S):Calls prog 28 #[x.val,y.val] w (eQ w S):=by
 have HS:=ag hs;clear hs;by_cases hv:x.v/\y.v
 ·skip
  have HV:=ag hv;have bX:=ag hv.1;have cF:=ag hv.2;have DX:Hd (nv x.ys≠0):=ag hv.1.1;have DY:Hd (nv y.ys≠0):=ag hv.2.1;have lx1:(lim (nv x.xs)).length<=128:=hv.1.2.2;have lx2:(lim (nv x.ys)).length<=128:=hv.1.2.1;have ly1:(lim (nv y.xs)).length<=128:=hv.2.2.2;have ly2:(lim (nv y.ys)).length<=128:=hv.2.2.1;clear hv;go_enter func28,ntmps28;go_wp2_with fail;have b0:=qc w (.cells x.cells 29);have bx:=az w (.bool x.b) (.slice x.A x.xs.length x.c) (.slice x.D x.ys.length x.d);have aa:=hx.below b0;have an:=hy.below b0;have sz0:=aB w (.cells x.cells 29);have bw:=b0
  clear b0;generalize (w.alloc (.cells x.cells 29))=wa at bx aa an sz0 bw|-;have b1:=qc wa (.cells y.cells 29);have al:=az wa (.bool y.b) (.slice y.A y.xs.length y.c) (.slice y.D y.ys.length y.d);have sz1:=aB wa (.cells y.cells 29);rw [sz0] at al sz1;replace bx:=bx.below b1;replace aa:=aa.below b1;replace an:=an.below b1;replace bw:=qd bw b1;clear b1;generalize (wa.alloc (.cells y.cells 29))=wb at bx al aa an bw sz1|-;have b2:=qc wb (.cells #[.bool false, .slice none 0 0, .slice none 0 0] 29);have bk:=aK wb
  rw [sz1] at bk;replace bx:=bx.below b2;replace al:=al.below b2;replace aa:=aa.below b2;replace an:=an.below b2;replace bw:=qd bw b2;clear b2 sz0 sz1;generalize (wb.alloc (.cells #[.bool false, .slice none 0 0, .slice none 0 0] 29))=w1 at bx al aa an bw bk|-;refine (bF w1 x true aa l1 l2 (decide_eq_true bX.o)).mono ?_;rintro e wn ⟨rfl,bb⟩;replace bx:=bx.below bb;replace al:=al.below bb;replace bk:=bk.below bb;replace aa:=aa.below bb;replace an:=an.below bb;replace bw:=qd bw bb;clear bb;have ty:=al;obtain ⟨y0,y1,y2,yf0,yf1,yf2,ylt,yb⟩:=ty;clear yb;go_wp2_with fail
  clear y0 y1 y2 yf0 yf1 yf2 ylt;refine (bF wn y true an m1 m2 (decide_eq_true cF.o)).mono ?_;rintro e wn ⟨rfl,bb⟩;replace bx:=bx.below bb;replace al:=al.below bb;replace bk:=bk.below bb;replace aa:=aa.below bb;replace an:=an.below bb;replace bw:=qd bw bb;clear bb;have hnn:(lim (nv (lim (nv x.xs*nv y.xs)))).length<=512:=by rw [am];have:=aO lx1 ly1;omega
  have hdd:(lim (nv (lim (nv x.ys*nv y.ys)))).length<=512:=by rw [am];have:=aO lx2 ly2;omega
  have hn1:(lim (nv x.xs*nv y.xs)).length<=512:=by have:=aO lx1 ly1;omega
  have hn2:(lim (nv x.ys*nv y.ys)).length<=512:=by have:=aO lx2 ly2;omega
  have hne:nv (lim (nv x.ys*nv y.ys))≠0:=by rw [am];exact Nat.mul_ne_zero DX.o DY.o
  have n20:w.heap.size+1+1≠w.heap.size:=by omega
  have n21:w.heap.size+1+1≠w.heap.size+1:=by omega
  have NN:=ag hnn;have DD:=ag hdd;have NE:Hd (nv (lim (nv x.ys*nv y.ys))≠0):=hne;clear hnn hdd hne;go_wp2_with fail;have bb:=dd (ah wn.heap.size wn);replace bx:=bx.below bb;replace al:=al.below bb;replace bk:=bk.below bb;replace aa:=aa.below bb;replace an:=an.below bb;replace bw:=qd bw bb;clear bb
  go_region_held3 (fun w'=>w'.cell? ⟨w.heap.size,0,none⟩=some (.bool x.b)/\w'.cell? ⟨w.heap.size,1,none⟩=some (.slice x.A x.xs.length x.c)/\w'.cell? ⟨w.heap.size,2,none⟩=some (.slice x.D x.ys.length x.d)/\w'.cell? ⟨w.heap.size+1,0,none⟩=some (.bool y.b)/\w'.cell? ⟨w.heap.size+1,1,none⟩=some (.slice y.A y.xs.length y.c)/\w'.cell? ⟨w.heap.size+1,2,none⟩=some (.slice y.D y.ys.length y.d))
   (first|exact ⟨bx.c0,bx.c1,bx.c2,al.c0,al.c1,al.c2⟩|exact ⟨aQ bx.c0 n20,aQ bx.c1 n20,aQ bx.c2 n20,aQ al.c0 n21,aQ al.c1 n21,aQ al.c2 n21⟩|go_keep)
   (first
     | (go_at_call 70
        with_reducible refine (eU _ x.A y.A x.c y.c _ _ x.xs y.xs aa.num an.num rfl rfl l1 m1 lx1 ly1).mono ?_
        rintro e wn ⟨AN,cN,rfl,na,bb⟩;replace bx:=bx.below bb;replace al:=al.below bb;replace bk:=bk.below bb;replace aa:=aa.below bb;replace an:=an.below bb;replace bw:=qd bw bb;clear bb)
     | (go_at_call 70
        with_reducible refine (eU _ x.D y.D x.d y.d _ _ x.ys y.ys aa.den an.den rfl rfl l2 m2 lx2 ly2).mono ?_
        rintro e wn ⟨AD,cD,rfl,nb,bb⟩;replace na:=na.below bb;replace bx:=bx.below bb;replace al:=al.below bb;replace bk:=bk.below bb;replace aa:=aa.below bb;replace an:=an.below bb;replace bw:=qd bw bb;clear bb)
     | (go_at_call 66
        with_reducible refine (eo _ (!(x.b == y.b)) AN AD cN cD _ _ (lim (nv x.xs*nv y.xs)) (lim (nv x.ys*nv y.ys)) na nb rfl rfl NE.o (by omega) (by omega) NN.o DD.o).mono ?_
        rintro e wn ⟨x0,rfl,hs0,ok0,bb⟩;have j9:=ag (kK hs0 NE.o NN.o DD.o);replace bx:=bx.below bb;replace al:=al.below bb;replace bk:=bk.below bb;replace bw:=qd bw bb;clear bb hs0)
     | (go_at_call 69
        with_reducible refine (iR _ x0 _ ok0 j9.o.2.1 j9.o.2.2 j9.o.1).mono ?_
        rintro e wn ⟨x1,rfl,hs1,ok1,bb⟩;have cI:=ag hs1;replace bx:=bx.below bb;replace al:=al.below bb;replace bk:=bk.below bb;replace bw:=qd bw bb;have kk:=bk;obtain ⟨k0,k1,k2,aF,aG,aH,klt,_⟩:=kk;clear bb hs1))
  all_goals
   skip
   go_wp2_with fail;refine bodyPost_ret (v := .tuple #[(x1:Fx).val, .int .i64 (frS (qv (!(x.b == y.b)) (nv (lim (nv x.xs*nv y.xs))) (nv (lim (nv x.ys*nv y.ys))))).2.2.2]) (by simp [results,Tryz.results28,go_sem,k0,k1,k2]) rfl ?_
   have hS:S=frS (qv (!(x.b == y.b)) (nv (lim (nv x.xs*nv y.xs))) (nv (lim (nv x.ys*nv y.ys)))):=by
    rw [<-HS.o,pe,if_pos HV.o,am,am,Fx.q,Fx.q,uQ];rfl
   rw [hS];exact ⟨x1,rfl,cI.o,bD ok1 bk rfl rfl rfl,aR bw (by omega)⟩
 ·skip
  by_cases hvx:x.v
  ·have hvy:¬y.v:=fun h=>hv ⟨hvx,h⟩;have bX:=ag hvx;have cF:Hd (¬y.v):=hvy;have HV:Hd (¬(x.v/\y.v)):=hv;clear hvx hvy hv;go_enter func28,ntmps28;go_wp2_with fail;have b0:=qc w (.cells x.cells 29);have bx:=az w (.bool x.b) (.slice x.A x.xs.length x.c) (.slice x.D x.ys.length x.d);have aa:=hx.below b0;have an:=hy.below b0;have sz0:=aB w (.cells x.cells 29);have bw:=b0;clear b0;generalize (w.alloc (.cells x.cells 29))=wa at bx aa an sz0 bw|-;have b1:=qc wa (.cells y.cells 29);have al:=az wa (.bool y.b) (.slice y.A y.xs.length y.c) (.slice y.D y.ys.length y.d)
   have sz1:=aB wa (.cells y.cells 29);rw [sz0] at al sz1;replace bx:=bx.below b1;replace aa:=aa.below b1;replace an:=an.below b1;replace bw:=qd bw b1;clear b1;generalize (wa.alloc (.cells y.cells 29))=wb at bx al aa an bw sz1|-;have b2:=qc wb (.cells #[.bool false, .slice none 0 0, .slice none 0 0] 29);have bk:=aK wb;rw [sz1] at bk;replace bx:=bx.below b2;replace al:=al.below b2;replace aa:=aa.below b2;replace an:=an.below b2;replace bw:=qd bw b2;clear b2 sz0 sz1;generalize (wb.alloc (.cells #[.bool false, .slice none 0 0, .slice none 0 0] 29))=w1 at bx al aa an bw bk|-
   refine (bF w1 x true aa l1 l2 (decide_eq_true bX.o)).mono ?_;rintro e wn ⟨rfl,bb⟩;replace bx:=bx.below bb;replace al:=al.below bb;replace bk:=bk.below bb;replace aa:=aa.below bb;replace an:=an.below bb;replace bw:=qd bw bb;clear bb;have ty:=al;obtain ⟨y0,y1,y2,yf0,yf1,yf2,ylt,yb⟩:=ty;clear yb;go_wp2_with fail;clear y0 y1 y2 yf0 yf1 yf2 ylt;refine (bF wn y false an m1 m2 (decide_eq_false cF.o)).mono ?_;rintro e wn ⟨rfl,bb⟩;replace bx:=bx.below bb;replace al:=al.below bb;replace bk:=bk.below bb;replace aa:=aa.below bb;replace an:=an.below bb;replace bw:=qd bw bb
   clear bb;have tk:=bk;obtain ⟨k0,k1,k2,aF,aG,aH,klt,kb⟩:=tk;clear kb;go_wp2_with fail;refine bodyPost_ret (v := .tuple #[(Fx.nil:Fx).val, .int .i64 1]) (by simp [results,Tryz.results28,go_sem,k0,k1,k2]) rfl ?_
   rw [<-HS.o,pe,if_neg HV.o];exact ⟨Fx.nil,rfl,⟨rfl,rfl,rfl⟩,Fx.nil_ok _,aR bw (by omega)⟩
  ·have bX:Hd (¬x.v):=hvx;have HV:Hd (¬(x.v/\y.v)):=hv;clear hvx hv;go_enter func28,ntmps28;go_wp2_with fail;have b0:=qc w (.cells x.cells 29);have bx:=az w (.bool x.b) (.slice x.A x.xs.length x.c) (.slice x.D x.ys.length x.d);have aa:=hx.below b0;have an:=hy.below b0;have sz0:=aB w (.cells x.cells 29);have bw:=b0;clear b0;generalize (w.alloc (.cells x.cells 29))=wa at bx aa an sz0 bw|-;have b1:=qc wa (.cells y.cells 29);have al:=az wa (.bool y.b) (.slice y.A y.xs.length y.c) (.slice y.D y.ys.length y.d);have sz1:=aB wa (.cells y.cells 29)
   rw [sz0] at al sz1;replace bx:=bx.below b1;replace aa:=aa.below b1;replace an:=an.below b1;replace bw:=qd bw b1;clear b1;generalize (wa.alloc (.cells y.cells 29))=wb at bx al aa an bw sz1|-;have b2:=qc wb (.cells #[.bool false, .slice none 0 0, .slice none 0 0] 29);have bk:=aK wb;rw [sz1] at bk;replace bx:=bx.below b2;replace al:=al.below b2;replace aa:=aa.below b2;replace an:=an.below b2;replace bw:=qd bw b2;clear b2 sz0 sz1;generalize (wb.alloc (.cells #[.bool false, .slice none 0 0, .slice none 0 0] 29))=w1 at bx al aa an bw bk|-
   refine (bF w1 x false aa l1 l2 (decide_eq_false bX.o)).mono ?_;rintro e wn ⟨rfl,bb⟩;replace bx:=bx.below bb;replace al:=al.below bb;replace bk:=bk.below bb;replace aa:=aa.below bb;replace an:=an.below bb;replace bw:=qd bw bb;clear bb;have tk:=bk;obtain ⟨k0,k1,k2,aF,aG,aH,klt,kb⟩:=tk;clear kb;go_wp2_with fail;refine bodyPost_ret (v := .tuple #[(Fx.nil:Fx).val, .int .i64 1]) (by simp [results,Tryz.results28,go_sem,k0,k1,k2]) rfl ?_
   rw [<-HS.o,pe,if_neg HV.o];exact ⟨Fx.nil,rfl,⟨rfl,rfl,rfl⟩,Fx.nil_ok _,aR bw (by omega)⟩
theorem rfquo_any (w:World) (x y:Fx) (S:Bool×List Nat×List Nat×Int) (hx:x.ok w) (hy:y.ok w) (l1:x.xs.length<=10000) (l2:x.ys.length<=10000) (m1:y.xs.length<=10000) (m2:y.ys.length<=10000) (hs:uR x y=S):Calls prog 98 #[x.val,y.val] w (eQ w S):=by
 have HS:=ag hs;clear hs;by_cases hv:x.v/\y.v
 ·by_cases hz:nv y.xs=0
  ·have HZ:=ag hz;have hzl:(lim (nv y.xs)).length=0:=by rw [hz,aV];rfl
   clear hz
   skip
   have HV:=ag hv;have bX:=ag hv.1;have cF:=ag hv.2;have DX:Hd (nv x.ys≠0):=ag hv.1.1;have DY:Hd (nv y.ys≠0):=ag hv.2.1;have lx1:(lim (nv x.xs)).length<=128:=hv.1.2.2;have lx2:(lim (nv x.ys)).length<=128:=hv.1.2.1;have ly1:(lim (nv y.xs)).length<=128:=hv.2.2.2;have ly2:(lim (nv y.ys)).length<=128:=hv.2.2.1;clear hv;go_enter func98,ntmps98;go_wp2_with fail;have b0:=qc w (.cells x.cells 29);have bx:=az w (.bool x.b) (.slice x.A x.xs.length x.c) (.slice x.D x.ys.length x.d);have aa:=hx.below b0;have an:=hy.below b0;have sz0:=aB w (.cells x.cells 29)
   have bw:=b0;clear b0;generalize (w.alloc (.cells x.cells 29))=wa at bx aa an sz0 bw|-;have b1:=qc wa (.cells y.cells 29);have al:=az wa (.bool y.b) (.slice y.A y.xs.length y.c) (.slice y.D y.ys.length y.d);have sz1:=aB wa (.cells y.cells 29);rw [sz0] at al sz1;replace bx:=bx.below b1;replace aa:=aa.below b1;replace an:=an.below b1;replace bw:=qd bw b1;clear b1;generalize (wa.alloc (.cells y.cells 29))=wb at bx al aa an bw sz1|-;have b2:=qc wb (.cells #[.bool false, .slice none 0 0, .slice none 0 0] 29)
   have bk:=aK wb;rw [sz1] at bk;replace bx:=bx.below b2;replace al:=al.below b2;replace aa:=aa.below b2;replace an:=an.below b2;replace bw:=qd bw b2;clear b2 sz0 sz1;generalize (wb.alloc (.cells #[.bool false, .slice none 0 0, .slice none 0 0] 29))=w1 at bx al aa an bw bk|-;refine (bF w1 x true aa l1 l2 (decide_eq_true bX.o)).mono ?_;rintro e wn ⟨rfl,bb⟩;replace bx:=bx.below bb;replace al:=al.below bb;replace bk:=bk.below bb;replace aa:=aa.below bb;replace an:=an.below bb;replace bw:=qd bw bb;clear bb;have ty:=al;obtain ⟨y0,y1,y2,yf0,yf1,yf2,ylt,yb⟩:=ty;clear yb
   go_wp2_with fail;clear y0 y1 y2 yf0 yf1 yf2 ylt;refine (bF wn y true an m1 m2 (decide_eq_true cF.o)).mono ?_;rintro e wn ⟨rfl,bb⟩;replace bx:=bx.below bb;replace al:=al.below bb;replace bk:=bk.below bb;replace aa:=aa.below bb;replace an:=an.below bb;replace bw:=qd bw bb;clear bb;have ty:=al;obtain ⟨y0,y1,y2,yf0,yf1,yf2,ylt,yb⟩:=ty;clear yb;go_wp2_with fail;clear y0 y1 y2 yf0 yf1 yf2 ylt;refine (aL wn y.A y.c _ y.xs an.num rfl (by omega)).mono ?_
   rintro e wn ⟨AT,cT,rfl,gn,bb⟩;clear gn;replace bx:=bx.below bb;replace al:=al.below bb;replace bk:=bk.below bb;replace aa:=aa.below bb;replace an:=an.below bb;replace bw:=qd bw bb;clear bb;have tk:=bk;obtain ⟨k0,k1,k2,aF,aG,aH,klt,kb⟩:=tk;clear kb;go_wp2_with fail;refine bodyPost_ret (v := .tuple #[(Fx.nil:Fx).val, .int .i64 3]) (by simp [results,Tryz.results98,go_sem,k0,k1,k2]) rfl ?_
   rw [<-HS.o,uR,if_pos HV.o,if_pos HZ.o];exact ⟨Fx.nil,rfl,⟨rfl,rfl,rfl⟩,Fx.nil_ok _,aR bw (by omega)⟩
  ·have HZ:Hd (¬nv y.xs=0):=hz;have hzl:(lim (nv y.xs)).length≠0:=fun h=>hz (iZ.1 (List.length_eq_zero_iff.1 h));have hzb:(((lim (nv y.xs)).length:Int) == 0)=false:=beq_eq_false_iff_ne.2 (by omega)
   clear hz
   skip
   have HV:=ag hv;have bX:=ag hv.1;have cF:=ag hv.2;have DX:Hd (nv x.ys≠0):=ag hv.1.1;have DY:Hd (nv y.ys≠0):=ag hv.2.1;have lx1:(lim (nv x.xs)).length<=128:=hv.1.2.2;have lx2:(lim (nv x.ys)).length<=128:=hv.1.2.1;have ly1:(lim (nv y.xs)).length<=128:=hv.2.2.2;have ly2:(lim (nv y.ys)).length<=128:=hv.2.2.1;clear hv;go_enter func98,ntmps98;go_wp2_with fail;have b0:=qc w (.cells x.cells 29);have bx:=az w (.bool x.b) (.slice x.A x.xs.length x.c) (.slice x.D x.ys.length x.d);have aa:=hx.below b0;have an:=hy.below b0;have sz0:=aB w (.cells x.cells 29)
   have bw:=b0;clear b0;generalize (w.alloc (.cells x.cells 29))=wa at bx aa an sz0 bw|-;have b1:=qc wa (.cells y.cells 29);have al:=az wa (.bool y.b) (.slice y.A y.xs.length y.c) (.slice y.D y.ys.length y.d);have sz1:=aB wa (.cells y.cells 29);rw [sz0] at al sz1;replace bx:=bx.below b1;replace aa:=aa.below b1;replace an:=an.below b1;replace bw:=qd bw b1;clear b1;generalize (wa.alloc (.cells y.cells 29))=wb at bx al aa an bw sz1|-;have b2:=qc wb (.cells #[.bool false, .slice none 0 0, .slice none 0 0] 29)
   have bk:=aK wb;rw [sz1] at bk;replace bx:=bx.below b2;replace al:=al.below b2;replace aa:=aa.below b2;replace an:=an.below b2;replace bw:=qd bw b2;clear b2 sz0 sz1;generalize (wb.alloc (.cells #[.bool false, .slice none 0 0, .slice none 0 0] 29))=w1 at bx al aa an bw bk|-;refine (bF w1 x true aa l1 l2 (decide_eq_true bX.o)).mono ?_;rintro e wn ⟨rfl,bb⟩;replace bx:=bx.below bb;replace al:=al.below bb;replace bk:=bk.below bb;replace aa:=aa.below bb;replace an:=an.below bb;replace bw:=qd bw bb;clear bb;have ty:=al;obtain ⟨y0,y1,y2,yf0,yf1,yf2,ylt,yb⟩:=ty;clear yb
   go_wp2_with fail;clear y0 y1 y2 yf0 yf1 yf2 ylt;refine (bF wn y true an m1 m2 (decide_eq_true cF.o)).mono ?_;rintro e wn ⟨rfl,bb⟩;replace bx:=bx.below bb;replace al:=al.below bb;replace bk:=bk.below bb;replace aa:=aa.below bb;replace an:=an.below bb;replace bw:=qd bw bb;clear bb;have ty:=al;obtain ⟨y0,y1,y2,yf0,yf1,yf2,ylt,yb⟩:=ty;clear yb;go_wp2_with fail;clear y0 y1 y2 yf0 yf1 yf2 ylt;refine (aL wn y.A y.c _ y.xs an.num rfl (by omega)).mono ?_
   rintro e wn ⟨AT,cT,rfl,gn,bb⟩;clear gn;replace bx:=bx.below bb;replace al:=al.below bb;replace bk:=bk.below bb;replace aa:=aa.below bb;replace an:=an.below bb;replace bw:=qd bw bb;clear bb;have hnn:(lim (nv (lim (nv x.xs*nv y.ys)))).length<=512:=by rw [am];have:=aO lx1 ly2;omega
   have hdd:(lim (nv (lim (nv x.ys*nv y.xs)))).length<=512:=by rw [am];have:=aO lx2 ly1;omega
   have hn1:(lim (nv x.xs*nv y.ys)).length<=512:=by have:=aO lx1 ly2;omega
   have hn2:(lim (nv x.ys*nv y.xs)).length<=512:=by have:=aO lx2 ly1;omega
   have hne:nv (lim (nv x.ys*nv y.xs))≠0:=by rw [am];exact Nat.mul_ne_zero DX.o HZ.o
   have n20:w.heap.size+1+1≠w.heap.size:=by omega
   have n21:w.heap.size+1+1≠w.heap.size+1:=by omega
   have NN:=ag hnn;have DD:=ag hdd;have NE:Hd (nv (lim (nv x.ys*nv y.xs))≠0):=hne;clear hnn hdd hne;go_wp2_with fail;have bb:=dd (ah wn.heap.size wn);replace bx:=bx.below bb;replace al:=al.below bb;replace bk:=bk.below bb;replace aa:=aa.below bb;replace an:=an.below bb;replace bw:=qd bw bb;clear bb;clear hzl hzb
   go_region_held3 (fun w'=>w'.cell? ⟨w.heap.size,0,none⟩=some (.bool x.b)/\w'.cell? ⟨w.heap.size,1,none⟩=some (.slice x.A x.xs.length x.c)/\w'.cell? ⟨w.heap.size,2,none⟩=some (.slice x.D x.ys.length x.d)/\w'.cell? ⟨w.heap.size+1,0,none⟩=some (.bool y.b)/\w'.cell? ⟨w.heap.size+1,1,none⟩=some (.slice y.A y.xs.length y.c)/\w'.cell? ⟨w.heap.size+1,2,none⟩=some (.slice y.D y.ys.length y.d))
    (first|exact ⟨bx.c0,bx.c1,bx.c2,al.c0,al.c1,al.c2⟩|exact ⟨aQ bx.c0 n20,aQ bx.c1 n20,aQ bx.c2 n20,aQ al.c0 n21,aQ al.c1 n21,aQ al.c2 n21⟩|go_keep)
    (first
      | (go_at_call 70
         with_reducible refine (eU _ x.A y.D x.c y.d _ _ x.xs y.ys aa.num an.den rfl rfl l1 m2 lx1 ly2).mono ?_
         rintro e wn ⟨AN,cN,rfl,na,bb⟩;replace bx:=bx.below bb;replace al:=al.below bb;replace bk:=bk.below bb;replace aa:=aa.below bb;replace an:=an.below bb;replace bw:=qd bw bb;clear bb)
      | (go_at_call 70
         with_reducible refine (eU _ x.D y.A x.d y.c _ _ x.ys y.xs aa.den an.num rfl rfl l2 m1 lx2 ly1).mono ?_
         rintro e wn ⟨AD,cD,rfl,nb,bb⟩;replace na:=na.below bb;replace bx:=bx.below bb;replace al:=al.below bb;replace bk:=bk.below bb;replace aa:=aa.below bb;replace an:=an.below bb;replace bw:=qd bw bb;clear bb)
      | (go_at_call 66
         with_reducible refine (eo _ (!(x.b == y.b)) AN AD cN cD _ _ (lim (nv x.xs*nv y.ys)) (lim (nv x.ys*nv y.xs)) na nb rfl rfl NE.o (by omega) (by omega) NN.o DD.o).mono ?_
         rintro e wn ⟨x0,rfl,hs0,ok0,bb⟩;have j9:=ag (kK hs0 NE.o NN.o DD.o);replace bx:=bx.below bb;replace al:=al.below bb;replace bk:=bk.below bb;replace bw:=qd bw bb;clear bb hs0)
      | (go_at_call 69
         with_reducible refine (iR _ x0 _ ok0 j9.o.2.1 j9.o.2.2 j9.o.1).mono ?_
         rintro e wn ⟨x1,rfl,hs1,ok1,bb⟩;have cI:=ag hs1;replace bx:=bx.below bb;replace al:=al.below bb;replace bk:=bk.below bb;replace bw:=qd bw bb;have kk:=bk;obtain ⟨k0,k1,k2,aF,aG,aH,klt,_⟩:=kk;clear bb hs1))
   all_goals
    skip
    go_wp2_with fail;refine bodyPost_ret (v := .tuple #[(x1:Fx).val, .int .i64 (frS (qv (!(x.b == y.b)) (nv (lim (nv x.xs*nv y.ys))) (nv (lim (nv x.ys*nv y.xs))))).2.2.2]) (by simp [results,Tryz.results98,go_sem,k0,k1,k2]) rfl ?_
    have hS:S=frS (qv (!(x.b == y.b)) (nv (lim (nv x.xs*nv y.ys))) (nv (lim (nv x.ys*nv y.xs)))):=by
     rw [<-HS.o,uR,if_pos HV.o,if_neg HZ.o,am,am,Fx.q,Fx.q,Dk HZ.o];rfl
    rw [hS];exact ⟨x1,rfl,cI.o,bD ok1 bk rfl rfl rfl,aR bw (by omega)⟩
 ·skip
  by_cases hvx:x.v
  ·have hvy:¬y.v:=fun h=>hv ⟨hvx,h⟩;have bX:=ag hvx;have cF:Hd (¬y.v):=hvy;have HV:Hd (¬(x.v/\y.v)):=hv;clear hvx hvy hv;go_enter func98,ntmps98;go_wp2_with fail;have b0:=qc w (.cells x.cells 29);have bx:=az w (.bool x.b) (.slice x.A x.xs.length x.c) (.slice x.D x.ys.length x.d);have aa:=hx.below b0;have an:=hy.below b0;have sz0:=aB w (.cells x.cells 29);have bw:=b0;clear b0;generalize (w.alloc (.cells x.cells 29))=wa at bx aa an sz0 bw|-;have b1:=qc wa (.cells y.cells 29);have al:=az wa (.bool y.b) (.slice y.A y.xs.length y.c) (.slice y.D y.ys.length y.d)
   have sz1:=aB wa (.cells y.cells 29);rw [sz0] at al sz1;replace bx:=bx.below b1;replace aa:=aa.below b1;replace an:=an.below b1;replace bw:=qd bw b1;clear b1;generalize (wa.alloc (.cells y.cells 29))=wb at bx al aa an bw sz1|-;have b2:=qc wb (.cells #[.bool false, .slice none 0 0, .slice none 0 0] 29);have bk:=aK wb;rw [sz1] at bk;replace bx:=bx.below b2;replace al:=al.below b2;replace aa:=aa.below b2;replace an:=an.below b2;replace bw:=qd bw b2;clear b2 sz0 sz1;generalize (wb.alloc (.cells #[.bool false, .slice none 0 0, .slice none 0 0] 29))=w1 at bx al aa an bw bk|-
   refine (bF w1 x true aa l1 l2 (decide_eq_true bX.o)).mono ?_;rintro e wn ⟨rfl,bb⟩;replace bx:=bx.below bb;replace al:=al.below bb;replace bk:=bk.below bb;replace aa:=aa.below bb;replace an:=an.below bb;replace bw:=qd bw bb;clear bb;have ty:=al;obtain ⟨y0,y1,y2,yf0,yf1,yf2,ylt,yb⟩:=ty;clear yb;go_wp2_with fail;clear y0 y1 y2 yf0 yf1 yf2 ylt;refine (bF wn y false an m1 m2 (decide_eq_false cF.o)).mono ?_;rintro e wn ⟨rfl,bb⟩;replace bx:=bx.below bb;replace al:=al.below bb;replace bk:=bk.below bb;replace aa:=aa.below bb;replace an:=an.below bb;replace bw:=qd bw bb
   clear bb;have tk:=bk;obtain ⟨k0,k1,k2,aF,aG,aH,klt,kb⟩:=tk;clear kb;go_wp2_with fail;refine bodyPost_ret (v := .tuple #[(Fx.nil:Fx).val, .int .i64 1]) (by simp [results,Tryz.results98,go_sem,k0,k1,k2]) rfl ?_
   rw [<-HS.o,uR,if_neg HV.o];exact ⟨Fx.nil,rfl,⟨rfl,rfl,rfl⟩,Fx.nil_ok _,aR bw (by omega)⟩
  ·have bX:Hd (¬x.v):=hvx;have HV:Hd (¬(x.v/\y.v)):=hv;clear hvx hv;go_enter func98,ntmps98;go_wp2_with fail;have b0:=qc w (.cells x.cells 29);have bx:=az w (.bool x.b) (.slice x.A x.xs.length x.c) (.slice x.D x.ys.length x.d);have aa:=hx.below b0;have an:=hy.below b0;have sz0:=aB w (.cells x.cells 29);have bw:=b0;clear b0;generalize (w.alloc (.cells x.cells 29))=wa at bx aa an sz0 bw|-;have b1:=qc wa (.cells y.cells 29);have al:=az wa (.bool y.b) (.slice y.A y.xs.length y.c) (.slice y.D y.ys.length y.d);have sz1:=aB wa (.cells y.cells 29)
   rw [sz0] at al sz1;replace bx:=bx.below b1;replace aa:=aa.below b1;replace an:=an.below b1;replace bw:=qd bw b1;clear b1;generalize (wa.alloc (.cells y.cells 29))=wb at bx al aa an bw sz1|-;have b2:=qc wb (.cells #[.bool false, .slice none 0 0, .slice none 0 0] 29);have bk:=aK wb;rw [sz1] at bk;replace bx:=bx.below b2;replace al:=al.below b2;replace aa:=aa.below b2;replace an:=an.below b2;replace bw:=qd bw b2;clear b2 sz0 sz1;generalize (wb.alloc (.cells #[.bool false, .slice none 0 0, .slice none 0 0] 29))=w1 at bx al aa an bw bk|-
   refine (bF w1 x false aa l1 l2 (decide_eq_false bX.o)).mono ?_;rintro e wn ⟨rfl,bb⟩;replace bx:=bx.below bb;replace al:=al.below bb;replace bk:=bk.below bb;replace aa:=aa.below bb;replace an:=an.below bb;replace bw:=qd bw bb;clear bb;have tk:=bk;obtain ⟨k0,k1,k2,aF,aG,aH,klt,kb⟩:=tk;clear kb;go_wp2_with fail;refine bodyPost_ret (v := .tuple #[(Fx.nil:Fx).val, .int .i64 1]) (by simp [results,Tryz.results98,go_sem,k0,k1,k2]) rfl ?_
   rw [<-HS.o,uR,if_neg HV.o];exact ⟨Fx.nil,rfl,⟨rfl,rfl,rfl⟩,Fx.nil_ok _,aR bw (by omega)⟩
theorem qk (w:World) (x y:Fx) (S:Bool×List Nat×List Nat×Int) (hx:x.ok w) (hy:y.ok w) (l1:x.xs.length<=10000) (l2:x.ys.length<=10000) (m1:y.xs.length<=10000) (m2:y.ys.length<=10000) (hs:jl x y=S):Calls prog 29 #[x.val,y.val] w (eQ w S):=by
 have HS:=ag hs;clear hs;by_cases hv:x.v/\y.v
 ·skip
  have HV:=ag hv;have bX:=ag hv.1;have cF:=ag hv.2;have DX:Hd (nv x.ys≠0):=ag hv.1.1;have DY:Hd (nv y.ys≠0):=ag hv.2.1;have lx1:(lim (nv x.xs)).length<=128:=hv.1.2.2;have lx2:(lim (nv x.ys)).length<=128:=hv.1.2.1;have ly1:(lim (nv y.xs)).length<=128:=hv.2.2.2;have ly2:(lim (nv y.ys)).length<=128:=hv.2.2.1;clear hv;go_enter func29,ntmps29;go_wp2_with fail;have b0:=qc w (.cells x.cells 29);have bx:=az w (.bool x.b) (.slice x.A x.xs.length x.c) (.slice x.D x.ys.length x.d);have aa:=hx.below b0;have an:=hy.below b0;have sz0:=aB w (.cells x.cells 29);have bw:=b0
  clear b0;generalize (w.alloc (.cells x.cells 29))=wa at bx aa an sz0 bw|-;have b1:=qc wa (.cells y.cells 29);have al:=az wa (.bool y.b) (.slice y.A y.xs.length y.c) (.slice y.D y.ys.length y.d);have sz1:=aB wa (.cells y.cells 29);rw [sz0] at al sz1;replace bx:=bx.below b1;replace aa:=aa.below b1;replace an:=an.below b1;replace bw:=qd bw b1;clear b1;generalize (wa.alloc (.cells y.cells 29))=wb at bx al aa an bw sz1|-;have b2:=qc wb (.cells #[.bool false, .slice none 0 0, .slice none 0 0] 29);have bk:=aK wb
  rw [sz1] at bk;replace bx:=bx.below b2;replace al:=al.below b2;replace aa:=aa.below b2;replace an:=an.below b2;replace bw:=qd bw b2;clear b2 sz0 sz1;generalize (wb.alloc (.cells #[.bool false, .slice none 0 0, .slice none 0 0] 29))=w1 at bx al aa an bw bk|-;refine (bF w1 x true aa l1 l2 (decide_eq_true bX.o)).mono ?_;rintro e wn ⟨rfl,bb⟩;replace bx:=bx.below bb;replace al:=al.below bb;replace bk:=bk.below bb;replace aa:=aa.below bb;replace an:=an.below bb;replace bw:=qd bw bb;clear bb;have ty:=al;obtain ⟨y0,y1,y2,yf0,yf1,yf2,ylt,yb⟩:=ty;clear yb;go_wp2_with fail
  clear y0 y1 y2 yf0 yf1 yf2 ylt;refine (bF wn y true an m1 m2 (decide_eq_true cF.o)).mono ?_;rintro e wn ⟨rfl,bb⟩;replace bx:=bx.below bb;replace al:=al.below bb;replace bk:=bk.below bb;replace aa:=aa.below bb;replace an:=an.below bb;replace bw:=qd bw bb;clear bb;go_upto_region 3 with fail
  go_cut [6,7,8] (fun s1 s2 s3 wx=>∃(A1 A2 A3:Option Addr) (c1 c2 c3:Nat),s1 = .slice A1 (lim (nv x.xs*nv y.ys)).length c1/\s2 = .slice A2 (lim (nv y.xs*nv x.ys)).length c2/\s3 = .slice A3 (lim (nv x.ys*nv y.ys)).length c3/\Nt wx A1 c1 (lim (nv x.xs*nv y.ys))/\Nt wx A2 c2 (lim (nv y.xs*nv x.ys))/\Nt wx A3 c3 (lim (nv x.ys*nv y.ys))/\Below wn.heap.size wn wx)
  case first=>
   have bw0:=ah wn.heap.size wn;have bb:=dd (ah wn.heap.size wn);replace bw0:=qd bw0 bb;replace bx:=bx.below bb;replace al:=al.below bb;replace aa:=aa.below bb;replace an:=an.below bb;replace bw:=qd bw bb;clear bb
   go_region_held3 (fun w'=>w'.cell? ⟨w.heap.size,0,none⟩=some (.bool x.b)/\w'.cell? ⟨w.heap.size,1,none⟩=some (.slice x.A x.xs.length x.c)/\w'.cell? ⟨w.heap.size,2,none⟩=some (.slice x.D x.ys.length x.d)/\w'.cell? ⟨w.heap.size+1,0,none⟩=some (.bool y.b)/\w'.cell? ⟨w.heap.size+1,1,none⟩=some (.slice y.A y.xs.length y.c)/\w'.cell? ⟨w.heap.size+1,2,none⟩=some (.slice y.D y.ys.length y.d))
    (first|exact ⟨bx.c0,bx.c1,bx.c2,al.c0,al.c1,al.c2⟩|go_keep)
    (first
      | (go_at_call 70
         with_reducible refine (eU _ x.A y.D x.c y.d _ _ x.xs y.ys aa.num an.den rfl rfl l1 m2 lx1 ly2).mono ?_
         rintro e wn ⟨A1,c1,rfl,n1,bb⟩;replace bw0:=qd bw0 bb;replace bx:=bx.below bb;replace al:=al.below bb;replace aa:=aa.below bb;replace an:=an.below bb;clear bb)
      | (go_at_call 70
         with_reducible refine (eU _ y.A x.D y.c x.d _ _ y.xs x.ys an.num aa.den rfl rfl m1 l2 ly1 lx2).mono ?_
         rintro e wn ⟨A2,c2,rfl,n2,bb⟩;replace n1:=n1.below bb;replace bw0:=qd bw0 bb;replace bx:=bx.below bb;replace al:=al.below bb;replace aa:=aa.below bb;replace an:=an.below bb;clear bb)
      | (go_at_call 70
         with_reducible refine (eU _ x.D y.D x.d y.d _ _ x.ys y.ys aa.den an.den rfl rfl l2 m2 lx2 ly2).mono ?_
         rintro e wn ⟨A3,c3,rfl,n3,bb⟩;replace n1:=n1.below bb;replace n2:=n2.below bb;replace bw0:=qd bw0 bb;replace bx:=bx.below bb;replace al:=al.below bb;replace aa:=aa.below bb;replace an:=an.below bb;clear bb))
   all_goals
    go_wp2_with fail;go_meet
    case rel=>exact ⟨_,_,_,_,_,_,rfl,rfl,rfl,n1,n2,n3,bw0⟩
  case rest=>
   obtain ⟨A1,A2,AD,c1,c2,cD,rfl,rfl,rfl,na,nb,nd,bb⟩:=hcut;replace bx:=bx.below bb;replace al:=al.below bb;replace bk:=bk.below bb;replace aa:=aa.below bb;replace an:=an.below bb;replace bw:=qd bw bb;clear bb;have lM:=aO lx1 ly2;have lN:=aO ly1 lx2;have lD:=aO lx2 ly2;have hD0:nv x.ys*nv y.ys≠0:=Nat.mul_ne_zero DX.o DY.o;have hS1:x.b=y.b->S=frS (qv x.b (nv x.xs*nv y.ys+nv y.xs*nv x.ys) (nv x.ys*nv y.ys)):=by
    intro e;rw [<-HS.o,jl,if_pos HV.o,Fx.q,Fx.q,<-e,mS DX.o DY.o]
   have hS2:x.b≠y.b->nv y.xs*nv x.ys<=nv x.xs*nv y.ys->S=frS (qv x.b (nv x.xs*nv y.ys-nv y.xs*nv x.ys) (nv x.ys*nv y.ys)):=by
    intro e h;rw [<-HS.o,jl,if_pos HV.o,Fx.q,Fx.q,mC DX.o DY.o e h]
   have hS3:x.b≠y.b->nv x.xs*nv y.ys<=nv y.xs*nv x.ys->S=frS (qv y.b (nv y.xs*nv x.ys-nv x.xs*nv y.ys) (nv x.ys*nv y.ys)):=by
    intro e h;rw [<-HS.o,jl,if_pos HV.o,Fx.q,Fx.q,qo DX.o DY.o e h]
   revert na nb nd lM lN lD hD0 hS1 hS2 hS3
   generalize nv x.xs*nv y.ys=M;generalize nv y.xs*nv x.ys=N;generalize nv x.ys*nv y.ys=D;intro na nb nd lM lN lD hD0 hS1 hS2 hS3;have D0:Hd (D≠0):=hD0;have HS1':=ag hS1;have HS2':=ag hS2;have HS3':=ag hS3;clear hD0 hS1 hS2 hS3;by_cases he:x.b=y.b
   ·have hb:(x.b == y.b)=true:=by simp [he]
    have HE:=ag he;have l3:=jC (k:=256) (by omega:(lim M).length<=256) (by omega:(lim N).length<=256)
    clear he;have tx:=bx;obtain ⟨x0,x1,x2,xf0,xf1,xf2,xlt,xb⟩:=tx;clear xb;have ty:=al;obtain ⟨y0,y1,y2,yf0,yf1,yf2,ylt,yb⟩:=ty;clear yb;go_wp2_with fail;clear x0 x1 x2 xf0 xf1 xf2 xlt;clear y0 y1 y2 yf0 yf1 yf2 ylt;refine (yS _ A1 A2 c1 c2 _ _ (lim M) (lim N) (lim (M+N)) 0 na nb rfl rfl (by omega) (by omega) (by rw [am,am];exact AZ (by omega) (by omega))).mono ?_
    rintro e wn ⟨AS,cS,rfl,ns,bb⟩;replace bx:=bx.below bb;replace al:=al.below bb;replace bk:=bk.below bb;replace aa:=aa.below bb;replace an:=an.below bb;replace na:=na.below bb;replace nb:=nb.below bb;replace nd:=nd.below bb;replace bw:=qd bw bb;clear bb;have tx:=bx;obtain ⟨x0,x1,x2,xf0,xf1,xf2,xlt,xb⟩:=tx;clear xb;go_wp2_with fail;clear x0 x1 x2 xf0 xf1 xf2 xlt;have NN:Hd ((lim (nv (lim (M+N)))).length<=512):=ag (by rw [am];omega)
    have DD:Hd ((lim (nv (lim D))).length<=512):=ag (by rw [am];omega)
    have NE:Hd (nv (lim D)≠0):=ag (by rw [am];exact D0.o)
    refine (eo _ x.b AS AD cS cD _ _ (lim (M+N)) (lim D) ns nd rfl rfl NE.o (by omega) (by omega) NN.o DD.o).mono ?_
    rintro e wn ⟨x0,rfl,hs0,ok0,bb⟩;have j9:=ag (kK hs0 NE.o NN.o DD.o);clear hs0;replace bx:=bx.below bb;replace al:=al.below bb;replace bk:=bk.below bb;replace aa:=aa.below bb;replace an:=an.below bb;replace na:=na.below bb;replace nb:=nb.below bb;replace nd:=nd.below bb;replace bw:=qd bw bb;clear bb;go_wp2_with fail;refine (iR _ x0 _ ok0 j9.o.2.1 j9.o.2.2 j9.o.1).mono ?_;rintro e wn ⟨x1,rfl,hs1,ok1,bb⟩;have cI:=ag hs1;clear hs1;replace bx:=bx.below bb;replace al:=al.below bb;replace bk:=bk.below bb;replace aa:=aa.below bb;replace an:=an.below bb;replace na:=na.below bb
    replace nb:=nb.below bb;replace nd:=nd.below bb;replace bw:=qd bw bb;clear bb;have tk:=bk;obtain ⟨k0,k1,k2,aF,aG,aH,klt,kb⟩:=tk;clear kb;go_wp2_with fail;refine bodyPost_ret (v := .tuple #[(x1:Fx).val, .int .i64 (frS (qv x.b (nv (lim (M+N))) (nv (lim D)))).2.2.2]) (by simp [results,Tryz.results29,go_sem,k0,k1,k2]) rfl ?_
    have hS:S=frS (qv x.b (nv (lim (M+N))) (nv (lim D))):=by
     rw [am,am];exact HS1'.o HE.o
    rw [hS];exact ⟨x1,rfl,cI.o,bD ok1 bk rfl rfl rfl,aR bw (by omega)⟩
   ·have hb:(x.b == y.b)=false:=by simpa using he
    have HE:Hd (x.b≠y.b):=he;clear he;by_cases hle:N<=M
    ·have hc:=wI hle;have hZ:=ag hle;have l3:=ao (Nat.sub_le M N);obtain ⟨z,hz⟩:∃z,i6 M N=z:=⟨_,rfl⟩;rw [hz] at hc;have HZ:=ag hz;have hcd:decide (0<=z)=true:=decide_eq_true hc;clear hle hc hz;have tx:=bx;obtain ⟨x0,x1,x2,xf0,xf1,xf2,xlt,xb⟩:=tx;clear xb;have ty:=al;obtain ⟨y0,y1,y2,yf0,yf1,yf2,ylt,yb⟩:=ty;clear yb;go_wp2_with fail;clear x0 x1 x2 xf0 xf1 xf2 xlt;clear y0 y1 y2 yf0 yf1 yf2 ylt;refine (eI _ A1 A2 c1 c2 _ _ (lim M) (lim N) z na nb rfl rfl (by rw [am];omega) (by rw [am];omega) (by rw [am,am];exact HZ.o)).mono ?_
     rintro e wn ⟨rfl,qq⟩;have bb:=qq;clear qq;replace bx:=bx.below bb;replace al:=al.below bb;replace bk:=bk.below bb;replace aa:=aa.below bb;replace an:=an.below bb;replace na:=na.below bb;replace nb:=nb.below bb;replace nd:=nd.below bb;replace bw:=qd bw bb;clear bb;go_wp2_with fail;refine (sX _ A1 A2 c1 c2 _ _ (lim M) (lim N) (lim (M-N)) 0 na nb rfl rfl (by omega) (by omega) (by rw [am,am];exact rh (by omega) (by omega) hZ.o)).mono ?_
     rintro e wn ⟨AS,cS,rfl,ns,bb⟩;replace bx:=bx.below bb;replace al:=al.below bb;replace bk:=bk.below bb;replace aa:=aa.below bb;replace an:=an.below bb;replace na:=na.below bb;replace nb:=nb.below bb;replace nd:=nd.below bb;replace bw:=qd bw bb;clear bb;have tx:=bx;obtain ⟨x0,x1,x2,xf0,xf1,xf2,xlt,xb⟩:=tx;clear xb;go_wp2_with fail;clear x0 x1 x2 xf0 xf1 xf2 xlt;have NN:Hd ((lim (nv (lim (M-N)))).length<=512):=ag (by rw [am];omega)
     have DD:Hd ((lim (nv (lim D))).length<=512):=ag (by rw [am];omega)
     have NE:Hd (nv (lim D)≠0):=ag (by rw [am];exact D0.o)
     refine (eo _ x.b AS AD cS cD _ _ (lim (M-N)) (lim D) ns nd rfl rfl NE.o (by omega) (by omega) NN.o DD.o).mono ?_
     rintro e wn ⟨x0,rfl,hs0,ok0,bb⟩;have j9:=ag (kK hs0 NE.o NN.o DD.o);clear hs0;replace bx:=bx.below bb;replace al:=al.below bb;replace bk:=bk.below bb;replace aa:=aa.below bb;replace an:=an.below bb;replace na:=na.below bb;replace nb:=nb.below bb;replace nd:=nd.below bb;replace bw:=qd bw bb;clear bb;go_wp2_with fail;refine (iR _ x0 _ ok0 j9.o.2.1 j9.o.2.2 j9.o.1).mono ?_;rintro e wn ⟨x1,rfl,hs1,ok1,bb⟩;have cI:=ag hs1;clear hs1;replace bx:=bx.below bb;replace al:=al.below bb;replace bk:=bk.below bb;replace aa:=aa.below bb;replace an:=an.below bb;replace na:=na.below bb
     replace nb:=nb.below bb;replace nd:=nd.below bb;replace bw:=qd bw bb;clear bb;have tk:=bk;obtain ⟨k0,k1,k2,aF,aG,aH,klt,kb⟩:=tk;clear kb;go_wp2_with fail;refine bodyPost_ret (v := .tuple #[(x1:Fx).val, .int .i64 (frS (qv x.b (nv (lim (M-N))) (nv (lim D)))).2.2.2]) (by simp [results,Tryz.results29,go_sem,k0,k1,k2]) rfl ?_
     have hS:S=frS (qv x.b (nv (lim (M-N))) (nv (lim D))):=by
      rw [am,am];exact HS2'.o HE.o hZ.o
     rw [hS];exact ⟨x1,rfl,cI.o,bD ok1 bk rfl rfl rfl,aR bw (by omega)⟩
    ·have hc:=tX (Nat.lt_of_not_le hle);have hZ:=ag (Nat.le_of_lt (Nat.lt_of_not_le hle));have l3:=ao (Nat.sub_le N M);obtain ⟨z,hz⟩:∃z,i6 M N=z:=⟨_,rfl⟩;rw [hz] at hc;have HZ:=ag hz;have hcd:decide (0<=z)=false:=decide_eq_false hc;clear hle hc hz;have tx:=bx;obtain ⟨x0,x1,x2,xf0,xf1,xf2,xlt,xb⟩:=tx;clear xb;have ty:=al;obtain ⟨y0,y1,y2,yf0,yf1,yf2,ylt,yb⟩:=ty;clear yb;go_wp2_with fail;clear x0 x1 x2 xf0 xf1 xf2 xlt;clear y0 y1 y2 yf0 yf1 yf2 ylt;refine (eI _ A1 A2 c1 c2 _ _ (lim M) (lim N) z na nb rfl rfl (by rw [am];omega) (by rw [am];omega) (by rw [am,am];exact HZ.o)).mono ?_
     rintro e wn ⟨rfl,qq⟩;have bb:=qq;clear qq;replace bx:=bx.below bb;replace al:=al.below bb;replace bk:=bk.below bb;replace aa:=aa.below bb;replace an:=an.below bb;replace na:=na.below bb;replace nb:=nb.below bb;replace nd:=nd.below bb;replace bw:=qd bw bb;clear bb;go_wp2_with fail;refine (sX _ A2 A1 c2 c1 _ _ (lim N) (lim M) (lim (N-M)) 0 nb na rfl rfl (by omega) (by omega) (by rw [am,am];exact rh (by omega) (by omega) hZ.o)).mono ?_
     rintro e wn ⟨AS,cS,rfl,ns,bb⟩;replace bx:=bx.below bb;replace al:=al.below bb;replace bk:=bk.below bb;replace aa:=aa.below bb;replace an:=an.below bb;replace na:=na.below bb;replace nb:=nb.below bb;replace nd:=nd.below bb;replace bw:=qd bw bb;clear bb;have ty:=al;obtain ⟨y0,y1,y2,yf0,yf1,yf2,ylt,yb⟩:=ty;clear yb;go_wp2_with fail;clear y0 y1 y2 yf0 yf1 yf2 ylt;have NN:Hd ((lim (nv (lim (N-M)))).length<=512):=ag (by rw [am];omega)
     have DD:Hd ((lim (nv (lim D))).length<=512):=ag (by rw [am];omega)
     have NE:Hd (nv (lim D)≠0):=ag (by rw [am];exact D0.o)
     refine (eo _ y.b AS AD cS cD _ _ (lim (N-M)) (lim D) ns nd rfl rfl NE.o (by omega) (by omega) NN.o DD.o).mono ?_
     rintro e wn ⟨x0,rfl,hs0,ok0,bb⟩;have j9:=ag (kK hs0 NE.o NN.o DD.o);clear hs0;replace bx:=bx.below bb;replace al:=al.below bb;replace bk:=bk.below bb;replace aa:=aa.below bb;replace an:=an.below bb;replace na:=na.below bb;replace nb:=nb.below bb;replace nd:=nd.below bb;replace bw:=qd bw bb;clear bb;go_wp2_with fail;refine (iR _ x0 _ ok0 j9.o.2.1 j9.o.2.2 j9.o.1).mono ?_;rintro e wn ⟨x1,rfl,hs1,ok1,bb⟩;have cI:=ag hs1;clear hs1;replace bx:=bx.below bb;replace al:=al.below bb;replace bk:=bk.below bb;replace aa:=aa.below bb;replace an:=an.below bb;replace na:=na.below bb
     replace nb:=nb.below bb;replace nd:=nd.below bb;replace bw:=qd bw bb;clear bb;have tk:=bk;obtain ⟨k0,k1,k2,aF,aG,aH,klt,kb⟩:=tk;clear kb;go_wp2_with fail;refine bodyPost_ret (v := .tuple #[(x1:Fx).val, .int .i64 (frS (qv y.b (nv (lim (N-M))) (nv (lim D)))).2.2.2]) (by simp [results,Tryz.results29,go_sem,k0,k1,k2]) rfl ?_
     have hS:S=frS (qv y.b (nv (lim (N-M))) (nv (lim D))):=by
      rw [am,am];exact HS3'.o HE.o hZ.o
     rw [hS];exact ⟨x1,rfl,cI.o,bD ok1 bk rfl rfl rfl,aR bw (by omega)⟩
 ·skip
  by_cases hvx:x.v
  ·have hvy:¬y.v:=fun h=>hv ⟨hvx,h⟩;have bX:=ag hvx;have cF:Hd (¬y.v):=hvy;have HV:Hd (¬(x.v/\y.v)):=hv;clear hvx hvy hv;go_enter func29,ntmps29;go_wp2_with fail;have b0:=qc w (.cells x.cells 29);have bx:=az w (.bool x.b) (.slice x.A x.xs.length x.c) (.slice x.D x.ys.length x.d);have aa:=hx.below b0;have an:=hy.below b0;have sz0:=aB w (.cells x.cells 29);have bw:=b0;clear b0;generalize (w.alloc (.cells x.cells 29))=wa at bx aa an sz0 bw|-;have b1:=qc wa (.cells y.cells 29);have al:=az wa (.bool y.b) (.slice y.A y.xs.length y.c) (.slice y.D y.ys.length y.d)
   have sz1:=aB wa (.cells y.cells 29);rw [sz0] at al sz1;replace bx:=bx.below b1;replace aa:=aa.below b1;replace an:=an.below b1;replace bw:=qd bw b1;clear b1;generalize (wa.alloc (.cells y.cells 29))=wb at bx al aa an bw sz1|-;have b2:=qc wb (.cells #[.bool false, .slice none 0 0, .slice none 0 0] 29);have bk:=aK wb;rw [sz1] at bk;replace bx:=bx.below b2;replace al:=al.below b2;replace aa:=aa.below b2;replace an:=an.below b2;replace bw:=qd bw b2;clear b2 sz0 sz1;generalize (wb.alloc (.cells #[.bool false, .slice none 0 0, .slice none 0 0] 29))=w1 at bx al aa an bw bk|-
   refine (bF w1 x true aa l1 l2 (decide_eq_true bX.o)).mono ?_;rintro e wn ⟨rfl,bb⟩;replace bx:=bx.below bb;replace al:=al.below bb;replace bk:=bk.below bb;replace aa:=aa.below bb;replace an:=an.below bb;replace bw:=qd bw bb;clear bb;have ty:=al;obtain ⟨y0,y1,y2,yf0,yf1,yf2,ylt,yb⟩:=ty;clear yb;go_wp2_with fail;clear y0 y1 y2 yf0 yf1 yf2 ylt;refine (bF wn y false an m1 m2 (decide_eq_false cF.o)).mono ?_;rintro e wn ⟨rfl,bb⟩;replace bx:=bx.below bb;replace al:=al.below bb;replace bk:=bk.below bb;replace aa:=aa.below bb;replace an:=an.below bb;replace bw:=qd bw bb
   clear bb;have tk:=bk;obtain ⟨k0,k1,k2,aF,aG,aH,klt,kb⟩:=tk;clear kb;go_wp2_with fail;refine bodyPost_ret (v := .tuple #[(Fx.nil:Fx).val, .int .i64 1]) (by simp [results,Tryz.results29,go_sem,k0,k1,k2]) rfl ?_
   rw [<-HS.o,jl,if_neg HV.o];exact ⟨Fx.nil,rfl,⟨rfl,rfl,rfl⟩,Fx.nil_ok _,aR bw (by omega)⟩
  ·have bX:Hd (¬x.v):=hvx;have HV:Hd (¬(x.v/\y.v)):=hv;clear hvx hv;go_enter func29,ntmps29;go_wp2_with fail;have b0:=qc w (.cells x.cells 29);have bx:=az w (.bool x.b) (.slice x.A x.xs.length x.c) (.slice x.D x.ys.length x.d);have aa:=hx.below b0;have an:=hy.below b0;have sz0:=aB w (.cells x.cells 29);have bw:=b0;clear b0;generalize (w.alloc (.cells x.cells 29))=wa at bx aa an sz0 bw|-;have b1:=qc wa (.cells y.cells 29);have al:=az wa (.bool y.b) (.slice y.A y.xs.length y.c) (.slice y.D y.ys.length y.d);have sz1:=aB wa (.cells y.cells 29)
   rw [sz0] at al sz1;replace bx:=bx.below b1;replace aa:=aa.below b1;replace an:=an.below b1;replace bw:=qd bw b1;clear b1;generalize (wa.alloc (.cells y.cells 29))=wb at bx al aa an bw sz1|-;have b2:=qc wb (.cells #[.bool false, .slice none 0 0, .slice none 0 0] 29);have bk:=aK wb;rw [sz1] at bk;replace bx:=bx.below b2;replace al:=al.below b2;replace aa:=aa.below b2;replace an:=an.below b2;replace bw:=qd bw b2;clear b2 sz0 sz1;generalize (wb.alloc (.cells #[.bool false, .slice none 0 0, .slice none 0 0] 29))=w1 at bx al aa an bw bk|-
   refine (bF w1 x false aa l1 l2 (decide_eq_false bX.o)).mono ?_;rintro e wn ⟨rfl,bb⟩;replace bx:=bx.below bb;replace al:=al.below bb;replace bk:=bk.below bb;replace aa:=aa.below bb;replace an:=an.below bb;replace bw:=qd bw bb;clear bb;have tk:=bk;obtain ⟨k0,k1,k2,aF,aG,aH,klt,kb⟩:=tk;clear kb;go_wp2_with fail;refine bodyPost_ret (v := .tuple #[(Fx.nil:Fx).val, .int .i64 1]) (by simp [results,Tryz.results29,go_sem,k0,k1,k2]) rfl ?_
   rw [<-HS.o,jl,if_neg HV.o];exact ⟨Fx.nil,rfl,⟨rfl,rfl,rfl⟩,Fx.nil_ok _,aR bw (by omega)⟩
end Go.Proofs.YtkpfbekmaafehaaGreat
