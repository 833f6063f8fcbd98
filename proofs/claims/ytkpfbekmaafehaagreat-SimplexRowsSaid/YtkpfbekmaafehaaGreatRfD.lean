/- The walks of drydockref02: fits, Reduce, Opposite -/
import Derived.Test.YtkpfbekmaafehaaGreatRfA
import Derived.Deep.RegionHeld3
namespace Go.Proofs.YtkpfbekmaafehaaGreat
set_option maxRecDepth 100000
open Go.RowKit
def Ag (s:Bool×List Nat×List Nat):Bool×List Nat×List Nat×Int:=if 128<s.2.1.length∨128<s.2.2.length then kP 2 else (s.1,s.2.1,s.2.2,0)
theorem Af (q:Rat):Ag (fP q)=frS q:=rfl
set_option maxHeartbeats 400000 in
theorem iR (w:World) (x:Fx) (S:Bool×List Nat×List Nat×Int) (hx:x.ok w) (l1:x.xs.length≤10000) (l2:x.ys.length≤10000) (hs:Ag (x.b,x.xs,x.ys)=S):Calls Tryz.prog 69 #[x.val] w (eQ w S):=by
 have HS:=ag hs;clear hs;by_cases hl:128<x.xs.length∨128<x.ys.length
 ·have HL:=ag hl;clear hl;go_enter Tryz.func69,Tryz.ntmps69;go_wp2_with fail;have hs1:w.heap.size<(w.alloc (.cells x.cells 29)).heap.size:=by simp
  have b0:=(ah w.heap.size w).alloc (Nat.le_refl _) (.cells x.cells 29);have b1:=(ah (w.alloc (.cells x.cells 29)).heap.size (w.alloc (.cells x.cells 29))).alloc (Nat.le_refl _) (.cells #[.bool false, .slice none 0 0, .slice none 0 0] 29);have bx:=(az w (.bool x.b) (.slice x.A x.xs.length x.c) (.slice x.D x.ys.length x.d)).below b1;have bk:=aK (w.alloc (.cells x.cells 29));rw [aB] at bk;have okx:=(hx.below b0).below b1;have bw:=ai b0 b1 (Nat.le_of_lt hs1);clear hs1 b0 b1
  revert bx bk okx bw
  generalize ((w.alloc (.cells x.cells 29)).alloc (.cells #[.bool false, .slice none 0 0, .slice none 0 0] 29))=w1;intro bx bk okx bw;have tx:=bx;obtain ⟨x0,x1,x2,xf0,xf1,xf2,xlt,xb⟩:=tx;clear xb;go_wp2_with fail;clear x0 x1 x2 xf0 xf1 xf2 xlt;refine (mQ w1 x true l1 l2 (decide_eq_true HL.out)).mono ?_;rintro e wn ⟨rfl,bb⟩
  try replace bx:=bx.below bb
  try replace by_:=by_.below bb
  try replace bk:=bk.below bb
  try replace okx:=okx.below bb
  try replace oky:=oky.below bb
  try replace na:=na.below bb
  try replace nb:=nb.below bb
  try replace nc:=nc.below bb
  try replace nd:=nd.below bb
  try replace ne:=ne.below bb
  replace bw:=ai bw bb bw.size;clear bb;have tk:=bk;obtain ⟨k0,k1,k2,kf0,kf1,kf2,klt,kb⟩:=tk;clear kb;go_wp2_with fail;refine bodyPost_ret (v := .tuple #[(Fx.nil:Fx).val, .int .i64 2]) (by simp [results,Tryz.results69,go_sem,k0,k1,k2]) rfl ?_
  rw [←HS.out,Ag,if_pos HL.out];exact ⟨Fx.nil,rfl,⟨rfl,rfl,rfl⟩,Fx.nil_ok _,aR bw (by omega)⟩
 ·have HL:Hid (¬(128<x.xs.length∨128<x.ys.length)):=hl;clear hl;go_enter Tryz.func69,Tryz.ntmps69;go_wp2_with fail;have hs1:w.heap.size<(w.alloc (.cells x.cells 29)).heap.size:=by simp
  have b0:=(ah w.heap.size w).alloc (Nat.le_refl _) (.cells x.cells 29);have b1:=(ah (w.alloc (.cells x.cells 29)).heap.size (w.alloc (.cells x.cells 29))).alloc (Nat.le_refl _) (.cells #[.bool false, .slice none 0 0, .slice none 0 0] 29);have bx:=(az w (.bool x.b) (.slice x.A x.xs.length x.c) (.slice x.D x.ys.length x.d)).below b1;have bk:=aK (w.alloc (.cells x.cells 29));rw [aB] at bk;have okx:=(hx.below b0).below b1;have bw:=ai b0 b1 (Nat.le_of_lt hs1);clear hs1 b0 b1
  revert bx bk okx bw
  generalize ((w.alloc (.cells x.cells 29)).alloc (.cells #[.bool false, .slice none 0 0, .slice none 0 0] 29))=w1;intro bx bk okx bw;have tx:=bx;obtain ⟨x0,x1,x2,xf0,xf1,xf2,xlt,xb⟩:=tx;clear xb;go_wp2_with fail;clear x0 x1 x2 xf0 xf1 xf2 xlt;refine (mQ w1 x false l1 l2 (decide_eq_false HL.out)).mono ?_;rintro e wn ⟨rfl,bb⟩
  try replace bx:=bx.below bb
  try replace by_:=by_.below bb
  try replace bk:=bk.below bb
  try replace okx:=okx.below bb
  try replace oky:=oky.below bb
  try replace na:=na.below bb
  try replace nb:=nb.below bb
  try replace nc:=nc.below bb
  try replace nd:=nd.below bb
  try replace ne:=ne.below bb
  replace bw:=ai bw bb bw.size;clear bb;have tx:=bx;obtain ⟨x0,x1,x2,xf0,xf1,xf2,xlt,xb⟩:=tx;clear xb;have tk:=bk;obtain ⟨k0,k1,k2,kf0,kf1,kf2,klt,kb⟩:=tk;clear kb;go_wp2_with fail;refine bodyPost_ret (v := .tuple #[(x:Fx).val, .int .i64 0]) (by simp [results,Tryz.results69,go_sem,k0,k1,k2]) rfl ?_
  rw [←HS.out,Ag,if_neg HL.out];exact ⟨x,rfl,⟨rfl,rfl,rfl⟩,bD okx bk rfl rfl rfl,aR bw (by omega)⟩
theorem yO {x:Fx} (hv:x.v):gz x=((fP x.q).1,(fP x.q).2.1,(fP x.q).2.2,0):=by
 rw [gz,if_pos hv,frS,if_neg,fP];have h1:=ao (Nat.div_le_self (nv x.xs) (Nat.gcd (nv x.xs) (nv x.ys)));have h2:=ao (Nat.div_le_self (nv x.ys) (Nat.gcd (nv x.xs) (nv x.ys)));have h3:=hv.2.1;have h4:=hv.2.2;rw [vu,Fx.q,mE hv.1,mB hv.1];omega
set_option maxHeartbeats 400000 in
theorem iQ (w:World) (x:Fx) (S:Bool×List Nat×List Nat×Int) (hx:x.ok w) (l1:x.xs.length≤10000) (l2:x.ys.length≤10000) (hs:gz x=S):Calls Tryz.prog 58 #[x.val] w (eQ w S):=by
 by_cases hv:x.v
 ·have HS:Hid (((fP x.q).1,(fP x.q).2.1,(fP x.q).2.2,0)=S):=ag ((yO hv).symm.trans hs);have HV:=ag hv;have hv1:=hv.1;have HV1:Hid (nv x.ys≠0):=hv1;have lx:(lim (nv x.xs)).length≤128:=hv.2.2;have ly:(lim (nv x.ys)).length≤128:=hv.2.1;clear hv hv1 hs;go_enter Tryz.func58,Tryz.ntmps58;go_wp2_with fail;have hs1:w.heap.size<(w.alloc (.cells x.cells 29)).heap.size:=by simp
  have b0:=(ah w.heap.size w).alloc (Nat.le_refl _) (.cells x.cells 29);have b1:=(ah (w.alloc (.cells x.cells 29)).heap.size (w.alloc (.cells x.cells 29))).alloc (Nat.le_refl _) (.cells #[.bool false, .slice none 0 0, .slice none 0 0] 29);have bx:=(az w (.bool x.b) (.slice x.A x.xs.length x.c) (.slice x.D x.ys.length x.d)).below b1;have bk:=aK (w.alloc (.cells x.cells 29));rw [aB] at bk;have okx:=(hx.below b0).below b1;have bw:=ai b0 b1 (Nat.le_of_lt hs1);clear hs1 b0 b1
  revert bx bk okx bw
  generalize ((w.alloc (.cells x.cells 29)).alloc (.cells #[.bool false, .slice none 0 0, .slice none 0 0] 29))=w1;intro bx bk okx bw;have tx:=bx;obtain ⟨x0,x1,x2,xf0,xf1,xf2,xlt,xb⟩:=tx;clear xb;go_wp2_with fail;clear x0 x1 x2 xf0 xf1 xf2 xlt;refine (bF w1 x true okx l1 l2 (decide_eq_true HV.out)).mono ?_;rintro e wn ⟨rfl,bb⟩
  try replace bx:=bx.below bb
  try replace by_:=by_.below bb
  try replace bk:=bk.below bb
  try replace okx:=okx.below bb
  try replace oky:=oky.below bb
  try replace ok1:=ok1.below bb
  try replace na:=na.below bb
  try replace nb:=nb.below bb
  try replace nc:=nc.below bb
  try replace nd:=nd.below bb
  try replace ne:=ne.below bb
  replace bw:=ai bw bb bw.size;clear bb;have tx:=bx;obtain ⟨x0,x1,x2,xf0,xf1,xf2,xlt,xb⟩:=tx;clear xb;go_wp2_with fail;clear x0 x1 x2 xf0 xf1 xf2 xlt;refine (eo wn x.b x.A x.D x.c x.d _ _ x.xs x.ys okx.num okx.den rfl rfl HV1.out l1 l2 (by omega) (by omega)).mono ?_
  rintro e wn ⟨x1,rfl,hs1,ok1,bb⟩;have HS1:=ag hs1;clear hs1
  try replace bx:=bx.below bb
  try replace by_:=by_.below bb
  try replace bk:=bk.below bb
  try replace okx:=okx.below bb
  try replace oky:=oky.below bb
  try replace ok1:=ok1.below bb
  try replace na:=na.below bb
  try replace nb:=nb.below bb
  try replace nc:=nc.below bb
  try replace nd:=nd.below bb
  try replace ne:=ne.below bb
  replace bw:=ai bw bb bw.size;clear bb;have tk:=bk;obtain ⟨k0,k1,k2,kf0,kf1,kf2,klt,kb⟩:=tk;clear kb;go_wp2_with fail;refine bodyPost_ret (v := .tuple #[(x1:Fx).val, .int .i64 0]) (by simp [results,Tryz.results58,go_sem,k0,k1,k2]) rfl ?_
  rw [←HS.out];exact ⟨x1,rfl,HS1.out,bD ok1 bk rfl rfl rfl,aR bw (by omega)⟩
 ·have HS:=ag hs;have HV:Hid (¬x.v):=hv;clear hv hs;go_enter Tryz.func58,Tryz.ntmps58;go_wp2_with fail;have hs1:w.heap.size<(w.alloc (.cells x.cells 29)).heap.size:=by simp
  have b0:=(ah w.heap.size w).alloc (Nat.le_refl _) (.cells x.cells 29);have b1:=(ah (w.alloc (.cells x.cells 29)).heap.size (w.alloc (.cells x.cells 29))).alloc (Nat.le_refl _) (.cells #[.bool false, .slice none 0 0, .slice none 0 0] 29);have bx:=(az w (.bool x.b) (.slice x.A x.xs.length x.c) (.slice x.D x.ys.length x.d)).below b1;have bk:=aK (w.alloc (.cells x.cells 29));rw [aB] at bk;have okx:=(hx.below b0).below b1;have bw:=ai b0 b1 (Nat.le_of_lt hs1);clear hs1 b0 b1
  revert bx bk okx bw
  generalize ((w.alloc (.cells x.cells 29)).alloc (.cells #[.bool false, .slice none 0 0, .slice none 0 0] 29))=w1;intro bx bk okx bw;have tx:=bx;obtain ⟨x0,x1,x2,xf0,xf1,xf2,xlt,xb⟩:=tx;clear xb;go_wp2_with fail;clear x0 x1 x2 xf0 xf1 xf2 xlt;refine (bF w1 x false okx l1 l2 (decide_eq_false HV.out)).mono ?_;rintro e wn ⟨rfl,bb⟩
  try replace bx:=bx.below bb
  try replace by_:=by_.below bb
  try replace bk:=bk.below bb
  try replace okx:=okx.below bb
  try replace oky:=oky.below bb
  try replace ok1:=ok1.below bb
  try replace na:=na.below bb
  try replace nb:=nb.below bb
  try replace nc:=nc.below bb
  try replace nd:=nd.below bb
  try replace ne:=ne.below bb
  replace bw:=ai bw bb bw.size;clear bb;have tk:=bk;obtain ⟨k0,k1,k2,kf0,kf1,kf2,klt,kb⟩:=tk;clear kb;go_wp2_with fail;refine bodyPost_ret (v := .tuple #[(Fx.nil:Fx).val, .int .i64 1]) (by simp [results,Tryz.results58,go_sem,k0,k1,k2]) rfl ?_
  rw [←HS.out,gz,if_neg HV.out];exact ⟨Fx.nil,rfl,⟨rfl,rfl,rfl⟩,Fx.nil_ok _,aR bw (by omega)⟩
set_option maxRecDepth 100000
open Go.RowKit
theorem kK {x:Fx} {b:Bool} {N D:Nat} (h:x.b=(fP (qv b N D)).1∧x.xs=(fP (qv b N D)).2.1∧x.ys=(fP (qv b N D)).2.2) (hD:D≠0) (lN:(lim N).length≤512) (lD:(lim D).length≤512) :
 Ag (x.b,x.xs,x.ys)=frS (qv b N D)∧x.xs.length≤10000∧x.ys.length≤10000:=by
 obtain ⟨e1,e2,e3⟩:=h;rw [e1,e2,e3];refine ⟨Af _,?_,?_⟩
 ·have:=ao (Nat.div_le_self N (Nat.gcd N D));rw [fP,mE hD];show (lim _).length≤10000;omega
 ·have:=ao (Nat.div_le_self D (Nat.gcd N D));rw [fP,mB hD];show (lim _).length≤10000;omega
set_option maxHeartbeats 800000 in
theorem qg (w:World) (x y:Fx) (S:Bool×List Nat×List Nat×Int) (hx:x.ok w) (hy:y.ok w) (l1:x.xs.length≤10000) (l2:x.ys.length≤10000) (m1:y.xs.length≤10000) (m2:y.ys.length≤10000) (hs:pe x y=S):Calls Tryz.prog 28 #[x.val,y.val] w (eQ w S):=by
 have HS:=ag hs;clear hs;by_cases hv:x.v∧y.v
 ·skip
  have HV:=ag hv;have HVX:=ag hv.1;have HVY:=ag hv.2;have DX:Hid (nv x.ys≠0):=ag hv.1.1;have DY:Hid (nv y.ys≠0):=ag hv.2.1;have lx1:(lim (nv x.xs)).length≤128:=hv.1.2.2;have lx2:(lim (nv x.ys)).length≤128:=hv.1.2.1;have ly1:(lim (nv y.xs)).length≤128:=hv.2.2.2;have ly2:(lim (nv y.ys)).length≤128:=hv.2.2.1;clear hv;go_enter Tryz.func28,Tryz.ntmps28;go_wp2_with fail;have b0:=(ah w.heap.size w).alloc (Nat.le_refl _) (.cells x.cells 29);have bx:=az w (.bool x.b) (.slice x.A x.xs.length x.c) (.slice x.D x.ys.length x.d);have okx:=hx.below b0;have oky:=hy.below b0;have sz0:=aB w (.cells x.cells 29);have bw:=b0
  clear b0;generalize (w.alloc (.cells x.cells 29))=wa at bx okx oky sz0 bw⊢;have b1:=(ah wa.heap.size wa).alloc (Nat.le_refl _) (.cells y.cells 29);have by_:=az wa (.bool y.b) (.slice y.A y.xs.length y.c) (.slice y.D y.ys.length y.d);have sz1:=aB wa (.cells y.cells 29);rw [sz0] at by_ sz1;replace bx:=bx.below b1;replace okx:=okx.below b1;replace oky:=oky.below b1;replace bw:=ai bw b1 bw.size;clear b1;generalize (wa.alloc (.cells y.cells 29))=wb at bx by_ okx oky bw sz1⊢;have b2:=(ah wb.heap.size wb).alloc (Nat.le_refl _) (.cells #[.bool false, .slice none 0 0, .slice none 0 0] 29);have bk:=aK wb
  rw [sz1] at bk;replace bx:=bx.below b2;replace by_:=by_.below b2;replace okx:=okx.below b2;replace oky:=oky.below b2;replace bw:=ai bw b2 bw.size;clear b2 sz0 sz1;generalize (wb.alloc (.cells #[.bool false, .slice none 0 0, .slice none 0 0] 29))=w1 at bx by_ okx oky bw bk⊢;refine (bF w1 x true okx l1 l2 (decide_eq_true HVX.out)).mono ?_;rintro e wn ⟨rfl,bb⟩
  try replace bx:=bx.below bb
  try replace by_:=by_.below bb
  try replace bk:=bk.below bb
  try replace okx:=okx.below bb
  try replace oky:=oky.below bb
  try replace ok1:=ok1.below bb
  try replace na:=na.below bb
  try replace nb:=nb.below bb
  try replace nc:=nc.below bb
  try replace nd:=nd.below bb
  try replace ne:=ne.below bb
  replace bw:=ai bw bb bw.size;clear bb;have ty:=by_;obtain ⟨y0,y1,y2,yf0,yf1,yf2,ylt,yb⟩:=ty;clear yb;go_wp2_with fail;clear y0 y1 y2 yf0 yf1 yf2 ylt;refine (bF wn y true oky m1 m2 (decide_eq_true HVY.out)).mono ?_;rintro e wn ⟨rfl,bb⟩
  try replace bx:=bx.below bb
  try replace by_:=by_.below bb
  try replace bk:=bk.below bb
  try replace okx:=okx.below bb
  try replace oky:=oky.below bb
  try replace ok1:=ok1.below bb
  try replace na:=na.below bb
  try replace nb:=nb.below bb
  try replace nc:=nc.below bb
  try replace nd:=nd.below bb
  try replace ne:=ne.below bb
  replace bw:=ai bw bb bw.size;clear bb;have hnn:(lim (nv (lim (nv x.xs*nv y.xs)))).length≤512:=by rw [am];have:=aO lx1 ly1;omega
  have hdd:(lim (nv (lim (nv x.ys*nv y.ys)))).length≤512:=by rw [am];have:=aO lx2 ly2;omega
  have hn1:(lim (nv x.xs*nv y.xs)).length≤512:=by have:=aO lx1 ly1;omega
  have hn2:(lim (nv x.ys*nv y.ys)).length≤512:=by have:=aO lx2 ly2;omega
  have hne:nv (lim (nv x.ys*nv y.ys))≠0:=by rw [am];exact Nat.mul_ne_zero DX.out DY.out
  have n20:w.heap.size+1+1≠w.heap.size:=by omega
  have n21:w.heap.size+1+1≠w.heap.size+1:=by omega
  have NN:=ag hnn;have DD:=ag hdd;have NE:Hid (nv (lim (nv x.ys*nv y.ys))≠0):=hne;clear hnn hdd hne;go_wp2_with fail;have bb:=dd (ah wn.heap.size wn)
  try replace bx:=bx.below bb
  try replace by_:=by_.below bb
  try replace bk:=bk.below bb
  try replace okx:=okx.below bb
  try replace oky:=oky.below bb
  try replace ok1:=ok1.below bb
  try replace na:=na.below bb
  try replace nb:=nb.below bb
  try replace nc:=nc.below bb
  try replace nd:=nd.below bb
  try replace ne:=ne.below bb
  replace bw:=ai bw bb bw.size;clear bb
  go_region_held3 (fun w'=>w'.cell? ⟨w.heap.size,0,none⟩=some (.bool x.b)∧w'.cell? ⟨w.heap.size,1,none⟩=some (.slice x.A x.xs.length x.c)∧w'.cell? ⟨w.heap.size,2,none⟩=some (.slice x.D x.ys.length x.d)∧w'.cell? ⟨w.heap.size+1,0,none⟩=some (.bool y.b)∧w'.cell? ⟨w.heap.size+1,1,none⟩=some (.slice y.A y.xs.length y.c)∧w'.cell? ⟨w.heap.size+1,2,none⟩=some (.slice y.D y.ys.length y.d))
   (first|exact ⟨bx.c0,bx.c1,bx.c2,by_.c0,by_.c1,by_.c2⟩|exact ⟨aQ bx.c0 n20,aQ bx.c1 n20,aQ bx.c2 n20,aQ by_.c0 n21,aQ by_.c1 n21,aQ by_.c2 n21⟩|go_keep)
   (first
     | (go_at_call 70
        with_reducible refine (eU _ x.A y.A x.c y.c _ _ x.xs y.xs okx.num oky.num rfl rfl l1 m1 lx1 ly1).mono ?_
        rintro e wn ⟨AN,cN,rfl,na,bb⟩
        try replace nb:=nb.below bb
        replace bx:=bx.below bb;replace by_:=by_.below bb;replace bk:=bk.below bb;replace okx:=okx.below bb;replace oky:=oky.below bb;replace bw:=ai bw bb bw.size;clear bb)
     | (go_at_call 70
        with_reducible refine (eU _ x.D y.D x.d y.d _ _ x.ys y.ys okx.den oky.den rfl rfl l2 m2 lx2 ly2).mono ?_
        rintro e wn ⟨AD,cD,rfl,nb,bb⟩
        try replace na:=na.below bb
        replace bx:=bx.below bb;replace by_:=by_.below bb;replace bk:=bk.below bb;replace okx:=okx.below bb;replace oky:=oky.below bb;replace bw:=ai bw bb bw.size;clear bb)
     | (go_at_call 66
        with_reducible refine (eo _ (!(x.b == y.b)) AN AD cN cD _ _ (lim (nv x.xs*nv y.xs)) (lim (nv x.ys*nv y.ys)) na nb rfl rfl NE.out (by omega) (by omega) NN.out DD.out).mono ?_
        rintro e wn ⟨x0,rfl,hs0,ok0,bb⟩;have HF0:=ag (kK hs0 NE.out NN.out DD.out);replace bx:=bx.below bb;replace by_:=by_.below bb;replace bk:=bk.below bb;replace bw:=ai bw bb bw.size;clear bb hs0)
     | (go_at_call 69
        with_reducible refine (iR _ x0 _ ok0 HF0.out.2.1 HF0.out.2.2 HF0.out.1).mono ?_
        rintro e wn ⟨x1,rfl,hs1,ok1,bb⟩;have HS1:=ag hs1;replace bx:=bx.below bb;replace by_:=by_.below bb;replace bk:=bk.below bb;replace bw:=ai bw bb bw.size;have kk:=bk;obtain ⟨k0,k1,k2,kf0,kf1,kf2,klt,_⟩:=kk;clear bb hs1))
  all_goals
   skip
   go_wp2_with fail;refine bodyPost_ret (v := .tuple #[(x1:Fx).val, .int .i64 (frS (qv (!(x.b == y.b)) (nv (lim (nv x.xs*nv y.xs))) (nv (lim (nv x.ys*nv y.ys))))).2.2.2]) (by simp [results,Tryz.results28,go_sem,k0,k1,k2]) rfl ?_
   have hS:S=frS (qv (!(x.b == y.b)) (nv (lim (nv x.xs*nv y.xs))) (nv (lim (nv x.ys*nv y.ys)))):=by
    rw [←HS.out,pe,if_pos HV.out,am,am,Fx.q,Fx.q,uQ];rfl
   rw [hS];exact ⟨x1,rfl,HS1.out,bD ok1 bk rfl rfl rfl,aR bw (by omega)⟩
 ·skip
  by_cases hvx:x.v
  ·have hvy:¬y.v:=fun h=>hv ⟨hvx,h⟩;have HVX:=ag hvx;have HVY:Hid (¬y.v):=hvy;have HV:Hid (¬(x.v∧y.v)):=hv;clear hvx hvy hv;go_enter Tryz.func28,Tryz.ntmps28;go_wp2_with fail;have b0:=(ah w.heap.size w).alloc (Nat.le_refl _) (.cells x.cells 29);have bx:=az w (.bool x.b) (.slice x.A x.xs.length x.c) (.slice x.D x.ys.length x.d);have okx:=hx.below b0;have oky:=hy.below b0;have sz0:=aB w (.cells x.cells 29);have bw:=b0;clear b0;generalize (w.alloc (.cells x.cells 29))=wa at bx okx oky sz0 bw⊢;have b1:=(ah wa.heap.size wa).alloc (Nat.le_refl _) (.cells y.cells 29);have by_:=az wa (.bool y.b) (.slice y.A y.xs.length y.c) (.slice y.D y.ys.length y.d)
   have sz1:=aB wa (.cells y.cells 29);rw [sz0] at by_ sz1;replace bx:=bx.below b1;replace okx:=okx.below b1;replace oky:=oky.below b1;replace bw:=ai bw b1 bw.size;clear b1;generalize (wa.alloc (.cells y.cells 29))=wb at bx by_ okx oky bw sz1⊢;have b2:=(ah wb.heap.size wb).alloc (Nat.le_refl _) (.cells #[.bool false, .slice none 0 0, .slice none 0 0] 29);have bk:=aK wb;rw [sz1] at bk;replace bx:=bx.below b2;replace by_:=by_.below b2;replace okx:=okx.below b2;replace oky:=oky.below b2;replace bw:=ai bw b2 bw.size;clear b2 sz0 sz1;generalize (wb.alloc (.cells #[.bool false, .slice none 0 0, .slice none 0 0] 29))=w1 at bx by_ okx oky bw bk⊢
   refine (bF w1 x true okx l1 l2 (decide_eq_true HVX.out)).mono ?_;rintro e wn ⟨rfl,bb⟩
   try replace bx:=bx.below bb
   try replace by_:=by_.below bb
   try replace bk:=bk.below bb
   try replace okx:=okx.below bb
   try replace oky:=oky.below bb
   try replace ok1:=ok1.below bb
   try replace na:=na.below bb
   try replace nb:=nb.below bb
   try replace nc:=nc.below bb
   try replace nd:=nd.below bb
   try replace ne:=ne.below bb
   replace bw:=ai bw bb bw.size;clear bb;have ty:=by_;obtain ⟨y0,y1,y2,yf0,yf1,yf2,ylt,yb⟩:=ty;clear yb;go_wp2_with fail;clear y0 y1 y2 yf0 yf1 yf2 ylt;refine (bF wn y false oky m1 m2 (decide_eq_false HVY.out)).mono ?_;rintro e wn ⟨rfl,bb⟩
   try replace bx:=bx.below bb
   try replace by_:=by_.below bb
   try replace bk:=bk.below bb
   try replace okx:=okx.below bb
   try replace oky:=oky.below bb
   try replace ok1:=ok1.below bb
   try replace na:=na.below bb
   try replace nb:=nb.below bb
   try replace nc:=nc.below bb
   try replace nd:=nd.below bb
   try replace ne:=ne.below bb
   replace bw:=ai bw bb bw.size;clear bb;have tk:=bk;obtain ⟨k0,k1,k2,kf0,kf1,kf2,klt,kb⟩:=tk;clear kb;go_wp2_with fail;refine bodyPost_ret (v := .tuple #[(Fx.nil:Fx).val, .int .i64 1]) (by simp [results,Tryz.results28,go_sem,k0,k1,k2]) rfl ?_
   rw [←HS.out,pe,if_neg HV.out];exact ⟨Fx.nil,rfl,⟨rfl,rfl,rfl⟩,Fx.nil_ok _,aR bw (by omega)⟩
  ·have HVX:Hid (¬x.v):=hvx;have HV:Hid (¬(x.v∧y.v)):=hv;clear hvx hv;go_enter Tryz.func28,Tryz.ntmps28;go_wp2_with fail;have b0:=(ah w.heap.size w).alloc (Nat.le_refl _) (.cells x.cells 29);have bx:=az w (.bool x.b) (.slice x.A x.xs.length x.c) (.slice x.D x.ys.length x.d);have okx:=hx.below b0;have oky:=hy.below b0;have sz0:=aB w (.cells x.cells 29);have bw:=b0;clear b0;generalize (w.alloc (.cells x.cells 29))=wa at bx okx oky sz0 bw⊢;have b1:=(ah wa.heap.size wa).alloc (Nat.le_refl _) (.cells y.cells 29);have by_:=az wa (.bool y.b) (.slice y.A y.xs.length y.c) (.slice y.D y.ys.length y.d);have sz1:=aB wa (.cells y.cells 29)
   rw [sz0] at by_ sz1;replace bx:=bx.below b1;replace okx:=okx.below b1;replace oky:=oky.below b1;replace bw:=ai bw b1 bw.size;clear b1;generalize (wa.alloc (.cells y.cells 29))=wb at bx by_ okx oky bw sz1⊢;have b2:=(ah wb.heap.size wb).alloc (Nat.le_refl _) (.cells #[.bool false, .slice none 0 0, .slice none 0 0] 29);have bk:=aK wb;rw [sz1] at bk;replace bx:=bx.below b2;replace by_:=by_.below b2;replace okx:=okx.below b2;replace oky:=oky.below b2;replace bw:=ai bw b2 bw.size;clear b2 sz0 sz1;generalize (wb.alloc (.cells #[.bool false, .slice none 0 0, .slice none 0 0] 29))=w1 at bx by_ okx oky bw bk⊢
   refine (bF w1 x false okx l1 l2 (decide_eq_false HVX.out)).mono ?_;rintro e wn ⟨rfl,bb⟩
   try replace bx:=bx.below bb
   try replace by_:=by_.below bb
   try replace bk:=bk.below bb
   try replace okx:=okx.below bb
   try replace oky:=oky.below bb
   try replace ok1:=ok1.below bb
   try replace na:=na.below bb
   try replace nb:=nb.below bb
   try replace nc:=nc.below bb
   try replace nd:=nd.below bb
   try replace ne:=ne.below bb
   replace bw:=ai bw bb bw.size;clear bb;have tk:=bk;obtain ⟨k0,k1,k2,kf0,kf1,kf2,klt,kb⟩:=tk;clear kb;go_wp2_with fail;refine bodyPost_ret (v := .tuple #[(Fx.nil:Fx).val, .int .i64 1]) (by simp [results,Tryz.results28,go_sem,k0,k1,k2]) rfl ?_
   rw [←HS.out,pe,if_neg HV.out];exact ⟨Fx.nil,rfl,⟨rfl,rfl,rfl⟩,Fx.nil_ok _,aR bw (by omega)⟩
set_option maxRecDepth 100000
open Go.RowKit
set_option maxHeartbeats 1600000 in
theorem qk (w:World) (x y:Fx) (S:Bool×List Nat×List Nat×Int) (hx:x.ok w) (hy:y.ok w) (l1:x.xs.length≤10000) (l2:x.ys.length≤10000) (m1:y.xs.length≤10000) (m2:y.ys.length≤10000) (hs:jl x y=S):Calls Tryz.prog 29 #[x.val,y.val] w (eQ w S):=by
 have HS:=ag hs;clear hs;by_cases hv:x.v∧y.v
 ·skip
  have HV:=ag hv;have HVX:=ag hv.1;have HVY:=ag hv.2;have DX:Hid (nv x.ys≠0):=ag hv.1.1;have DY:Hid (nv y.ys≠0):=ag hv.2.1;have lx1:(lim (nv x.xs)).length≤128:=hv.1.2.2;have lx2:(lim (nv x.ys)).length≤128:=hv.1.2.1;have ly1:(lim (nv y.xs)).length≤128:=hv.2.2.2;have ly2:(lim (nv y.ys)).length≤128:=hv.2.2.1;clear hv;go_enter Tryz.func29,Tryz.ntmps29;go_wp2_with fail;have b0:=(ah w.heap.size w).alloc (Nat.le_refl _) (.cells x.cells 29);have bx:=az w (.bool x.b) (.slice x.A x.xs.length x.c) (.slice x.D x.ys.length x.d);have okx:=hx.below b0;have oky:=hy.below b0;have sz0:=aB w (.cells x.cells 29);have bw:=b0
  clear b0;generalize (w.alloc (.cells x.cells 29))=wa at bx okx oky sz0 bw⊢;have b1:=(ah wa.heap.size wa).alloc (Nat.le_refl _) (.cells y.cells 29);have by_:=az wa (.bool y.b) (.slice y.A y.xs.length y.c) (.slice y.D y.ys.length y.d);have sz1:=aB wa (.cells y.cells 29);rw [sz0] at by_ sz1;replace bx:=bx.below b1;replace okx:=okx.below b1;replace oky:=oky.below b1;replace bw:=ai bw b1 bw.size;clear b1;generalize (wa.alloc (.cells y.cells 29))=wb at bx by_ okx oky bw sz1⊢;have b2:=(ah wb.heap.size wb).alloc (Nat.le_refl _) (.cells #[.bool false, .slice none 0 0, .slice none 0 0] 29);have bk:=aK wb
  rw [sz1] at bk;replace bx:=bx.below b2;replace by_:=by_.below b2;replace okx:=okx.below b2;replace oky:=oky.below b2;replace bw:=ai bw b2 bw.size;clear b2 sz0 sz1;generalize (wb.alloc (.cells #[.bool false, .slice none 0 0, .slice none 0 0] 29))=w1 at bx by_ okx oky bw bk⊢;refine (bF w1 x true okx l1 l2 (decide_eq_true HVX.out)).mono ?_;rintro e wn ⟨rfl,bb⟩
  try replace bx:=bx.below bb
  try replace by_:=by_.below bb
  try replace bk:=bk.below bb
  try replace okx:=okx.below bb
  try replace oky:=oky.below bb
  try replace ok1:=ok1.below bb
  try replace na:=na.below bb
  try replace nb:=nb.below bb
  try replace nc:=nc.below bb
  try replace nd:=nd.below bb
  try replace ne:=ne.below bb
  replace bw:=ai bw bb bw.size;clear bb;have ty:=by_;obtain ⟨y0,y1,y2,yf0,yf1,yf2,ylt,yb⟩:=ty;clear yb;go_wp2_with fail;clear y0 y1 y2 yf0 yf1 yf2 ylt;refine (bF wn y true oky m1 m2 (decide_eq_true HVY.out)).mono ?_;rintro e wn ⟨rfl,bb⟩
  try replace bx:=bx.below bb
  try replace by_:=by_.below bb
  try replace bk:=bk.below bb
  try replace okx:=okx.below bb
  try replace oky:=oky.below bb
  try replace ok1:=ok1.below bb
  try replace na:=na.below bb
  try replace nb:=nb.below bb
  try replace nc:=nc.below bb
  try replace nd:=nd.below bb
  try replace ne:=ne.below bb
  replace bw:=ai bw bb bw.size;clear bb;go_upto_region 3 with fail
  go_cut [6,7,8] (fun s1 s2 s3 wx=>∃(A1 A2 A3:Option Addr) (c1 c2 c3:Nat),s1 = .slice A1 (lim (nv x.xs*nv y.ys)).length c1∧s2 = .slice A2 (lim (nv y.xs*nv x.ys)).length c2∧s3 = .slice A3 (lim (nv x.ys*nv y.ys)).length c3∧Nt wx A1 c1 (lim (nv x.xs*nv y.ys))∧Nt wx A2 c2 (lim (nv y.xs*nv x.ys))∧Nt wx A3 c3 (lim (nv x.ys*nv y.ys))∧Below wn.heap.size wn wx)
  case first=>
   have bw0:=ah wn.heap.size wn;have bb:=dd (ah wn.heap.size wn);replace bw0:=ai bw0 bb bw0.size;replace bx:=bx.below bb;replace by_:=by_.below bb;replace okx:=okx.below bb;replace oky:=oky.below bb;replace bw:=ai bw bb bw.size;clear bb
   go_region_held3 (fun w'=>w'.cell? ⟨w.heap.size,0,none⟩=some (.bool x.b)∧w'.cell? ⟨w.heap.size,1,none⟩=some (.slice x.A x.xs.length x.c)∧w'.cell? ⟨w.heap.size,2,none⟩=some (.slice x.D x.ys.length x.d)∧w'.cell? ⟨w.heap.size+1,0,none⟩=some (.bool y.b)∧w'.cell? ⟨w.heap.size+1,1,none⟩=some (.slice y.A y.xs.length y.c)∧w'.cell? ⟨w.heap.size+1,2,none⟩=some (.slice y.D y.ys.length y.d))
    (first|exact ⟨bx.c0,bx.c1,bx.c2,by_.c0,by_.c1,by_.c2⟩|go_keep)
    (first
      | (go_at_call 70
         with_reducible refine (eU _ x.A y.D x.c y.d _ _ x.xs y.ys okx.num oky.den rfl rfl l1 m2 lx1 ly2).mono ?_
         rintro e wn ⟨A1,c1,rfl,n1,bb⟩
         try replace n2:=n2.below bb
         try replace n3:=n3.below bb
         replace bw0:=ai bw0 bb bw0.size;replace bx:=bx.below bb;replace by_:=by_.below bb;replace okx:=okx.below bb;replace oky:=oky.below bb;clear bb)
      | (go_at_call 70
         with_reducible refine (eU _ y.A x.D y.c x.d _ _ y.xs x.ys oky.num okx.den rfl rfl m1 l2 ly1 lx2).mono ?_
         rintro e wn ⟨A2,c2,rfl,n2,bb⟩
         try replace n1:=n1.below bb
         try replace n3:=n3.below bb
         replace bw0:=ai bw0 bb bw0.size;replace bx:=bx.below bb;replace by_:=by_.below bb;replace okx:=okx.below bb;replace oky:=oky.below bb;clear bb)
      | (go_at_call 70
         with_reducible refine (eU _ x.D y.D x.d y.d _ _ x.ys y.ys okx.den oky.den rfl rfl l2 m2 lx2 ly2).mono ?_
         rintro e wn ⟨A3,c3,rfl,n3,bb⟩
         try replace n1:=n1.below bb
         try replace n2:=n2.below bb
         replace bw0:=ai bw0 bb bw0.size;replace bx:=bx.below bb;replace by_:=by_.below bb;replace okx:=okx.below bb;replace oky:=oky.below bb;clear bb))
   all_goals
    go_wp2_with fail;go_meet
    case rel=>exact ⟨_,_,_,_,_,_,rfl,rfl,rfl,n1,n2,n3,bw0⟩
  case rest=>
   obtain ⟨A1,A2,AD,c1,c2,cD,rfl,rfl,rfl,na,nb,nd,bb⟩:=hcut
   try replace bx:=bx.below bb
   try replace by_:=by_.below bb
   try replace bk:=bk.below bb
   try replace okx:=okx.below bb
   try replace oky:=oky.below bb
   try replace ok1:=ok1.below bb
   try replace na:=na.below bb
   try replace nb:=nb.below bb
   try replace nc:=nc.below bb
   try replace nd:=nd.below bb
   try replace ne:=ne.below bb
   replace bw:=ai bw bb bw.size;clear bb;have lM:=aO lx1 ly2;have lN:=aO ly1 lx2;have lD:=aO lx2 ly2;have hD0:nv x.ys*nv y.ys≠0:=Nat.mul_ne_zero DX.out DY.out;have hS1:x.b=y.b→S=frS (qv x.b (nv x.xs*nv y.ys+nv y.xs*nv x.ys) (nv x.ys*nv y.ys)):=by
    intro e;rw [←HS.out,jl,if_pos HV.out,Fx.q,Fx.q,←e,mS DX.out DY.out]
   have hS2:x.b≠y.b→nv y.xs*nv x.ys≤nv x.xs*nv y.ys→S=frS (qv x.b (nv x.xs*nv y.ys-nv y.xs*nv x.ys) (nv x.ys*nv y.ys)):=by
    intro e h;rw [←HS.out,jl,if_pos HV.out,Fx.q,Fx.q,mC DX.out DY.out e h]
   have hS3:x.b≠y.b→nv x.xs*nv y.ys≤nv y.xs*nv x.ys→S=frS (qv y.b (nv y.xs*nv x.ys-nv x.xs*nv y.ys) (nv x.ys*nv y.ys)):=by
    intro e h;rw [←HS.out,jl,if_pos HV.out,Fx.q,Fx.q,qo DX.out DY.out e h]
   revert na nb nd lM lN lD hD0 hS1 hS2 hS3
   generalize nv x.xs*nv y.ys=M;generalize nv y.xs*nv x.ys=N;generalize nv x.ys*nv y.ys=D;intro na nb nd lM lN lD hD0 hS1 hS2 hS3;have D0:Hid (D≠0):=hD0;have HS1':=ag hS1;have HS2':=ag hS2;have HS3':=ag hS3;clear hD0 hS1 hS2 hS3;by_cases he:x.b=y.b
   ·have hb:(x.b == y.b)=true:=by simp [he]
    have HE:=ag he;have l3:=jC (k:=256) (by omega:(lim M).length≤256) (by omega:(lim N).length≤256)
    clear he;have tx:=bx;obtain ⟨x0,x1,x2,xf0,xf1,xf2,xlt,xb⟩:=tx;clear xb;have ty:=by_;obtain ⟨y0,y1,y2,yf0,yf1,yf2,ylt,yb⟩:=ty;clear yb;go_wp2_with fail;clear x0 x1 x2 xf0 xf1 xf2 xlt;clear y0 y1 y2 yf0 yf1 yf2 ylt;refine (yS _ A1 A2 c1 c2 _ _ (lim M) (lim N) (lim (M+N)) 0 na nb rfl rfl (by omega) (by omega) (by rw [am,am];exact AZ (by omega) (by omega))).mono ?_
    rintro e wn ⟨AS,cS,rfl,ns,bb⟩
    try replace bx:=bx.below bb
    try replace by_:=by_.below bb
    try replace bk:=bk.below bb
    try replace okx:=okx.below bb
    try replace oky:=oky.below bb
    try replace ok1:=ok1.below bb
    try replace na:=na.below bb
    try replace nb:=nb.below bb
    try replace nc:=nc.below bb
    try replace nd:=nd.below bb
    try replace ne:=ne.below bb
    replace bw:=ai bw bb bw.size;clear bb;have tx:=bx;obtain ⟨x0,x1,x2,xf0,xf1,xf2,xlt,xb⟩:=tx;clear xb;go_wp2_with fail;clear x0 x1 x2 xf0 xf1 xf2 xlt;have NN:Hid ((lim (nv (lim (M+N)))).length≤512):=ag (by rw [am];omega)
    have DD:Hid ((lim (nv (lim D))).length≤512):=ag (by rw [am];omega)
    have NE:Hid (nv (lim D)≠0):=ag (by rw [am];exact D0.out)
    refine (eo _ x.b AS AD cS cD _ _ (lim (M+N)) (lim D) ns nd rfl rfl NE.out (by omega) (by omega) NN.out DD.out).mono ?_
    rintro e wn ⟨x0,rfl,hs0,ok0,bb⟩;have HF0:=ag (kK hs0 NE.out NN.out DD.out);clear hs0
    try replace bx:=bx.below bb
    try replace by_:=by_.below bb
    try replace bk:=bk.below bb
    try replace okx:=okx.below bb
    try replace oky:=oky.below bb
    try replace ok1:=ok1.below bb
    try replace na:=na.below bb
    try replace nb:=nb.below bb
    try replace nc:=nc.below bb
    try replace nd:=nd.below bb
    try replace ne:=ne.below bb
    replace bw:=ai bw bb bw.size;clear bb;go_wp2_with fail;refine (iR _ x0 _ ok0 HF0.out.2.1 HF0.out.2.2 HF0.out.1).mono ?_;rintro e wn ⟨x1,rfl,hs1,ok1,bb⟩;have HS1:=ag hs1;clear hs1
    try replace bx:=bx.below bb
    try replace by_:=by_.below bb
    try replace bk:=bk.below bb
    try replace okx:=okx.below bb
    try replace oky:=oky.below bb
    try replace ok1:=ok1.below bb
    try replace na:=na.below bb
    try replace nb:=nb.below bb
    try replace nc:=nc.below bb
    try replace nd:=nd.below bb
    try replace ne:=ne.below bb
    replace bw:=ai bw bb bw.size;clear bb;have tk:=bk;obtain ⟨k0,k1,k2,kf0,kf1,kf2,klt,kb⟩:=tk;clear kb;go_wp2_with fail;refine bodyPost_ret (v := .tuple #[(x1:Fx).val, .int .i64 (frS (qv x.b (nv (lim (M+N))) (nv (lim D)))).2.2.2]) (by simp [results,Tryz.results29,go_sem,k0,k1,k2]) rfl ?_
    have hS:S=frS (qv x.b (nv (lim (M+N))) (nv (lim D))):=by
     rw [am,am];exact HS1'.out HE.out
    rw [hS];exact ⟨x1,rfl,HS1.out,bD ok1 bk rfl rfl rfl,aR bw (by omega)⟩
   ·have hb:(x.b == y.b)=false:=by simpa using he
    have HE:Hid (x.b≠y.b):=he;clear he;by_cases hle:N≤M
    ·have hc:=wI hle;have HLE:=ag hle;have l3:=ao (Nat.sub_le M N);obtain ⟨z,hz⟩:∃z,cx M N=z:=⟨_,rfl⟩;rw [hz] at hc;have HZ:=ag hz;have hcd:decide (0≤z)=true:=decide_eq_true hc;clear hle hc hz;have tx:=bx;obtain ⟨x0,x1,x2,xf0,xf1,xf2,xlt,xb⟩:=tx;clear xb;have ty:=by_;obtain ⟨y0,y1,y2,yf0,yf1,yf2,ylt,yb⟩:=ty;clear yb;go_wp2_with fail;clear x0 x1 x2 xf0 xf1 xf2 xlt;clear y0 y1 y2 yf0 yf1 yf2 ylt;refine (eI _ A1 A2 c1 c2 _ _ (lim M) (lim N) z na nb rfl rfl (by rw [am];omega) (by rw [am];omega) (by rw [am,am];exact HZ.out)).mono ?_
     rintro e wn ⟨rfl,qq⟩;have bb:=qq;clear qq
     try replace bx:=bx.below bb
     try replace by_:=by_.below bb
     try replace bk:=bk.below bb
     try replace okx:=okx.below bb
     try replace oky:=oky.below bb
     try replace ok1:=ok1.below bb
     try replace na:=na.below bb
     try replace nb:=nb.below bb
     try replace nc:=nc.below bb
     try replace nd:=nd.below bb
     try replace ne:=ne.below bb
     replace bw:=ai bw bb bw.size;clear bb;go_wp2_with fail;refine (sX _ A1 A2 c1 c2 _ _ (lim M) (lim N) (lim (M-N)) 0 na nb rfl rfl (by omega) (by omega) (by rw [am,am];exact rh (by omega) (by omega) HLE.out)).mono ?_
     rintro e wn ⟨AS,cS,rfl,ns,bb⟩
     try replace bx:=bx.below bb
     try replace by_:=by_.below bb
     try replace bk:=bk.below bb
     try replace okx:=okx.below bb
     try replace oky:=oky.below bb
     try replace ok1:=ok1.below bb
     try replace na:=na.below bb
     try replace nb:=nb.below bb
     try replace nc:=nc.below bb
     try replace nd:=nd.below bb
     try replace ne:=ne.below bb
     replace bw:=ai bw bb bw.size;clear bb;have tx:=bx;obtain ⟨x0,x1,x2,xf0,xf1,xf2,xlt,xb⟩:=tx;clear xb;go_wp2_with fail;clear x0 x1 x2 xf0 xf1 xf2 xlt;have NN:Hid ((lim (nv (lim (M-N)))).length≤512):=ag (by rw [am];omega)
     have DD:Hid ((lim (nv (lim D))).length≤512):=ag (by rw [am];omega)
     have NE:Hid (nv (lim D)≠0):=ag (by rw [am];exact D0.out)
     refine (eo _ x.b AS AD cS cD _ _ (lim (M-N)) (lim D) ns nd rfl rfl NE.out (by omega) (by omega) NN.out DD.out).mono ?_
     rintro e wn ⟨x0,rfl,hs0,ok0,bb⟩;have HF0:=ag (kK hs0 NE.out NN.out DD.out);clear hs0
     try replace bx:=bx.below bb
     try replace by_:=by_.below bb
     try replace bk:=bk.below bb
     try replace okx:=okx.below bb
     try replace oky:=oky.below bb
     try replace ok1:=ok1.below bb
     try replace na:=na.below bb
     try replace nb:=nb.below bb
     try replace nc:=nc.below bb
     try replace nd:=nd.below bb
     try replace ne:=ne.below bb
     replace bw:=ai bw bb bw.size;clear bb;go_wp2_with fail;refine (iR _ x0 _ ok0 HF0.out.2.1 HF0.out.2.2 HF0.out.1).mono ?_;rintro e wn ⟨x1,rfl,hs1,ok1,bb⟩;have HS1:=ag hs1;clear hs1
     try replace bx:=bx.below bb
     try replace by_:=by_.below bb
     try replace bk:=bk.below bb
     try replace okx:=okx.below bb
     try replace oky:=oky.below bb
     try replace ok1:=ok1.below bb
     try replace na:=na.below bb
     try replace nb:=nb.below bb
     try replace nc:=nc.below bb
     try replace nd:=nd.below bb
     try replace ne:=ne.below bb
     replace bw:=ai bw bb bw.size;clear bb;have tk:=bk;obtain ⟨k0,k1,k2,kf0,kf1,kf2,klt,kb⟩:=tk;clear kb;go_wp2_with fail;refine bodyPost_ret (v := .tuple #[(x1:Fx).val, .int .i64 (frS (qv x.b (nv (lim (M-N))) (nv (lim D)))).2.2.2]) (by simp [results,Tryz.results29,go_sem,k0,k1,k2]) rfl ?_
     have hS:S=frS (qv x.b (nv (lim (M-N))) (nv (lim D))):=by
      rw [am,am];exact HS2'.out HE.out HLE.out
     rw [hS];exact ⟨x1,rfl,HS1.out,bD ok1 bk rfl rfl rfl,aR bw (by omega)⟩
    ·have hc:=tX (Nat.lt_of_not_le hle);have HLE:=ag (Nat.le_of_lt (Nat.lt_of_not_le hle));have l3:=ao (Nat.sub_le N M);obtain ⟨z,hz⟩:∃z,cx M N=z:=⟨_,rfl⟩;rw [hz] at hc;have HZ:=ag hz;have hcd:decide (0≤z)=false:=decide_eq_false hc;clear hle hc hz;have tx:=bx;obtain ⟨x0,x1,x2,xf0,xf1,xf2,xlt,xb⟩:=tx;clear xb;have ty:=by_;obtain ⟨y0,y1,y2,yf0,yf1,yf2,ylt,yb⟩:=ty;clear yb;go_wp2_with fail;clear x0 x1 x2 xf0 xf1 xf2 xlt;clear y0 y1 y2 yf0 yf1 yf2 ylt;refine (eI _ A1 A2 c1 c2 _ _ (lim M) (lim N) z na nb rfl rfl (by rw [am];omega) (by rw [am];omega) (by rw [am,am];exact HZ.out)).mono ?_
     rintro e wn ⟨rfl,qq⟩;have bb:=qq;clear qq
     try replace bx:=bx.below bb
     try replace by_:=by_.below bb
     try replace bk:=bk.below bb
     try replace okx:=okx.below bb
     try replace oky:=oky.below bb
     try replace ok1:=ok1.below bb
     try replace na:=na.below bb
     try replace nb:=nb.below bb
     try replace nc:=nc.below bb
     try replace nd:=nd.below bb
     try replace ne:=ne.below bb
     replace bw:=ai bw bb bw.size;clear bb;go_wp2_with fail;refine (sX _ A2 A1 c2 c1 _ _ (lim N) (lim M) (lim (N-M)) 0 nb na rfl rfl (by omega) (by omega) (by rw [am,am];exact rh (by omega) (by omega) HLE.out)).mono ?_
     rintro e wn ⟨AS,cS,rfl,ns,bb⟩
     try replace bx:=bx.below bb
     try replace by_:=by_.below bb
     try replace bk:=bk.below bb
     try replace okx:=okx.below bb
     try replace oky:=oky.below bb
     try replace ok1:=ok1.below bb
     try replace na:=na.below bb
     try replace nb:=nb.below bb
     try replace nc:=nc.below bb
     try replace nd:=nd.below bb
     try replace ne:=ne.below bb
     replace bw:=ai bw bb bw.size;clear bb;have ty:=by_;obtain ⟨y0,y1,y2,yf0,yf1,yf2,ylt,yb⟩:=ty;clear yb;go_wp2_with fail;clear y0 y1 y2 yf0 yf1 yf2 ylt;have NN:Hid ((lim (nv (lim (N-M)))).length≤512):=ag (by rw [am];omega)
     have DD:Hid ((lim (nv (lim D))).length≤512):=ag (by rw [am];omega)
     have NE:Hid (nv (lim D)≠0):=ag (by rw [am];exact D0.out)
     refine (eo _ y.b AS AD cS cD _ _ (lim (N-M)) (lim D) ns nd rfl rfl NE.out (by omega) (by omega) NN.out DD.out).mono ?_
     rintro e wn ⟨x0,rfl,hs0,ok0,bb⟩;have HF0:=ag (kK hs0 NE.out NN.out DD.out);clear hs0
     try replace bx:=bx.below bb
     try replace by_:=by_.below bb
     try replace bk:=bk.below bb
     try replace okx:=okx.below bb
     try replace oky:=oky.below bb
     try replace ok1:=ok1.below bb
     try replace na:=na.below bb
     try replace nb:=nb.below bb
     try replace nc:=nc.below bb
     try replace nd:=nd.below bb
     try replace ne:=ne.below bb
     replace bw:=ai bw bb bw.size;clear bb;go_wp2_with fail;refine (iR _ x0 _ ok0 HF0.out.2.1 HF0.out.2.2 HF0.out.1).mono ?_;rintro e wn ⟨x1,rfl,hs1,ok1,bb⟩;have HS1:=ag hs1;clear hs1
     try replace bx:=bx.below bb
     try replace by_:=by_.below bb
     try replace bk:=bk.below bb
     try replace okx:=okx.below bb
     try replace oky:=oky.below bb
     try replace ok1:=ok1.below bb
     try replace na:=na.below bb
     try replace nb:=nb.below bb
     try replace nc:=nc.below bb
     try replace nd:=nd.below bb
     try replace ne:=ne.below bb
     replace bw:=ai bw bb bw.size;clear bb;have tk:=bk;obtain ⟨k0,k1,k2,kf0,kf1,kf2,klt,kb⟩:=tk;clear kb;go_wp2_with fail;refine bodyPost_ret (v := .tuple #[(x1:Fx).val, .int .i64 (frS (qv y.b (nv (lim (N-M))) (nv (lim D)))).2.2.2]) (by simp [results,Tryz.results29,go_sem,k0,k1,k2]) rfl ?_
     have hS:S=frS (qv y.b (nv (lim (N-M))) (nv (lim D))):=by
      rw [am,am];exact HS3'.out HE.out HLE.out
     rw [hS];exact ⟨x1,rfl,HS1.out,bD ok1 bk rfl rfl rfl,aR bw (by omega)⟩
 ·skip
  by_cases hvx:x.v
  ·have hvy:¬y.v:=fun h=>hv ⟨hvx,h⟩;have HVX:=ag hvx;have HVY:Hid (¬y.v):=hvy;have HV:Hid (¬(x.v∧y.v)):=hv;clear hvx hvy hv;go_enter Tryz.func29,Tryz.ntmps29;go_wp2_with fail;have b0:=(ah w.heap.size w).alloc (Nat.le_refl _) (.cells x.cells 29);have bx:=az w (.bool x.b) (.slice x.A x.xs.length x.c) (.slice x.D x.ys.length x.d);have okx:=hx.below b0;have oky:=hy.below b0;have sz0:=aB w (.cells x.cells 29);have bw:=b0;clear b0;generalize (w.alloc (.cells x.cells 29))=wa at bx okx oky sz0 bw⊢;have b1:=(ah wa.heap.size wa).alloc (Nat.le_refl _) (.cells y.cells 29);have by_:=az wa (.bool y.b) (.slice y.A y.xs.length y.c) (.slice y.D y.ys.length y.d)
   have sz1:=aB wa (.cells y.cells 29);rw [sz0] at by_ sz1;replace bx:=bx.below b1;replace okx:=okx.below b1;replace oky:=oky.below b1;replace bw:=ai bw b1 bw.size;clear b1;generalize (wa.alloc (.cells y.cells 29))=wb at bx by_ okx oky bw sz1⊢;have b2:=(ah wb.heap.size wb).alloc (Nat.le_refl _) (.cells #[.bool false, .slice none 0 0, .slice none 0 0] 29);have bk:=aK wb;rw [sz1] at bk;replace bx:=bx.below b2;replace by_:=by_.below b2;replace okx:=okx.below b2;replace oky:=oky.below b2;replace bw:=ai bw b2 bw.size;clear b2 sz0 sz1;generalize (wb.alloc (.cells #[.bool false, .slice none 0 0, .slice none 0 0] 29))=w1 at bx by_ okx oky bw bk⊢
   refine (bF w1 x true okx l1 l2 (decide_eq_true HVX.out)).mono ?_;rintro e wn ⟨rfl,bb⟩
   try replace bx:=bx.below bb
   try replace by_:=by_.below bb
   try replace bk:=bk.below bb
   try replace okx:=okx.below bb
   try replace oky:=oky.below bb
   try replace ok1:=ok1.below bb
   try replace na:=na.below bb
   try replace nb:=nb.below bb
   try replace nc:=nc.below bb
   try replace nd:=nd.below bb
   try replace ne:=ne.below bb
   replace bw:=ai bw bb bw.size;clear bb;have ty:=by_;obtain ⟨y0,y1,y2,yf0,yf1,yf2,ylt,yb⟩:=ty;clear yb;go_wp2_with fail;clear y0 y1 y2 yf0 yf1 yf2 ylt;refine (bF wn y false oky m1 m2 (decide_eq_false HVY.out)).mono ?_;rintro e wn ⟨rfl,bb⟩
   try replace bx:=bx.below bb
   try replace by_:=by_.below bb
   try replace bk:=bk.below bb
   try replace okx:=okx.below bb
   try replace oky:=oky.below bb
   try replace ok1:=ok1.below bb
   try replace na:=na.below bb
   try replace nb:=nb.below bb
   try replace nc:=nc.below bb
   try replace nd:=nd.below bb
   try replace ne:=ne.below bb
   replace bw:=ai bw bb bw.size;clear bb;have tk:=bk;obtain ⟨k0,k1,k2,kf0,kf1,kf2,klt,kb⟩:=tk;clear kb;go_wp2_with fail;refine bodyPost_ret (v := .tuple #[(Fx.nil:Fx).val, .int .i64 1]) (by simp [results,Tryz.results29,go_sem,k0,k1,k2]) rfl ?_
   rw [←HS.out,jl,if_neg HV.out];exact ⟨Fx.nil,rfl,⟨rfl,rfl,rfl⟩,Fx.nil_ok _,aR bw (by omega)⟩
  ·have HVX:Hid (¬x.v):=hvx;have HV:Hid (¬(x.v∧y.v)):=hv;clear hvx hv;go_enter Tryz.func29,Tryz.ntmps29;go_wp2_with fail;have b0:=(ah w.heap.size w).alloc (Nat.le_refl _) (.cells x.cells 29);have bx:=az w (.bool x.b) (.slice x.A x.xs.length x.c) (.slice x.D x.ys.length x.d);have okx:=hx.below b0;have oky:=hy.below b0;have sz0:=aB w (.cells x.cells 29);have bw:=b0;clear b0;generalize (w.alloc (.cells x.cells 29))=wa at bx okx oky sz0 bw⊢;have b1:=(ah wa.heap.size wa).alloc (Nat.le_refl _) (.cells y.cells 29);have by_:=az wa (.bool y.b) (.slice y.A y.xs.length y.c) (.slice y.D y.ys.length y.d);have sz1:=aB wa (.cells y.cells 29)
   rw [sz0] at by_ sz1;replace bx:=bx.below b1;replace okx:=okx.below b1;replace oky:=oky.below b1;replace bw:=ai bw b1 bw.size;clear b1;generalize (wa.alloc (.cells y.cells 29))=wb at bx by_ okx oky bw sz1⊢;have b2:=(ah wb.heap.size wb).alloc (Nat.le_refl _) (.cells #[.bool false, .slice none 0 0, .slice none 0 0] 29);have bk:=aK wb;rw [sz1] at bk;replace bx:=bx.below b2;replace by_:=by_.below b2;replace okx:=okx.below b2;replace oky:=oky.below b2;replace bw:=ai bw b2 bw.size;clear b2 sz0 sz1;generalize (wb.alloc (.cells #[.bool false, .slice none 0 0, .slice none 0 0] 29))=w1 at bx by_ okx oky bw bk⊢
   refine (bF w1 x false okx l1 l2 (decide_eq_false HVX.out)).mono ?_;rintro e wn ⟨rfl,bb⟩
   try replace bx:=bx.below bb
   try replace by_:=by_.below bb
   try replace bk:=bk.below bb
   try replace okx:=okx.below bb
   try replace oky:=oky.below bb
   try replace ok1:=ok1.below bb
   try replace na:=na.below bb
   try replace nb:=nb.below bb
   try replace nc:=nc.below bb
   try replace nd:=nd.below bb
   try replace ne:=ne.below bb
   replace bw:=ai bw bb bw.size;clear bb;have tk:=bk;obtain ⟨k0,k1,k2,kf0,kf1,kf2,klt,kb⟩:=tk;clear kb;go_wp2_with fail;refine bodyPost_ret (v := .tuple #[(Fx.nil:Fx).val, .int .i64 1]) (by simp [results,Tryz.results29,go_sem,k0,k1,k2]) rfl ?_
   rw [←HS.out,jl,if_neg HV.out];exact ⟨Fx.nil,rfl,⟨rfl,rfl,rfl⟩,Fx.nil_ok _,aR bw (by omega)⟩
end Go.Proofs.YtkpfbekmaafehaaGreat
