/- The walks of drydockref02: Opposite, Sub -/
import Derived.Test.YtkpfbekmaafehaaGreatRfD
import Derived.Test.YtkpfbekmaafehaaGreatRefT
import Derived.Test.YtkpfbekmaafehaaGreatFrG
import Derived.Test.YtkpfbekmaafehaaGreatFrC
import Derived.Maps.AppendAt
namespace Go.Proofs.YtkpfbekmaafehaaGreat
open _root_.Go.Proofs.Tryz
set_option maxHeartbeats 8000000
set_option maxRecDepth 100000
open Go.RowKit
abbrev oppF (x:Fx):Fx := { x with b:=if nv x.xs=0 then x.b else !x.b}
theorem rfopposite_any (w:World) (x y:Fx) (hx:x.ok w) (l1:x.xs.length<=10000) (hs:oppF x=y):Calls prog 59 #[x.val] w fun e w'=>e = .returned y.val/\Below w.heap.size w w':=by
 have ll:=Nat.le_trans (ak hx.num.u) l1;have HS:=ag hs;clear hs;by_cases hz:nv x.xs=0
 ·have hzl:(lim (nv x.xs)).length=0:=by rw [hz,aV];rfl
  have HY:Hd (x=y):=ag (by rw [<-HS.o,oppF,if_pos hz])
  clear hz;go_enter func59,ntmps59;go_wp2_with fail;have hs1:w.heap.size<(w.alloc (.cells x.cells 29)).heap.size:=by simp
  have b0:=qc w (.cells x.cells 29);have b1:=(ah (w.alloc (.cells x.cells 29)).heap.size (w.alloc (.cells x.cells 29))).alloc (Nat.le_refl _) (.cells #[.bool false, .slice none 0 0, .slice none 0 0] 29);have bx:=(az w (.bool x.b) (.slice x.A x.xs.length x.c) (.slice x.D x.ys.length x.d)).below b1;have bk:=aK (w.alloc (.cells x.cells 29));rw [aB] at bk;have aa:=(hx.below b0).below b1;have bw:=ai b0 b1 (Nat.le_of_lt hs1);clear hs1 b0 b1
  revert bx bk aa bw
  generalize ((w.alloc (.cells x.cells 29)).alloc (.cells #[.bool false, .slice none 0 0, .slice none 0 0] 29))=w1;intro bx bk aa bw;have tx:=bx;obtain ⟨x0,x1,x2,xf0,xf1,xf2,xlt,xb⟩:=tx;clear xb;go_wp2_with fail;clear x0 x1 x2 xf0 xf1 xf2 xlt;refine (aL w1 x.A x.c _ x.xs aa.num rfl (by omega)).mono ?_
  rintro e wn ⟨AT,cT,rfl,gn,bb⟩;clear gn
  try replace bx:=bx.below bb
  try replace al:=al.below bb
  try replace bk:=bk.below bb
  try replace aa:=aa.below bb
  try replace an:=an.below bb
  try replace na:=na.below bb
  try replace nb:=nb.below bb
  try replace nc:=nc.below bb
  try replace nd:=nd.below bb
  try replace ne:=ne.below bb
  replace bw:=qd bw bb;clear bb;have tx:=bx;obtain ⟨x0,x1,x2,xf0,xf1,xf2,xlt,xb⟩:=tx;clear xb;have tk:=bk;obtain ⟨k0,k1,k2,aF,aG,aH,klt,kb⟩:=tk;clear kb;go_wp2_with fail;refine bodyPost_ret (v:=x.val) (by simp [results,Tryz.results59,go_sem,k0,k1,k2]) rfl ?_
  rw [<-HY.o];exact ⟨rfl,aR bw (by omega)⟩
 ·have hzl:(lim (nv x.xs)).length≠0:=fun h=>hz (iZ.1 (List.length_eq_zero_iff.1 h));have hzb:(((lim (nv x.xs)).length:Int) == 0)=false:=beq_eq_false_iff_ne.2 (by omega)
  have HY:Hd (({ x with b := !x.b}:Fx)=y):=ag (by rw [<-HS.o,oppF,if_neg hz])
  clear hz;go_enter func59,ntmps59;go_wp2_with fail;have hs1:w.heap.size<(w.alloc (.cells x.cells 29)).heap.size:=by simp
  have b0:=qc w (.cells x.cells 29);have b1:=(ah (w.alloc (.cells x.cells 29)).heap.size (w.alloc (.cells x.cells 29))).alloc (Nat.le_refl _) (.cells #[.bool false, .slice none 0 0, .slice none 0 0] 29);have bx:=(az w (.bool x.b) (.slice x.A x.xs.length x.c) (.slice x.D x.ys.length x.d)).below b1;have bk:=aK (w.alloc (.cells x.cells 29));rw [aB] at bk;have aa:=(hx.below b0).below b1;have bw:=ai b0 b1 (Nat.le_of_lt hs1);clear hs1 b0 b1
  revert bx bk aa bw
  generalize ((w.alloc (.cells x.cells 29)).alloc (.cells #[.bool false, .slice none 0 0, .slice none 0 0] 29))=w1;intro bx bk aa bw;have tx:=bx;obtain ⟨x0,x1,x2,xf0,xf1,xf2,xlt,xb⟩:=tx;clear xb;go_wp2_with fail;clear x0 x1 x2 xf0 xf1 xf2 xlt;refine (aL w1 x.A x.c _ x.xs aa.num rfl (by omega)).mono ?_
  rintro e wn ⟨AT,cT,rfl,gn,bb⟩;clear gn
  try replace bx:=bx.below bb
  try replace al:=al.below bb
  try replace bk:=bk.below bb
  try replace aa:=aa.below bb
  try replace an:=an.below bb
  try replace na:=na.below bb
  try replace nb:=nb.below bb
  try replace nc:=nc.below bb
  try replace nd:=nd.below bb
  try replace ne:=ne.below bb
  replace bw:=qd bw bb;clear bb;have tx:=bx;obtain ⟨x0,x1,x2,xf0,xf1,xf2,xlt,xb⟩:=tx;clear xb;have tk:=bk;obtain ⟨k0,k1,k2,aF,aG,aH,klt,kb⟩:=tk;clear kb;go_wp2_with fail;refine bodyPost_ret (v:=({ x with b := !x.b}:Fx).val) (by simp [results,Tryz.results59,go_sem,k0,k1,k2]) rfl ?_
  rw [<-HY.o];exact ⟨rfl,aR bw (by omega)⟩
theorem oppF_q (x:Fx):(oppF x).q = - x.q:=by
 unfold oppF Fx.q;by_cases h:nv x.xs=0
 ·rw [if_pos h,h];rcases Nat.eq_zero_or_pos (nv x.ys) with h0|h0
  ·rw [h0];simp [qv]
  ·rw [(vN (b:=x.b) (n:=0) (d:=nv x.ys) (by omega)).2 rfl];simp
 ·rw [if_neg h];exact Dl _ _ _
theorem rsubF_addF (x y:Fx):jl x (oppF y)=yw x y:=by
 have e2:(oppF y).v↔y.v:=Iff.rfl;simp only [jl,yw,oppF_q,e2,Rat.sub_eq_add_neg]
theorem rfsub_any (w:World) (x y:Fx) (S:Bool×List Nat×List Nat×Int) (hx:x.ok w) (hy:y.ok w) (l1:x.xs.length<=10000) (l2:x.ys.length<=10000) (m1:y.xs.length<=10000) (m2:y.ys.length<=10000) (hs:yw x y=S):Calls prog 60 #[x.val,y.val] w (eQ w S):=by
 have HS:Hd (jl x (oppF y)=S):=ag ((rsubF_addF x y).trans hs);clear hs;go_enter func60,ntmps60;go_wp2_with fail;have b0:=qc w (.cells x.cells 29);have bx:=az w (.bool x.b) (.slice x.A x.xs.length x.c) (.slice x.D x.ys.length x.d);have aa:=hx.below b0;have an:=hy.below b0;have sz0:=aB w (.cells x.cells 29);have bw:=b0;clear b0;generalize (w.alloc (.cells x.cells 29))=wa at bx aa an sz0 bw|-;have b1:=qc wa (.cells y.cells 29);have al:=az wa (.bool y.b) (.slice y.A y.xs.length y.c) (.slice y.D y.ys.length y.d)
 have sz1:=aB wa (.cells y.cells 29);rw [sz0] at al sz1;replace bx:=bx.below b1;replace aa:=aa.below b1;replace an:=an.below b1;replace bw:=qd bw b1;clear b1;generalize (wa.alloc (.cells y.cells 29))=wb at bx al aa an bw sz1|-;have b2:=qc wb (.cells #[.bool false, .slice none 0 0, .slice none 0 0] 29);have bk:=aK wb;rw [sz1] at bk;replace bx:=bx.below b2;replace al:=al.below b2;replace aa:=aa.below b2;replace an:=an.below b2;replace bw:=qd bw b2;clear b2 sz0 sz1;generalize (wb.alloc (.cells #[.bool false, .slice none 0 0, .slice none 0 0] 29))=w1 at bx al aa an bw bk|-
 go_wp2_with fail;have n20:w.heap.size+1+1≠w.heap.size:=by omega
 have n21:w.heap.size+1+1≠w.heap.size+1:=by omega
 have bb:=dd (ah w1.heap.size w1)
 try replace bx:=bx.below bb
 try replace al:=al.below bb
 try replace bk:=bk.below bb
 try replace aa:=aa.below bb
 try replace an:=an.below bb
 try replace ok1:=ok1.below bb
 try replace na:=na.below bb
 try replace nb:=nb.below bb
 try replace nc:=nc.below bb
 try replace nd:=nd.below bb
 try replace ne:=ne.below bb
 replace bw:=qd bw bb;clear bb
 go_region_held3 (fun w'=>w'.cell? ⟨w.heap.size,0,none⟩=some (.bool x.b)/\w'.cell? ⟨w.heap.size,1,none⟩=some (.slice x.A x.xs.length x.c)/\w'.cell? ⟨w.heap.size,2,none⟩=some (.slice x.D x.ys.length x.d)/\w'.cell? ⟨w.heap.size+1,0,none⟩=some (.bool y.b)/\w'.cell? ⟨w.heap.size+1,1,none⟩=some (.slice y.A y.xs.length y.c)/\w'.cell? ⟨w.heap.size+1,2,none⟩=some (.slice y.D y.ys.length y.d))
  (first|exact ⟨bx.c0,bx.c1,bx.c2,al.c0,al.c1,al.c2⟩|exact ⟨aQ bx.c0 n20,aQ bx.c1 n20,aQ bx.c2 n20,aQ al.c0 n21,aQ al.c1 n21,aQ al.c2 n21⟩|go_keep)
  (first
    | (go_at_call 59
       with_reducible refine (rfopposite_any _ y _ an m1 rfl).mono ?_
       rintro e wn ⟨rfl,bb⟩;replace bx:=bx.below bb;replace al:=al.below bb;replace bk:=bk.below bb;replace aa:=aa.below bb;replace an:=an.below bb;replace bw:=qd bw bb;clear bb)
    | (go_at_call 29
       with_reducible refine (qk _ x (oppF y) S aa ⟨an.num,an.den⟩ l1 l2 m1 m2 HS.o).mono ?_
       rintro e wn ⟨x1,rfl,hs1,ok1,bb⟩;have cI:=ag hs1;replace bx:=bx.below bb;replace al:=al.below bb;replace bk:=bk.below bb;replace bw:=qd bw bb;have kk:=bk;obtain ⟨k0,k1,k2,aF,aG,aH,klt,_⟩:=kk;clear bb hs1))
 all_goals
  go_wp2_with fail;refine bodyPost_ret (v := .tuple #[(x1:Fx).val, .int .i64 S.2.2.2]) (by simp [results,Tryz.results60,go_sem,k0,k1,k2]) rfl ?_
  exact ⟨x1,rfl,cI.o,bD ok1 bk rfl rfl rfl,aR bw (by omega)⟩
theorem ya (m n:Nat):i6 n m = - i6 m n:=by
 unfold i6
 repeat' split
 all_goals omega
theorem vm {b b':Bool} {n d n' d':Nat} (h:d≠0) (h':d'≠0) :
 bA (qv b n d) (qv b' n' d')=if (b && decide (n*d'≠0)) && (b' && decide (n'*d≠0)) then i6 (n'*d) (n*d') else if b && decide (n*d'≠0) then -1 else if b' && decide (n'*d≠0) then 1 else i6 (n*d') (n'*d):=by
 have e1:n*d'≠0↔n≠0:=by rw [ne_eq,Nat.mul_eq_zero];omega
 have e2:n'*d≠0↔n'≠0:=by rw [ne_eq,Nat.mul_eq_zero];omega
 rw [mM h h',ya (n*d') (n'*d),decide_eq_decide.2 e1,decide_eq_decide.2 e2]
theorem jw (w:World) (x y:Fx) (z:Int) (hx:x.ok w) (hy:y.ok w) (hvx:x.v) (hvy:y.v) (l1:x.xs.length<=10000) (l2:x.ys.length<=10000) (m1:y.xs.length<=10000) (m2:y.ys.length<=10000) (hs:bA x.q y.q=z):Calls prog 65 #[x.val,y.val] w fun e w'=>e = .returned (.int .i64 z)/\Below w.heap.size w w':=by
 have lx1:(lim (nv x.xs)).length<=128:=hvx.2.2;have lx2:(lim (nv x.ys)).length<=128:=hvx.2.1;have ly1:(lim (nv y.xs)).length<=128:=hvy.2.2;have ly2:(lim (nv y.ys)).length<=128:=hvy.2.1;have HC:=ag ((vm (b:=x.b) (b':=y.b) (n:=nv x.xs) (n':=nv y.xs) hvx.1 hvy.1).symm.trans hs);clear hvx hvy hs;go_enter func65,ntmps65;go_upto_region 1 with fail;have b0:=qc w (.cells x.cells 29);have bx:=az w (.bool x.b) (.slice x.A x.xs.length x.c) (.slice x.D x.ys.length x.d);have aa:=hx.below b0;have an:=hy.below b0;have sz0:=aB w (.cells x.cells 29);have bw:=b0;clear b0
 generalize (w.alloc (.cells x.cells 29))=wa at bx aa an sz0 bw|-;have b1:=qc wa (.cells y.cells 29);have al:=az wa (.bool y.b) (.slice y.A y.xs.length y.c) (.slice y.D y.ys.length y.d);rw [sz0] at al;replace bx:=bx.below b1;replace aa:=aa.below b1;replace an:=an.below b1;replace bw:=qd bw b1;clear b1 sz0;generalize (wa.alloc (.cells y.cells 29))=w1 at bx al aa an bw|-
 go_cut [5,6] (fun s1 s2 wx=>∃(A1 A2:Option Addr) (c1 c2:Nat),s1 = .slice A1 (lim (nv x.xs*nv y.ys)).length c1/\s2 = .slice A2 (lim (nv y.xs*nv x.ys)).length c2/\Nt wx A1 c1 (lim (nv x.xs*nv y.ys))/\Nt wx A2 c2 (lim (nv y.xs*nv x.ys))/\Below w1.heap.size w1 wx)
 case first=>
  have bw0:=ah w1.heap.size w1;have bb:=dd (ah w1.heap.size w1);replace bw0:=qd bw0 bb;replace bx:=bx.below bb;replace al:=al.below bb;replace aa:=aa.below bb;replace an:=an.below bb;replace bw:=qd bw bb;clear bb
  go_region_held3 (fun w'=>w'.cell? ⟨w.heap.size,0,none⟩=some (.bool x.b)/\w'.cell? ⟨w.heap.size,1,none⟩=some (.slice x.A x.xs.length x.c)/\w'.cell? ⟨w.heap.size,2,none⟩=some (.slice x.D x.ys.length x.d)/\w'.cell? ⟨w.heap.size+1,0,none⟩=some (.bool y.b)/\w'.cell? ⟨w.heap.size+1,1,none⟩=some (.slice y.A y.xs.length y.c)/\w'.cell? ⟨w.heap.size+1,2,none⟩=some (.slice y.D y.ys.length y.d))
   (first|exact ⟨bx.c0,bx.c1,bx.c2,al.c0,al.c1,al.c2⟩|go_keep)
   (first
     | (go_at_call 70
        with_reducible refine (eU _ x.A y.D x.c y.d _ _ x.xs y.ys aa.num an.den rfl rfl l1 m2 lx1 ly2).mono ?_
        rintro e wn ⟨A1,c1,rfl,n1,bb⟩
        try replace n2:=n2.below bb
        replace bw0:=qd bw0 bb;replace bx:=bx.below bb;replace al:=al.below bb;replace aa:=aa.below bb;replace an:=an.below bb;clear bb)
     | (go_at_call 70
        with_reducible refine (eU _ y.A x.D y.c x.d _ _ y.xs x.ys an.num aa.den rfl rfl m1 l2 ly1 lx2).mono ?_
        rintro e wn ⟨A2,c2,rfl,n2,bb⟩
        try replace n1:=n1.below bb
        replace bw0:=qd bw0 bb;replace bx:=bx.below bb;replace al:=al.below bb;replace aa:=aa.below bb;replace an:=an.below bb;clear bb))
  all_goals
   go_wp2_with fail;go_meet
   case rel=>exact ⟨_,_,_,_,rfl,rfl,n1,n2,bw0⟩
 case rest=>
  obtain ⟨A1,A2,c1,c2,rfl,rfl,na,nb,bb⟩:=hcut
  try replace bx:=bx.below bb
  try replace al:=al.below bb
  try replace aa:=aa.below bb
  try replace an:=an.below bb
  try replace na:=na.below bb
  try replace nb:=nb.below bb
  try replace nc:=nc.below bb
  try replace nd:=nd.below bb
  try replace ne:=ne.below bb
  replace bw:=qd bw bb;clear bb;have lM:=aO lx1 ly2;have lN:=aO ly1 lx2
  revert na nb lM lN HC
  generalize nv x.xs*nv y.ys=M;generalize nv y.xs*nv x.ys=N;intro HC na nb lM lN;obtain ⟨a1,ha1⟩:∃a1,(x.b && decide (M≠0))=a1:=⟨_,rfl⟩;obtain ⟨a2,ha2⟩:∃a2,(y.b && decide (N≠0))=a2:=⟨_,rfl⟩;rw [ha1,ha2] at HC;have m8:=ag ha1;have oa:=ag ha2;clear ha1 ha2;go_upto_region 2 with fail
  go_cut [7,8] (fun av bv wx=>av = .bool a1/\bv = .bool a2/\wx=wc)
  case first=>
   rcases Nat.eq_zero_or_pos M with hM|hM
   ·have hMl:(lim M).length=0:=by rw [hM,aV];rfl
    rcases Nat.eq_zero_or_pos N with hN|hN
    ·have hNl:(lim N).length=0:=by rw [hN,aV];rfl
     skip
     have sS:=ag hM;have ia:=ag hN;clear hM hN;cases hxb:x.b <;> cases hyb:y.b
     all_goals
      rw [hxb] at bx;rw [hyb] at al;have tx:=bx;obtain ⟨x0,x1,x2,xf0,xf1,xf2,xlt,_⟩:=tx;have ty:=al;obtain ⟨y0,y1,y2,yf0,yf1,yf2,ylt,_⟩:=ty;go_wp2_with fail;go_meet
      case rel=>exact ⟨congrArg Value.bool (by have:=sS.o;rw [<-m8.o,hxb];simp;try omega),congrArg Value.bool (by have:=ia.o;rw [<-oa.o,hyb];simp;try omega),rfl⟩
    ·have hNl:0<(lim N).length:=aX.2 (by omega)
     skip
     have sS:=ag hM;have ia:=ag hN;clear hM hN;cases hxb:x.b <;> cases hyb:y.b
     all_goals
      rw [hxb] at bx;rw [hyb] at al;have tx:=bx;obtain ⟨x0,x1,x2,xf0,xf1,xf2,xlt,_⟩:=tx;have ty:=al;obtain ⟨y0,y1,y2,yf0,yf1,yf2,ylt,_⟩:=ty;go_wp2_with fail;go_meet
      case rel=>exact ⟨congrArg Value.bool (by have:=sS.o;rw [<-m8.o,hxb];simp;try omega),congrArg Value.bool (by have:=ia.o;rw [<-oa.o,hyb];simp;try omega),rfl⟩
   ·have hMl:0<(lim M).length:=aX.2 (by omega)
    rcases Nat.eq_zero_or_pos N with hN|hN
    ·have hNl:(lim N).length=0:=by rw [hN,aV];rfl
     skip
     have sS:=ag hM;have ia:=ag hN;clear hM hN;cases hxb:x.b <;> cases hyb:y.b
     all_goals
      rw [hxb] at bx;rw [hyb] at al;have tx:=bx;obtain ⟨x0,x1,x2,xf0,xf1,xf2,xlt,_⟩:=tx;have ty:=al;obtain ⟨y0,y1,y2,yf0,yf1,yf2,ylt,_⟩:=ty;go_wp2_with fail;go_meet
      case rel=>exact ⟨congrArg Value.bool (by have:=sS.o;rw [<-m8.o,hxb];simp;try omega),congrArg Value.bool (by have:=ia.o;rw [<-oa.o,hyb];simp;try omega),rfl⟩
    ·have hNl:0<(lim N).length:=aX.2 (by omega)
     skip
     have sS:=ag hM;have ia:=ag hN;clear hM hN;cases hxb:x.b <;> cases hyb:y.b
     all_goals
      rw [hxb] at bx;rw [hyb] at al;have tx:=bx;obtain ⟨x0,x1,x2,xf0,xf1,xf2,xlt,_⟩:=tx;have ty:=al;obtain ⟨y0,y1,y2,yf0,yf1,yf2,ylt,_⟩:=ty;go_wp2_with fail;go_meet
      case rel=>exact ⟨congrArg Value.bool (by have:=sS.o;rw [<-m8.o,hxb];simp;try omega),congrArg Value.bool (by have:=ia.o;rw [<-oa.o,hyb];simp;try omega),rfl⟩
  case rest=>
   obtain ⟨rfl,rfl,rfl⟩:=hcut;cases a1 <;> cases a2
   ·go_wp2_with fail;refine (eI _ A1 A2 c1 c2 _ _ (lim M) (lim N) z na nb rfl rfl (by rw [am];omega) (by rw [am];omega) (by rw [am,am];exact HC.o)).mono ?_
    rintro e wn ⟨rfl,bb⟩;replace bw:=qd bw bb;go_wp2_with fail;go_ret;exact ⟨rfl,bw⟩
   ·go_wp2_with fail;go_ret;exact ⟨by rw [<-HC.o];rfl,bw⟩
   ·go_wp2_with fail;go_ret;exact ⟨by rw [<-HC.o];rfl,bw⟩
   ·go_wp2_with fail;refine (eI _ A2 A1 c2 c1 _ _ (lim N) (lim M) z nb na rfl rfl (by rw [am];omega) (by rw [am];omega) (by rw [am,am];exact HC.o)).mono ?_
    rintro e wn ⟨rfl,bb⟩;replace bw:=qd bw bb;go_wp2_with fail;go_ret;exact ⟨rfl,bw⟩
theorem BY {b:Bool} {n d:Nat} (hd:d≠0) (ln:(lim n).length<=2) (ld:(lim d).length<=2):frS (qv b n d)=((fP (qv b n d)).1,(fP (qv b n d)).2.1,(fP (qv b n d)).2.2,0):=by
 rw [frS,if_neg,fP];have h1:=ao (Nat.div_le_self n (Nat.gcd n d));have h2:=ao (Nat.div_le_self d (Nat.gcd n d));rw [vu,mE hd,mB hd];omega
theorem wT {v:Int} (h0 : -9223372036854775808<=v) (h:v<0):IntKind.i64.wrap (v+1)=v+1:=IntWalk.i64_in _ (by omega)
theorem wS {v:Int} (h0 : -9223372036854775808<=v) (h:v<0):IntKind.i64.wrap (-(v+1)) = -(v+1):=IntWalk.i64_in _ (by omega)
theorem uo {v:Int} (h0 : -9223372036854775808<=v) (h:v<0):IntKind.u64.wrap (-(v+1)) = -(v+1):=by rw [IntKind.wrap_u64];omega
theorem um {v:Int} (h0 : -9223372036854775808<=v) (h:v<0):IntKind.u64.wrap (-(v+1)+1)=(v.natAbs:Int):=by rw [IntKind.wrap_u64];omega
theorem oT (w:World) (v:Int) (h0 : -9223372036854775808<=v) (h1:v<=9223372036854775807):Calls prog 68 #[.int .i64 v] w fun e w'=>e = .returned (.int .u64 (v.natAbs:Int))/\w=w':=by
 by_cases hv:v<0
 ·have hw1:=wT h0 hv;have hw2:=wS h0 hv;have hw3:=uo h0 hv;have hw4:=um h0 hv;have hd:decide (v<0)=true:=decide_eq_true hv;go_enter func68,ntmps68;go_wp2_with fail;go_ret;exact ⟨rfl,rfl⟩
 ·have hw:=pQ (Int.not_lt.1 hv) h1;have hd:decide (v<0)=false:=decide_eq_false hv;go_enter func68,ntmps68;go_wp2_with fail;go_ret;exact ⟨rfl,rfl⟩
theorem uN (w:World) (n d:Int) (S:Bool×List Nat×List Nat×Int) (n0 : -9223372036854775808<=n) (n1:n<=9223372036854775807) (d0 : -9223372036854775808<=d) (d1:d<=9223372036854775807) (hs:ke n d=S):Calls prog 25 #[.int .i64 n, .int .i64 d] w (eQ w S):=by
 have HS:=ag hs;clear hs;by_cases hd:d=0
 ·have HD:=ag hd;have hdd:(d == 0)=true:=by simpa using hd
  clear hd;go_enter func25,ntmps25;go_wp2_with fail;have bw:=qc w (.cells #[.bool false, .slice none 0 0, .slice none 0 0] 29);have bk:=aK w;generalize (w.alloc (.cells #[.bool false, .slice none 0 0, .slice none 0 0] 29))=w1 at bw bk|-;have tk:=bk;obtain ⟨k0,k1,k2,aF,aG,aH,klt,kb⟩:=tk;clear kb;go_wp2_with fail;refine bodyPost_ret (v := .tuple #[(Fx.nil:Fx).val, .int .i64 3]) (by simp [results,Tryz.results25,go_sem,k0,k1,k2]) rfl ?_
  rw [<-HS.o,ke,if_pos HD.o];exact ⟨Fx.nil,rfl,⟨rfl,rfl,rfl⟩,Fx.nil_ok _,bw⟩
 ·have HD:Hd (¬d=0):=hd;have hdd:(d == 0)=false:=by simpa using hd
  have ln:=eM (m:=n.natAbs) (by omega)
  have ld:=eM (m:=d.natAbs) (by omega)
  have lnn:(lim (nv (lim n.natAbs))).length<=512:=by rw [am];omega
  have ldd:(lim (nv (lim d.natAbs))).length<=512:=by rw [am];omega
  have ne:nv (lim d.natAbs)≠0:=by rw [am];omega
  have LNN:=ag lnn;have LDD:=ag ldd;have NE:Hd (nv (lim d.natAbs)≠0):=ne;clear hd lnn ldd ne;go_enter func25,ntmps25;go_wp2_with fail;have bw:=qc w (.cells #[.bool false, .slice none 0 0, .slice none 0 0] 29);have bk:=aK w;generalize (w.alloc (.cells #[.bool false, .slice none 0 0, .slice none 0 0] 29))=w1 at bw bk|-;go_wp2_with fail;refine (oT w1 n n0 n1).mono ?_;rintro e wn ⟨rfl,rfl⟩;go_wp2_with fail;refine (gh _ n.natAbs (by omega)).mono ?_
  rintro e wn ⟨AN,cN,rfl,gn,bb⟩;have na:=gn.nt (aC _);clear gn
  try replace bx:=bx.below bb
  try replace al:=al.below bb
  try replace bk:=bk.below bb
  try replace aa:=aa.below bb
  try replace an:=an.below bb
  try replace ok1:=ok1.below bb
  try replace na:=na.below bb
  try replace nb:=nb.below bb
  try replace nc:=nc.below bb
  try replace nd:=nd.below bb
  try replace ne:=ne.below bb
  replace bw:=qd bw bb;clear bb;go_wp2_with fail;refine (oT wn d d0 d1).mono ?_;rintro e wn ⟨rfl,rfl⟩;go_wp2_with fail;refine (gh _ d.natAbs (by omega)).mono ?_
  rintro e wn ⟨AD,cD,rfl,gn,bb⟩;have nb:=gn.nt (aC _);clear gn
  try replace bx:=bx.below bb
  try replace al:=al.below bb
  try replace bk:=bk.below bb
  try replace aa:=aa.below bb
  try replace an:=an.below bb
  try replace ok1:=ok1.below bb
  try replace na:=na.below bb
  try replace nb:=nb.below bb
  try replace nc:=nc.below bb
  try replace nd:=nd.below bb
  try replace ne:=ne.below bb
  replace bw:=qd bw bb;clear bb;go_wp2_with fail;refine (eo _ (!(decide (n<0) == decide (d<0))) AN AD cN cD _ _ (lim n.natAbs) (lim d.natAbs) na nb rfl rfl NE.o (by omega) (by omega) LNN.o LDD.o).mono ?_
  rintro e wn ⟨x1,rfl,hs1,ok1,bb⟩;have cI:=ag hs1;clear hs1
  try replace bx:=bx.below bb
  try replace al:=al.below bb
  try replace bk:=bk.below bb
  try replace aa:=aa.below bb
  try replace an:=an.below bb
  try replace ok1:=ok1.below bb
  try replace na:=na.below bb
  try replace nb:=nb.below bb
  try replace nc:=nc.below bb
  try replace nd:=nd.below bb
  try replace ne:=ne.below bb
  replace bw:=qd bw bb;clear bb;have tk:=bk;obtain ⟨k0,k1,k2,aF,aG,aH,klt,kb⟩:=tk;clear kb;go_wp2_with fail;refine bodyPost_ret (v := .tuple #[(x1:Fx).val, .int .i64 0]) (by simp [results,Tryz.results25,go_sem,k0,k1,k2]) rfl ?_
  have hS:S=((fP (qv (!(decide (n<0) == decide (d<0))) (nv (lim n.natAbs)) (nv (lim d.natAbs)))).1,(fP (qv (!(decide (n<0) == decide (d<0))) (nv (lim n.natAbs)) (nv (lim d.natAbs)))).2.1,(fP (qv (!(decide (n<0) == decide (d<0))) (nv (lim n.natAbs)) (nv (lim d.natAbs)))).2.2,0):=by
   rw [<-HS.o,ke,if_neg HD.o,am,am,<-mA HD.o];exact BY (by have:=HD.o;omega) (by omega) (by omega)
  rw [hS];exact ⟨x1,rfl,cI.o,bD ok1 bk rfl rfl rfl,aR bw (by omega)⟩
theorem lit_one (w:World) (v:Nat) (hv:v<4294967296):Nt (w.alloc (.cells #[.int .u32 v] 58)) (some ⟨w.heap.size,0,none⟩) 1 [v]/\Below w.heap.size w (w.alloc (.cells #[.int .u32 v] 58)):=by
 have hg:=Gr.lit (mk:=lmv) (e:=58) (B:=w.heap.size) w [v] #[.int .u32 v] rfl (by simp [maxLen]) (Nat.le_refl _)
 exact ⟨hg.nt (U32.one hv),(ah _ _).alloc (Nat.le_refl _) _⟩
theorem lit_1 (w:World):Nt (w.alloc (.cells #[.int .u32 1] 58)) (some ⟨w.heap.size,0,none⟩) 1 [1]/\Below w.heap.size w (w.alloc (.cells #[.int .u32 1] 58)):=lit_one w 1 (by omega)
theorem nv_1:nv [1]=1:=rfl
theorem qi (w:World) (n:Int) (n0 : -9223372036854775808<=n) (n1:n<=9223372036854775807) (hz:ke n 1=okS (Rat.divInt n 1)):Calls prog 26 #[.int .i64 n] w (wP w ((okS (Rat.divInt n 1)).1,(okS (Rat.divInt n 1)).2.1,(okS (Rat.divInt n 1)).2.2.1)):=by
 have HZ:=ag hz;clear hz;go_enter func26,ntmps26;go_wp2_with fail;have bw:=qc w (.cells #[.bool false, .slice none 0 0, .slice none 0 0] 29);have bk:=aK w;generalize (w.alloc (.cells #[.bool false, .slice none 0 0, .slice none 0 0] 29))=w1 at bw bk|-;refine (uN w1 n 1 _ n0 n1 (by omega) (by omega) HZ.o).mono ?_
 rintro e wn ⟨x1,rfl,hs1,ok1,bb⟩;have cI:=ag hs1;clear hs1;replace bk:=bk.below bb;replace bw:=qd bw bb;clear bb;go_upto_region 2 with fail;have a1:=(au ok1).1;have bb:=(au ok1).2;clear ok1;generalize (wn.alloc (.cells #[.bool x1.b, .slice x1.A x1.xs.length x1.c, .slice x1.D x1.ys.length x1.d] 29))=wm at a1 bb|-;replace bk:=bk.below bb;replace bw:=qd bw bb;clear bb;generalize wn.heap.size=g1 at a1|-;have ci0:=a1.c0;have ci1:=a1.c1;have ci2:=a1.c2;have tk:=bk;obtain ⟨k0,k1,k2,aF,aG,aH,klt,kb⟩:=tk;clear kb;go_wp2_with fail;refine bodyPost_ret (v:=x1.val) (by simp [results,Tryz.results26,go_sem,k0,k1,k2]) rfl ?_
 exact ⟨x1,rfl,cI.o,bD a1.ok bk rfl rfl rfl,aR bw (Nat.le_refl _)⟩
theorem mH {n:Int} (n0 : -9223372036854775808<=n) (n1:n<=9223372036854775807):ke n 1=okS (Rat.divInt n 1):=by
 rw [ke,if_neg (by omega)]
 have h:Sz (Rat.divInt n 1) 2 2:=by
  rw [<-mA (by omega)]
  exact Sz.of_qv (by omega) (eM (by omega)) (eM (by omega))
 exact pl (h.mono (by omega) (by omega))
theorem oU (w:World):Calls prog 26 #[.int .i64 0] w fun e w'=>∃y:Fx,e = .returned y.val/\Rp y 0/\y.ok w'/\Below w.heap.size w w':=by
 refine (qi w 0 (by omega) (by omega) (mH (by omega) (by omega))).mono ?_
 rintro e w' ⟨y,h1,h2,h3,h4⟩;have h:=Rp.of (q:=Rat.divInt 0 1) h2;rw [show Rat.divInt 0 1=0 from rfl] at h;exact ⟨y,h1,h,h3,h4⟩
theorem lA {w w':World} (h:Below w.drew.heap.size w.drew w'):Below w.heap.size w w':=⟨h.os,h.tape,h.output,h.size,h.block⟩
theorem nJ:Sz 0 128 128:=by constructor <;> (rw [aA];decide)
theorem uM (w:World) (x:Fx) (z:Int) (hx:x.ok w) (hvx:x.v) (l1:x.xs.length<=10000) (l2:x.ys.length<=10000) (hs:bA x.q 0=z):Calls prog 49 #[x.val] w fun e w'=>e = .returned (.int .i64 z)/\Below w.heap.size w w':=by
 have HS:=ag hs;have HV:=ag hvx;clear hs hvx;go_enter func49,ntmps49;go_wp2_with fail;have b0:=qc w (.cells x.cells 29);have bx:=az w (.bool x.b) (.slice x.A x.xs.length x.c) (.slice x.D x.ys.length x.d);have aa:=hx.below b0;have bw:=b0;clear b0;generalize (w.alloc (.cells x.cells 29))=w1 at bx aa bw|-
 go_region_held3 (fun w'=>w'.cell? ⟨w.heap.size,0,none⟩=some (.bool x.b)/\w'.cell? ⟨w.heap.size,1,none⟩=some (.slice x.A x.xs.length x.c)/\w'.cell? ⟨w.heap.size,2,none⟩=some (.slice x.D x.ys.length x.d))
  (first|exact ⟨bx.c0,bx.c1,bx.c2⟩|go_keep)
  (first
    | (go_at_call 26
       with_reducible refine (oU _).mono ?_
       rintro e wn ⟨y,rfl,hy,an,bb⟩
       repeat replace bb:=lA bb
       have HY:=ag hy;have cF:=ag (hy.v nJ);have HQ:Hd (bA x.q y.q=z):=ag (by rw [hy.q];exact HS.o)
       have sH:=ag (hy.l1 nJ);have sL:=ag (hy.l2 nJ);replace bx:=bx.below bb;replace aa:=aa.below bb;replace bw:=qd bw bb;clear bb hy)
    | (go_at_call 65
       with_reducible refine (jw _ x y z aa an HV.o cF.o l1 l2 sH.o sL.o HQ.o).mono ?_
       rintro e wn ⟨rfl,bb⟩
       repeat replace bb:=lA bb
       replace bx:=bx.below bb;replace bw:=qd bw bb;clear bb))
 go_wp2_with fail;go_ret;exact ⟨rfl,bw⟩
theorem yP (w:World) (x:Fx):RdF (w.alloc (.cells #[.bool x.b, .slice x.A x.xs.length x.c, .slice x.D x.ys.length x.d] 29)) (some ⟨w.heap.size,0,none⟩) [x]:=fun _=>by
 refine ⟨_,rfl,by simp,fun k hk=>?_⟩
 match k,hk with
 | 0,_=>exact ⟨by simp [go_sem,Addr.add],by simp [go_sem,Addr.add],by simp [go_sem,Addr.add]⟩
theorem rdf2 (w:World) (x y:Fx):RdF (w.alloc (.cells #[.bool x.b, .slice x.A x.xs.length x.c, .slice x.D x.ys.length x.d, .bool y.b, .slice y.A y.xs.length y.c, .slice y.D y.ys.length y.d] 29)) (some ⟨w.heap.size,0,none⟩) [x,y]:=fun _=>by
 refine ⟨_,rfl,by simp,fun k hk=>?_⟩
 match k,hk with
 | 0,_=>exact ⟨by simp [go_sem,Addr.add],by simp [go_sem,Addr.add],by simp [go_sem,Addr.add]⟩
 | 1,_=>exact ⟨by simp [go_sem,Addr.add],by simp [go_sem,Addr.add],by simp [go_sem,Addr.add]⟩
theorem Cp {p q:Rat} (h:p<q):bA p q = -1:=by rw [bA,if_pos h]
theorem Cq {p q:Rat} (h:q<p):bA p q=1:=by rw [bA,if_neg (by grind),if_pos h]
theorem Cr {p q:Rat} (h:p=q):bA p q=0:=by subst h;rw [bA,if_neg (by grind),if_neg (by grind)]
theorem tri (p q:Rat):p<q\/p=q\/q<p:=by grind
theorem du (p q:Rat):(p<q/\bA p q = -1)\/(p=q/\bA p q=0)\/(q<p/\bA p q=1):=by
 rcases tri p q with h|h|h
 ·exact .inl ⟨h,Cp h⟩
 ·exact .inr (.inl ⟨h,Cr h⟩)
 ·exact .inr (.inr ⟨h,Cq h⟩)
theorem Fx.ok.drew {x:Fx} {w:World} (h:x.ok w):x.ok w.drew:=h.below ((ah w.heap.size w).drew)
theorem sd {x y:Fx} {p q:Rat} (hx:x.v) (hy:y.v) (ex:x.q=p) (ey:y.q=q) (h:Sz (p+q) 128 128):jl x y=okS (p+q):=by
 rw [jl,if_pos ⟨hx,hy⟩,ex,ey];exact pl h
theorem rJ {x y:Fx} {p q:Rat} (hx:x.v) (hy:y.v) (ex:x.q=p) (ey:y.q=q) (h:Sz (p*q) 128 128):pe x y=okS (p*q):=by
 rw [pe,if_pos ⟨hx,hy⟩,ex,ey];exact pl h
theorem Cs {x y:Fx} {p q:Rat} {z:Int} (hx:x.v) (hy:y.v) (ex:x.q=p) (ey:y.q=q) (h:bA p q=z):xZ x y=(z,0):=by
 rw [xZ,if_pos ⟨hx,hy⟩,ex,ey,h]
theorem Bl {x y:Fx} {p q:Rat} (hx:x.v) (hy:y.v) (ex:x.q=p) (ey:y.q=q) (h:Sz (p-q) 128 128):yw x y=okS (p-q):=by
 rw [yw,if_pos ⟨hx,hy⟩,ex,ey];exact pl h
theorem Rp.zero {x:Fx} {q:Rat} (h:Rp x q):nv x.xs=0↔q=0:=by
 rw [h.n,am,Int.natAbs_eq_zero,Rat.num_eq_zero]
theorem quoF_ok {x y:Fx} {p q:Rat} (hx:x.v) (hy:Rp y q) (ex:x.q=p) (hv:y.v) (hq:q≠0) (h:Sz (p/q) 128 128):uR x y=okS (p/q):=by
 rw [uR,if_pos ⟨hx,hv⟩,if_neg (fun e=>hq (hy.zero.1 e)),ex,hy.q];exact pl h
theorem gp {x:Fx} (hv:x.v):gz x=okS x.q:=(kB hv).1
theorem RdF.below {w w':World} {A:Option Addr} {vs:List Fx} (h:RdF w A vs) (hb:Below w.heap.size w w'):RdF w' A vs:=fun hn=>by
 obtain ⟨ad,e,hl,hc⟩:=h hn;refine ⟨ad,e,Nat.lt_of_lt_of_le hl hb.size,fun k hk=>?_⟩;obtain ⟨h0,h1,h2⟩:=hc k hk;have e2:(ad.add (k*3)).block=ad.block:=aM _ _;exact ⟨(hb.cell (p:=ad.add (k*3)) (by rw [e2];exact hl)).trans h0,(hb.cell (p:=⟨(ad.add (k*3)).block,(ad.add (k*3)).off+1,none⟩) (by show (ad.add (k*3)).block<_;rw [e2];exact hl)).trans h1,(hb.cell (p:=⟨(ad.add (k*3)).block,(ad.add (k*3)).off+2,none⟩) (by show (ad.add (k*3)).block<_;rw [e2];exact hl)).trans h2⟩
def aS:List Fx->List Value
 | [] => []
 | v::vs => .bool v.b :: .slice v.A v.xs.length v.c :: .slice v.D v.ys.length v.d::aS vs
theorem dJ (vs:List Fx):(aS vs).length=vs.length*3:=by
 induction vs with
 | nil=>rfl
 | cons v vs ih=>rw [aS];simp only [List.length_cons,ih];omega
theorem ir (a b:List Fx):aS (a++b)=aS a++aS b:=by
 induction a with
 | nil=>rfl
 | cons v a ih=>rw [List.cons_append,aS,aS,ih];rfl
theorem gH (vs:List Fx):∀k (hk:k<vs.length),(aS vs)[k*3]? = some (.bool vs[k].b)/\(aS vs)[k*3+1]? = some (.slice vs[k].A vs[k].xs.length vs[k].c)/\(aS vs)[k*3+2]? = some (.slice vs[k].D vs[k].ys.length vs[k].d):=by
 induction vs with
 | nil=>intro k hk;simp at hk
 | cons v vs ih=>
   intro k hk
   cases k with
   | zero=>exact ⟨rfl,rfl,rfl⟩
   | succ k=>
     have h:=ih k (by simpa using hk)
     have e:(k+1)*3=k*3+1+1+1:=by omega
     rw [aS,e];simp only [List.getElem?_cons_succ,List.getElem_cons_succ];exact h
theorem mL (vs:List Fx) (j:Nat) (u:Value) (h:(aS vs)[j]? = some u):∃k,∃hk:k<vs.length,(j=k*3/\u = .bool vs[k].b)\/(j=k*3+1/\u = .slice vs[k].A vs[k].xs.length vs[k].c)\/(j=k*3+2/\u = .slice vs[k].D vs[k].ys.length vs[k].d):=by
 have hj:j<vs.length*3:=by
  rcases Nat.lt_or_ge j (vs.length*3) with h1|h1
  ·exact h1
  ·rw [List.getElem?_eq_none (by rw [dJ];exact h1)] at h;cases h
 have hk:j/3<vs.length:=by omega
 obtain ⟨h0,h1,h2⟩:=gH vs (j/3) hk;refine ⟨j/3,hk,?_⟩;have hm:j % 3=0\/j % 3=1\/j % 3=2:=by omega
 rcases hm with e|e|e
 ·left
  have ej:j=j/3*3:=by omega
  rw [ej] at h;exact ⟨ej,Option.some.inj (h.symm.trans h0)⟩
 ·right;left
  have ej:j=j/3*3+1:=by omega
  rw [ej] at h;exact ⟨ej,Option.some.inj (h.symm.trans h1)⟩
 ·right;right
  have ej:j=j/3*3+2:=by omega
  rw [ej] at h;exact ⟨ej,Option.some.inj (h.symm.trans h2)⟩
theorem jd (vs:List Fx):∀u∈aS vs,u.oneCell'=true:=by
 induction vs with
 | nil=>intro u hu;cases hu
 | cons v vs ih=>
   intro u hu;rw [aS] at hu;simp only [List.mem_cons] at hu;rcases hu with rfl|rfl|rfl|hu
   ·rfl
   ·rfl
   ·rfl
   ·exact ih u hu
def Fr (w:World) (B:Nat) (A:Option Addr) (c:Nat) (vs:List Fx):Prop:=World.ownsRow w B 29 3 (.slice A vs.length c) vs.length (aS vs)
theorem vw (g j:Nat):(⟨g,0,none⟩:Addr).add j=⟨g,j,none⟩:=by
 unfold Addr.add
 split
 ·rename_i h;rw [h]
 ·simp
theorem Fr.rd {w:World} {B:Nat} {A:Option Addr} {c:Nat} {vs:List Fx} (h:Fr w B A c vs):RdF w A vs:=fun hn=>by
 have h':=h;rcases h.2 with ⟨_,h0⟩|⟨g,cap,cur,hv,_,hg,_⟩
 ·omega
 ·simp only [Value.slice.injEq] at hv;obtain ⟨rfl,_,rfl⟩:=hv;refine ⟨_,rfl,?_,fun k hk=>?_⟩
  ·exact (Array.getElem?_eq_some_iff.1 hg).1
  ·obtain ⟨h0,h1,h2⟩:=gH vs k hk;have hc:=fun j hj=>World.ownsRow.cellAt h' j hj;rw [vw];exact ⟨(hc (k*3) (by omega)).trans h0,(hc (k*3+1) (by omega)).trans h1,(hc (k*3+2) (by omega)).trans h2⟩
theorem Fr.below {w w':World} {B:Nat} {A:Option Addr} {c:Nat} {vs:List Fx} (h:Fr w B A c vs) (hb:Below w.heap.size w w'):Fr w' B A c vs:=
 World.ownsRow.kept h (w':=w') (row:=none) ⟨hb.os,hb.tape,hb.output,hb.size,fun k hk _=>hb.block k hk⟩ (by
  cases A with
  | none=>exact .inl rfl
  | some ad=>exact .inr (by simp [Value.ownBlock]))
theorem xO:∃i z,prog.info? 29=some i/\i.zero=some z/\i.size=3/\z.cells.size=3/\i.bytes<=1000:=by
 have h:(prog.info? 29).any (fun i=>i.zero.any (fun z=>decide (z.cells.size=3)) && decide (i.size=3) && decide (i.bytes<=1000))=true:=by kernel_rfl
 cases hi:prog.info? 29 with
 | none=>rw [hi] at h;cases h
 | some i=>
   rw [hi] at h
   cases hz:i.zero with
   | none=>simp [hz] at h
   | some z=>
     simp [hz] at h;exact ⟨i,z,rfl,hz,h.1.2,h.1.1,h.2⟩
theorem fS (w:World) {B c:Nat} {A:Option Addr} {xs:List Fx} (hown:Fr w B A c xs) (A2:Option Addr) (c2:Nat) (ys:List Fx) (hr:RdF w A2 ys) (hmax:xs.length+ys.length<=1000) (hbase:B<=w.heap.size) :
 ∃A' c' w',(Builtin.append_ #[22,22] 22 #[.slice A xs.length c, .slice A2 ys.length c2]).run prog w = .ok (.slice A' (xs.length+ys.length) c') w'/\Fr w' B A' c' (xs++ys)/\Below B w w'/\w.grownBy w' (A.map (·.block))/\(A'.map (·.block)=A.map (·.block)\/A'.map (·.block)=some w.heap.size):=by
 obtain ⟨i,z,hi,hz,hsize,hzs,hby⟩:=xO;have hAb:∀k,A.map (·.block)=some k->B<=k:=by
  intro k hk;rcases hown.2 with ⟨hv,_⟩|⟨g,cap,cur,hv,hb,_⟩
  ·simp only [Value.slice.injEq] at hv;obtain ⟨rfl,_,_⟩:=hv;cases hk
  ·simp only [Value.slice.injEq] at hv;obtain ⟨rfl,_,rfl⟩:=hv;simp at hk;omega
 have hob:(Value.slice A xs.length c).ownBlock=A.map (·.block):=by cases A <;> rfl
 cases A2 with
 | none=>
   have hy:ys = []:=by
    rcases Nat.eq_zero_or_pos ys.length with h0|h0
    ·exact List.eq_nil_of_length_eq_zero h0
    ·obtain ⟨ad,h,_⟩:=hr h0;cases h
   subst hy;refine ⟨A,c,w,?_,by rw [List.append_nil];exact hown,ah _ _,World.grownBy.refl _ _, .inl rfl⟩
   rcases hown.2 with ⟨h',hn⟩|⟨g,cap,cur,h',_,_,hnc,_⟩
   ·simp only [Value.slice.injEq] at h';obtain ⟨rfl,_,rfl⟩:=h';simp [Builtin.append_,run_underlying underlying22,sizeOf,typeInfo,hi,Builtin.lenOf,Builtin.firstCells,hn]
   ·simp only [Value.slice.injEq] at h';obtain ⟨rfl,_,rfl⟩:=h';simp [Builtin.append_,run_underlying underlying22,sizeOf,typeInfo,hi,Builtin.lenOf,Builtin.firstCells,hnc,storeCells]
 | some ad=>
   have hnews:∀j u,(aS ys)[j]? = some u->w.cell? (ad.add j)=some u:=by
    intro j u hu;obtain ⟨k,hk,hcase⟩:=mL ys j u hu;obtain ⟨ad',e',_,hc⟩:=hr (by omega)
    injection e' with e';subst e';obtain ⟨h0,h1,h2⟩:=hc k hk;have hoff:(ad.add (k*3)).off=ad.off+k*3:=by
     unfold Addr.add
     split
     ·rename_i h0;rw [h0];rfl
     ·rfl
    rcases hcase with ⟨rfl,rfl⟩|⟨rfl,rfl⟩|⟨rfl,rfl⟩
    ·exact h0
    ·rw [show ad.add (k*3+1)=⟨(ad.add (k*3)).block,(ad.add (k*3)).off+1,none⟩ from by rw [aM,hoff];exact if_neg (by omega)]
     exact h1
    ·rw [show ad.add (k*3+2)=⟨(ad.add (k*3)).block,(ad.add (k*3)).off+2,none⟩ from by rw [aM,hoff];exact if_neg (by omega)]
     exact h2
   obtain ⟨v',w',hrun,hown',hg,_,hat⟩:=run_append_own_at (P:=prog) w B 22 22 29 i z 3 i.bytes underlying22 hi hz hsize rfl hzs (by omega) (.slice A xs.length c) xs.length (aS xs) hown ad ys.length c2 (aS ys) (dJ ys) hnews
    (jd ys) (by simp only [maxLen];omega) (by have:=Nat.mul_le_mul hmax hby;omega) hbase
   have hform:∃A' c',v' = .slice A' (xs.length+ys.length) c':=by
    rcases hown'.2 with ⟨rfl,hn⟩|⟨g,cap,cur,rfl,_⟩
    ·exact ⟨none,0,by rw [hn]⟩
    ·exact ⟨_,_,rfl⟩
   obtain ⟨A',c',rfl⟩:=hform;have hob':(Value.slice A' (xs.length+ys.length) c').ownBlock=A'.map (·.block):=by cases A' <;> rfl
   rw [hob,hob'] at hat;rw [hob] at hg;refine ⟨A',c',w',hrun,?_,(ah _ _).grown hg hbase hAb,hg,hat⟩;unfold Fr;rw [List.length_append,ir];exact hown'
theorem ek (w:World) {ops:Array Oper} {o:Oper} {a:Act} {K:Act->World->Prop} {Q:Exit->Act->World->Prop} {X:Prop} (hgd:o.guard=none) (s x:Operand)
 (ho:o.op = .call { callee := .builtin .append,args := #[s,x],argTypes := #[22,22]}) (hty:o.type=22)
 {B c n:Nat} {A:Option Addr} {xs:List Fx} (hs:a.eval s = .slice A n c) (hn:n=xs.length) (hown:Fr w B A c xs)
 (A2:Option Addr) (m c2:Nat) (ys:List Fx) (hx:a.eval x = .slice A2 m c2) (hm:m=ys.length) (hr:RdF w A2 ys) (hmax:n+m<=1000) (hbase:B<=w.heap.size)
 (h:∀A' c' w',Fr w' B A' c' (xs++ys)->Below B w w'->w.grownBy w' (A.map (·.block))->(A'.map (·.block)=A.map (·.block)\/A'.map (·.block)=some w.heap.size)->K (a.put o.dst (.slice A' (n+m) c')) w') :
 if Region.wanted o (yielded ops a.tmps)=true then Oper.wp prog o a w K Q else X:=by
 have hw:Region.wanted o (yielded ops a.tmps)=true:=by simp [Region.wanted,hgd]
 rw [if_pos hw];subst hn hm;obtain ⟨A',c',w',hrun,h1,h3,h4,h5⟩:=fS w hown A2 c2 ys hr hmax hbase;unfold Oper.wp execOp;simp only [ho,hty,resolve,invoke,builtin,Sem.run_bind,Sem.run_pure,Result.andThen_ok,List.map_toArray,List.map_cons,List.map_nil,hs,hx,hrun];exact h A' c' w' h1 h3 h4 h5
theorem Fr.lt {w:World} {B:Nat} {A:Option Addr} {c:Nat} {vs:List Fx} (h:Fr w B A c vs):∀k,A.map (·.block)=some k->B<=k/\k<w.heap.size:=by
 intro k hk;rcases h.2 with ⟨hv,_⟩|⟨g,cap,cur,hv,hb,hg,_⟩
 ·simp only [Value.slice.injEq] at hv;obtain ⟨rfl,_,_⟩:=hv;cases hk
 ·simp only [Value.slice.injEq] at hv;obtain ⟨rfl,_,rfl⟩:=hv;simp at hk;subst hk;exact ⟨hb,(Array.getElem?_eq_some_iff.1 hg).1⟩
end Go.Proofs.YtkpfbekmaafehaaGreat
