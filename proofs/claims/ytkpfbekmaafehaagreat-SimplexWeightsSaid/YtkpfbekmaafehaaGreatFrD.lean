/- The walk of same.Nat: two numbers have the same limbs -/
import Derived.Test.YtkpfbekmaafehaaGreatNatA
import Derived.Test.YtkpfbekmaafehaaGreatFrC
namespace Go.Proofs.YtkpfbekmaafehaaGreat
open _root_.Go.Proofs.Tryz
set_option maxHeartbeats 8000000
set_option maxRecDepth 100000
open Go.RowKit
def RdF (w:World) (A:Option Addr) (vs:List Fx):Prop:=0<vs.length->∃ad,A=some ad/\ad.block<w.heap.size /\
 ∀k (hk:k<vs.length),w.cell? (ad.add (k*3))=some (.bool vs[k].b)/\w.cell? ⟨(ad.add (k*3)).block,(ad.add (k*3)).off+1,none⟩=some (.slice vs[k].A vs[k].xs.length vs[k].c)/\w.cell? ⟨(ad.add (k*3)).block,(ad.add (k*3)).off+2,none⟩=some (.slice vs[k].D vs[k].ys.length vs[k].d)
theorem fq (w:World) (g i:Nat) (cs:Array Value) (t:TypeId) (fr:Nat×Nat) (v:Value) (hg:w.heap[g]? = some (.cells cs t fr)) :
 (w.setCell ⟨g,i,none⟩ v).heap[g]? = some (.cells (cs.setIfInBounds i v) t fr):=by
 simp [World.setCell,Array.getElem?_modify,hg]
theorem Cw {w:World} {G:Nat} {v0 v1 v2 a b c:Value} (bk:Bk3 w G v0 v1 v2):Bk3 (((w.setCell ⟨G,0,none⟩ a).setCell ⟨G,1,none⟩ b).setCell ⟨G,2,none⟩ c) G a b c:=by
 obtain ⟨k0,k1,k2,f0,f1,f2,lt,t,fr,e⟩:=bk;refine ⟨?_,?_,?_,?_,?_,?_,?_,t,fr,?_⟩
 ·simp [go_sem,k0]
 ·simp [go_sem,k1]
 ·simp [go_sem,k2]
 ·simp [go_sem,f0]
 ·simp [go_sem,f1]
 ·simp [go_sem,f2]
 ·simp [World.setCell];exact lt
 ·exact fq _ _ _ _ _ _ _ (fq _ _ _ _ _ _ _ (fq _ _ _ _ _ _ _ e))
structure Fa (w:World) (G:Nat) (x:Fx):Prop where
 bk:Bk3 w G (.bool x.b) (.slice x.A x.xs.length x.c) (.slice x.D x.ys.length x.d)
 ok:x.ok w
section
variable {w w':World} {G H:Nat} {x y:Fx}
theorem Fa.c0 (h:Fa w G x):w.cell? ⟨G,0,none⟩=some (.bool x.b):=h.bk.c0
theorem Fa.c1 (h:Fa w G x):w.cell? ⟨G,1,none⟩=some (.slice x.A x.xs.length x.c):=h.bk.c1
theorem Fa.c2 (h:Fa w G x):w.cell? ⟨G,2,none⟩=some (.slice x.D x.ys.length x.d):=h.bk.c2
theorem Fa.lt (h:Fa w G x):G<w.heap.size:=h.bk.lt
theorem Fa.below (h:Fa w G x) (hb:Below w.heap.size w w'):Fa w' G x:=⟨h.bk.below hb,h.ok.below hb⟩
theorem Fa.of_bk (bk:Bk3 w G (.bool x.b) (.slice x.A x.xs.length x.c) (.slice x.D x.ys.length x.d)) (h:x.ok w):Fa w G x:=⟨bk,h⟩
theorem tO {a b c:Value} (hne:H≠G):(((w.setCell ⟨H,0,none⟩ a).setCell ⟨H,1,none⟩ b).setCell ⟨H,2,none⟩ c).heap[G]? = w.heap[G]? :=by
 rw [heap_setCell_other _ _ _ _ (by exact fun e=>hne e.symm),heap_setCell_other _ _ _ _ (by exact fun e=>hne e.symm),heap_setCell_other _ _ _ _ (by exact fun e=>hne e.symm)]
theorem Bk3.far {v0 v1 v2 a b c:Value} (h:Bk3 w G v0 v1 v2) (hne:H≠G):Bk3 (((w.setCell ⟨H,0,none⟩ a).setCell ⟨H,1,none⟩ b).setCell ⟨H,2,none⟩ c) G v0 v1 v2:=by
 have hg:=tO (w:=w) (a:=a) (b:=b) (c:=c) hne;refine ⟨aQ h.c0 hne,aQ h.c1 hne,aQ h.c2 hne,?_,?_,?_,by simp [World.setCell];exact h.lt,by rw [hg];exact h.blk⟩
 ·rw [<-h.f0];unfold World.frozen?;rw [hg]
 ·rw [<-h.f1];unfold World.frozen?;rw [hg]
 ·rw [<-h.f2];unfold World.frozen?;rw [hg]
theorem Fa.put {z:Fx} (k:Fa w H y) (h:z.ok w):Fa (((w.setCell ⟨H,0,none⟩ (.bool z.b)).setCell ⟨H,1,none⟩ (.slice z.A z.xs.length z.c)).setCell ⟨H,2,none⟩ (.slice z.D z.ys.length z.d)) H z:=
 ⟨Cw k.bk,bD h k.bk rfl rfl rfl⟩
end
theorem au {w:World} {x:Fx} (h:x.ok w):Fa (w.alloc (.cells x.cells 29)) w.heap.size x/\Below w.heap.size w (w.alloc (.cells x.cells 29)):=by
 have b0:=qc w (.cells x.cells 29);exact ⟨Fa.of_bk (az w _ _ _) (h.below b0),b0⟩
theorem Ct (a b:Nat) : -1<=i6 a b/\i6 a b<=1:=by
 unfold i6
 repeat' split
 all_goals omega
def xZ (x y:Fx):Int×Int:=if x.v/\y.v then (bA x.q y.q,0) else (0,1)
def Cy (w:World) (p:Int×Int) (e:Ending) (w':World):Prop:=e = .returned (.tuple #[.int .i64 p.1, .int .i64 p.2])/\Below w.heap.size w w'
theorem Ah (w:World) (x y:Fx) (S:Int×Int) (hx:x.ok w) (hy:y.ok w) (l1:x.xs.length<=10000) (l2:x.ys.length<=10000) (m1:y.xs.length<=10000) (m2:y.ys.length<=10000) (hs:xZ x y=S):Calls prog 116 #[x.val,y.val] w (Cy w S):=by
 have HS:=ag hs;clear hs;by_cases hv:x.v/\y.v
 ·have HV:=ag hv;have bX:=ag hv.1;have cF:=ag hv.2;have DX:Hd (nv x.ys≠0):=ag hv.1.1;have DY:Hd (nv y.ys≠0):=ag hv.2.1;have lx1:(lim (nv x.xs)).length<=128:=hv.1.2.2;have lx2:(lim (nv x.ys)).length<=128:=hv.1.2.1;have ly1:(lim (nv y.xs)).length<=128:=hv.2.2.2;have ly2:(lim (nv y.ys)).length<=128:=hv.2.2.1;obtain ⟨z,hz⟩:∃z,i6 (nv x.xs*nv y.ys) (nv y.xs*nv x.ys)=z:=⟨_,rfl⟩;have hz1 : -1<=z/\z<=1:=by rw [<-hz];exact Ct _ _
  obtain ⟨hz1,hz2⟩:=hz1;have HZ:Hd (i6 (nv (lim (nv x.xs*nv y.ys))) (nv (lim (nv y.xs*nv x.ys)))=z):=ag (by rw [am,am];exact hz)
  have hcode:=mM (b:=x.b) (b':=y.b) (n:=nv x.xs) (n':=nv y.xs) hv.1.1 hv.2.1;rw [hz] at hcode;obtain ⟨a1,ha1⟩:∃a1,(x.b && decide (nv x.xs≠0))=a1:=⟨_,rfl⟩;obtain ⟨a2,ha2⟩:∃a2,(y.b && decide (nv y.xs≠0))=a2:=⟨_,rfl⟩;rw [ha1,ha2] at hcode;have E4:=ag hcode;have m8:=ag ha1;have oa:=ag ha2;clear hv hz hcode ha1 ha2;go_enter func116,ntmps116;go_wp2_with fail;have b0:=qc w (.cells x.cells 29);have bx:=az w (.bool x.b) (.slice x.A x.xs.length x.c) (.slice x.D x.ys.length x.d);have aa:=hx.below b0;have an:=hy.below b0;have sz0:=aB w (.cells x.cells 29)
  have bw:=b0;clear b0;generalize (w.alloc (.cells x.cells 29))=wa at bx aa an sz0 bw|-;have b1:=qc wa (.cells y.cells 29);have al:=az wa (.bool y.b) (.slice y.A y.xs.length y.c) (.slice y.D y.ys.length y.d);rw [sz0] at al;replace bx:=bx.below b1;replace aa:=aa.below b1;replace an:=an.below b1;replace bw:=qd bw b1;clear b1 sz0;generalize (wa.alloc (.cells y.cells 29))=w1 at bx al aa an bw|-;refine (aP w1 x true aa l1 l2 (decide_eq_true bX.o)).mono ?_;rintro e wn ⟨rfl,bb⟩;replace bx:=bx.below bb;replace al:=al.below bb;replace aa:=aa.below bb
  replace an:=an.below bb;replace bw:=qd bw bb;clear bb;have ty:=al;obtain ⟨y0,y1,y2,yf0,yf1,yf2,ylt,yb⟩:=ty;clear yb;go_wp2_with fail;clear y0 y1 y2 yf0 yf1 yf2 ylt;refine (aP wn y true an m1 m2 (decide_eq_true cF.o)).mono ?_;rintro e wn ⟨rfl,bb⟩;replace bx:=bx.below bb;replace al:=al.below bb;replace aa:=aa.below bb;replace an:=an.below bb;replace bw:=qd bw bb;clear bb;go_upto_region 3 with fail
  go_cut [6] (fun zv wx=>zv = .int .i64 z/\Below wn.heap.size wn wx)
  case first=>
   have bw0:=ah wn.heap.size wn;have bb:=dd (ah wn.heap.size wn);replace bw0:=qd bw0 bb;replace bx:=bx.below bb;replace al:=al.below bb;replace aa:=aa.below bb;replace an:=an.below bb;replace bw:=qd bw bb;clear bb
   go_region_held3 (fun w'=>w'.cell? ⟨w.heap.size,0,none⟩=some (.bool x.b)/\w'.cell? ⟨w.heap.size,1,none⟩=some (.slice x.A x.xs.length x.c)/\w'.cell? ⟨w.heap.size,2,none⟩=some (.slice x.D x.ys.length x.d)/\w'.cell? ⟨w.heap.size+1,0,none⟩=some (.bool y.b)/\w'.cell? ⟨w.heap.size+1,1,none⟩=some (.slice y.A y.xs.length y.c)/\w'.cell? ⟨w.heap.size+1,2,none⟩=some (.slice y.D y.ys.length y.d))
    (first|exact ⟨bx.c0,bx.c1,bx.c2,al.c0,al.c1,al.c2⟩|go_keep)
    (first
      | (go_at_call 117
         with_reducible refine (ew _ x.A y.D x.c y.d _ _ x.xs y.ys aa.num an.den rfl rfl lx1 ly2).mono ?_
         rintro e wn ⟨AN,cN,rfl,na,bb⟩
         try replace nb:=nb.below bb
         replace bw0:=qd bw0 bb;replace bx:=bx.below bb;replace al:=al.below bb;replace aa:=aa.below bb;replace an:=an.below bb;clear bb)
      | (go_at_call 117
         with_reducible refine (ew _ y.A x.D y.c x.d _ _ y.xs x.ys an.num aa.den rfl rfl ly1 lx2).mono ?_
         rintro e wn ⟨AD,cD,rfl,nb,bb⟩
         try replace na:=na.below bb
         replace bw0:=qd bw0 bb;replace bx:=bx.below bb;replace al:=al.below bb;replace aa:=aa.below bb;replace an:=an.below bb;clear bb)
      | (go_at_call 82
         with_reducible refine (fY _ AN AD cN cD _ _ (lim (nv x.xs*nv y.ys)) (lim (nv y.xs*nv x.ys)) z na nb rfl rfl HZ.o).mono ?_
         rintro e wn ⟨rfl,qq⟩;have bb:=qq.keep;replace bw0:=qd bw0 bb;replace bx:=bx.below bb;replace al:=al.below bb;clear bb qq))
   all_goals
    go_wp2_with fail;go_meet
    case rel=>exact ⟨rfl,bw0⟩
  case rest=>
   obtain ⟨rfl,bb⟩:=hcut;replace bx:=bx.below bb;replace al:=al.below bb;replace aa:=aa.below bb;replace an:=an.below bb;replace bw:=qd bw bb;clear bb;go_upto_region 4 with fail
   go_cut [7,8] (fun av bv wx=>av = .bool a1/\bv = .bool a2/\Below wc.heap.size wc wx)
   case first=>
    have bw0:=ah wc.heap.size wc;have bb:=dd (ah wc.heap.size wc);replace bw0:=qd bw0 bb;replace bx:=bx.below bb;replace al:=al.below bb;replace aa:=aa.below bb;replace an:=an.below bb;replace bw:=qd bw bb;clear bb;cases hxb:x.b
    ·cases hyb:y.b
     all_goals
      skip
      have tx:=bx;obtain ⟨x0,x1,x2,xf0,xf1,xf2,xlt,xb⟩:=tx;clear xb;have ty:=al;obtain ⟨y0,y1,y2,yf0,yf1,yf2,ylt,yb⟩:=ty;clear yb
      go_region_with (first
       | (go_at_call 122
          with_reducible refine (fw _ ⟨true,x.A,x.c,x.xs,x.D,x.d,x.ys⟩ (decide (nv x.xs=0)) aa.num l1 rfl).mono ?_
          rintro e wn ⟨rfl,bb⟩;replace bw0:=qd bw0 bb;replace bx:=bx.below bb;replace al:=al.below bb;replace aa:=aa.below bb;replace an:=an.below bb;clear bb;have tx:=bx;obtain ⟨x0,x1,x2,xf0,xf1,xf2,xlt,_⟩:=tx;have ty:=al;obtain ⟨y0,y1,y2,yf0,yf1,yf2,ylt,_⟩:=ty)
       | (go_at_call 122
          with_reducible refine (fw _ ⟨true,y.A,y.c,y.xs,y.D,y.d,y.ys⟩ (decide (nv y.xs=0)) an.num m1 rfl).mono ?_
          rintro e wn ⟨rfl,bb⟩;replace bw0:=qd bw0 bb;replace bx:=bx.below bb;replace al:=al.below bb;replace aa:=aa.below bb;replace an:=an.below bb;clear bb;have tx:=bx;obtain ⟨x0,x1,x2,xf0,xf1,xf2,xlt,_⟩:=tx;have ty:=al;obtain ⟨y0,y1,y2,yf0,yf1,yf2,ylt,_⟩:=ty))
      all_goals
       skip
       go_wp2_with fail;go_meet
       case rel=>exact ⟨congrArg Value.bool (by rw [<-m8.o,hxb];simp),congrArg Value.bool (by rw [<-oa.o,hyb];simp),bw0⟩
    ·cases hyb:y.b
     ·skip
      have tx:=bx;obtain ⟨x0,x1,x2,xf0,xf1,xf2,xlt,xb⟩:=tx;clear xb;have ty:=al;obtain ⟨y0,y1,y2,yf0,yf1,yf2,ylt,yb⟩:=ty;clear yb
      go_region_with (first
       | (go_at_call 122
          with_reducible refine (fw _ ⟨true,x.A,x.c,x.xs,x.D,x.d,x.ys⟩ (decide (nv x.xs=0)) aa.num l1 rfl).mono ?_
          rintro e wn ⟨rfl,bb⟩;replace bw0:=qd bw0 bb;replace bx:=bx.below bb;replace al:=al.below bb;replace aa:=aa.below bb;replace an:=an.below bb;clear bb;have tx:=bx;obtain ⟨x0,x1,x2,xf0,xf1,xf2,xlt,_⟩:=tx;have ty:=al;obtain ⟨y0,y1,y2,yf0,yf1,yf2,ylt,_⟩:=ty)
       | (go_at_call 122
          with_reducible refine (fw _ ⟨true,y.A,y.c,y.xs,y.D,y.d,y.ys⟩ (decide (nv y.xs=0)) an.num m1 rfl).mono ?_
          rintro e wn ⟨rfl,bb⟩;replace bw0:=qd bw0 bb;replace bx:=bx.below bb;replace al:=al.below bb;replace aa:=aa.below bb;replace an:=an.below bb;clear bb;have tx:=bx;obtain ⟨x0,x1,x2,xf0,xf1,xf2,xlt,_⟩:=tx;have ty:=al;obtain ⟨y0,y1,y2,yf0,yf1,yf2,ylt,_⟩:=ty))
      all_goals
       skip
       go_wp2_with fail;go_meet
       case rel=>exact ⟨congrArg Value.bool (by rw [<-m8.o,hxb];simp),congrArg Value.bool (by rw [<-oa.o,hyb];simp),bw0⟩
     ·skip
      go_region_held3 (fun w'=>w'.cell? ⟨w.heap.size,0,none⟩=some (.bool x.b)/\w'.cell? ⟨w.heap.size,1,none⟩=some (.slice x.A x.xs.length x.c)/\w'.cell? ⟨w.heap.size,2,none⟩=some (.slice x.D x.ys.length x.d)/\w'.cell? ⟨w.heap.size+1,0,none⟩=some (.bool y.b)/\w'.cell? ⟨w.heap.size+1,1,none⟩=some (.slice y.A y.xs.length y.c)/\w'.cell? ⟨w.heap.size+1,2,none⟩=some (.slice y.D y.ys.length y.d))
       (first|exact ⟨bx.c0,bx.c1,bx.c2,al.c0,al.c1,al.c2⟩|go_keep)
       (first
         | (go_at_call 122
            with_reducible refine (fw _ ⟨true,x.A,x.c,x.xs,x.D,x.d,x.ys⟩ (decide (nv x.xs=0)) aa.num l1 rfl).mono ?_
            rintro e wn ⟨rfl,bb⟩;replace bw0:=qd bw0 bb;replace bx:=bx.below bb;replace al:=al.below bb;replace aa:=aa.below bb;replace an:=an.below bb;clear bb;have tx:=bx;obtain ⟨x0,x1,x2,xf0,xf1,xf2,xlt,_⟩:=tx;have ty:=al;obtain ⟨y0,y1,y2,yf0,yf1,yf2,ylt,_⟩:=ty)
         | (go_at_call 122
            with_reducible refine (fw _ ⟨true,y.A,y.c,y.xs,y.D,y.d,y.ys⟩ (decide (nv y.xs=0)) an.num m1 rfl).mono ?_
            rintro e wn ⟨rfl,bb⟩;replace bw0:=qd bw0 bb;replace bx:=bx.below bb;replace al:=al.below bb;replace aa:=aa.below bb;replace an:=an.below bb;clear bb;have tx:=bx;obtain ⟨x0,x1,x2,xf0,xf1,xf2,xlt,_⟩:=tx;have ty:=al;obtain ⟨y0,y1,y2,yf0,yf1,yf2,ylt,_⟩:=ty))
      all_goals
       skip
       go_wp2_with fail;go_meet
       case rel=>exact ⟨congrArg Value.bool (by rw [<-m8.o,hxb];simp),congrArg Value.bool (by rw [<-oa.o,hyb];simp),bw0⟩
   case rest=>
    obtain ⟨rfl,rfl,bb⟩:=hcut;replace bx:=bx.below bb;replace al:=al.below bb;replace aa:=aa.below bb;replace an:=an.below bb;replace bw:=qd bw bb;clear bb;have hneg:IntKind.i64.wrap (-z) = -z:=IntWalk.i64_in _ (by omega)
    cases a1 <;> cases a2
    all_goals
     go_wp2_with fail
     go_ret2
     refine ⟨?_,bw⟩;rw [<-HS.o,xZ,if_pos HV.o,Fx.q,Fx.q,E4.o];rfl
 ·by_cases hvx:x.v
  ·have hvy:¬y.v:=fun h=>hv ⟨hvx,h⟩;have bX:=ag hvx;have cF:Hd (¬y.v):=hvy;have HV:Hd (¬(x.v/\y.v)):=hv;clear hvx hvy hv;go_enter func116,ntmps116;go_wp2_with fail;have b0:=qc w (.cells x.cells 29);have bx:=az w (.bool x.b) (.slice x.A x.xs.length x.c) (.slice x.D x.ys.length x.d);have aa:=hx.below b0;have an:=hy.below b0;have sz0:=aB w (.cells x.cells 29);have bw:=b0;clear b0;generalize (w.alloc (.cells x.cells 29))=wa at bx aa an sz0 bw|-;have b1:=qc wa (.cells y.cells 29);have al:=az wa (.bool y.b) (.slice y.A y.xs.length y.c) (.slice y.D y.ys.length y.d)
   rw [sz0] at al;replace bx:=bx.below b1;replace aa:=aa.below b1;replace an:=an.below b1;replace bw:=qd bw b1;clear b1 sz0;generalize (wa.alloc (.cells y.cells 29))=w1 at bx al aa an bw|-;refine (aP w1 x true aa l1 l2 (decide_eq_true bX.o)).mono ?_;rintro e wn ⟨rfl,bb⟩;replace bx:=bx.below bb;replace al:=al.below bb;replace aa:=aa.below bb;replace an:=an.below bb;replace bw:=qd bw bb;clear bb;have ty:=al;obtain ⟨y0,y1,y2,yf0,yf1,yf2,ylt,yb⟩:=ty;clear yb;go_wp2_with fail;clear y0 y1 y2 yf0 yf1 yf2 ylt;refine (aP wn y false an m1 m2 (decide_eq_false cF.o)).mono ?_
   rintro e wn ⟨rfl,bb⟩;replace bx:=bx.below bb;replace al:=al.below bb;replace aa:=aa.below bb;replace an:=an.below bb;replace bw:=qd bw bb;clear bb;go_wp2_with fail
   go_ret2
   rw [<-HS.o,xZ,if_neg HV.o];exact ⟨rfl,bw⟩
  ·have bX:Hd (¬x.v):=hvx;have HV:Hd (¬(x.v/\y.v)):=hv;clear hvx hv;go_enter func116,ntmps116;go_wp2_with fail;have b0:=qc w (.cells x.cells 29);have bx:=az w (.bool x.b) (.slice x.A x.xs.length x.c) (.slice x.D x.ys.length x.d);have aa:=hx.below b0;have an:=hy.below b0;have sz0:=aB w (.cells x.cells 29);have bw:=b0;clear b0;generalize (w.alloc (.cells x.cells 29))=wa at bx aa an sz0 bw|-;have b1:=qc wa (.cells y.cells 29);have al:=az wa (.bool y.b) (.slice y.A y.xs.length y.c) (.slice y.D y.ys.length y.d)
   rw [sz0] at al;replace bx:=bx.below b1;replace aa:=aa.below b1;replace an:=an.below b1;replace bw:=qd bw b1;clear b1 sz0;generalize (wa.alloc (.cells y.cells 29))=w1 at bx al aa an bw|-;refine (aP w1 x false aa l1 l2 (decide_eq_false bX.o)).mono ?_;rintro e wn ⟨rfl,bb⟩;replace bx:=bx.below bb;replace al:=al.below bb;replace aa:=aa.below bb;replace an:=an.below bb;replace bw:=qd bw bb;clear bb;go_wp2_with fail
   go_ret2
   rw [<-HS.o,xZ,if_neg HV.o];exact ⟨rfl,bw⟩
end Go.Proofs.YtkpfbekmaafehaaGreat
