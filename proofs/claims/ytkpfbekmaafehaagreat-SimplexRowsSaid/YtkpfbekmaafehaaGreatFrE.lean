/- The walk of same.Nat: two numbers have the same limbs -/
import Derived.Test.YtkpfbekmaafehaaGreatNatA
import Derived.Test.YtkpfbekmaafehaaGreatFrC
namespace Go.Proofs.YtkpfbekmaafehaaGreat
set_option maxRecDepth 100000
open Go.RowKit
set_option maxRecDepth 100000
open Go.RowKit
set_option maxRecDepth 100000
open Go.RowKit
def RdF (w:World) (A:Option Addr) (vs:List Fx):Prop:=0<vs.length→∃ad,A=some ad∧ad.block<w.heap.size ∧
 ∀k (hk:k<vs.length),w.cell? (ad.add (k*3))=some (.bool vs[k].b)∧w.cell? ⟨(ad.add (k*3)).block,(ad.add (k*3)).off+1,none⟩=some (.slice vs[k].A vs[k].xs.length vs[k].c)∧w.cell? ⟨(ad.add (k*3)).block,(ad.add (k*3)).off+2,none⟩=some (.slice vs[k].D vs[k].ys.length vs[k].d)
set_option maxRecDepth 100000
open Go.RowKit
theorem fq (w:World) (g i:Nat) (cs:Array Value) (t:TypeId) (fr:Nat×Nat) (v:Value) (hg:w.heap[g]? = some (.cells cs t fr)) :
 (w.setCell ⟨g,i,none⟩ v).heap[g]? = some (.cells (cs.setIfInBounds i v) t fr):=by
 simp [World.setCell,Array.getElem?_modify,hg]
theorem Cw {w:World} {G:Nat} {v0 v1 v2 a b c:Value} (bk:Bk3 w G v0 v1 v2):Bk3 (((w.setCell ⟨G,0,none⟩ a).setCell ⟨G,1,none⟩ b).setCell ⟨G,2,none⟩ c) G a b c:=by
 obtain ⟨k0,k1,k2,f0,f1,f2,lt,t,fr,e⟩:=bk;refine ⟨?_,?_,?_,?_,?_,?_,?_,t,fr,?_⟩
 ·simp [go_sem,k0]
 ·simp [go_sem,k1]
 ·simp [go_sem,k2]
 ·simp [go_sem,f0]
 ·simp [go_sem,f1]
 ·simp [go_sem,f2]
 ·simp [World.setCell];exact lt
 ·exact fq _ _ _ _ _ _ _ (fq _ _ _ _ _ _ _ (fq _ _ _ _ _ _ _ e))
structure Fa (w:World) (G:Nat) (x:Fx):Prop where
 bk:Bk3 w G (.bool x.b) (.slice x.A x.xs.length x.c) (.slice x.D x.ys.length x.d)
 ok:x.ok w
section
variable {w w':World} {G H:Nat} {x y:Fx}
theorem Fa.c0 (h:Fa w G x):w.cell? ⟨G,0,none⟩=some (.bool x.b):=h.bk.c0
theorem Fa.c1 (h:Fa w G x):w.cell? ⟨G,1,none⟩=some (.slice x.A x.xs.length x.c):=h.bk.c1
theorem Fa.c2 (h:Fa w G x):w.cell? ⟨G,2,none⟩=some (.slice x.D x.ys.length x.d):=h.bk.c2
theorem Fa.lt (h:Fa w G x):G<w.heap.size:=h.bk.lt
theorem Fa.below (h:Fa w G x) (hb:Below w.heap.size w w'):Fa w' G x:=⟨h.bk.below hb,h.ok.below hb⟩
theorem Fa.of_bk (bk:Bk3 w G (.bool x.b) (.slice x.A x.xs.length x.c) (.slice x.D x.ys.length x.d)) (h:x.ok w):Fa w G x:=⟨bk,h⟩
theorem tO {a b c:Value} (hne:H≠G):(((w.setCell ⟨H,0,none⟩ a).setCell ⟨H,1,none⟩ b).setCell ⟨H,2,none⟩ c).heap[G]? = w.heap[G]? :=by
 rw [heap_setCell_other _ _ _ _ (by exact fun e=>hne e.symm),heap_setCell_other _ _ _ _ (by exact fun e=>hne e.symm),heap_setCell_other _ _ _ _ (by exact fun e=>hne e.symm)]
theorem Bk3.far {v0 v1 v2 a b c:Value} (h:Bk3 w G v0 v1 v2) (hne:H≠G):Bk3 (((w.setCell ⟨H,0,none⟩ a).setCell ⟨H,1,none⟩ b).setCell ⟨H,2,none⟩ c) G v0 v1 v2:=by
 have hg:=tO (w:=w) (a:=a) (b:=b) (c:=c) hne;refine ⟨aQ h.c0 hne,aQ h.c1 hne,aQ h.c2 hne,?_,?_,?_,by simp [World.setCell];exact h.lt,by rw [hg];exact h.blk⟩
 ·rw [←h.f0];unfold World.frozen?;rw [hg]
 ·rw [←h.f1];unfold World.frozen?;rw [hg]
 ·rw [←h.f2];unfold World.frozen?;rw [hg]
theorem Fa.put {z:Fx} (k:Fa w H y) (h:z.ok w):Fa (((w.setCell ⟨H,0,none⟩ (.bool z.b)).setCell ⟨H,1,none⟩ (.slice z.A z.xs.length z.c)).setCell ⟨H,2,none⟩ (.slice z.D z.ys.length z.d)) H z:=
 ⟨Cw k.bk,bD h k.bk rfl rfl rfl⟩
end
theorem au {w:World} {x:Fx} (h:x.ok w):Fa (w.alloc (.cells x.cells 29)) w.heap.size x∧Below w.heap.size w (w.alloc (.cells x.cells 29)):=by
 have b0:=(ah w.heap.size w).alloc (Nat.le_refl _) (.cells x.cells 29);exact ⟨Fa.of_bk (az w _ _ _) (h.below b0),b0⟩
set_option maxRecDepth 100000
open Go.RowKit
theorem Ct (a b:Nat) : -1≤cx a b∧cx a b≤1:=by
 unfold cx
 repeat' split
 all_goals omega
def xZ (x y:Fx):Int×Int:=if x.v∧y.v then (bA x.q y.q,0) else (0,1)
def Cy (w:World) (p:Int×Int) (e:Ending) (w':World):Prop:=e = .returned (.tuple #[.int .i64 p.1, .int .i64 p.2])∧Below w.heap.size w w'
set_option maxHeartbeats 4000000 in
theorem Ah (w:World) (x y:Fx) (S:Int×Int) (hx:x.ok w) (hy:y.ok w) (l1:x.xs.length≤10000) (l2:x.ys.length≤10000) (m1:y.xs.length≤10000) (m2:y.ys.length≤10000) (hs:xZ x y=S):Calls Tryz.prog 116 #[x.val,y.val] w (Cy w S):=by
 have HS:=ag hs;clear hs;by_cases hv:x.v∧y.v
 ·have HV:=ag hv;have HVX:=ag hv.1;have HVY:=ag hv.2;have DX:Hid (nv x.ys≠0):=ag hv.1.1;have DY:Hid (nv y.ys≠0):=ag hv.2.1;have lx1:(lim (nv x.xs)).length≤128:=hv.1.2.2;have lx2:(lim (nv x.ys)).length≤128:=hv.1.2.1;have ly1:(lim (nv y.xs)).length≤128:=hv.2.2.2;have ly2:(lim (nv y.ys)).length≤128:=hv.2.2.1;obtain ⟨z,hz⟩:∃z,cx (nv x.xs*nv y.ys) (nv y.xs*nv x.ys)=z:=⟨_,rfl⟩;have hz1 : -1≤z∧z≤1:=by rw [←hz];exact Ct _ _
  obtain ⟨hz1,hz2⟩:=hz1;have HZ:Hid (cx (nv (lim (nv x.xs*nv y.ys))) (nv (lim (nv y.xs*nv x.ys)))=z):=ag (by rw [am,am];exact hz)
  have hcode:=mM (b:=x.b) (b':=y.b) (n:=nv x.xs) (n':=nv y.xs) hv.1.1 hv.2.1;rw [hz] at hcode;obtain ⟨a1,ha1⟩:∃a1,(x.b && decide (nv x.xs≠0))=a1:=⟨_,rfl⟩;obtain ⟨a2,ha2⟩:∃a2,(y.b && decide (nv y.xs≠0))=a2:=⟨_,rfl⟩;rw [ha1,ha2] at hcode;have HCODE:=ag hcode;have HA1:=ag ha1;have HA2:=ag ha2;clear hv hz hcode ha1 ha2;go_enter Tryz.func116,Tryz.ntmps116;go_wp2_with fail;have b0:=(ah w.heap.size w).alloc (Nat.le_refl _) (.cells x.cells 29);have bx:=az w (.bool x.b) (.slice x.A x.xs.length x.c) (.slice x.D x.ys.length x.d);have okx:=hx.below b0;have oky:=hy.below b0;have sz0:=aB w (.cells x.cells 29)
  have bw:=b0;clear b0;generalize (w.alloc (.cells x.cells 29))=wa at bx okx oky sz0 bw⊢;have b1:=(ah wa.heap.size wa).alloc (Nat.le_refl _) (.cells y.cells 29);have by_:=az wa (.bool y.b) (.slice y.A y.xs.length y.c) (.slice y.D y.ys.length y.d);rw [sz0] at by_;replace bx:=bx.below b1;replace okx:=okx.below b1;replace oky:=oky.below b1;replace bw:=ai bw b1 bw.size;clear b1 sz0;generalize (wa.alloc (.cells y.cells 29))=w1 at bx by_ okx oky bw⊢;refine (aP w1 x true okx l1 l2 (decide_eq_true HVX.out)).mono ?_;rintro e wn ⟨rfl,bb⟩;replace bx:=bx.below bb;replace by_:=by_.below bb;replace okx:=okx.below bb
  replace oky:=oky.below bb;replace bw:=ai bw bb bw.size;clear bb;have ty:=by_;obtain ⟨y0,y1,y2,yf0,yf1,yf2,ylt,yb⟩:=ty;clear yb;go_wp2_with fail;clear y0 y1 y2 yf0 yf1 yf2 ylt;refine (aP wn y true oky m1 m2 (decide_eq_true HVY.out)).mono ?_;rintro e wn ⟨rfl,bb⟩;replace bx:=bx.below bb;replace by_:=by_.below bb;replace okx:=okx.below bb;replace oky:=oky.below bb;replace bw:=ai bw bb bw.size;clear bb;go_upto_region 3 with fail
  go_cut [6] (fun zv wx=>zv = .int .i64 z∧Below wn.heap.size wn wx)
  case first=>
   have bw0:=ah wn.heap.size wn;have bb:=dd (ah wn.heap.size wn);replace bw0:=ai bw0 bb bw0.size;replace bx:=bx.below bb;replace by_:=by_.below bb;replace okx:=okx.below bb;replace oky:=oky.below bb;replace bw:=ai bw bb bw.size;clear bb
   go_region_held3 (fun w'=>w'.cell? ⟨w.heap.size,0,none⟩=some (.bool x.b)∧w'.cell? ⟨w.heap.size,1,none⟩=some (.slice x.A x.xs.length x.c)∧w'.cell? ⟨w.heap.size,2,none⟩=some (.slice x.D x.ys.length x.d)∧w'.cell? ⟨w.heap.size+1,0,none⟩=some (.bool y.b)∧w'.cell? ⟨w.heap.size+1,1,none⟩=some (.slice y.A y.xs.length y.c)∧w'.cell? ⟨w.heap.size+1,2,none⟩=some (.slice y.D y.ys.length y.d))
    (first|exact ⟨bx.c0,bx.c1,bx.c2,by_.c0,by_.c1,by_.c2⟩|go_keep)
    (first
      | (go_at_call 117
         with_reducible refine (ew _ x.A y.D x.c y.d _ _ x.xs y.ys okx.num oky.den rfl rfl lx1 ly2).mono ?_
         rintro e wn ⟨AN,cN,rfl,na,bb⟩
         try replace nb:=nb.below bb
         replace bw0:=ai bw0 bb bw0.size;replace bx:=bx.below bb;replace by_:=by_.below bb;replace okx:=okx.below bb;replace oky:=oky.below bb;clear bb)
      | (go_at_call 117
         with_reducible refine (ew _ y.A x.D y.c x.d _ _ y.xs x.ys oky.num okx.den rfl rfl ly1 lx2).mono ?_
         rintro e wn ⟨AD,cD,rfl,nb,bb⟩
         try replace na:=na.below bb
         replace bw0:=ai bw0 bb bw0.size;replace bx:=bx.below bb;replace by_:=by_.below bb;replace okx:=okx.below bb;replace oky:=oky.below bb;clear bb)
      | (go_at_call 82
         with_reducible refine (fY _ AN AD cN cD _ _ (lim (nv x.xs*nv y.ys)) (lim (nv y.xs*nv x.ys)) z na nb rfl rfl HZ.out).mono ?_
         rintro e wn ⟨rfl,qq⟩;have bb:=qq.keep;replace bw0:=ai bw0 bb bw0.size;replace bx:=bx.below bb;replace by_:=by_.below bb;clear bb qq))
   all_goals
    go_wp2_with fail;go_meet
    case rel=>exact ⟨rfl,bw0⟩
  case rest=>
   obtain ⟨rfl,bb⟩:=hcut;replace bx:=bx.below bb;replace by_:=by_.below bb;replace okx:=okx.below bb;replace oky:=oky.below bb;replace bw:=ai bw bb bw.size;clear bb;go_upto_region 4 with fail
   go_cut [7,8] (fun av bv wx=>av = .bool a1∧bv = .bool a2∧Below wc.heap.size wc wx)
   case first=>
    have bw0:=ah wc.heap.size wc;have bb:=dd (ah wc.heap.size wc);replace bw0:=ai bw0 bb bw0.size;replace bx:=bx.below bb;replace by_:=by_.below bb;replace okx:=okx.below bb;replace oky:=oky.below bb;replace bw:=ai bw bb bw.size;clear bb;cases hxb:x.b
    ·cases hyb:y.b
     all_goals
      skip
      have tx:=bx;obtain ⟨x0,x1,x2,xf0,xf1,xf2,xlt,xb⟩:=tx;clear xb;have ty:=by_;obtain ⟨y0,y1,y2,yf0,yf1,yf2,ylt,yb⟩:=ty;clear yb
      go_region_with (first
       | (go_at_call 122
          with_reducible refine (fw _ ⟨true,x.A,x.c,x.xs,x.D,x.d,x.ys⟩ (decide (nv x.xs=0)) okx.num l1 rfl).mono ?_
          rintro e wn ⟨rfl,bb⟩;replace bw0:=ai bw0 bb bw0.size;replace bx:=bx.below bb;replace by_:=by_.below bb;replace okx:=okx.below bb;replace oky:=oky.below bb;clear bb;have tx:=bx;obtain ⟨x0,x1,x2,xf0,xf1,xf2,xlt,_⟩:=tx;have ty:=by_;obtain ⟨y0,y1,y2,yf0,yf1,yf2,ylt,_⟩:=ty)
       | (go_at_call 122
          with_reducible refine (fw _ ⟨true,y.A,y.c,y.xs,y.D,y.d,y.ys⟩ (decide (nv y.xs=0)) oky.num m1 rfl).mono ?_
          rintro e wn ⟨rfl,bb⟩;replace bw0:=ai bw0 bb bw0.size;replace bx:=bx.below bb;replace by_:=by_.below bb;replace okx:=okx.below bb;replace oky:=oky.below bb;clear bb;have tx:=bx;obtain ⟨x0,x1,x2,xf0,xf1,xf2,xlt,_⟩:=tx;have ty:=by_;obtain ⟨y0,y1,y2,yf0,yf1,yf2,ylt,_⟩:=ty))
      all_goals
       skip
       go_wp2_with fail;go_meet
       case rel=>exact ⟨congrArg Value.bool (by rw [←HA1.out,hxb];simp),congrArg Value.bool (by rw [←HA2.out,hyb];simp),bw0⟩
    ·cases hyb:y.b
     ·skip
      have tx:=bx;obtain ⟨x0,x1,x2,xf0,xf1,xf2,xlt,xb⟩:=tx;clear xb;have ty:=by_;obtain ⟨y0,y1,y2,yf0,yf1,yf2,ylt,yb⟩:=ty;clear yb
      go_region_with (first
       | (go_at_call 122
          with_reducible refine (fw _ ⟨true,x.A,x.c,x.xs,x.D,x.d,x.ys⟩ (decide (nv x.xs=0)) okx.num l1 rfl).mono ?_
          rintro e wn ⟨rfl,bb⟩;replace bw0:=ai bw0 bb bw0.size;replace bx:=bx.below bb;replace by_:=by_.below bb;replace okx:=okx.below bb;replace oky:=oky.below bb;clear bb;have tx:=bx;obtain ⟨x0,x1,x2,xf0,xf1,xf2,xlt,_⟩:=tx;have ty:=by_;obtain ⟨y0,y1,y2,yf0,yf1,yf2,ylt,_⟩:=ty)
       | (go_at_call 122
          with_reducible refine (fw _ ⟨true,y.A,y.c,y.xs,y.D,y.d,y.ys⟩ (decide (nv y.xs=0)) oky.num m1 rfl).mono ?_
          rintro e wn ⟨rfl,bb⟩;replace bw0:=ai bw0 bb bw0.size;replace bx:=bx.below bb;replace by_:=by_.below bb;replace okx:=okx.below bb;replace oky:=oky.below bb;clear bb;have tx:=bx;obtain ⟨x0,x1,x2,xf0,xf1,xf2,xlt,_⟩:=tx;have ty:=by_;obtain ⟨y0,y1,y2,yf0,yf1,yf2,ylt,_⟩:=ty))
      all_goals
       skip
       go_wp2_with fail;go_meet
       case rel=>exact ⟨congrArg Value.bool (by rw [←HA1.out,hxb];simp),congrArg Value.bool (by rw [←HA2.out,hyb];simp),bw0⟩
     ·skip
      go_region_held3 (fun w'=>w'.cell? ⟨w.heap.size,0,none⟩=some (.bool x.b)∧w'.cell? ⟨w.heap.size,1,none⟩=some (.slice x.A x.xs.length x.c)∧w'.cell? ⟨w.heap.size,2,none⟩=some (.slice x.D x.ys.length x.d)∧w'.cell? ⟨w.heap.size+1,0,none⟩=some (.bool y.b)∧w'.cell? ⟨w.heap.size+1,1,none⟩=some (.slice y.A y.xs.length y.c)∧w'.cell? ⟨w.heap.size+1,2,none⟩=some (.slice y.D y.ys.length y.d))
       (first|exact ⟨bx.c0,bx.c1,bx.c2,by_.c0,by_.c1,by_.c2⟩|go_keep)
       (first
         | (go_at_call 122
            with_reducible refine (fw _ ⟨true,x.A,x.c,x.xs,x.D,x.d,x.ys⟩ (decide (nv x.xs=0)) okx.num l1 rfl).mono ?_
            rintro e wn ⟨rfl,bb⟩;replace bw0:=ai bw0 bb bw0.size;replace bx:=bx.below bb;replace by_:=by_.below bb;replace okx:=okx.below bb;replace oky:=oky.below bb;clear bb;have tx:=bx;obtain ⟨x0,x1,x2,xf0,xf1,xf2,xlt,_⟩:=tx;have ty:=by_;obtain ⟨y0,y1,y2,yf0,yf1,yf2,ylt,_⟩:=ty)
         | (go_at_call 122
            with_reducible refine (fw _ ⟨true,y.A,y.c,y.xs,y.D,y.d,y.ys⟩ (decide (nv y.xs=0)) oky.num m1 rfl).mono ?_
            rintro e wn ⟨rfl,bb⟩;replace bw0:=ai bw0 bb bw0.size;replace bx:=bx.below bb;replace by_:=by_.below bb;replace okx:=okx.below bb;replace oky:=oky.below bb;clear bb;have tx:=bx;obtain ⟨x0,x1,x2,xf0,xf1,xf2,xlt,_⟩:=tx;have ty:=by_;obtain ⟨y0,y1,y2,yf0,yf1,yf2,ylt,_⟩:=ty))
      all_goals
       skip
       go_wp2_with fail;go_meet
       case rel=>exact ⟨congrArg Value.bool (by rw [←HA1.out,hxb];simp),congrArg Value.bool (by rw [←HA2.out,hyb];simp),bw0⟩
   case rest=>
    obtain ⟨rfl,rfl,bb⟩:=hcut;replace bx:=bx.below bb;replace by_:=by_.below bb;replace okx:=okx.below bb;replace oky:=oky.below bb;replace bw:=ai bw bb bw.size;clear bb;have hneg:IntKind.i64.wrap (-z) = -z:=IntWalk.i64_in _ (by omega)
    cases a1 <;> cases a2
    all_goals
     go_wp2_with fail
     go_ret2
     refine ⟨?_,bw⟩;rw [←HS.out,xZ,if_pos HV.out,Fx.q,Fx.q,HCODE.out];rfl
 ·by_cases hvx:x.v
  ·have hvy:¬y.v:=fun h=>hv ⟨hvx,h⟩;have HVX:=ag hvx;have HVY:Hid (¬y.v):=hvy;have HV:Hid (¬(x.v∧y.v)):=hv;clear hvx hvy hv;go_enter Tryz.func116,Tryz.ntmps116;go_wp2_with fail;have b0:=(ah w.heap.size w).alloc (Nat.le_refl _) (.cells x.cells 29);have bx:=az w (.bool x.b) (.slice x.A x.xs.length x.c) (.slice x.D x.ys.length x.d);have okx:=hx.below b0;have oky:=hy.below b0;have sz0:=aB w (.cells x.cells 29);have bw:=b0;clear b0;generalize (w.alloc (.cells x.cells 29))=wa at bx okx oky sz0 bw⊢;have b1:=(ah wa.heap.size wa).alloc (Nat.le_refl _) (.cells y.cells 29);have by_:=az wa (.bool y.b) (.slice y.A y.xs.length y.c) (.slice y.D y.ys.length y.d)
   rw [sz0] at by_;replace bx:=bx.below b1;replace okx:=okx.below b1;replace oky:=oky.below b1;replace bw:=ai bw b1 bw.size;clear b1 sz0;generalize (wa.alloc (.cells y.cells 29))=w1 at bx by_ okx oky bw⊢;refine (aP w1 x true okx l1 l2 (decide_eq_true HVX.out)).mono ?_;rintro e wn ⟨rfl,bb⟩;replace bx:=bx.below bb;replace by_:=by_.below bb;replace okx:=okx.below bb;replace oky:=oky.below bb;replace bw:=ai bw bb bw.size;clear bb;have ty:=by_;obtain ⟨y0,y1,y2,yf0,yf1,yf2,ylt,yb⟩:=ty;clear yb;go_wp2_with fail;clear y0 y1 y2 yf0 yf1 yf2 ylt;refine (aP wn y false oky m1 m2 (decide_eq_false HVY.out)).mono ?_
   rintro e wn ⟨rfl,bb⟩;replace bx:=bx.below bb;replace by_:=by_.below bb;replace okx:=okx.below bb;replace oky:=oky.below bb;replace bw:=ai bw bb bw.size;clear bb;go_wp2_with fail
   go_ret2
   rw [←HS.out,xZ,if_neg HV.out];exact ⟨rfl,bw⟩
  ·have HVX:Hid (¬x.v):=hvx;have HV:Hid (¬(x.v∧y.v)):=hv;clear hvx hv;go_enter Tryz.func116,Tryz.ntmps116;go_wp2_with fail;have b0:=(ah w.heap.size w).alloc (Nat.le_refl _) (.cells x.cells 29);have bx:=az w (.bool x.b) (.slice x.A x.xs.length x.c) (.slice x.D x.ys.length x.d);have okx:=hx.below b0;have oky:=hy.below b0;have sz0:=aB w (.cells x.cells 29);have bw:=b0;clear b0;generalize (w.alloc (.cells x.cells 29))=wa at bx okx oky sz0 bw⊢;have b1:=(ah wa.heap.size wa).alloc (Nat.le_refl _) (.cells y.cells 29);have by_:=az wa (.bool y.b) (.slice y.A y.xs.length y.c) (.slice y.D y.ys.length y.d)
   rw [sz0] at by_;replace bx:=bx.below b1;replace okx:=okx.below b1;replace oky:=oky.below b1;replace bw:=ai bw b1 bw.size;clear b1 sz0;generalize (wa.alloc (.cells y.cells 29))=w1 at bx by_ okx oky bw⊢;refine (aP w1 x false okx l1 l2 (decide_eq_false HVX.out)).mono ?_;rintro e wn ⟨rfl,bb⟩;replace bx:=bx.below bb;replace by_:=by_.below bb;replace okx:=okx.below bb;replace oky:=oky.below bb;replace bw:=ai bw bb bw.size;clear bb;go_wp2_with fail
   go_ret2
   rw [←HS.out,xZ,if_neg HV.out];exact ⟨rfl,bw⟩
set_option maxRecDepth 100000
open Go.RowKit
theorem AZ {m n:Nat} (hm:(lim m).length≤256) (hn:(lim n).length≤256):pG m n=(lim (m+n),0):=by
 have h1:=jC hm hn;rw [pG,if_neg (by omega),iC,if_neg (by omega)]
theorem rh {m n:Nat} (hm:(lim m).length≤256) (hn:(lim n).length≤256) (h:n≤m):mZ m n=(lim (m-n),0):=by
 rw [mZ,if_neg (by omega),if_neg (by omega)]
theorem wI {m n:Nat} (h:n≤m):0≤cx m n:=by
 unfold cx
 repeat' split
 all_goals omega
theorem tX {m n:Nat} (h:m<n):¬ 0≤cx m n:=by
 unfold cx
 repeat' split
 all_goals omega
def jl (x y:Fx):Bool×List Nat×List Nat×Int:=if x.v∧y.v then frS (x.q+y.q) else kP 1
set_option maxHeartbeats 1600000 in
theorem tQ (w:World) (x y:Fx) (S:Bool×List Nat×List Nat×Int) (hx:x.ok w) (hy:y.ok w) (l1:x.xs.length≤10000) (l2:x.ys.length≤10000) (m1:y.xs.length≤10000) (m2:y.ys.length≤10000) (hs:jl x y=S):Calls Tryz.prog 96 #[x.val,y.val] w (eQ w S):=by
 have HS:=ag hs;clear hs;by_cases hv:x.v∧y.v
 ·skip
  have HV:=ag hv;have HVX:=ag hv.1;have HVY:=ag hv.2;have DX:Hid (nv x.ys≠0):=ag hv.1.1;have DY:Hid (nv y.ys≠0):=ag hv.2.1;have lx1:(lim (nv x.xs)).length≤128:=hv.1.2.2;have lx2:(lim (nv x.ys)).length≤128:=hv.1.2.1;have ly1:(lim (nv y.xs)).length≤128:=hv.2.2.2;have ly2:(lim (nv y.ys)).length≤128:=hv.2.2.1;clear hv;go_enter Tryz.func96,Tryz.ntmps96;go_wp2_with fail;have b0:=(ah w.heap.size w).alloc (Nat.le_refl _) (.cells x.cells 29);have bx:=az w (.bool x.b) (.slice x.A x.xs.length x.c) (.slice x.D x.ys.length x.d);have okx:=hx.below b0;have oky:=hy.below b0;have sz0:=aB w (.cells x.cells 29);have bw:=b0
  clear b0;generalize (w.alloc (.cells x.cells 29))=wa at bx okx oky sz0 bw⊢;have b1:=(ah wa.heap.size wa).alloc (Nat.le_refl _) (.cells y.cells 29);have by_:=az wa (.bool y.b) (.slice y.A y.xs.length y.c) (.slice y.D y.ys.length y.d);have sz1:=aB wa (.cells y.cells 29);rw [sz0] at by_ sz1;replace bx:=bx.below b1;replace okx:=okx.below b1;replace oky:=oky.below b1;replace bw:=ai bw b1 bw.size;clear b1;generalize (wa.alloc (.cells y.cells 29))=wb at bx by_ okx oky bw sz1⊢;have b2:=(ah wb.heap.size wb).alloc (Nat.le_refl _) (.cells #[.bool false, .slice none 0 0, .slice none 0 0] 29);have bk:=aK wb
  rw [sz1] at bk;replace bx:=bx.below b2;replace by_:=by_.below b2;replace okx:=okx.below b2;replace oky:=oky.below b2;replace bw:=ai bw b2 bw.size;clear b2 sz0 sz1;generalize (wb.alloc (.cells #[.bool false, .slice none 0 0, .slice none 0 0] 29))=w1 at bx by_ okx oky bw bk⊢;refine (aP w1 x true okx l1 l2 (decide_eq_true HVX.out)).mono ?_;rintro e wn ⟨rfl,bb⟩
  try replace bx:=bx.below bb
  try replace by_:=by_.below bb
  try replace bk:=bk.below bb
  try replace okx:=okx.below bb
  try replace oky:=oky.below bb
  try replace ok1:=ok1.below bb
  try replace na:=na.below bb
  try replace nb:=nb.below bb
  try replace nc:=nc.below bb
  try replace nd:=nd.below bb
  try replace ne:=ne.below bb
  replace bw:=ai bw bb bw.size;clear bb;have ty:=by_;obtain ⟨y0,y1,y2,yf0,yf1,yf2,ylt,yb⟩:=ty;clear yb;go_wp2_with fail;clear y0 y1 y2 yf0 yf1 yf2 ylt;refine (aP wn y true oky m1 m2 (decide_eq_true HVY.out)).mono ?_;rintro e wn ⟨rfl,bb⟩
  try replace bx:=bx.below bb
  try replace by_:=by_.below bb
  try replace bk:=bk.below bb
  try replace okx:=okx.below bb
  try replace oky:=oky.below bb
  try replace ok1:=ok1.below bb
  try replace na:=na.below bb
  try replace nb:=nb.below bb
  try replace nc:=nc.below bb
  try replace nd:=nd.below bb
  try replace ne:=ne.below bb
  replace bw:=ai bw bb bw.size;clear bb;go_upto_region 3 with fail
  go_cut [6,7,8] (fun s1 s2 s3 wx=>∃(A1 A2 A3:Option Addr) (c1 c2 c3:Nat),s1 = .slice A1 (lim (nv x.xs*nv y.ys)).length c1∧s2 = .slice A2 (lim (nv y.xs*nv x.ys)).length c2∧s3 = .slice A3 (lim (nv x.ys*nv y.ys)).length c3∧Nt wx A1 c1 (lim (nv x.xs*nv y.ys))∧Nt wx A2 c2 (lim (nv y.xs*nv x.ys))∧Nt wx A3 c3 (lim (nv x.ys*nv y.ys))∧Below wn.heap.size wn wx)
  case first=>
   have bw0:=ah wn.heap.size wn;have bb:=dd (ah wn.heap.size wn);replace bw0:=ai bw0 bb bw0.size;replace bx:=bx.below bb;replace by_:=by_.below bb;replace okx:=okx.below bb;replace oky:=oky.below bb;replace bw:=ai bw bb bw.size;clear bb
   go_region_held3 (fun w'=>w'.cell? ⟨w.heap.size,0,none⟩=some (.bool x.b)∧w'.cell? ⟨w.heap.size,1,none⟩=some (.slice x.A x.xs.length x.c)∧w'.cell? ⟨w.heap.size,2,none⟩=some (.slice x.D x.ys.length x.d)∧w'.cell? ⟨w.heap.size+1,0,none⟩=some (.bool y.b)∧w'.cell? ⟨w.heap.size+1,1,none⟩=some (.slice y.A y.xs.length y.c)∧w'.cell? ⟨w.heap.size+1,2,none⟩=some (.slice y.D y.ys.length y.d))
    (first|exact ⟨bx.c0,bx.c1,bx.c2,by_.c0,by_.c1,by_.c2⟩|go_keep)
    (first
      | (go_at_call 117
         with_reducible refine (ew _ x.A y.D x.c y.d _ _ x.xs y.ys okx.num oky.den rfl rfl lx1 ly2).mono ?_
         rintro e wn ⟨A1,c1,rfl,n1,bb⟩
         try replace n2:=n2.below bb
         try replace n3:=n3.below bb
         replace bw0:=ai bw0 bb bw0.size;replace bx:=bx.below bb;replace by_:=by_.below bb;replace okx:=okx.below bb;replace oky:=oky.below bb;clear bb)
      | (go_at_call 117
         with_reducible refine (ew _ y.A x.D y.c x.d _ _ y.xs x.ys oky.num okx.den rfl rfl ly1 lx2).mono ?_
         rintro e wn ⟨A2,c2,rfl,n2,bb⟩
         try replace n1:=n1.below bb
         try replace n3:=n3.below bb
         replace bw0:=ai bw0 bb bw0.size;replace bx:=bx.below bb;replace by_:=by_.below bb;replace okx:=okx.below bb;replace oky:=oky.below bb;clear bb)
      | (go_at_call 117
         with_reducible refine (ew _ x.D y.D x.d y.d _ _ x.ys y.ys okx.den oky.den rfl rfl lx2 ly2).mono ?_
         rintro e wn ⟨A3,c3,rfl,n3,bb⟩
         try replace n1:=n1.below bb
         try replace n2:=n2.below bb
         replace bw0:=ai bw0 bb bw0.size;replace bx:=bx.below bb;replace by_:=by_.below bb;replace okx:=okx.below bb;replace oky:=oky.below bb;clear bb))
   all_goals
    go_wp2_with fail;go_meet
    case rel=>exact ⟨_,_,_,_,_,_,rfl,rfl,rfl,n1,n2,n3,bw0⟩
  case rest=>
   obtain ⟨A1,A2,AD,c1,c2,cD,rfl,rfl,rfl,na,nb,nd,bb⟩:=hcut
   try replace bx:=bx.below bb
   try replace by_:=by_.below bb
   try replace bk:=bk.below bb
   try replace okx:=okx.below bb
   try replace oky:=oky.below bb
   try replace ok1:=ok1.below bb
   try replace na:=na.below bb
   try replace nb:=nb.below bb
   try replace nc:=nc.below bb
   try replace nd:=nd.below bb
   try replace ne:=ne.below bb
   replace bw:=ai bw bb bw.size;clear bb;have lM:=aO lx1 ly2;have lN:=aO ly1 lx2;have lD:=aO lx2 ly2;have hD0:nv x.ys*nv y.ys≠0:=Nat.mul_ne_zero DX.out DY.out;have hS1:x.b=y.b→S=frS (qv x.b (nv x.xs*nv y.ys+nv y.xs*nv x.ys) (nv x.ys*nv y.ys)):=by
    intro e;rw [←HS.out,jl,if_pos HV.out,Fx.q,Fx.q,←e,mS DX.out DY.out]
   have hS2:x.b≠y.b→nv y.xs*nv x.ys≤nv x.xs*nv y.ys→S=frS (qv x.b (nv x.xs*nv y.ys-nv y.xs*nv x.ys) (nv x.ys*nv y.ys)):=by
    intro e h;rw [←HS.out,jl,if_pos HV.out,Fx.q,Fx.q,mC DX.out DY.out e h]
   have hS3:x.b≠y.b→nv x.xs*nv y.ys≤nv y.xs*nv x.ys→S=frS (qv y.b (nv y.xs*nv x.ys-nv x.xs*nv y.ys) (nv x.ys*nv y.ys)):=by
    intro e h;rw [←HS.out,jl,if_pos HV.out,Fx.q,Fx.q,qo DX.out DY.out e h]
   revert na nb nd lM lN lD hD0 hS1 hS2 hS3
   generalize nv x.xs*nv y.ys=M;generalize nv y.xs*nv x.ys=N;generalize nv x.ys*nv y.ys=D;intro na nb nd lM lN lD hD0 hS1 hS2 hS3;have D0:Hid (D≠0):=hD0;have HS1':=ag hS1;have HS2':=ag hS2;have HS3':=ag hS3;clear hD0 hS1 hS2 hS3;by_cases he:x.b=y.b
   ·have hb:(x.b == y.b)=true:=by simp [he]
    have HE:=ag he;have l3:=jC (k:=256) (by omega:(lim M).length≤256) (by omega:(lim N).length≤256)
    clear he;have tx:=bx;obtain ⟨x0,x1,x2,xf0,xf1,xf2,xlt,xb⟩:=tx;clear xb;have ty:=by_;obtain ⟨y0,y1,y2,yf0,yf1,yf2,ylt,yb⟩:=ty;clear yb;go_wp2_with fail;clear x0 x1 x2 xf0 xf1 xf2 xlt;clear y0 y1 y2 yf0 yf1 yf2 ylt;refine (wM _ A1 A2 c1 c2 _ _ (lim M) (lim N) (lim (M+N)) 0 na nb rfl rfl (by rw [am,am];exact AZ (by omega) (by omega))).mono ?_
    rintro e wn ⟨AS,cS,rfl,ns,bb⟩
    try replace bx:=bx.below bb
    try replace by_:=by_.below bb
    try replace bk:=bk.below bb
    try replace okx:=okx.below bb
    try replace oky:=oky.below bb
    try replace ok1:=ok1.below bb
    try replace na:=na.below bb
    try replace nb:=nb.below bb
    try replace nc:=nc.below bb
    try replace nd:=nd.below bb
    try replace ne:=ne.below bb
    replace bw:=ai bw bb bw.size;clear bb;have tx:=bx;obtain ⟨x0,x1,x2,xf0,xf1,xf2,xlt,xb⟩:=tx;clear xb;go_wp2_with fail;clear x0 x1 x2 xf0 xf1 xf2 xlt;have NN:Hid ((lim (nv (lim (M+N)))).length≤512):=ag (by rw [am];omega)
    have DD:Hid ((lim (nv (lim D))).length≤512):=ag (by rw [am];omega)
    have NE:Hid (nv (lim D)≠0):=ag (by rw [am];exact D0.out)
    refine (ee _ x.b AS AD cS cD _ _ (lim (M+N)) (lim D) ns nd rfl rfl NE.out (by omega) (by omega) NN.out DD.out).mono ?_
    rintro e wn ⟨x1,rfl,hs1,ok1,bb⟩;have HS1:=ag hs1;clear hs1
    try replace bx:=bx.below bb
    try replace by_:=by_.below bb
    try replace bk:=bk.below bb
    try replace okx:=okx.below bb
    try replace oky:=oky.below bb
    try replace ok1:=ok1.below bb
    try replace na:=na.below bb
    try replace nb:=nb.below bb
    try replace nc:=nc.below bb
    try replace nd:=nd.below bb
    try replace ne:=ne.below bb
    replace bw:=ai bw bb bw.size;clear bb;have tk:=bk;obtain ⟨k0,k1,k2,kf0,kf1,kf2,klt,kb⟩:=tk;clear kb;go_wp2_with fail;refine bodyPost_ret (v := .tuple #[(x1:Fx).val, .int .i64 (frS (qv x.b (nv (lim (M+N))) (nv (lim D)))).2.2.2]) (by simp [results,Tryz.results96,go_sem,k0,k1,k2]) rfl ?_
    have hS:S=frS (qv x.b (nv (lim (M+N))) (nv (lim D))):=by
     rw [am,am];exact HS1'.out HE.out
    rw [hS];exact ⟨x1,rfl,HS1.out,bD ok1 bk rfl rfl rfl,aR bw (by omega)⟩
   ·have hb:(x.b == y.b)=false:=by simpa using he
    have HE:Hid (x.b≠y.b):=he;clear he;by_cases hle:N≤M
    ·have hc:=wI hle;have HLE:=ag hle;have l3:=ao (Nat.sub_le M N);obtain ⟨z,hz⟩:∃z,cx M N=z:=⟨_,rfl⟩;rw [hz] at hc;have HZ:=ag hz;have hcd:decide (0≤z)=true:=decide_eq_true hc;clear hle hc hz;have tx:=bx;obtain ⟨x0,x1,x2,xf0,xf1,xf2,xlt,xb⟩:=tx;clear xb;have ty:=by_;obtain ⟨y0,y1,y2,yf0,yf1,yf2,ylt,yb⟩:=ty;clear yb;go_wp2_with fail;clear x0 x1 x2 xf0 xf1 xf2 xlt;clear y0 y1 y2 yf0 yf1 yf2 ylt;refine (fY _ A1 A2 c1 c2 _ _ (lim M) (lim N) z na nb rfl rfl (by rw [am,am];exact HZ.out)).mono ?_
     rintro e wn ⟨rfl,qq⟩;have bb:=qq.keep;clear qq
     try replace bx:=bx.below bb
     try replace by_:=by_.below bb
     try replace bk:=bk.below bb
     try replace okx:=okx.below bb
     try replace oky:=oky.below bb
     try replace ok1:=ok1.below bb
     try replace na:=na.below bb
     try replace nb:=nb.below bb
     try replace nc:=nc.below bb
     try replace nd:=nd.below bb
     try replace ne:=ne.below bb
     replace bw:=ai bw bb bw.size;clear bb;go_wp2_with fail;refine (vJ _ A1 A2 c1 c2 _ _ (lim M) (lim N) (lim (M-N)) 0 na nb rfl rfl (by rw [am,am];exact rh (by omega) (by omega) HLE.out)).mono ?_
     rintro e wn ⟨AS,cS,rfl,ns,bb⟩
     try replace bx:=bx.below bb
     try replace by_:=by_.below bb
     try replace bk:=bk.below bb
     try replace okx:=okx.below bb
     try replace oky:=oky.below bb
     try replace ok1:=ok1.below bb
     try replace na:=na.below bb
     try replace nb:=nb.below bb
     try replace nc:=nc.below bb
     try replace nd:=nd.below bb
     try replace ne:=ne.below bb
     replace bw:=ai bw bb bw.size;clear bb;have tx:=bx;obtain ⟨x0,x1,x2,xf0,xf1,xf2,xlt,xb⟩:=tx;clear xb;go_wp2_with fail;clear x0 x1 x2 xf0 xf1 xf2 xlt;have NN:Hid ((lim (nv (lim (M-N)))).length≤512):=ag (by rw [am];omega)
     have DD:Hid ((lim (nv (lim D))).length≤512):=ag (by rw [am];omega)
     have NE:Hid (nv (lim D)≠0):=ag (by rw [am];exact D0.out)
     refine (ee _ x.b AS AD cS cD _ _ (lim (M-N)) (lim D) ns nd rfl rfl NE.out (by omega) (by omega) NN.out DD.out).mono ?_
     rintro e wn ⟨x1,rfl,hs1,ok1,bb⟩;have HS1:=ag hs1;clear hs1
     try replace bx:=bx.below bb
     try replace by_:=by_.below bb
     try replace bk:=bk.below bb
     try replace okx:=okx.below bb
     try replace oky:=oky.below bb
     try replace ok1:=ok1.below bb
     try replace na:=na.below bb
     try replace nb:=nb.below bb
     try replace nc:=nc.below bb
     try replace nd:=nd.below bb
     try replace ne:=ne.below bb
     replace bw:=ai bw bb bw.size;clear bb;have tk:=bk;obtain ⟨k0,k1,k2,kf0,kf1,kf2,klt,kb⟩:=tk;clear kb;go_wp2_with fail;refine bodyPost_ret (v := .tuple #[(x1:Fx).val, .int .i64 (frS (qv x.b (nv (lim (M-N))) (nv (lim D)))).2.2.2]) (by simp [results,Tryz.results96,go_sem,k0,k1,k2]) rfl ?_
     have hS:S=frS (qv x.b (nv (lim (M-N))) (nv (lim D))):=by
      rw [am,am];exact HS2'.out HE.out HLE.out
     rw [hS];exact ⟨x1,rfl,HS1.out,bD ok1 bk rfl rfl rfl,aR bw (by omega)⟩
    ·have hc:=tX (Nat.lt_of_not_le hle);have HLE:=ag (Nat.le_of_lt (Nat.lt_of_not_le hle));have l3:=ao (Nat.sub_le N M);obtain ⟨z,hz⟩:∃z,cx M N=z:=⟨_,rfl⟩;rw [hz] at hc;have HZ:=ag hz;have hcd:decide (0≤z)=false:=decide_eq_false hc;clear hle hc hz;have tx:=bx;obtain ⟨x0,x1,x2,xf0,xf1,xf2,xlt,xb⟩:=tx;clear xb;have ty:=by_;obtain ⟨y0,y1,y2,yf0,yf1,yf2,ylt,yb⟩:=ty;clear yb;go_wp2_with fail;clear x0 x1 x2 xf0 xf1 xf2 xlt;clear y0 y1 y2 yf0 yf1 yf2 ylt;refine (fY _ A1 A2 c1 c2 _ _ (lim M) (lim N) z na nb rfl rfl (by rw [am,am];exact HZ.out)).mono ?_
     rintro e wn ⟨rfl,qq⟩;have bb:=qq.keep;clear qq
     try replace bx:=bx.below bb
     try replace by_:=by_.below bb
     try replace bk:=bk.below bb
     try replace okx:=okx.below bb
     try replace oky:=oky.below bb
     try replace ok1:=ok1.below bb
     try replace na:=na.below bb
     try replace nb:=nb.below bb
     try replace nc:=nc.below bb
     try replace nd:=nd.below bb
     try replace ne:=ne.below bb
     replace bw:=ai bw bb bw.size;clear bb;go_wp2_with fail;refine (vJ _ A2 A1 c2 c1 _ _ (lim N) (lim M) (lim (N-M)) 0 nb na rfl rfl (by rw [am,am];exact rh (by omega) (by omega) HLE.out)).mono ?_
     rintro e wn ⟨AS,cS,rfl,ns,bb⟩
     try replace bx:=bx.below bb
     try replace by_:=by_.below bb
     try replace bk:=bk.below bb
     try replace okx:=okx.below bb
     try replace oky:=oky.below bb
     try replace ok1:=ok1.below bb
     try replace na:=na.below bb
     try replace nb:=nb.below bb
     try replace nc:=nc.below bb
     try replace nd:=nd.below bb
     try replace ne:=ne.below bb
     replace bw:=ai bw bb bw.size;clear bb;have ty:=by_;obtain ⟨y0,y1,y2,yf0,yf1,yf2,ylt,yb⟩:=ty;clear yb;go_wp2_with fail;clear y0 y1 y2 yf0 yf1 yf2 ylt;have NN:Hid ((lim (nv (lim (N-M)))).length≤512):=ag (by rw [am];omega)
     have DD:Hid ((lim (nv (lim D))).length≤512):=ag (by rw [am];omega)
     have NE:Hid (nv (lim D)≠0):=ag (by rw [am];exact D0.out)
     refine (ee _ y.b AS AD cS cD _ _ (lim (N-M)) (lim D) ns nd rfl rfl NE.out (by omega) (by omega) NN.out DD.out).mono ?_
     rintro e wn ⟨x1,rfl,hs1,ok1,bb⟩;have HS1:=ag hs1;clear hs1
     try replace bx:=bx.below bb
     try replace by_:=by_.below bb
     try replace bk:=bk.below bb
     try replace okx:=okx.below bb
     try replace oky:=oky.below bb
     try replace ok1:=ok1.below bb
     try replace na:=na.below bb
     try replace nb:=nb.below bb
     try replace nc:=nc.below bb
     try replace nd:=nd.below bb
     try replace ne:=ne.below bb
     replace bw:=ai bw bb bw.size;clear bb;have tk:=bk;obtain ⟨k0,k1,k2,kf0,kf1,kf2,klt,kb⟩:=tk;clear kb;go_wp2_with fail;refine bodyPost_ret (v := .tuple #[(x1:Fx).val, .int .i64 (frS (qv y.b (nv (lim (N-M))) (nv (lim D)))).2.2.2]) (by simp [results,Tryz.results96,go_sem,k0,k1,k2]) rfl ?_
     have hS:S=frS (qv y.b (nv (lim (N-M))) (nv (lim D))):=by
      rw [am,am];exact HS3'.out HE.out HLE.out
     rw [hS];exact ⟨x1,rfl,HS1.out,bD ok1 bk rfl rfl rfl,aR bw (by omega)⟩
 ·skip
  by_cases hvx:x.v
  ·have hvy:¬y.v:=fun h=>hv ⟨hvx,h⟩;have HVX:=ag hvx;have HVY:Hid (¬y.v):=hvy;have HV:Hid (¬(x.v∧y.v)):=hv;clear hvx hvy hv;go_enter Tryz.func96,Tryz.ntmps96;go_wp2_with fail;have b0:=(ah w.heap.size w).alloc (Nat.le_refl _) (.cells x.cells 29);have bx:=az w (.bool x.b) (.slice x.A x.xs.length x.c) (.slice x.D x.ys.length x.d);have okx:=hx.below b0;have oky:=hy.below b0;have sz0:=aB w (.cells x.cells 29);have bw:=b0;clear b0;generalize (w.alloc (.cells x.cells 29))=wa at bx okx oky sz0 bw⊢;have b1:=(ah wa.heap.size wa).alloc (Nat.le_refl _) (.cells y.cells 29);have by_:=az wa (.bool y.b) (.slice y.A y.xs.length y.c) (.slice y.D y.ys.length y.d)
   have sz1:=aB wa (.cells y.cells 29);rw [sz0] at by_ sz1;replace bx:=bx.below b1;replace okx:=okx.below b1;replace oky:=oky.below b1;replace bw:=ai bw b1 bw.size;clear b1;generalize (wa.alloc (.cells y.cells 29))=wb at bx by_ okx oky bw sz1⊢;have b2:=(ah wb.heap.size wb).alloc (Nat.le_refl _) (.cells #[.bool false, .slice none 0 0, .slice none 0 0] 29);have bk:=aK wb;rw [sz1] at bk;replace bx:=bx.below b2;replace by_:=by_.below b2;replace okx:=okx.below b2;replace oky:=oky.below b2;replace bw:=ai bw b2 bw.size;clear b2 sz0 sz1;generalize (wb.alloc (.cells #[.bool false, .slice none 0 0, .slice none 0 0] 29))=w1 at bx by_ okx oky bw bk⊢
   refine (aP w1 x true okx l1 l2 (decide_eq_true HVX.out)).mono ?_;rintro e wn ⟨rfl,bb⟩
   try replace bx:=bx.below bb
   try replace by_:=by_.below bb
   try replace bk:=bk.below bb
   try replace okx:=okx.below bb
   try replace oky:=oky.below bb
   try replace ok1:=ok1.below bb
   try replace na:=na.below bb
   try replace nb:=nb.below bb
   try replace nc:=nc.below bb
   try replace nd:=nd.below bb
   try replace ne:=ne.below bb
   replace bw:=ai bw bb bw.size;clear bb;have ty:=by_;obtain ⟨y0,y1,y2,yf0,yf1,yf2,ylt,yb⟩:=ty;clear yb;go_wp2_with fail;clear y0 y1 y2 yf0 yf1 yf2 ylt;refine (aP wn y false oky m1 m2 (decide_eq_false HVY.out)).mono ?_;rintro e wn ⟨rfl,bb⟩
   try replace bx:=bx.below bb
   try replace by_:=by_.below bb
   try replace bk:=bk.below bb
   try replace okx:=okx.below bb
   try replace oky:=oky.below bb
   try replace ok1:=ok1.below bb
   try replace na:=na.below bb
   try replace nb:=nb.below bb
   try replace nc:=nc.below bb
   try replace nd:=nd.below bb
   try replace ne:=ne.below bb
   replace bw:=ai bw bb bw.size;clear bb;have tk:=bk;obtain ⟨k0,k1,k2,kf0,kf1,kf2,klt,kb⟩:=tk;clear kb;go_wp2_with fail;refine bodyPost_ret (v := .tuple #[(Fx.nil:Fx).val, .int .i64 1]) (by simp [results,Tryz.results96,go_sem,k0,k1,k2]) rfl ?_
   rw [←HS.out,jl,if_neg HV.out];exact ⟨Fx.nil,rfl,⟨rfl,rfl,rfl⟩,Fx.nil_ok _,aR bw (by omega)⟩
  ·have HVX:Hid (¬x.v):=hvx;have HV:Hid (¬(x.v∧y.v)):=hv;clear hvx hv;go_enter Tryz.func96,Tryz.ntmps96;go_wp2_with fail;have b0:=(ah w.heap.size w).alloc (Nat.le_refl _) (.cells x.cells 29);have bx:=az w (.bool x.b) (.slice x.A x.xs.length x.c) (.slice x.D x.ys.length x.d);have okx:=hx.below b0;have oky:=hy.below b0;have sz0:=aB w (.cells x.cells 29);have bw:=b0;clear b0;generalize (w.alloc (.cells x.cells 29))=wa at bx okx oky sz0 bw⊢;have b1:=(ah wa.heap.size wa).alloc (Nat.le_refl _) (.cells y.cells 29);have by_:=az wa (.bool y.b) (.slice y.A y.xs.length y.c) (.slice y.D y.ys.length y.d);have sz1:=aB wa (.cells y.cells 29)
   rw [sz0] at by_ sz1;replace bx:=bx.below b1;replace okx:=okx.below b1;replace oky:=oky.below b1;replace bw:=ai bw b1 bw.size;clear b1;generalize (wa.alloc (.cells y.cells 29))=wb at bx by_ okx oky bw sz1⊢;have b2:=(ah wb.heap.size wb).alloc (Nat.le_refl _) (.cells #[.bool false, .slice none 0 0, .slice none 0 0] 29);have bk:=aK wb;rw [sz1] at bk;replace bx:=bx.below b2;replace by_:=by_.below b2;replace okx:=okx.below b2;replace oky:=oky.below b2;replace bw:=ai bw b2 bw.size;clear b2 sz0 sz1;generalize (wb.alloc (.cells #[.bool false, .slice none 0 0, .slice none 0 0] 29))=w1 at bx by_ okx oky bw bk⊢
   refine (aP w1 x false okx l1 l2 (decide_eq_false HVX.out)).mono ?_;rintro e wn ⟨rfl,bb⟩
   try replace bx:=bx.below bb
   try replace by_:=by_.below bb
   try replace bk:=bk.below bb
   try replace okx:=okx.below bb
   try replace oky:=oky.below bb
   try replace ok1:=ok1.below bb
   try replace na:=na.below bb
   try replace nb:=nb.below bb
   try replace nc:=nc.below bb
   try replace nd:=nd.below bb
   try replace ne:=ne.below bb
   replace bw:=ai bw bb bw.size;clear bb;have tk:=bk;obtain ⟨k0,k1,k2,kf0,kf1,kf2,klt,kb⟩:=tk;clear kb;go_wp2_with fail;refine bodyPost_ret (v := .tuple #[(Fx.nil:Fx).val, .int .i64 1]) (by simp [results,Tryz.results96,go_sem,k0,k1,k2]) rfl ?_
   rw [←HS.out,jl,if_neg HV.out];exact ⟨Fx.nil,rfl,⟨rfl,rfl,rfl⟩,Fx.nil_ok _,aR bw (by omega)⟩
def yw (x y:Fx):Bool×List Nat×List Nat×Int:=if x.v∧y.v then frS (x.q-y.q) else kP 1
theorem xk (x y:Fx):jl x { y with b := !y.b}=yw x y:=by
 have e:({ y with b := !y.b}:Fx).q = - y.q:=Dl _ _ _;have e2:({ y with b := !y.b}:Fx).v↔y.v:=Iff.rfl;simp only [jl,yw,e,e2,Rat.sub_eq_add_neg]
set_option maxHeartbeats 1600000 in
theorem zV (w:World) (x y:Fx) (S:Bool×List Nat×List Nat×Int) (hx:x.ok w) (hy:y.ok w) (l1:x.xs.length≤10000) (l2:x.ys.length≤10000) (m1:y.xs.length≤10000) (m2:y.ys.length≤10000) (hs:yw x y=S):Calls Tryz.prog 89 #[x.val,y.val] w (eQ w S):=by
 have HS:Hid (jl x { y with b := !y.b}=S):=ag ((xk x y).trans hs);clear hs;go_enter Tryz.func89,Tryz.ntmps89;go_wp2_with fail;have b0:=(ah w.heap.size w).alloc (Nat.le_refl _) (.cells x.cells 29);have bx:=az w (.bool x.b) (.slice x.A x.xs.length x.c) (.slice x.D x.ys.length x.d);have okx:=hx.below b0;have oky:=hy.below b0;have sz0:=aB w (.cells x.cells 29);have bw:=b0;clear b0;generalize (w.alloc (.cells x.cells 29))=wa at bx okx oky sz0 bw⊢;have b1:=(ah wa.heap.size wa).alloc (Nat.le_refl _) (.cells y.cells 29);have by_:=az wa (.bool y.b) (.slice y.A y.xs.length y.c) (.slice y.D y.ys.length y.d)
 have sz1:=aB wa (.cells y.cells 29);rw [sz0] at by_ sz1;replace bx:=bx.below b1;replace okx:=okx.below b1;replace oky:=oky.below b1;replace bw:=ai bw b1 bw.size;clear b1;generalize (wa.alloc (.cells y.cells 29))=wb at bx by_ okx oky bw sz1⊢;have b2:=(ah wb.heap.size wb).alloc (Nat.le_refl _) (.cells #[.bool false, .slice none 0 0, .slice none 0 0] 29);have bk:=aK wb;rw [sz1] at bk;replace bx:=bx.below b2;replace by_:=by_.below b2;replace okx:=okx.below b2;replace oky:=oky.below b2;replace bw:=ai bw b2 bw.size;clear b2 sz0 sz1;generalize (wb.alloc (.cells #[.bool false, .slice none 0 0, .slice none 0 0] 29))=w1 at bx by_ okx oky bw bk⊢
 go_wp2_with fail;have n20:w.heap.size+1+1≠w.heap.size:=by omega
 have n21:w.heap.size+1+1≠w.heap.size+1:=by omega
 have bb:=dd (ah w1.heap.size w1)
 try replace bx:=bx.below bb
 try replace by_:=by_.below bb
 try replace bk:=bk.below bb
 try replace okx:=okx.below bb
 try replace oky:=oky.below bb
 try replace ok1:=ok1.below bb
 try replace na:=na.below bb
 try replace nb:=nb.below bb
 try replace nc:=nc.below bb
 try replace nd:=nd.below bb
 try replace ne:=ne.below bb
 replace bw:=ai bw bb bw.size;clear bb
 go_region_held3 (fun w'=>w'.cell? ⟨w.heap.size,0,none⟩=some (.bool x.b)∧w'.cell? ⟨w.heap.size,1,none⟩=some (.slice x.A x.xs.length x.c)∧w'.cell? ⟨w.heap.size,2,none⟩=some (.slice x.D x.ys.length x.d)∧w'.cell? ⟨w.heap.size+1,0,none⟩=some (.bool y.b)∧w'.cell? ⟨w.heap.size+1,1,none⟩=some (.slice y.A y.xs.length y.c)∧w'.cell? ⟨w.heap.size+1,2,none⟩=some (.slice y.D y.ys.length y.d))
  (first|exact ⟨bx.c0,bx.c1,bx.c2,by_.c0,by_.c1,by_.c2⟩|exact ⟨aQ bx.c0 n20,aQ bx.c1 n20,aQ bx.c2 n20,aQ by_.c0 n21,aQ by_.c1 n21,aQ by_.c2 n21⟩|go_keep)
  (first
    | (go_at_call 113
       with_reducible refine (ve _ y).mono ?_
       rintro e wn ⟨rfl,bb⟩;replace bx:=bx.below bb;replace by_:=by_.below bb;replace bk:=bk.below bb;replace okx:=okx.below bb;replace oky:=oky.below bb;replace bw:=ai bw bb bw.size;clear bb)
    | (go_at_call 96
       with_reducible refine (tQ _ x { y with b := !y.b} S okx ⟨oky.num,oky.den⟩ l1 l2 m1 m2 HS.out).mono ?_
       rintro e wn ⟨x1,rfl,hs1,ok1,bb⟩;have HS1:=ag hs1;replace bx:=bx.below bb;replace by_:=by_.below bb;replace bk:=bk.below bb;replace bw:=ai bw bb bw.size;have kk:=bk;obtain ⟨k0,k1,k2,kf0,kf1,kf2,klt,_⟩:=kk;clear bb hs1))
 all_goals
  go_wp2_with fail;refine bodyPost_ret (v := .tuple #[(x1:Fx).val, .int .i64 S.2.2.2]) (by simp [results,Tryz.results89,go_sem,k0,k1,k2]) rfl ?_
  exact ⟨x1,rfl,HS1.out,bD ok1 bk rfl rfl rfl,aR bw (by omega)⟩
end Go.Proofs.YtkpfbekmaafehaaGreat
