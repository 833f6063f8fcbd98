/- The walk of drydockref16.Check. -/
import Derived.Test.YtkpfbekmaafehaaGreatSpB
import Derived.Test.YtkpfbekmaafehaaGreatSrH
import Derived.Test.YtkpfbekmaafehaaGreatTk
import Derived.Test.YtkpfbekmaafehaaGreatSqN
namespace Go.Proofs.YtkpfbekmaafehaaGreat
set_option maxRecDepth 100000
open Go.RowKit
def yF:List dC := [sE 39 [3] [],sE 40 [39] [0],sE 41 [40] [1],sE 42 [41] [2],sE 43 [42] [3],sG 44 [2,43] [4] 4 true,sG 45 [3,43] [4] 4 true,sG 46 [45,43] [6,4] 4 true,sG 47 [44,46,43] [5,7,4,4] 4 true,sE 48 [43,47] [4,8],sE 49 [48] [9,8],sG 50 [2,49] [10] 10 true,sG 51 [3,49] [10] 10 true,sG 52 [51,49] [12,10] 10 true,sG 53 [50,52,49] [11,13,10,10] 10 true,sE 54 [49,53] [10,14],sE 55 [54] [15,14],sG 56 [3,55] [16] 16 true,sG 57 [56,55] [17,16] 16 true,sG 58 [2,55] [16] 16 true,sG 59 [58,55] [19,16] 16 true,sG 60 [3,55] [16] 16 true,sG 61 [60,55] [21,16] 16 true,sG 62 [59,61,55] [20,22,16,16] 16 true,sG 63 [57,62,55] [18,23,23,16] 16 true,sE 64 [55,63] [16,24],sE 65 [64] [25,24],sG 66 [3,65] [26] 26 true,sG 67 [66,65] [27,26] 26 true,sG 68 [3,65] [26] 26 true,sG 69 [68,65] [29,26] 26 true,sG 70 [2,65] [26] 26 true,sG 71 [70,65] [31,26] 26 true,sG 72 [69,71,65] [30,32,26,26] 26 true,sG 73 [67,72,65] [28,33,33,26] 26 true,sE 74 [65,73] [26,34],sE 4 [74] [35,34,0,1,2,3,4,5,6,7,8,9,10,11,12,13,14,15,16,17,18,19,20,21,22,23,24,25,26,27,28,29,30,31,32,33,34,35]]
section
variable {w:World} {p:Pg} {s:Sl} {n m:Nat}
theorem tR (ok:p.ok w) (sm:p.sm) (vd:p.vd) (md:Md s.vs) {nx:Nat} (lo:Lo w s nx) (hn:p.cost.vs.length=n) (e:nx=n) :
 Calls Tryz.prog 48 #[.slice p.cost.A n p.cost.c, .slice s.A nx s.c] w fun e w'=>∃z:Fx,e = .returned z.val∧Nm w' z (aj (fun j=>p.c j*fxV s.vs j) n)∧Below w.heap.size w w':=by
 subst e;have pw:=vd.pw;have mz:=md.mz;rw [hn] at pw;rw [lo.l] at mz;have d:=pw.cst mz (by rw [←hn];exact vd.c2)
 refine (iD w p.cost.A s.A p.cost.c s.c nx p.cost.vs s.vs p.c (fxV s.vs) (ok.rcst sm vd) lo.r hn lo.l lo.n d).mono ?_;rintro e w' ⟨z,rfl,ez,bb⟩;exact ⟨z,rfl,ez.nm (d.s nx (Nat.le_refl _)),bb⟩
theorem xQ (ok:p.ok w) (sm:p.sm) (vd:p.vd) (md:Md s.vs) {ny:Nat} (lo:Lo w s ny) (hm:p.rows.length=m) (e:ny=m) :
 Calls Tryz.prog 48 #[.slice s.A ny s.c, .slice p.right.A m p.right.c] w fun e w'=>∃z:Fx,e = .returned z.val∧Nm w' z (aj (fun i=>fxV s.vs i*p.b i) m)∧Below w.heap.size w w':=by
 subst e;have pw:=vd.pw;have mz:=md.mz;rw [hm] at pw;rw [lo.l] at mz;have d:=pw.rgt mz (by have:=vd.r2;omega)
 refine (iD w s.A p.right.A s.c p.right.c ny s.vs p.right.vs (fxV s.vs) p.b lo.r (ok.rrgt sm vd) lo.l (by rw [vd.lb,hm]) lo.n d).mono ?_
 rintro e w' ⟨z,rfl,ez,bb⟩;exact ⟨z,rfl,ez.nm (d.s ny (Nat.le_refl _)),bb⟩
theorem Cj (ok:p.ok w) (sm:p.sm) (vd:p.vd) (md:Md s.vs) {nr:Nat} (lo:Lo w s nr) (hn:p.cost.vs.length=n) (e:nr=n) {i:Nat} (hi:i<p.rows.length) {r:Sl} (hr:p.rows[i]=r) :
 Calls Tryz.prog 48 #[.slice r.A n r.c, .slice s.A nr s.c] w fun e w'=>∃z:Fx,e = .returned z.val∧Nm w' z (aj (fun j=>p.a i j*fxV s.vs j) n)∧Below w.heap.size w w':=by
 subst e;have pw:=vd.pw;have mz:=md.mz;rw [hn] at pw;rw [lo.l] at mz;have d:=pw.row mz (by rw [←hn];exact vd.c2) hi
 refine (iD w r.A s.A r.c s.c nr r.vs s.vs (p.a i) (fxV s.vs) (ok.rrow sm vd hi hr) lo.r (by rw [vd.la r (by rw [←hr];exact List.getElem_mem hi),hn]) lo.l lo.n d).mono ?_
 rintro e w' ⟨z,rfl,ez,bb⟩;exact ⟨z,rfl,ez.nm (d.s nr (Nat.le_refl _)),bb⟩
end
theorem ow (P:Prop):∃b:Bool,b=true↔P:=by classical exact ⟨decide P,by simp⟩
set_option maxHeartbeats 4000000 in
theorem rC (w:World) (p:Pg) (s:Sn) (bo:Bool) (h:p.ok w) (sm:p.sm) (hs:s.ok w) (ss:s.sm) (hb:bo=true↔yo p s) :
 Calls Tryz.prog 18 #[p.val,s.val] w fun e w'=>e = .returned (.bool bo)∧Below w.heap.size w w':=by
 have HO:=ag h;have HSM:=ag sm;have HSO:=ag hs;have HSS:=ag ss;have HB:=ag hb;clear h sm hs ss hb;go_enter Tryz.func18,Tryz.ntmps18;go_upto_region 1 with fail;have pb:=(aY w p 25).1;have bw:=(aY w p 25).2;have hsz:=iV w p 25;generalize (w.alloc (.cells #[.slice p.cost.A p.cost.vs.length p.cost.c, .slice p.rA p.rows.length p.rc, .slice p.right.A p.right.vs.length p.right.c] 25))=wm at pb bw hsz⊢;have sb:=(cY wm s 31).1;have bb:=(cY wm s 31).2;rw [hsz] at sb;replace pb:=pb.below bb;replace bw:=ai bw bb bw.size;clear bb hsz;generalize (wm.alloc (.cells #[.int .i64 s.kind, .slice s.X.A s.X.vs.length s.X.c, .slice s.Y.A s.Y.vs.length s.Y.c, .slice s.R.A s.R.vs.length s.R.c, .bool s.v.b, .slice s.v.A s.v.xs.length s.v.c, .slice s.v.D s.v.ys.length s.v.d] 31))=wb at *
 obtain ⟨g1,hg1⟩:∃g,w.heap.size=g:=⟨_,rfl⟩;obtain ⟨g2,hg2⟩:∃g,w.heap.size+1=g:=⟨_,rfl⟩;have pb1:Pb wb g1 p:=by rw [←hg1];exact pb
 rw [hg2] at sb;rw [hg2,hg1];clear hg1 hg2 pb;have c0:=pb1.c0;have c1:=pb1.c1;have c2:=pb1.c2;have HPB:=ag pb1;have HSB:=ag sb;have HBW:=ag bw;by_cases hv:p.vd
 ·have HVD:=ag hv;go_wp2_with fail;refine (kD wb p true (HO.out.below bw) HSM.out (Iff.intro (fun _=>HVD.out) (fun _=>rfl))).mono ?_;rintro e wa ⟨rfl,bb⟩;replace HPB:=ag (HPB.out.below bb);replace HSB:=ag (HSB.out.below bb);replace HBW:=ag (ai HBW.out bb HBW.out.size);clear bb c0 c1 c2 pb1 sb bw hv wb;have s1:=HSB.out.c1;by_cases h0:Md s.X.vs
  case neg=>
   have HX:Hid (¬Md s.X.vs):=h0;clear h0;have hbf:bo=false:=by
    cases bo
    ·rfl
    ·exact absurd (HB.out.1 rfl) (fun f=>HX.out f.X)
   subst hbf;go_wp2_with fail;refine (cJ wa s.X false (HSO.out.X.below HBW.out) HSS.out.lX HSS.out.eX (Iff.intro (fun h=>Bool.noConfusion h) (fun h=>absurd h HX.out))).mono ?_;rintro e wz ⟨rfl,bb⟩;clear s1;go_wp2_with fail;go_ret;exact ⟨rfl,ai HBW.out bb HBW.out.size⟩
  case pos=>
   have HX:=ag h0;clear h0;go_wp2_with fail;refine (cJ wa s.X true (HSO.out.X.below HBW.out) HSS.out.lX HSS.out.eX (Iff.intro (fun _=>HX.out) (fun _=>rfl))).mono ?_;rintro e wb ⟨rfl,bb⟩;replace HPB:=ag (HPB.out.below bb);replace HSB:=ag (HSB.out.below bb);replace HBW:=ag (ai HBW.out bb HBW.out.size);clear bb s1;have s1:=HSB.out.c2;by_cases h0:Md s.Y.vs
   case neg=>
    have HY:Hid (¬Md s.Y.vs):=h0;clear h0;have hbf:bo=false:=by
     cases bo
     ·rfl
     ·exact absurd (HB.out.1 rfl) (fun f=>HY.out f.Y)
    subst hbf;go_wp2_with fail;refine (cJ wb s.Y false (HSO.out.Y.below HBW.out) HSS.out.lY HSS.out.eY (Iff.intro (fun h=>Bool.noConfusion h) (fun h=>absurd h HY.out))).mono ?_;rintro e wz ⟨rfl,bb⟩;clear s1;go_wp2_with fail;go_ret;exact ⟨rfl,ai HBW.out bb HBW.out.size⟩
   case pos=>
    have HY:=ag h0;clear h0;go_wp2_with fail;refine (cJ wb s.Y true (HSO.out.Y.below HBW.out) HSS.out.lY HSS.out.eY (Iff.intro (fun _=>HY.out) (fun _=>rfl))).mono ?_;rintro e wc ⟨rfl,bb⟩;replace HPB:=ag (HPB.out.below bb);replace HSB:=ag (HSB.out.below bb);replace HBW:=ag (ai HBW.out bb HBW.out.size);clear bb s1;have s1:=HSB.out.c3;by_cases h0:Md s.R.vs
    case neg=>
     have HR:Hid (¬Md s.R.vs):=h0;clear h0;have hbf:bo=false:=by
      cases bo
      ·rfl
      ·exact absurd (HB.out.1 rfl) (fun f=>HR.out f.R)
     subst hbf;go_wp2_with fail;refine (cJ wc s.R false (HSO.out.R.below HBW.out) HSS.out.lR HSS.out.eR (Iff.intro (fun h=>Bool.noConfusion h) (fun h=>absurd h HR.out))).mono ?_;rintro e wz ⟨rfl,bb⟩;clear s1;go_wp2_with fail;go_ret;exact ⟨rfl,ai HBW.out bb HBW.out.size⟩
    case pos=>
     have HR:=ag h0;clear h0;go_wp2_with fail;refine (cJ wc s.R true (HSO.out.R.below HBW.out) HSS.out.lR HSS.out.eR (Iff.intro (fun _=>HR.out) (fun _=>rfl))).mono ?_;rintro e wd ⟨rfl,bb⟩;replace HPB:=ag (HPB.out.below bb);replace HSB:=ag (HSB.out.below bb);replace HBW:=ag (ai HBW.out bb HBW.out.size);clear bb s1;have s4:=HSB.out.c4;have s5:=HSB.out.c5;have s6:=HSB.out.c6;have e6:(⟨some ⟨wd.heap.size,0,none⟩,1,[s.v]⟩:Sl).ok (wd.alloc (.cells s.v.cells 29)):=⟨eN (HSO.out.v.below HBW.out),(fun v hv=>by
      obtain rfl:=List.mem_singleton.1 hv;exact (HSO.out.v.below HBW.out).below ((ah _ _).alloc (Nat.le_refl _) _)),Nat.le_refl _⟩
     have E6:=ag e6;have b6:=(ah wd.heap.size wd).alloc (Nat.le_refl _) (.cells s.v.cells 29);have B6:=ag b6;clear e6 b6;by_cases h0:Md [s.v]
     case neg=>
      have HV:Hid (¬Md [s.v]):=h0;clear h0;have hbf:bo=false:=by
       cases bo
       ·rfl
       ·exact absurd (HB.out.1 rfl) (fun f=>HV.out f.V)
      subst hbf;go_wp2_with fail;refine (cJ _ _ false E6.out (by simp) (by intro v hv;obtain rfl:=List.mem_singleton.1 hv;exact HSS.out.ev) (Iff.intro (fun h=>Bool.noConfusion h) (fun h=>absurd h HV.out))).mono ?_
      rintro e wz ⟨rfl,bb⟩;clear s4 s5 s6;go_wp2_with fail;go_ret;exact ⟨rfl,ai HBW.out (ai B6.out bb B6.out.size) HBW.out.size⟩
     case pos=>
      have HV:=ag h0;clear h0;go_wp2_with fail;refine (cJ _ _ true E6.out (by simp) (by intro v hv;obtain rfl:=List.mem_singleton.1 hv;exact HSS.out.ev) (Iff.intro (fun _=>HV.out) (fun _=>rfl))).mono ?_
      rintro e wr ⟨rfl,b7⟩;have bb:=ai B6.out b7 B6.out.size;replace HPB:=ag (HPB.out.below bb);replace HSB:=ag (HSB.out.below bb);replace HBW:=ag (ai HBW.out bb HBW.out.size);clear bb b7 s4 s5 s6 E6 B6;obtain ⟨n,hn⟩:∃n,p.cost.vs.length=n:=⟨_,rfl⟩;obtain ⟨m,hm⟩:∃m,p.rows.length=m:=⟨_,rfl⟩;obtain ⟨nx,hx⟩:∃n,s.X.vs.length=n:=⟨_,rfl⟩;obtain ⟨ny,hy⟩:∃n,s.Y.vs.length=n:=⟨_,rfl⟩;obtain ⟨nr,hr⟩:∃n,s.R.vs.length=n:=⟨_,rfl⟩;have hxl:nx≤1000:=by rw [←hx];exact HSS.out.lX
      have hyl:ny≤1000:=by rw [←hy];exact HSS.out.lY
      have hrl:nr≤1000:=by rw [←hr];exact HSS.out.lR
      have hnl:n≤256:=by rw [←hn];exact HVD.out.c2
      have hml:m≤32:=by rw [←hm];exact HVD.out.r2
      have hrm:p.right.vs.length=m:=HVD.out.lb.trans hm;have HOW:Hid (∀w',Below wr.heap.size wr w'→p.ok w'):=ag (fun w' hb=>(HO.out.below HBW.out).below (hb.mono (Nat.le_refl _)));have HLX:Hid (∀w',Below wr.heap.size wr w'→Lo w' s.X nx):=ag (fun w' hb=>HX.out.lo ((HSO.out.X.below HBW.out).below hb) hx (by omega) HSS.out.eX)
      have HLY:Hid (∀w',Below wr.heap.size wr w'→Lo w' s.Y ny):=ag (fun w' hb=>HY.out.lo ((HSO.out.Y.below HBW.out).below hb) hy (by omega) HSS.out.eY)
      have HLR:Hid (∀w',Below wr.heap.size wr w'→Lo w' s.R nr):=ag (fun w' hb=>HR.out.lo ((HSO.out.R.below HBW.out).below hb) hr (by omega) HSS.out.eR)
      have HVN:Hid (∀w',Below wr.heap.size wr w'→Nm w' s.v s.v.q):=ag (fun w' hb=>⟨(HSO.out.v.below HBW.out).below hb,(HV.out.v 0 (by simp)).1,rfl,HSS.out.ev.1,HSS.out.ev.2⟩)
      have HCE:Hid (∀w',Below wr.heap.size wr w'→w'.cell? ⟨g1,0,none⟩=some (.slice p.cost.A n p.cost.c)∧w'.cell? ⟨g1,1,none⟩=some (.slice p.rA m p.rc)∧w'.cell? ⟨g1,2,none⟩=some (.slice p.right.A m p.right.c)∧w'.cell? ⟨g2,1,none⟩=some (.slice s.X.A nx s.X.c)∧w'.cell? ⟨g2,2,none⟩=some (.slice s.Y.A ny s.Y.c)∧w'.cell? ⟨g2,3,none⟩=some (.slice s.R.A nr s.R.c)∧w'.cell? ⟨g2,4,none⟩=some (.bool s.v.b)∧w'.cell? ⟨g2,5,none⟩=some (.slice s.v.A s.v.xs.length s.v.c)∧w'.cell? ⟨g2,6,none⟩=some (.slice s.v.D s.v.ys.length s.v.d)):=ag (fun w' hb=>by
       have k1:=HPB.out.below hb;have k2:=HSB.out.below hb;rw [←hn,←hm,←hx,←hy,←hr];exact ⟨k1.c0,k1.c1,by rw [hm,←hrm];exact k1.c2,k2.c1,k2.c2,k2.c3,k2.c4,k2.c5,k2.c6⟩)
      have HPT:Hid (∀f:Bool,(f=true↔dX n m nx p.a (fxV s.X.vs) p.b)→∀wd,Below wr.heap.size wr wd→Calls Tryz.prog 46 #[.agg #[.slice p.cost.A n p.cost.c, .slice p.rA m p.rc, .slice p.right.A m p.right.c], .slice s.X.A nx s.X.c] wd fun e w'=>e = .returned (.bool f)∧Below wd.heap.size wd w'):=ag (fun f hf wd hb=>by
       have:=rB wd p s.X nx f (HOW.out wd hb) HSM.out HVD.out (HLX.out wd hb) HX.out (by rw [hn,hm];exact hf)
       rw [show p.val = .agg #[.slice p.cost.A n p.cost.c, .slice p.rA m p.rc, .slice p.right.A m p.right.c] from by rw [Pg.val,Sl.val,Sl.val,hn,hm,hrm]] at this
       exact this)
      have HBEg:Hid (∀(cb f:Bool) (uc:Nat→Rat),(uc=fun j=>if cb then p.c j else 0)→(f=true↔dU n m ny p.a (fxV s.Y.vs) uc)→∀wd,Below wr.heap.size wr wd→Calls Tryz.prog 47 #[.agg #[.slice p.cost.A n p.cost.c, .slice p.rA m p.rc, .slice p.right.A m p.right.c], .slice s.Y.A ny s.Y.c, .bool cb] wd fun e w'=>e = .returned (.bool f)∧Below wd.heap.size wd w'):=ag (fun cb f uc huc hf wd hb=>by
       have:=rE wd p s.Y ny cb f uc huc (HOW.out wd hb) HSM.out HVD.out (HLY.out wd hb) HY.out (by rw [hn,hm];exact hf)
       rw [show p.val = .agg #[.slice p.cost.A n p.cost.c, .slice p.rA m p.rc, .slice p.right.A m p.right.c] from by rw [Pg.val,Sl.val,Sl.val,hn,hm,hrm]] at this
       exact this)
      have HBE:Hid (∀f:Bool,(f=true↔dU n m ny p.a (fxV s.Y.vs) p.c)→∀wd,Below wr.heap.size wr wd→Calls Tryz.prog 47 #[.agg #[.slice p.cost.A n p.cost.c, .slice p.rA m p.rc, .slice p.right.A m p.right.c], .slice s.Y.A ny s.Y.c, .bool true] wd fun e w'=>e = .returned (.bool f)∧Below wd.heap.size wd w'):=ag (fun f hf=>HBEg.out true f p.c rfl hf);have HBZ:Hid (∀f:Bool,(f=true↔dU n m ny p.a (fxV s.Y.vs) (fun _=>0))→∀wd,Below wr.heap.size wr wd→Calls Tryz.prog 47 #[.agg #[.slice p.cost.A n p.cost.c, .slice p.rA m p.rc, .slice p.right.A m p.right.c], .slice s.Y.A ny s.Y.c, .bool false] wd fun e w'=>e = .returned (.bool f)∧Below wd.heap.size wd w'):=ag (fun f hf=>HBEg.out false f _ rfl hf)
      have HDC:Hid (nx=n→∀wd,Below wr.heap.size wr wd→Calls Tryz.prog 48 #[.slice p.cost.A n p.cost.c, .slice s.X.A nx s.X.c] wd fun e w'=>∃z:Fx,e = .returned z.val∧Nm w' z (aj (fun j=>p.c j*fxV s.X.vs j) n)∧Below wd.heap.size wd w'):=ag (fun e wd hb=>tR (HOW.out wd hb) HSM.out HVD.out HX.out (HLX.out wd hb) hn e);have HDE:Hid (nr=n→∀wd,Below wr.heap.size wr wd→Calls Tryz.prog 48 #[.slice p.cost.A n p.cost.c, .slice s.R.A nr s.R.c] wd fun e w'=>∃z:Fx,e = .returned z.val∧Nm w' z (aj (fun j=>p.c j*fxV s.R.vs j) n)∧Below wd.heap.size wd w'):=ag (fun e wd hb=>tR (HOW.out wd hb) HSM.out HVD.out HR.out (HLR.out wd hb) hn e)
      have HDY:Hid (ny=m→∀wd,Below wr.heap.size wr wd→Calls Tryz.prog 48 #[.slice s.Y.A ny s.Y.c, .slice p.right.A m p.right.c] wd fun e w'=>∃z:Fx,e = .returned z.val∧Nm w' z (aj (fun i=>fxV s.Y.vs i*p.b i) m)∧Below wd.heap.size wd w'):=ag (fun e wd hb=>xQ (HOW.out wd hb) HSM.out HVD.out HY.out (HLY.out wd hb) hm e);have HNN:=ag hn;have HMM:=ag hm;have HRR:=ag hr;have s0:=HSB.out.c0;have HCB1:Hid (bo=true↔dN s.kind n m nx ny nr p.a p.b p.c (fxV s.X.vs) (fxV s.Y.vs) (fxV s.R.vs) s.v.q):=ag (by
       rw [←hn,←hm,←hx,←hy,←hr];exact HB.out.trans ⟨fun f=>f.P,fun f=>⟨HVD.out,HX.out,HY.out,HR.out,HV.out,f⟩⟩)
      obtain ⟨kd,hkd⟩:∃k,s.kind=k:=⟨_,rfl⟩;rw [hkd] at s0 HCB1;obtain ⟨c0,c1,c2,s1,s2,s3,s4,s5,s6⟩:=HCE.out wr (ah _ _);clear hkd hn hm hx hy hr hrm HBEg HPB HSB HB;by_cases hk1:kd=1
      ·subst hk1;have HB:Hid (bo=true↔_):=ag (HCB1.out.trans dN.one);clear HCB1;go_upto_region 5 with fail;clear s0 c0 c1 c2 s1 s2 s3 s4 s5 s6;obtain ⟨f1,hf1⟩:=ow (dX n m nx p.a (fxV s.X.vs) p.b);obtain ⟨f2,hf2⟩:=ow (dU n m ny p.a (fxV s.Y.vs) p.c);obtain ⟨u1,hu1⟩:∃u,decide (s.v.q=aj (fun i=>p.c i*fxV s.X.vs i) n)=u:=⟨_,rfl⟩;obtain ⟨u2,hu2⟩:∃u,decide (s.v.q=aj (fun i=>fxV s.Y.vs i*p.b i) m)=u:=⟨_,rfl⟩;have Hf1:=ag hf1;have Hf2:=ag hf2;have Hu1:=ag hu1;have Hu2:=ag hu2;clear hf1 hf2 hu1 hu2;by_cases h0:nr=0
       ·have HR0:=ag h0;have hr0:((nr:Int) == 0)=true:=by simpa using h0
        clear h0;have HSP:Hid (∀w',Below wr.heap.size wr w'→(w'.cell? ⟨g1,0,none⟩=some (.slice p.cost.A n p.cost.c)∧w'.cell? ⟨g1,1,none⟩=some (.slice p.rA m p.rc)∧w'.cell? ⟨g1,2,none⟩=some (.slice p.right.A m p.right.c)∧w'.cell? ⟨g2,1,none⟩=some (.slice s.X.A nx s.X.c)∧w'.cell? ⟨g2,2,none⟩=some (.slice s.Y.A ny s.Y.c)∧w'.cell? ⟨g2,3,none⟩=some (.slice s.R.A nr s.R.c)∧w'.cell? ⟨g2,4,none⟩=some (.bool s.v.b)∧w'.cell? ⟨g2,5,none⟩=some (.slice s.v.A s.v.xs.length s.v.c)∧w'.cell? ⟨g2,6,none⟩=some (.slice s.v.D s.v.ys.length s.v.d))):=ag (fun _ bz=>(HCE.out _ bz));refine fR HSP (by kernel_rfl) (fun hHeld=>?_)
        have bz:=(ah wr.heap.size wr).drew;generalize wr.drew=wd at *;refine tki yF [false,false,false,false,false,false,false,false,false,false,false,false,false,false,false,false,false,false,false,false,false,false,false,false,false,false,false,false,false,false,false,false,false,false,false,false,false] (by kernel_rfl) (by kernel_rfl) (by kernel_rfl) (fun HSU=>?_)
        refine tks HSU 0 (.pointer (some ⟨g2,3,none⟩)) rfl ?_;simp only [tz];refine tks HSU 1 (.slice s.R.A nr s.R.c) rfl ?_;simp only [tz];refine tks HSU 2 (.int .i64 (nr:Int)) rfl ?_;simp only [tz];refine tks HSU 3 (.bool true) rfl ?_;simp only [tz];refine tks HSU 4 (.bool true) rfl ?_;simp only [tz];refine tks HSU 5 (.agg #[.slice p.cost.A n p.cost.c, .slice p.rA m p.rc, .slice p.right.A m p.right.c]) rfl ?_;simp only [tz];refine tks HSU 6 (.pointer (some ⟨g2,1,none⟩)) rfl ?_;simp only [tz];refine tks HSU 7 (.slice s.X.A nx s.X.c) rfl ?_;simp only [tz];refine tk1 HSU 8 rfl (fun K hK=>?_);go_simp
        go_at_call 46;refine (HPT.out f1 Hf1.out wd bz).mono ?_;rintro e wd ⟨rfl,bb⟩;replace bz:=ai bz bb bz.size;clear bb;refine hK.out _ _ (HSP.out _ bz) (fun hHeld=>?_);clear hK K;try simp only [tz]
        cases f1
        ·skip
         refine tkm HSU 27 [(9,48,1,some false),(0,0,3,none),(0,0,1,some false),(0,0,7,none),(0,0,1,some false),(0,0,7,none),(0,0,0,some false)] rfl ?_;simp only [exI,exD,bH,bI,kV,rpS,rpZ,apC,apN];refine tkm HSU 1 [(36,4,0,some false)] rfl ?_;simp only [exI,exD,bH,bI,kV,rpZ,apN];refine wpAnyH_done (tkn HSU (by kernel_rfl)) ?_ _
         have hbf:bo=false:=by
          cases bo
          ·rfl
          ·exact absurd (HB.out.1 rfl) (fun f=>Bool.noConfusion (Hf1.out.2 f.2.1))
         subst hbf;go_wp2_with fail;go_ret;exact ⟨rfl,ai HBW.out bz HBW.out.size⟩
        ·have HXE:=ag (Hf1.out.1 rfl).1;refine tkm HSU 2 [(9,48,1,some true)] rfl ?_;simp only [exI,exD,bH,bI,kV,rpS,rpZ,apC,apN];refine tks HSU 11 (.agg #[.slice p.cost.A n p.cost.c, .slice p.rA m p.rc, .slice p.right.A m p.right.c]) rfl ?_;simp only [tz];refine tks HSU 12 (.pointer (some ⟨g2,2,none⟩)) rfl ?_;simp only [tz];refine tks HSU 13 (.slice s.Y.A ny s.Y.c) rfl ?_;simp only [tz];refine tk1 HSU 14 rfl (fun K hK=>?_);go_simp;go_at_call 47;refine (HBE.out f2 Hf2.out wd bz).mono ?_;rintro e wd ⟨rfl,bb⟩;replace bz:=ai bz bb bz.size;clear bb;refine hK.out _ _ (HSP.out _ bz) (fun hHeld=>?_);clear hK K;try simp only [tz]
         cases f2
         ·skip
          refine tkm HSU 21 [(15,54,1,some false),(0,0,7,none),(0,0,1,some false),(0,0,7,none),(0,0,0,some false)] rfl ?_;simp only [exI,exD,bH,bI,kV,rpS,rpZ,apC,apN];refine tkm HSU 1 [(36,4,0,some false)] rfl ?_;simp only [exI,exD,bH,bI,kV,rpZ,apN];refine wpAnyH_done (tkn HSU (by kernel_rfl)) ?_ _
          have hbf:bo=false:=by
           cases bo
           ·rfl
           ·exact absurd (HB.out.1 rfl) (fun f=>Bool.noConfusion (Hf2.out.2 f.2.2.1))
          subst hbf;go_wp2_with fail;go_ret;exact ⟨rfl,ai HBW.out bz HBW.out.size⟩
         ·have HYE:=ag (Hf2.out.1 rfl).1;refine tkm HSU 2 [(15,54,1,some true)] rfl ?_;simp only [exI,exD,bH,bI,kV,rpS,rpZ,apC,apN];refine tks HSU 17 (.pointer (some ⟨g2,4,none⟩)) rfl ?_;simp only [tz];refine tks HSU 18 (s.v.val) rfl ?_;simp only [tz];refine tks HSU 19 (.pointer (some ⟨g1,0,none⟩)) rfl ?_;simp only [tz];refine tks HSU 20 (.slice p.cost.A n p.cost.c) rfl ?_;simp only [tz];refine tks HSU 21 (.pointer (some ⟨g2,1,none⟩)) rfl ?_;simp only [tz];refine tks HSU 22 (.slice s.X.A nx s.X.c) rfl ?_;simp only [tz];refine tk1 HSU 23 rfl (fun K hK=>?_);go_simp;go_at_call 48;refine (HDC.out HXE.out wd bz).mono ?_
          rintro e wd ⟨z,rfl,nz,bb⟩;replace bz:=ai bz bb bz.size;clear bb;refine hK.out _ _ (HSP.out _ bz) (fun hHeld=>?_);clear hK K;try simp only [tz]
          refine tk1 HSU 24 rfl (fun K hK=>?_);go_simp;go_at_call 24;refine (gA wd s.v z _ _ u1 (HVN.out wd bz) nz Hu1.out).mono ?_;rintro e wd ⟨rfl,bb⟩;clear nz;replace bz:=ai bz bb bz.size;clear bb;refine hK.out _ _ (HSP.out _ bz) (fun hHeld=>?_);clear hK K;try simp only [tz]
          cases u1
          ·skip
           refine tkm HSU 11 [(25,64,1,some false),(0,0,7,none),(0,0,0,some false)] rfl ?_;simp only [exI,exD,bH,bI,kV,rpS,rpZ,apC,apN];refine tkm HSU 1 [(36,4,0,some false)] rfl ?_;simp only [exI,exD,bH,bI,kV,rpZ,apN];refine wpAnyH_done (tkn HSU (by kernel_rfl)) ?_ _
           have hbf:bo=false:=by
            cases bo
            ·rfl
            ·exact absurd (HB.out.1 rfl) (fun f=>of_decide_eq_false Hu1.out f.2.2.2.1.symm)
           subst hbf;go_wp2_with fail;go_ret;exact ⟨rfl,ai HBW.out bz HBW.out.size⟩
          ·skip
           refine tkm HSU 2 [(25,64,1,some true)] rfl ?_;simp only [exI,exD,bH,bI,kV,rpS,rpZ,apC,apN];refine tks HSU 27 (.pointer (some ⟨g2,4,none⟩)) rfl ?_;simp only [tz];refine tks HSU 28 (s.v.val) rfl ?_;simp only [tz];refine tks HSU 29 (.pointer (some ⟨g2,2,none⟩)) rfl ?_;simp only [tz];refine tks HSU 30 (.slice s.Y.A ny s.Y.c) rfl ?_;simp only [tz];refine tks HSU 31 (.pointer (some ⟨g1,2,none⟩)) rfl ?_;simp only [tz];refine tks HSU 32 (.slice p.right.A m p.right.c) rfl ?_;simp only [tz];refine tk1 HSU 33 rfl (fun K hK=>?_);go_simp;go_at_call 48;refine (HDY.out HYE.out wd bz).mono ?_;rintro e wd ⟨z,rfl,nz,bb⟩
           replace bz:=ai bz bb bz.size;clear bb;refine hK.out _ _ (HSP.out _ bz) (fun hHeld=>?_);clear hK K;try simp only [tz]
           refine tk1 HSU 34 rfl (fun K hK=>?_);go_simp;go_at_call 24;refine (gA wd s.v z _ _ u2 (HVN.out wd bz) nz Hu2.out).mono ?_;rintro e wd ⟨rfl,bb⟩;clear nz;replace bz:=ai bz bb bz.size;clear bb;refine hK.out _ _ (HSP.out _ bz) (fun hHeld=>?_);clear hK K;try simp only [tz]
           cases u2
           ·skip
            refine tks HSU 35 (.bool false) rfl ?_;simp only [tz];refine tkm HSU 1 [(36,4,0,some false)] rfl ?_;simp only [exI,exD,bH,bI,kV,rpZ,apN];refine wpAnyH_done (tkn HSU (by kernel_rfl)) ?_ _
            have hbf:bo=false:=by
             cases bo
             ·rfl
             ·exact absurd (HB.out.1 rfl) (fun f=>of_decide_eq_false Hu2.out f.2.2.2.2.symm)
            subst hbf;go_wp2_with fail;go_ret;exact ⟨rfl,ai HBW.out bz HBW.out.size⟩
           ·skip
            refine tks HSU 35 (.bool true) rfl ?_;simp only [tz];refine tkm HSU 1 [(36,4,0,some true)] rfl ?_;simp only [exI,exD,bH,bI,kV,rpZ,apN];refine wpAnyH_done (tkn HSU (by kernel_rfl)) ?_ _
            have hbt:bo=true:=HB.out.2 ⟨HR0.out,Hf1.out.1 rfl,Hf2.out.1 rfl,(of_decide_eq_true Hu1.out).symm,(of_decide_eq_true Hu2.out).symm⟩;subst hbt;go_wp2_with fail;go_ret;exact ⟨rfl,ai HBW.out bz HBW.out.size⟩
       ·have hr0:((nr:Int) == 0)=false:=by simpa using h0
        have HSP:Hid (∀w',Below wr.heap.size wr w'→(w'.cell? ⟨g1,0,none⟩=some (.slice p.cost.A n p.cost.c)∧w'.cell? ⟨g1,1,none⟩=some (.slice p.rA m p.rc)∧w'.cell? ⟨g1,2,none⟩=some (.slice p.right.A m p.right.c)∧w'.cell? ⟨g2,1,none⟩=some (.slice s.X.A nx s.X.c)∧w'.cell? ⟨g2,2,none⟩=some (.slice s.Y.A ny s.Y.c)∧w'.cell? ⟨g2,3,none⟩=some (.slice s.R.A nr s.R.c)∧w'.cell? ⟨g2,4,none⟩=some (.bool s.v.b)∧w'.cell? ⟨g2,5,none⟩=some (.slice s.v.A s.v.xs.length s.v.c)∧w'.cell? ⟨g2,6,none⟩=some (.slice s.v.D s.v.ys.length s.v.d))):=ag (fun _ bz=>(HCE.out _ bz));refine fR HSP (by kernel_rfl) (fun hHeld=>?_)
        have bz:=(ah wr.heap.size wr).drew;generalize wr.drew=wd at *;refine tki yF [false,false,false,false,false,false,false,false,false,false,false,false,false,false,false,false,false,false,false,false,false,false,false,false,false,false,false,false,false,false,false,false,false,false,false,false,false] (by kernel_rfl) (by kernel_rfl) (by kernel_rfl) (fun HSU=>?_)
        refine tks HSU 0 (.pointer (some ⟨g2,3,none⟩)) rfl ?_;simp only [tz];refine tks HSU 1 (.slice s.R.A nr s.R.c) rfl ?_;simp only [tz];refine tks HSU 2 (.int .i64 (nr:Int)) rfl ?_;simp only [tz];refine tks HSU 3 (.bool false) rfl ?_;simp only [tz];refine tkm HSU 32 [(4,43,0,some false),(0,0,3,none),(0,0,1,some false),(0,0,3,none),(0,0,1,some false),(0,0,7,none),(0,0,1,some false),(0,0,7,none),(0,0,0,some false)] rfl ?_;simp only [exI,exD,bH,bI,kV,rpS,rpZ,apC,apN];refine tkm HSU 1 [(36,4,0,some false)] rfl ?_;simp only [exI,exD,bH,bI,kV,rpZ,apN];refine wpAnyH_done (tkn HSU (by kernel_rfl)) ?_ _
        have hbf:bo=false:=by
         cases bo
         ·rfl
         ·exact absurd (HB.out.1 rfl) (fun f=>h0 f.1)
        subst hbf;go_wp2_with fail;go_ret;exact ⟨rfl,ai HBW.out bz HBW.out.size⟩
      ·have kd1:(kd == 1)=false:=by simpa using hk1
       by_cases hk2:kd=2
       ·subst hk2;have HB:Hid (bo=true↔_):=ag (HCB1.out.trans dN.two);clear HCB1
--D{
        by_cases h0:nx=0
        case neg=>
         have hx0:((nx:Int) == 0)=false:=by simpa using h0
         have hbf:bo=false:=by
          cases bo
          ·rfl
          ·exact absurd (HB.out.1 rfl) (fun f=>h0 f.1)
         subst hbf;go_wp2_with fail;go_ret;exact ⟨rfl,HBW.out⟩
        case pos=>
         have HX0:=ag h0;have hx0:((nx:Int) == 0)=true:=by simpa using h0
         clear h0;by_cases h0:nr=0
         case neg=>
          have hr0:((nr:Int) == 0)=false:=by simpa using h0
          have hbf:bo=false:=by
           cases bo
           ·rfl
           ·exact absurd (HB.out.1 rfl) (fun f=>h0 f.2.1)
          subst hbf;go_wp2_with fail;go_ret;exact ⟨rfl,HBW.out⟩
         case pos=>
          have HR0:=ag h0;have hr0:((nr:Int) == 0)=true:=by simpa using h0
          clear h0;obtain ⟨f2,hf2⟩:=ow (dU n m ny p.a (fxV s.Y.vs) (fun _=>0));have Hf2:=ag hf2;clear hf2;go_wp2_with fail;refine (HBZ.out f2 Hf2.out wr (ah _ _)).mono ?_;rintro e w5 ⟨rfl,b5⟩;have HBW5:=ag (ai HBW.out b5 HBW.out.size);have HB5:=ag b5;clear s0 c0 c1 c2 s1 s2 s3 s4 s5 s6 b5;obtain ⟨c0,c1,c2,s1,s2,s3,s4,s5,s6⟩:=HCE.out w5 HB5.out
          cases f2 with
          | false=>
            have hbf:bo=false:=by
             cases bo
             ·rfl
             ·exact absurd (HB.out.1 rfl) (fun f=>Bool.noConfusion (Hf2.out.2 f.2.2.1))
            subst hbf;go_wp2_with fail;go_ret;exact ⟨rfl,HBW5.out⟩
          | true=>
            have HYE:=ag (Hf2.out.1 rfl).1;obtain ⟨z1,hz1⟩:∃z,bA (aj (fun i=>fxV s.Y.vs i*p.b i) m) 0=z:=⟨_,rfl⟩;obtain ⟨z2,hz2⟩:∃z,bA s.v.q 0=z:=⟨_,rfl⟩;have Hz1:=ag hz1;have Hz2:=ag hz2;clear hz1 hz2;go_wp2_with fail;refine (HDY.out HYE.out w5 HB5.out).mono ?_;rintro e w6 ⟨z,rfl,nz,b6⟩;have NZ:=ag nz;have HB6:=ag (ai HB5.out b6 HB5.out.size);clear s1 s2 s3 s4 s5 s6 c0 c1 c2 b6 nz;go_wp2_with fail;refine (dp w6 z _ z1 NZ.out Hz1.out).mono ?_;rintro e w7 ⟨rfl,b7⟩;have HB7:=ag (ai HB6.out b7 HB6.out.size);clear b7 NZ HB6;obtain ⟨_,_,_,_,_,_,s4,s5,s6⟩:=HCE.out w7 HB7.out;by_cases hp:0<z1
            ·have hd1:decide (0<z1)=true:=by simpa using hp
             have HPO:Hid (0<aj (fun i=>fxV s.Y.vs i*p.b i) m):=ag (Rat.not_le.1 (fun e=>absurd hp (Int.not_lt.2 (by rw [←Hz1.out];exact (ot _).2 e))))
             go_wp2_with fail;refine (dp w7 s.v _ z2 (HVN.out w7 HB7.out) Hz2.out).mono ?_;rintro e w8 ⟨rfl,b8⟩;have HB8:=ag (ai HBW.out (ai HB7.out b8 HB7.out.size) HBW.out.size);clear b8 s4 s5 s6;by_cases hz:z2=0
             ·have hbt:bo=true:=HB.out.2 ⟨HX0.out,HR0.out,Hf2.out.1 (by trivial),HPO.out,(aZ _).1 (Hz2.out.trans hz)⟩
              subst hbt hz;go_wp2_with fail;go_ret;exact ⟨rfl,HB8.out⟩
             ·have hd2:(z2 == 0)=false:=by simpa using hz
              have hbf:bo=false:=by
               cases bo
               ·rfl
               ·exact absurd (HB.out.1 rfl) (fun f=>hz (Hz2.out.symm.trans ((aZ _).2 f.2.2.2.2)))
              subst hbf;go_wp2_with fail;go_ret;exact ⟨rfl,HB8.out⟩
            ·have hd1:decide (0<z1)=false:=by simpa using hp
             have hbf:bo=false:=by
              cases bo
              ·rfl
              ·exact absurd (HB.out.1 rfl) (fun f=>hp (Int.not_le.1 (fun e=>absurd f.2.2.2.1 (Rat.not_lt.2 ((ot _).1 (by rw [Hz1.out];exact e))))))
             subst hbf;go_wp2_with fail;go_ret;exact ⟨rfl,ai HBW.out HB7.out HBW.out.size⟩
--D}
       ·have kd2:(kd == 2)=false:=by simpa using hk2
        by_cases hk3:kd=3
        ·subst hk3;have HB:Hid (bo=true↔_):=ag (HCB1.out.trans dN.three);clear HCB1;by_cases h0:ny=0
         case neg=>
          have hy0:((ny:Int) != 0)=true:=by simpa using h0
          have hbf:bo=false:=by
           cases bo
           ·rfl
           ·exact absurd (HB.out.1 rfl) (fun f=>h0 f.1)
          subst hbf;go_wp2_with fail;go_ret;exact ⟨rfl,HBW.out⟩
         case pos=>
          have HY0:=ag h0;have hy0:((ny:Int) != 0)=false:=by simpa using h0
          clear h0;obtain ⟨f1,hf1⟩:=ow (dX n m nx p.a (fxV s.X.vs) p.b);have Hf1:=ag hf1;clear hf1
          cases f1 with
          | false=>
            have hbf:bo=false:=by
             cases bo
             ·rfl
             ·exact absurd (HB.out.1 rfl) (fun f=>Bool.noConfusion (Hf1.out.2 f.2.1))
            subst hbf;go_wp2_with fail;refine (HPT.out false Hf1.out wr (ah _ _)).mono ?_;rintro e w5 ⟨rfl,b5⟩;clear s0 c0 c1 c2 s1 s2 s3 s4 s5 s6;go_wp2_with fail;go_ret;exact ⟨rfl,ai HBW.out b5 HBW.out.size⟩
          | true=>
            by_cases h1:nr=n
            case neg=>
             have hr1:((nr:Int) != (n:Int))=true:=by simp;omega
             have HN1:Hid (¬nr=n):=h1;clear h1;have hbf:bo=false:=by
              cases bo
              ·rfl
              ·exact absurd (HB.out.1 rfl) (fun f=>HN1.out f.2.2.1.1)
             subst hbf;go_wp2_with fail;refine (HPT.out true (by simpa using Hf1.out) wr (ah _ _)).mono ?_
             rintro e w5 ⟨rfl,b5⟩;clear s0 c0 c1 c2 s1 s2 s3 s4 s5 s6;obtain ⟨c0,c1,c2,s1,s2,s3,s4,s5,s6⟩:=HCE.out w5 b5;go_wp2_with fail;go_ret;exact ⟨rfl,ai HBW.out b5 HBW.out.size⟩
            case pos=>
             subst h1;obtain ⟨z2,hz2⟩:∃z,bA s.v.q 0=z:=⟨_,rfl⟩;have Hz2:=ag hz2;clear hz2;go_wp2_with fail;refine (HPT.out true (by simpa using Hf1.out) wr (ah _ _)).mono ?_
             rintro e w5 ⟨rfl,b5⟩;have HB5:=ag b5;clear s0 c0 c1 c2 s1 s2 s3 s4 s5 s6 b5;obtain ⟨c0,c1,c2,s1,s2,s3,s4,s5,s6⟩:=HCE.out w5 HB5.out;by_cases hz:z2=0
             case neg=>
              have hd2:(z2 != 0)=true:=by simpa using hz
              have HNZ:Hid (¬z2=0):=hz;clear hz;have hbf:bo=false:=by
               cases bo
               ·rfl
               ·exact absurd (HB.out.1 rfl) (fun f=>HNZ.out (Hz2.out.symm.trans ((aZ _).2 f.2.2.2.2)))
              subst hbf;go_wp2_with fail;refine (dp w5 s.v _ z2 (HVN.out w5 HB5.out) Hz2.out).mono ?_;rintro e w6 ⟨rfl,b6⟩;clear c0 c1 c2 s1 s2 s3 s4 s5 s6;go_wp2_with fail;go_ret;exact ⟨rfl,ai HBW.out (ai HB5.out b6 HB5.out.size) HBW.out.size⟩
             case pos=>
              subst hz;go_wp2_with fail;refine (dp w5 s.v _ 0 (HVN.out w5 HB5.out) Hz2.out).mono ?_;rintro e w6 ⟨rfl,b6⟩;have b66:=ai HB5.out b6 HB5.out.size;clear c0 c1 c2 s1 s2 s3 s4 s5 s6 b6 HB5;go_wp2_with fail;generalize wr=wo at *;go_loopw [5] (fun iv wr=>∃j:Nat,j≤nr∧iv = .int .i64 j∧(∀k,k<j→0≤fxV s.R.vs k)∧Below wo.heap.size wo wr) (fun iv _=>nr-(intOf iv).toNat)
              case atStart=>exact ⟨0,by omega,rfl,(fun k h=>absurd h (Nat.not_lt_zero _)),b66⟩
              case round=>
               clear b66;obtain ⟨j,hj,rfl,hnn,bz⟩:=hrel;have HNN0:=ag hnn;have HBZ0:=ag bz;obtain ⟨c0,c1,c2,s1,s2,s3,s4,s5,s6⟩:=HCE.out wr bz;by_cases hlt:j<nr
               ·obtain ⟨ad,hA,x,ef,nm⟩:=(HLR.out wr bz).r.at (k:=j) (by rw [(HLR.out wr bz).l];exact hlt)
                have NM:=ag nm;have d0:=ef.c0;have d1:=ef.c1;have d2:=ef.c2;rw [hA] at s3;obtain ⟨z,hz⟩:∃z,bA (fxV s.R.vs j) 0=z:=⟨_,rfl⟩;have HZ:=ag hz;clear ef nm bz hnn hz hA c0 c1 c2 s1 s2 s4 s5 s6;by_cases h0:z<0
                ·have HNEG:Hid (fxV s.R.vs j<0):=ag ((eC _).1 (by rw [HZ.out];exact h0))
                 have hbf:bo=false:=by
                  cases bo
                  ·rfl
                  ·exact absurd (HB.out.1 rfl) (fun f=>absurd HNEG.out (Rat.not_lt.2 (f.2.2.1.2.1 j hlt)))
                 subst hbf;go_wp2_with fail;refine (dp wr x _ z NM.out HZ.out).mono ?_;rintro e wn ⟨rfl,bb⟩;clear d0 d1 d2 s3;go_wp2_with fail;go_ret;exact ⟨rfl,ai HBW.out (ai HBZ0.out bb HBZ0.out.size) HBW.out.size⟩
                ·have HPOS:Hid (0≤fxV s.R.vs j):=ag (Rat.not_lt.1 (fun e=>h0 (by rw [←HZ.out];exact (eC _).2 e)))
                 go_wp2_with fail;refine (dp wr x _ z NM.out HZ.out).mono ?_;rintro e wn ⟨rfl,bb⟩;clear d0 d1 d2 s3;go_wp2_with fail;go_roundw
                 case rel=>exact ⟨j+1,by omega,by go_num,(fun k hk=>by
                  rcases Nat.lt_or_ge k j with h2|h2
                  ·exact HNN0.out k h2
                  ·obtain rfl:k=j:=by omega
                   exact HPOS.out),ai HBZ0.out bb HBZ0.out.size⟩
                 case measure=>simp [intOf];omega
               ·obtain rfl:nr=j:=by omega
                clear hnn bz;go_wp2_with fail;clear c0 c1 c2 s1 s2 s3 s4 s5 s6;go_loopw [6] (fun iv wr=>∃i:Nat,i≤m∧iv = .int .i64 i∧(∀k,k<i→aj (fun j=>p.a k j*fxV s.R.vs j) nr=0)∧Below wo.heap.size wo wr) (fun iv _=>m-(intOf iv).toNat)
                case atStart=>exact ⟨0,by omega,rfl,(fun k h=>absurd h (Nat.not_lt_zero _)),HBZ0.out⟩
                case round=>
                 clear HBZ0;obtain ⟨i,hi,rfl,heq,bz⟩:=hrel;have HEQ:=ag heq;have HBZ0:=ag bz;obtain ⟨c0,c1,c2,s1,s2,s3,s4,s5,s6⟩:=HCE.out wr bz;by_cases hlt:i<m
                 ·have hil:i<p.rows.length:=by rw [HMM.out];exact hlt
                  obtain ⟨r,hr⟩:∃r,p.rows[i]=r:=⟨_,rfl⟩;obtain ⟨ar,har,harl,hc⟩:=(HOW.out wr bz).rd (by omega)
                  have hcj:=hc i hil;rw [hr] at hcj;have hrl2:r.vs.length=nr:=by rw [←HNN.out];exact HVD.out.la r (by rw [←hr];exact List.getElem_mem hil)
                  obtain ⟨z0,hz0⟩:∃z,bA (aj (fun j=>p.a i j*fxV s.R.vs j) nr) 0=z:=⟨_,rfl⟩;have HZ:=ag hz0;have HDR:Hid (∀wd,Below wr.heap.size wr wd→Calls Tryz.prog 48 #[.slice r.A nr r.c, .slice s.R.A nr s.R.c] wd fun e w'=>∃z:Fx,e = .returned z.val∧Nm w' z (aj (fun j=>p.a i j*fxV s.R.vs j) nr)∧Below wd.heap.size wd w'):=ag (fun wd hb=>Cj (HOW.out wd (ai bz hb bz.size)) HSM.out HVD.out HR.out (HLR.out wd (ai bz hb bz.size)) HNN.out rfl hil hr);have HCI:Hid (∀w',Below wr.heap.size wr w'→w'.cell? ⟨g1,1,none⟩=some (.slice (some ar) m p.rc)∧w'.cell? ⟨g2,3,none⟩=some (.slice s.R.A nr s.R.c)∧w'.cell? (ar.add i)=some (.slice r.A nr r.c)):=ag (fun w' hb=>by
                   obtain ⟨_,k1,_,_,_,k3,_,_,_⟩:=HCE.out w' (ai bz hb bz.size);rw [har] at k1;refine ⟨k1,k3,?_⟩;rw [←hrl2];exact (hb.cell (p:=ar.add i) (by rw [aM];exact harl)).trans hcj)
                  rw [har] at c1;clear heq bz hr har harl hc hcj hrl2 hz0 c0 c2 s1 s2 s3 s4 s5 s6;go_upto_region 19 with fail
                  go_cut [166] (fun v wx=>v = .bool (z0 != 0)∧Below wr.heap.size wr wx)
                  case first=>
                   have HSP:Hid (∀w',Below wr.heap.size wr w'→(w'.cell? ⟨g1,1,none⟩=some (.slice (some ar) m p.rc)∧w'.cell? ⟨g2,3,none⟩=some (.slice s.R.A nr s.R.c)∧w'.cell? (ar.add i)=some (.slice r.A nr r.c))):=ag (fun _ bz=>(HCI.out _ bz));refine fR HSP (by kernel_rfl) (fun hHeld=>?_)
                   have bz:=(ah wr.heap.size wr).drew;generalize wr.drew=wd at *;refine tki [sE 157 [2] [],sE 158 [157] [0],sE 159 [6] [],sE 160 [158,159] [1,2],sE 161 [160] [3],sE 162 [3] [],sE 163 [162] [5],sE 164 [161,163] [4,6],sE 165 [164] [7,7],sE 166 [165] [8]] [false,false,false,false,false,false,false,false,false,false] (by kernel_rfl) (by kernel_rfl) (by kernel_rfl) (fun HSU=>?_)
                   refine tks HSU 0 (.pointer (some ⟨g1,1,none⟩)) rfl ?_;simp only [tz];refine tks HSU 1 (.slice (some ar) m p.rc) rfl ?_;simp only [tz];refine tks HSU 2 (.int .i64 (i:Int)) rfl ?_;simp only [tz];refine tks HSU 3 (.pointer (some (ar.add i))) rfl ?_;simp only [tz];refine tks HSU 4 (.slice r.A nr r.c) rfl ?_;simp only [tz];refine tks HSU 5 (.pointer (some ⟨g2,3,none⟩)) rfl ?_;simp only [tz];refine tks HSU 6 (.slice s.R.A nr s.R.c) rfl ?_;simp only [tz];refine tk1 HSU 7 rfl (fun K hK=>?_);go_simp;go_at_call 48;refine (HDR.out wd bz).mono ?_;rintro e wd ⟨z,rfl,nz,bb⟩;replace bz:=ai bz bb bz.size
                   clear bb;refine hK.out _ _ (HSP.out _ bz) (fun hHeld=>?_);clear hK K;try simp only [tz]
                   refine tk1 HSU 8 rfl (fun K hK=>?_);go_simp;go_at_call 49;refine (dp wd z _ z0 nz HZ.out).mono ?_;rintro e wd ⟨rfl,bb⟩;clear nz;replace bz:=ai bz bb bz.size;clear bb;refine hK.out _ _ (HSP.out _ bz) (fun hHeld=>?_);clear hK K;try simp only [tz]
                   refine tks HSU 9 (.bool (z0 != 0)) rfl ?_;simp only [tz];refine wpAnyH_done (tkn HSU (by kernel_rfl)) ?_ _
                   go_wp2_with fail;go_meet
                   case rel=>exact ⟨rfl,bz⟩
                  case rest=>
                   obtain ⟨rfl,bb⟩:=hcut;clear c1;by_cases hz:z0=0
                   ·have HE:=ag ((aZ _).1 (HZ.out.trans hz));have hd0:(z0 != 0)=false:=by simpa using hz
                    go_wp2_with fail;go_roundw
                    case rel=>exact ⟨i+1,by omega,by go_num,(fun k hk=>by
                     rcases Nat.lt_or_ge k i with h2|h2
                     ·exact HEQ.out k h2
                     ·obtain rfl:k=i:=by omega
                      exact HE.out),ai HBZ0.out bb HBZ0.out.size⟩
                    case measure=>simp [intOf];omega
                   ·have HE:Hid (¬aj (fun j=>p.a i j*fxV s.R.vs j) nr=0):=fun e=>hz (HZ.out.symm.trans ((aZ _).2 e));have hd0:(z0 != 0)=true:=by simpa using hz
                    have hbf:bo=false:=by
                     cases bo
                     ·rfl
                     ·exact absurd (HB.out.1 rfl) (fun f=>HE.out (f.2.2.1.2.2 i hlt))
                    subst hbf;go_wp2_with fail;go_ret;exact ⟨rfl,ai HBW.out (ai HBZ0.out bb HBZ0.out.size) HBW.out.size⟩
                 ·obtain rfl:m=i:=by omega
                  obtain ⟨z1,hz1⟩:∃z,bA (aj (fun i=>p.c i*fxV s.R.vs i) nr) 0=z:=⟨_,rfl⟩;have Hz1:=ag hz1;have HFR:Hid (dX nr m nr p.a (fxV s.R.vs) (fun _=>0)):=ag ⟨rfl,HNN0.out,heq⟩;clear heq bz hz1;go_wp2_with fail;refine (HDE.out (by trivial) wr HBZ0.out).mono ?_
                  rintro e w6 ⟨z,rfl,nz,b6⟩;clear c0 c1 c2 s1 s2 s3 s4 s5 s6;go_wp2_with fail;refine (dp w6 z _ z1 nz Hz1.out).mono ?_;rintro e w7 ⟨rfl,b7⟩;have hbe:bo=decide (z1<0):=by
                   rw [Bool.eq_iff_iff,HB.out,decide_eq_true_iff,←Hz1.out];constructor
                   ·intro f;exact (eC _).2 f.2.2.2.1
                   ·intro f;exact ⟨HY0.out,Hf1.out.1 (by trivial),HFR.out,(eC _).1 f,(aZ _).1 Hz2.out⟩
                  go_wp2_with fail;go_ret;exact ⟨dz hbe.symm,ai HBW.out (ai (ai HBZ0.out b6 HBZ0.out.size) b7 (Nat.le_trans HBZ0.out.size b6.size)) HBW.out.size⟩
        ·have kd3:(kd == 3)=false:=by simpa using hk3
         have hbf:bo=false:=by
          cases bo
          ·rfl
          ·exact absurd (HCB1.out.1 rfl).kind (by omega)
         subst hbf;go_wp2_with fail;go_ret;exact ⟨rfl,HBW.out⟩
 ·skip
  have hbf:bo=false:=by
   cases bo
   ·rfl
   ·exact absurd (HB.out.1 rfl) (fun f=>hv f.vd)
  subst hbf;go_wp2_with fail;refine (kD wb p false (HO.out.below bw) HSM.out (Iff.intro (fun h=>Bool.noConfusion h) (fun h=>absurd h hv))).mono ?_;rintro e w1 ⟨rfl,bb⟩;clear c0 c1 c2 pb1 sb;go_wp2_with fail;go_ret;exact ⟨rfl,ai HBW.out bb HBW.out.size⟩
end Go.Proofs.YtkpfbekmaafehaaGreat
