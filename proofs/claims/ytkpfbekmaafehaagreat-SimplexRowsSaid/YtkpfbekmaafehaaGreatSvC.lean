/- The walk of simplex.Check -/
import Derived.Test.YtkpfbekmaafehaaGreatSsK
import Derived.Test.YtkpfbekmaafehaaGreatSsM
import Derived.Test.YtkpfbekmaafehaaGreatSsJ
import Derived.Test.YtkpfbekmaafehaaGreatFsB
import Derived.Test.YtkpfbekmaafehaaGreatRfD
import Derived.Test.YtkpfbekmaafehaaGreatSpB
import Derived.Test.YtkpfbekmaafehaaGreatTk
namespace Go.Proofs.YtkpfbekmaafehaaGreat
set_option maxRecDepth 100000
open Go.RowKit
set_option maxHeartbeats 4000000 in
theorem xz (w:World) (p:Pg) (s:Sn) (h:p.ok w) (sm:p.sm) (hs:s.ok w) (ss:s.sm) (hno:¬(p.vd∧Md s.X.vs∧Md s.Y.vs∧Md s.R.vs∧Md [s.v])) :
 Calls Tryz.prog 17 #[p.val,s.val] w fun e w'=>e = .returned (.bool false)∧Below w.heap.size w w':=by
 have HO:=ag h;have HSM:=ag sm;have HSO:=ag hs;have HSS:=ag ss;have HNO:=ag hno;clear h sm hs ss hno;go_enter Tryz.func17,Tryz.ntmps17;go_upto_region 1 with fail;have pb:=(aY w p 25).1;have bw:=(aY w p 25).2;have hsz:=iV w p 25;generalize (w.alloc (.cells #[.slice p.cost.A p.cost.vs.length p.cost.c, .slice p.rA p.rows.length p.rc, .slice p.right.A p.right.vs.length p.right.c] 25))=wm at pb bw hsz⊢;have sb:=(cY wm s 31).1;have bb:=(cY wm s 31).2;rw [hsz] at sb;replace pb:=pb.below bb;replace bw:=ai bw bb bw.size;clear bb hsz;generalize (wm.alloc (.cells #[.int .i64 s.kind, .slice s.X.A s.X.vs.length s.X.c, .slice s.Y.A s.Y.vs.length s.Y.c, .slice s.R.A s.R.vs.length s.R.c, .bool s.v.b, .slice s.v.A s.v.xs.length s.v.c, .slice s.v.D s.v.ys.length s.v.d] 31))=wb at *
 obtain ⟨g1,hg1⟩:∃g,w.heap.size=g:=⟨_,rfl⟩;obtain ⟨g2,hg2⟩:∃g,w.heap.size+1=g:=⟨_,rfl⟩;have pb1:Pb wb g1 p:=by rw [←hg1];exact pb
 rw [hg2] at sb;rw [hg2,hg1];clear hg1 hg2 pb;have c0:=pb1.c0;have c1:=pb1.c1;have c2:=pb1.c2;by_cases hv:p.vd
 ·have HVD:=ag hv;have HPB:=ag pb1;have HSB:=ag sb;have HBW:=ag bw;go_wp2_with fail;refine (fE wb p true (HO.out.below bw) HSM.out (Iff.intro (fun _=>HVD.out) (fun _=>rfl))).mono ?_;rintro e wa ⟨rfl,bb⟩;replace HPB:=ag (HPB.out.below bb);replace HSB:=ag (HSB.out.below bb);replace HBW:=ag (ai HBW.out bb HBW.out.size);clear bb c0 c1 c2 pb1 sb bw hv wb;have s1:=HSB.out.c1;go_wp2_with fail;refine (cm wa s.X (HSO.out.X.below HBW.out) HSS.out.lX HSS.out.eX).mono ?_;rintro e wb ⟨A1,l1,c1,b1,rfl,hx,bb⟩;have HX:=ag hx;replace HPB:=ag (HPB.out.below bb);replace HSB:=ag (HSB.out.below bb);replace HBW:=ag (ai HBW.out bb HBW.out.size)
  clear bb s1 hx wa;have s2:=HSB.out.c2;go_wp2_with fail;refine (cm wb s.Y (HSO.out.Y.below HBW.out) HSS.out.lY HSS.out.eY).mono ?_;rintro e wa ⟨A2,l2,c2,b2,rfl,hx,bb⟩;replace HX:=ag (HX.out.below bb);have HY:=ag hx;replace HPB:=ag (HPB.out.below bb);replace HSB:=ag (HSB.out.below bb);replace HBW:=ag (ai HBW.out bb HBW.out.size);clear bb s2 hx wb;have s3:=HSB.out.c3;go_wp2_with fail;refine (cm wa s.R (HSO.out.R.below HBW.out) HSS.out.lR HSS.out.eR).mono ?_;rintro e wb ⟨A3,l3,c3,b3,rfl,hx,bb⟩;replace HX:=ag (HX.out.below bb);replace HY:=ag (HY.out.below bb);have HR:=ag hx;replace HPB:=ag (HPB.out.below bb)
  replace HSB:=ag (HSB.out.below bb);replace HBW:=ag (ai HBW.out bb HBW.out.size);clear bb s3 hx wa;have s4:=HSB.out.c4;have s5:=HSB.out.c5;have s6:=HSB.out.c6;go_wp2_with fail;have e6:(⟨some ⟨wb.heap.size,0,none⟩,1,[s.v]⟩:Sl).ok (wb.alloc (.cells s.v.cells 29)):=⟨eN (HSO.out.v.below HBW.out),(fun v hv=>by
   obtain rfl:=List.mem_singleton.1 hv;exact (HSO.out.v.below HBW.out).below ((ah _ _).alloc (Nat.le_refl _) _)),Nat.le_refl _⟩
  have bb:=(ah wb.heap.size wb).alloc (Nat.le_refl _) (.cells s.v.cells 29);refine (cm _ _ e6 (by simp) (by intro v hv;obtain rfl:=List.mem_singleton.1 hv;exact HSS.out.ev)).mono ?_
  rintro e wa ⟨A4,l4,c4,b4,rfl,hx,b5⟩;replace bb:=ai bb b5 bb.size;replace HX:=ag (HX.out.below bb);replace HY:=ag (HY.out.below bb);replace HR:=ag (HR.out.below bb);have HV:Hid (Sho wa A4 l4 b4 [s.v]):=ag hx;replace HPB:=ag (HPB.out.below bb);replace HSB:=ag (HSB.out.below bb);replace HBW:=ag (ai HBW.out bb HBW.out.size);clear bb s4 s5 s6 hx e6 b5;generalize wb.heap.size=g40;clear wb;by_cases b1=true
  case neg h0=>
   obtain rfl:b1=false:=by simpa using h0
   go_wp2_with fail;go_ret;exact ⟨rfl,HBW.out⟩
  case pos h0=>
   subst h0;by_cases b2=true
   case neg h0=>
    obtain rfl:b2=false:=by simpa using h0
    go_wp2_with fail;go_ret;exact ⟨rfl,HBW.out⟩
   case pos h0=>
    subst h0;by_cases b3=true
    case neg h0=>
     obtain rfl:b3=false:=by simpa using h0
     go_wp2_with fail;go_ret;exact ⟨rfl,HBW.out⟩
    case pos h0=>
     subst h0;by_cases b4=true
     case neg h0=>
      obtain rfl:b4=false:=by simpa using h0
      go_wp2_with fail;go_ret;exact ⟨rfl,HBW.out⟩
     case pos h0=>
      subst h0;exact absurd ⟨HVD.out,(HX.out.t rfl).1,(HY.out.t rfl).1,(HR.out.t rfl).1,(HV.out.t rfl).1⟩ HNO.out
 ·have HBW:=ag bw;go_wp2_with fail;refine (fE wb p false (HO.out.below bw) HSM.out (Iff.intro (fun h=>Bool.noConfusion h) (fun h=>absurd h hv))).mono ?_;rintro e w1 ⟨rfl,bb⟩;clear c0 c1 c2 pb1 sb;go_wp2_with fail;go_ret;exact ⟨rfl,ai HBW.out bb HBW.out.size⟩
theorem uJ (w:World) (p:Pg) (s:Sn) (bo:Bool) (h:p.ok w) (sm:p.sm) (hs:s.ok w) (ss:s.sm) (hb:bo=true↔yo p s) :
 Calls Tryz.prog 17 #[p.val,s.val] w fun e w'=>e = .returned (.bool bo)∧Below w.heap.size w w':=by
 by_cases h0:p.vd∧Md s.X.vs∧Md s.Y.vs∧Md s.R.vs∧Md [s.v]
 ·obtain ⟨vd,mx,my,mr,mv⟩:=h0;by_cases k:s.kind=2∨s.kind=3
  ·exact xA w p s bo h sm hs ss hb vd mx my mr mv k
  ·exact xB w p s bo h sm hs ss hb vd mx my mr mv ⟨fun e=>k (Or.inl e),fun e=>k (Or.inr e)⟩
 ·have hbf:bo=false:=by
   cases bo
   ·rfl
   ·have f:=hb.1 rfl;exact absurd ⟨f.vd,f.X,f.Y,f.R,f.V⟩ h0
  subst hbf;exact xz w p s h sm hs ss h0
set_option maxRecDepth 100000
open Go.RowKit
set_option maxHeartbeats 800000 in
theorem qn (w:World) (x y:Fx) (p q:Rat) (h1:Nm w x p) (h2:Nm w y q) (hz:Sz (p+q) 128 128) :
 Calls Tryz.prog 87 #[x.val,y.val] w fun e w'=>∃z:Fx,e = .returned z.val∧El w' z (p+q)∧Below w.heap.size w w':=by
 have hx:=h1.ok;have hy:=h2.ok;have H1:=ag h1;have H2:=ag h2;have HE:Hid (jl x y=okS (p+q)):=ag (sd h1.v h2.v h1.q h2.q hz);clear h1 h2 hz;go_enter Tryz.func87,Tryz.ntmps87;go_wp2_with fail;have b0:=(ah w.heap.size w).alloc (Nat.le_refl _) (.cells x.cells 29);have bx:=az w (.bool x.b) (.slice x.A x.xs.length x.c) (.slice x.D x.ys.length x.d);have okx:=hx.below b0;have oky:=hy.below b0;have sz0:=aB w (.cells x.cells 29);have bw:=b0;clear b0;generalize (w.alloc (.cells x.cells 29))=wa at bx okx oky sz0 bw⊢;have b1:=(ah wa.heap.size wa).alloc (Nat.le_refl _) (.cells y.cells 29);have by_:=az wa (.bool y.b) (.slice y.A y.xs.length y.c) (.slice y.D y.ys.length y.d)
 have sz1:=aB wa (.cells y.cells 29);rw [sz0] at by_ sz1;replace bx:=bx.below b1;replace okx:=okx.below b1;replace oky:=oky.below b1;replace bw:=ai bw b1 bw.size;clear b1;generalize (wa.alloc (.cells y.cells 29))=wb at bx by_ okx oky bw sz1⊢;have b2:=(ah wb.heap.size wb).alloc (Nat.le_refl _) (.cells #[.bool false, .slice none 0 0, .slice none 0 0] 29);have bk:=aK wb;rw [sz1] at bk;replace bx:=bx.below b2;replace by_:=by_.below b2;replace okx:=okx.below b2;replace oky:=oky.below b2;replace bw:=ai bw b2 bw.size;clear b2 sz0 sz1;generalize (wb.alloc (.cells #[.bool false, .slice none 0 0, .slice none 0 0] 29))=w1 at bx by_ okx oky bw bk⊢
 refine (qk w1 x y (okS (p+q)) okx oky H1.out.l H1.out.m H2.out.l H2.out.m HE.out).mono ?_;rintro e wn ⟨x3,rfl,hs3,ok3,bb⟩;have HS3:=ag hs3;clear hs3
 try replace bx:=bx.below bb
 try replace by_:=by_.below bb
 try replace bk:=bk.below bb
 try replace okx:=okx.below bb
 try replace oky:=oky.below bb
 try replace ok3:=ok3.below bb
 try replace na:=na.below bb
 try replace nb:=nb.below bb
 try replace nc:=nc.below bb
 try replace nd:=nd.below bb
 try replace ne:=ne.below bb
 replace bw:=ai bw bb bw.size;clear bb;go_upto_region 2 with fail;have a3:=(au ok3).1;have bb:=(au ok3).2;clear ok3;generalize (wn.alloc (.cells #[.bool x3.b, .slice x3.A x3.xs.length x3.c, .slice x3.D x3.ys.length x3.d] 29))=wm at a3 bb⊢
 try replace bx:=bx.below bb
 try replace by_:=by_.below bb
 try replace bk:=bk.below bb
 try replace okx:=okx.below bb
 try replace oky:=oky.below bb
 try replace ok3:=ok3.below bb
 try replace na:=na.below bb
 try replace nb:=nb.below bb
 try replace nc:=nc.below bb
 try replace nd:=nd.below bb
 try replace ne:=ne.below bb
 replace bw:=ai bw bb bw.size;clear bb;generalize wn.heap.size=g3 at a3⊢;have ci0:=a3.c0;have ci1:=a3.c1;have ci2:=a3.c2;have tk:=bk;obtain ⟨k0,k1,k2,kf0,kf1,kf2,klt,kb⟩:=tk;clear kb;go_wp2_with fail;refine bodyPost_ret (v:=x3.val) (by simp [results,Tryz.results87,go_sem,k0,k1,k2]) rfl ?_
 exact ⟨x3,rfl,⟨bD a3.ok bk rfl rfl rfl,Rp.of HS3.out⟩,aR bw (by omega)⟩
set_option maxHeartbeats 800000 in
theorem qm (w:World) (x y:Fx) (p q:Rat) (h1:Nm w x p) (h2:Nm w y q) (hz:Sz (p*q) 128 128) :
 Calls Tryz.prog 88 #[x.val,y.val] w fun e w'=>∃z:Fx,e = .returned z.val∧El w' z (p*q)∧Below w.heap.size w w':=by
 have hx:=h1.ok;have hy:=h2.ok;have H1:=ag h1;have H2:=ag h2;have HE:Hid (pe x y=okS (p*q)):=ag (rJ h1.v h2.v h1.q h2.q hz);clear h1 h2 hz;go_enter Tryz.func88,Tryz.ntmps88;go_wp2_with fail;have b0:=(ah w.heap.size w).alloc (Nat.le_refl _) (.cells x.cells 29);have bx:=az w (.bool x.b) (.slice x.A x.xs.length x.c) (.slice x.D x.ys.length x.d);have okx:=hx.below b0;have oky:=hy.below b0;have sz0:=aB w (.cells x.cells 29);have bw:=b0;clear b0;generalize (w.alloc (.cells x.cells 29))=wa at bx okx oky sz0 bw⊢;have b1:=(ah wa.heap.size wa).alloc (Nat.le_refl _) (.cells y.cells 29);have by_:=az wa (.bool y.b) (.slice y.A y.xs.length y.c) (.slice y.D y.ys.length y.d)
 have sz1:=aB wa (.cells y.cells 29);rw [sz0] at by_ sz1;replace bx:=bx.below b1;replace okx:=okx.below b1;replace oky:=oky.below b1;replace bw:=ai bw b1 bw.size;clear b1;generalize (wa.alloc (.cells y.cells 29))=wb at bx by_ okx oky bw sz1⊢;have b2:=(ah wb.heap.size wb).alloc (Nat.le_refl _) (.cells #[.bool false, .slice none 0 0, .slice none 0 0] 29);have bk:=aK wb;rw [sz1] at bk;replace bx:=bx.below b2;replace by_:=by_.below b2;replace okx:=okx.below b2;replace oky:=oky.below b2;replace bw:=ai bw b2 bw.size;clear b2 sz0 sz1;generalize (wb.alloc (.cells #[.bool false, .slice none 0 0, .slice none 0 0] 29))=w1 at bx by_ okx oky bw bk⊢
 refine (qg w1 x y (okS (p*q)) okx oky H1.out.l H1.out.m H2.out.l H2.out.m HE.out).mono ?_;rintro e wn ⟨x3,rfl,hs3,ok3,bb⟩;have HS3:=ag hs3;clear hs3
 try replace bx:=bx.below bb
 try replace by_:=by_.below bb
 try replace bk:=bk.below bb
 try replace okx:=okx.below bb
 try replace oky:=oky.below bb
 try replace ok3:=ok3.below bb
 try replace na:=na.below bb
 try replace nb:=nb.below bb
 try replace nc:=nc.below bb
 try replace nd:=nd.below bb
 try replace ne:=ne.below bb
 replace bw:=ai bw bb bw.size;clear bb;go_upto_region 2 with fail;have a3:=(au ok3).1;have bb:=(au ok3).2;clear ok3;generalize (wn.alloc (.cells #[.bool x3.b, .slice x3.A x3.xs.length x3.c, .slice x3.D x3.ys.length x3.d] 29))=wm at a3 bb⊢
 try replace bx:=bx.below bb
 try replace by_:=by_.below bb
 try replace bk:=bk.below bb
 try replace okx:=okx.below bb
 try replace oky:=oky.below bb
 try replace ok3:=ok3.below bb
 try replace na:=na.below bb
 try replace nb:=nb.below bb
 try replace nc:=nc.below bb
 try replace nd:=nd.below bb
 try replace ne:=ne.below bb
 replace bw:=ai bw bb bw.size;clear bb;generalize wn.heap.size=g3 at a3⊢;have ci0:=a3.c0;have ci1:=a3.c1;have ci2:=a3.c2;have tk:=bk;obtain ⟨k0,k1,k2,kf0,kf1,kf2,klt,kb⟩:=tk;clear kb;go_wp2_with fail;refine bodyPost_ret (v:=x3.val) (by simp [results,Tryz.results88,go_sem,k0,k1,k2]) rfl ?_
 exact ⟨x3,rfl,⟨bD a3.ok bk rfl rfl rfl,Rp.of HS3.out⟩,aR bw (by omega)⟩
theorem xX (p q:Rat):decide (bA p q=0)=decide (p=q):=by
 rcases du p q with ⟨h,e⟩|⟨h,e⟩|⟨h,e⟩ <;> rw [e]
 ·rw [decide_eq_false (Rat.ne_of_lt h)];rfl
 ·rw [decide_eq_true h];rfl
 ·rw [decide_eq_false (Rat.ne_of_gt h)];rfl
theorem xY (p q:Rat):decide (bA p q<0)=decide (p<q):=by
 rcases du p q with ⟨h,e⟩|⟨h,e⟩|⟨h,e⟩ <;> rw [e]
 ·rw [decide_eq_true h];rfl
 ·rw [h,decide_eq_false Rat.lt_irrefl];rfl
 ·rw [decide_eq_false (Rat.not_lt.2 (Rat.le_of_lt h))];rfl
set_option maxHeartbeats 800000 in
theorem oV (w:World) (x1 x2:Fx) (p q:Rat) (b:Bool) (h1:Nm w x1 p) (h2:Nm w x2 q) (hb:decide (p<q)=b) :
 Calls Tryz.prog 30 #[x1.val,x2.val] w fun e w'=>e = .returned (.bool b)∧Below w.heap.size w w':=by
 obtain ⟨z,hz⟩:∃z,bA p q=z:=⟨_,rfl⟩;rw [←xY,hz] at hb;have HB:Hid ((decide (z<0))=b):=ag (by first|exact hb | (rw [←hb];exact Bool.beq_eq_decide_eq z 0))
 have HZ:Hid (bA x1.q x2.q=z):=ag (by rw [h1.q,h2.q];exact hz)
 have ok1:=h1.ok;have ok2:=h2.ok;have H1:=ag h1;have H2:=ag h2;clear hb hz h1 h2;go_enter Tryz.func30,Tryz.ntmps30;go_upto_region 1 with fail;have bw:=ah w.heap.size w;have a1:=(au ok1).1;have bb:=(au ok1).2;have sz1:=aB w (.cells x1.cells 29);clear ok1;generalize (w.alloc (.cells x1.cells 29))=wA at a1 bb sz1⊢
 try replace ok1:=ok1.below bb
 try replace ok2:=ok2.below bb
 try replace a1:=a1.below bb
 replace bw:=ai bw bb bw.size;clear bb;have a2:=(au ok2).1;have bb:=(au ok2).2;have sz2:=aB wA (.cells x2.cells 29);rw [sz1] at a2 sz2;clear ok2 sz1;generalize (wA.alloc (.cells x2.cells 29))=wm at a2 bb sz2⊢
 try replace ok1:=ok1.below bb
 try replace ok2:=ok2.below bb
 try replace a1:=a1.below bb
 try replace a2:=a2.below bb
 replace bw:=ai bw bb bw.size;clear bb;clear sz2;have ci0:=a1.c0;have ci1:=a1.c1;have ci2:=a1.c2;have cj0:=a2.c0;have cj1:=a2.c1;have cj2:=a2.c2;go_wp2_with fail;clear ci0 ci1 ci2 cj0 cj1 cj2;refine (jw _ x1 x2 z a1.ok a2.ok H1.out.v H2.out.v H1.out.l H1.out.m H2.out.l H2.out.m HZ.out).mono ?_;rintro e wn ⟨rfl,bb⟩
 try replace a1:=a1.below bb
 try replace a2:=a2.below bb
 replace bw:=ai bw bb bw.size;clear bb;go_wp2_with fail;go_ret;exact ⟨dz HB.out,bw⟩
set_option maxHeartbeats 800000 in
theorem gA (w:World) (x1 x2:Fx) (p q:Rat) (b:Bool) (h1:Nm w x1 p) (h2:Nm w x2 q) (hb:decide (p=q)=b) :
 Calls Tryz.prog 24 #[x1.val,x2.val] w fun e w'=>e = .returned (.bool b)∧Below w.heap.size w w':=by
 obtain ⟨z,hz⟩:∃z,bA p q=z:=⟨_,rfl⟩;rw [←xX,hz] at hb;have HB:Hid ((z == 0)=b):=ag (by first|exact hb | (rw [←hb];exact Bool.beq_eq_decide_eq z 0))
 have HZ:Hid (bA x1.q x2.q=z):=ag (by rw [h1.q,h2.q];exact hz)
 have ok1:=h1.ok;have ok2:=h2.ok;have H1:=ag h1;have H2:=ag h2;clear hb hz h1 h2;go_enter Tryz.func24,Tryz.ntmps24;go_upto_region 1 with fail;have bw:=ah w.heap.size w;have a1:=(au ok1).1;have bb:=(au ok1).2;have sz1:=aB w (.cells x1.cells 29);clear ok1;generalize (w.alloc (.cells x1.cells 29))=wA at a1 bb sz1⊢
 try replace ok1:=ok1.below bb
 try replace ok2:=ok2.below bb
 try replace a1:=a1.below bb
 replace bw:=ai bw bb bw.size;clear bb;have a2:=(au ok2).1;have bb:=(au ok2).2;have sz2:=aB wA (.cells x2.cells 29);rw [sz1] at a2 sz2;clear ok2 sz1;generalize (wA.alloc (.cells x2.cells 29))=wm at a2 bb sz2⊢
 try replace ok1:=ok1.below bb
 try replace ok2:=ok2.below bb
 try replace a1:=a1.below bb
 try replace a2:=a2.below bb
 replace bw:=ai bw bb bw.size;clear bb;clear sz2;have ci0:=a1.c0;have ci1:=a1.c1;have ci2:=a1.c2;have cj0:=a2.c0;have cj1:=a2.c1;have cj2:=a2.c2;go_wp2_with fail;clear ci0 ci1 ci2 cj0 cj1 cj2;refine (jw _ x1 x2 z a1.ok a2.ok H1.out.v H2.out.v H1.out.l H1.out.m H2.out.l H2.out.m HZ.out).mono ?_;rintro e wn ⟨rfl,bb⟩
 try replace a1:=a1.below bb
 try replace a2:=a2.below bb
 replace bw:=ai bw bb bw.size;clear bb;go_wp2_with fail;go_ret;exact ⟨dz HB.out,bw⟩
theorem dp (w:World) (x:Fx) (q:Rat) (z:Int) (h:Nm w x q) (hs:bA q 0=z):Calls Tryz.prog 49 #[x.val] w fun e w'=>e = .returned (.int .i64 z)∧Below w.heap.size w w':=
 uM w x z h.ok h.v h.l h.m (by rw [h.q];exact hs)
theorem iT (w:World):Calls Tryz.prog 26 #[.int .i64 0] w fun e w'=>∃y:Fx,e = .returned y.val∧El w' y 0∧Below w.heap.size w w':=by
 refine (oU w).mono ?_;rintro e w' ⟨y,h1,h2,h3,h4⟩;exact ⟨y,h1,⟨h3,h2⟩,h4⟩
theorem dS (w:World) (n:Int) (n0 : -9223372036854775808≤n) (n1:n≤9223372036854775807):Calls Tryz.prog 26 #[.int .i64 n] w fun e w'=>∃y:Fx,e = .returned y.val∧El w' y (n:Rat)∧Below w.heap.size w w':=by
 refine (qi w n n0 n1 (mH n0 n1)).mono ?_;rintro e w' ⟨y,h1,h2,h3,h4⟩;have e1:Rat.divInt n 1=(n:Rat):=by rw [Rat.divInt_eq_div];grind
 rw [e1] at h2;exact ⟨y,h1,⟨h3,Rp.of h2⟩,h4⟩
set_option maxRecDepth 100000
open Go.RowKit
theorem uC (w:World) (p:Pg) (h:p.ok w) (sm:p.sm) (vd:p.vd) :
 Calls Tryz.prog 19 #[p.val] w fun e w'=>∃s:Sn,e = .returned (.tuple #[s.val, .int .i64 0])∧vA w' p s∧Below w.heap.size w w':=by
 refine (pX w p h sm vd).mono ?_;rintro e w' ⟨s,rfl,hs,bb⟩;exact ⟨s,rfl,hs.good vd,bb⟩
theorem sz_m1:Sz ((-1:Int):Rat) 128 128:=⟨Nat.le_trans (eM (by decide)) (by omega),Nat.le_trans (eM (by decide)) (by omega)⟩
theorem vI {z:Int} (h:z.natAbs<18446744073709551616):Sz (z:Rat) 128 128:=⟨Nat.le_trans (eM (by rw [Rat.num_intCast];exact h)) (by omega),Nat.le_trans (eM (by rw [Rat.den_intCast];omega)) (by omega)⟩
theorem El.int {w:World} {x:Fx} {z:Int} (h:El w x (z:Rat)) (hz:z.natAbs<18446744073709551616):Nm w x (z:Rat):=h.nm (vI hz)
theorem lO {x:Fx} {z:Int} (h:x.q=(z:Rat)) (hz:z.natAbs<64):wgB x.q≤6:=by
 rw [h,wgB]
 split
 ·omega
 ·rw [Rat.num_intCast,Rat.den_intCast];have h1:=(bP z.natAbs 6).2 (by omega)
  have h2:¬ 1<aI 1:=by decide
  rw [if_neg h2];omega
theorem AV (w:World) (ga gb gc gr:Nat) (x1 x2 x3 x4 x5:Fx) (h1:El w x1 ((-1:Int):Rat)) (h2:El w x2 ((0:Int):Rat)) (h3:El w x3 ((1:Int):Rat)) (h4:El w x4 ((1:Int):Rat)) (h5:El w x5 ((1:Int):Rat))
 (ra:RdF w (some ⟨ga,0,none⟩) [x1,x2]) (rb:RdF w (some ⟨gb,0,none⟩) [x3,x4]) (rc:RdF w (some ⟨gc,0,none⟩) [x5]) (rr:Rd Sl.val w (some ⟨gr,0,none⟩) [⟨some ⟨gb,0,none⟩,2,[x3,x4]⟩]) :
 ∃p:Pg,p.val = .agg #[.slice (some ⟨ga,0,none⟩) 2 2, .slice (some ⟨gr,0,none⟩) 1 1, .slice (some ⟨gc,0,none⟩) 1 1]∧p.ok w∧p.sm∧p.vd∧∀s:Sn,yo p s→s.kind=1∧s.v.q = -1:=by
 have n1:=h1.int (by decide)
 have n2:=h2.int (by decide)
 have n3:=h3.int (by decide)
 have n4:=h4.int (by decide)
 have n5:=h5.int (by decide)
 have m2:∀ {P:Fx→Prop} {x y:Fx},P x→P y→∀v ∈ [x,y],P v:=fun hx hy v hv=>by
  simp only [List.mem_cons,List.not_mem_nil,or_false] at hv;rcases hv with rfl|rfl
  ·exact hx
  ·exact hy
 have m1:∀ {P:Fx→Prop} {x:Fx},P x→∀v ∈ [x],P v:=fun hx v hv=>by
  obtain rfl:=List.mem_singleton.1 hv;exact hx
 have r1:∀ {P:Sl→Prop} {x:Sl},P x→∀v ∈ [x],P v:=fun hx v hv=>by
  obtain rfl:=List.mem_singleton.1 hv;exact hx
 refine ⟨⟨⟨some ⟨ga,0,none⟩,2,[x1,x2]⟩,some ⟨gr,0,none⟩,1,[⟨some ⟨gb,0,none⟩,2,[x3,x4]⟩],⟨some ⟨gc,0,none⟩,1,[x5]⟩⟩,rfl,?_,?_,?_,?_⟩
 ·exact ⟨⟨ra,m2 n1.ok n2.ok,Nat.le_refl _⟩,⟨rc,m1 n5.ok,Nat.le_refl _⟩,rr,r1 ⟨rb,m2 n3.ok n4.ok,Nat.le_refl _⟩,Nat.le_refl _⟩
 ·exact ⟨(by show 2≤1000;omega),(by show 1≤1000;omega),(by show 1≤1000;omega),r1 (by show 2≤1000;omega),m2 ⟨n1.l,n1.m⟩ ⟨n2.l,n2.m⟩,m1 ⟨n5.l,n5.m⟩,r1 (m2 ⟨n3.l,n3.m⟩ ⟨n4.l,n4.m⟩)⟩
 ·refine ⟨(by show 1≤1;omega),(by show 1≤32;omega),(by show 1≤2;omega),(by show 2≤256;omega),rfl,r1 rfl,m2 n1.v n2.v,m1 n5.v,r1 (m2 n3.v n4.v),?_⟩
  have g1:=lO n1.q (by decide)
  have g2:=lO n2.q (by decide)
  have g3:=lO n3.q (by decide)
  have g4:=lO n4.q (by decide)
  have g5:=lO n5.q (by decide)
  simp only [wlF,List.map_cons,List.map_nil,List.sum_cons,List.sum_nil];omega
 ·intro s hs;have hP:=hs.P;have e1:x1.q = -1:=n1.q.trans (by rfl)
  have e2:x2.q=0:=n2.q.trans (by rfl)
  have e3:x3.q=1:=n3.q.trans (by rfl)
  have e4:x4.q=1:=n4.q.trans (by rfl)
  have e5:x5.q=1:=n5.q.trans (by rfl)
  exact yh e3 e4 e5 e1 e2 hP
theorem Bc (w:World):∃p:Pg,p.val = .agg #[.slice none 0 0, .slice none 0 0, .slice none 0 0]∧p.ok w∧p.sm∧¬p.vd:=by
 refine ⟨⟨slN,none,0,[],slN⟩,rfl,⟨⟨fun h=>absurd h (Nat.not_lt_zero _),fun v hv=>absurd hv List.not_mem_nil,Nat.le_refl _⟩,⟨fun h=>absurd h (Nat.not_lt_zero _),fun v hv=>absurd hv List.not_mem_nil,Nat.le_refl _⟩,fun h=>absurd h (Nat.not_lt_zero _),fun v hv=>absurd hv List.not_mem_nil,Nat.le_refl _⟩,⟨Nat.zero_le _,Nat.zero_le _,Nat.zero_le _,fun v hv=>absurd hv List.not_mem_nil,fun v hv=>absurd hv List.not_mem_nil,fun v hv=>absurd hv List.not_mem_nil,fun v hv=>absurd hv List.not_mem_nil⟩,fun v=>absurd v.r1 (by show ¬ 1≤0;omega)⟩
set_option maxHeartbeats 4000000 in
theorem jH (w:World):Calls Tryz.prog 14 #[] w fun e w'=>e = .returned (.bool true)∧Below w.heap.size w w':=by
 go_enter Tryz.func14,Tryz.ntmps14;go_wp2_with fail;refine (dS w (-1) (by omega) (by omega)).mono ?_
 rintro _ w1 ⟨x1,rfl,h1,bw⟩;have HBW:=ag bw;have H1:=ag h1;clear h1 bw;go_wp2_with fail;refine (dS w1 0 (by omega) (by omega)).mono ?_
 rintro _ w2 ⟨x2,rfl,h2,bb⟩;have H2:=ag h2;replace H1:=ag (H1.out.below bb);replace HBW:=ag (ai HBW.out bb HBW.out.size);clear h2 bb;go_wp2_with fail;have ra:=rdf2 w2 x1 x2;have bb:=(ah w2.heap.size w2).alloc (Nat.le_refl _) (.cells #[.bool x1.b, .slice x1.A x1.xs.length x1.c, .slice x1.D x1.ys.length x1.d, .bool x2.b, .slice x2.A x2.xs.length x2.c, .slice x2.D x2.ys.length x2.d] 29);generalize (w2.alloc (.cells #[.bool x1.b, .slice x1.A x1.xs.length x1.c, .slice x1.D x1.ys.length x1.d, .bool x2.b, .slice x2.A x2.xs.length x2.c, .slice x2.D x2.ys.length x2.d] 29))=w3 at ra bb⊢;generalize w2.heap.size=ga at ra⊢
 have HRA:=ag ra;replace H1:=ag (H1.out.below bb);replace H2:=ag (H2.out.below bb);replace HBW:=ag (ai HBW.out bb HBW.out.size);clear ra bb;refine (dS w3 1 (by omega) (by omega)).mono ?_
 rintro _ w4 ⟨x3,rfl,h3,bb⟩;have H3:=ag h3;replace H1:=ag (H1.out.below bb);replace H2:=ag (H2.out.below bb);replace HRA:=ag (HRA.out.below bb);replace HBW:=ag (ai HBW.out bb HBW.out.size);clear h3 bb;go_wp2_with fail;refine (dS w4 1 (by omega) (by omega)).mono ?_
 rintro _ w5 ⟨x4,rfl,h4,bb⟩;have H4:=ag h4;replace H1:=ag (H1.out.below bb);replace H2:=ag (H2.out.below bb);replace HRA:=ag (HRA.out.below bb);replace HBW:=ag (ai HBW.out bb HBW.out.size);replace H3:=ag (H3.out.below bb);clear h4 bb;go_wp2_with fail;have rb:=rdf2 w5 x3 x4;have bb:=(ah w5.heap.size w5).alloc (Nat.le_refl _) (.cells #[.bool x3.b, .slice x3.A x3.xs.length x3.c, .slice x3.D x3.ys.length x3.d, .bool x4.b, .slice x4.A x4.xs.length x4.c, .slice x4.D x4.ys.length x4.d] 29);have hs5:(w5.alloc (.cells #[.bool x3.b, .slice x3.A x3.xs.length x3.c, .slice x3.D x3.ys.length x3.d, .bool x4.b, .slice x4.A x4.xs.length x4.c, .slice x4.D x4.ys.length x4.d] 29)).heap.size=w5.heap.size+1:=by simp
 generalize (w5.alloc (.cells #[.bool x3.b, .slice x3.A x3.xs.length x3.c, .slice x3.D x3.ys.length x3.d, .bool x4.b, .slice x4.A x4.xs.length x4.c, .slice x4.D x4.ys.length x4.d] 29))=w6 at rb bb hs5⊢;have B5:=ag bb;have HS5:=ag hs5;replace H1:=ag (H1.out.below bb);replace H2:=ag (H2.out.below bb);replace H3:=ag (H3.out.below bb);replace H4:=ag (H4.out.below bb);replace HRA:=ag (HRA.out.below bb);replace HBW:=ag (ai HBW.out bb HBW.out.size);have HRB:=ag rb;clear rb bb B5 hs5;obtain ⟨gb,hgb⟩:∃g,w5.heap.size=g:=⟨_,rfl⟩;rw [hgb] at HS5 HRB⊢;clear hgb;have rr:Rd Sl.val (w6.alloc (.cells #[.slice (some ⟨gb,0,none⟩) 2 2] 22)) (some ⟨w6.heap.size,0,none⟩) [⟨some ⟨gb,0,none⟩,2,[x3,x4]⟩]:=Rd.one_ w6 22 _ (.slice (some ⟨gb,0,none⟩) 2 2) rfl
 rw [HS5.out] at rr;have bb:=(ah w6.heap.size w6).alloc (Nat.le_refl _) (.cells #[.slice (some ⟨gb,0,none⟩) 2 2] 22);generalize (w6.alloc (.cells #[.slice (some ⟨gb,0,none⟩) 2 2] 22))=w7 at rr bb⊢;obtain ⟨gr,hgr⟩:∃g,gb+1=g:=⟨_,rfl⟩;rw [hgr] at rr⊢;have HRR:=ag rr;replace H1:=ag (H1.out.below bb);replace H2:=ag (H2.out.below bb);replace HRA:=ag (HRA.out.below bb);replace HBW:=ag (ai HBW.out bb HBW.out.size);replace H3:=ag (H3.out.below bb);replace H4:=ag (H4.out.below bb);replace HRB:=ag (HRB.out.below bb);clear rr bb HS5 hgr;refine (dS w7 1 (by omega) (by omega)).mono ?_
 rintro _ w8 ⟨x5,rfl,h5,bb⟩;have H5:=ag h5;replace H1:=ag (H1.out.below bb);replace H2:=ag (H2.out.below bb);replace HRA:=ag (HRA.out.below bb);replace HBW:=ag (ai HBW.out bb HBW.out.size);replace H3:=ag (H3.out.below bb);replace H4:=ag (H4.out.below bb);replace HRB:=ag (HRB.out.below bb);replace HRR:=ag (HRR.out.below bb rfl);clear h5 bb;go_upto_region 2 with fail;have rc:=yP w8 x5;have bb:=(ah w8.heap.size w8).alloc (Nat.le_refl _) (.cells #[.bool x5.b, .slice x5.A x5.xs.length x5.c, .slice x5.D x5.ys.length x5.d] 29);have hs8:(w8.alloc (.cells #[.bool x5.b, .slice x5.A x5.xs.length x5.c, .slice x5.D x5.ys.length x5.d] 29)).heap.size=w8.heap.size+1:=by simp
 generalize (w8.alloc (.cells #[.bool x5.b, .slice x5.A x5.xs.length x5.c, .slice x5.D x5.ys.length x5.d] 29))=w9 at rc bb hs8⊢;replace H1:=ag (H1.out.below bb);replace H2:=ag (H2.out.below bb);replace HRA:=ag (HRA.out.below bb);replace HBW:=ag (ai HBW.out bb HBW.out.size);replace H3:=ag (H3.out.below bb);replace H4:=ag (H4.out.below bb);replace HRB:=ag (HRB.out.below bb);replace HRR:=ag (HRR.out.below bb rfl);replace H5:=ag (H5.out.below bb);have HRC:=ag rc;have HS8:=ag hs8;clear rc bb hs8;obtain ⟨gc,hgc⟩:∃g,w8.heap.size=g:=⟨_,rfl⟩;rw [hgc] at HRC HS8⊢;clear hgc;have HCP:Hid ((w9.alloc (.cells #[.slice (some ⟨ga,0,none⟩) 2 2, .slice (some ⟨gr,0,none⟩) 1 1, .slice (some ⟨gc,0,none⟩) 1 1] 25)).cell? ⟨w9.heap.size,0,none⟩=some (.slice (some ⟨ga,0,none⟩) 2 2)∧(w9.alloc (.cells #[.slice (some ⟨ga,0,none⟩) 2 2, .slice (some ⟨gr,0,none⟩) 1 1, .slice (some ⟨gc,0,none⟩) 1 1] 25)).cell? ⟨w9.heap.size,1,none⟩=some (.slice (some ⟨gr,0,none⟩) 1 1)∧(w9.alloc (.cells #[.slice (some ⟨ga,0,none⟩) 2 2, .slice (some ⟨gr,0,none⟩) 1 1, .slice (some ⟨gc,0,none⟩) 1 1] 25)).cell? ⟨w9.heap.size,2,none⟩=some (.slice (some ⟨gc,0,none⟩) 1 1)∧w9.heap.size<(w9.alloc (.cells #[.slice (some ⟨ga,0,none⟩) 2 2, .slice (some ⟨gr,0,none⟩) 1 1, .slice (some ⟨gc,0,none⟩) 1 1] 25)).heap.size):=ag ⟨by go_simp,by go_simp,by go_simp,by simp⟩
 have bb:=(ah w9.heap.size w9).alloc (Nat.le_refl _) (.cells #[.slice (some ⟨ga,0,none⟩) 2 2, .slice (some ⟨gr,0,none⟩) 1 1, .slice (some ⟨gc,0,none⟩) 1 1] 25);generalize (w9.alloc (.cells #[.slice (some ⟨ga,0,none⟩) 2 2, .slice (some ⟨gr,0,none⟩) 1 1, .slice (some ⟨gc,0,none⟩) 1 1] 25))=wa at HCP bb⊢;replace H1:=ag (H1.out.below bb);replace H2:=ag (H2.out.below bb);replace HRA:=ag (HRA.out.below bb);replace HBW:=ag (ai HBW.out bb HBW.out.size);replace H3:=ag (H3.out.below bb);replace H4:=ag (H4.out.below bb);replace HRB:=ag (HRB.out.below bb);replace HRR:=ag (HRR.out.below bb rfl);replace HRC:=ag (HRC.out.below bb)
 replace H5:=ag (H5.out.below bb);obtain ⟨g1,hg1⟩:∃g,w9.heap.size=g:=⟨_,rfl⟩;rw [hg1] at HCP
 try rw [hg1]
 try rw [←HS8.out,hg1]
 clear bb hg1 HS8;obtain ⟨p,ep,okp,smp,vdp,un⟩:=AV wa ga gb gc gr x1 x2 x3 x4 x5 H1.out H2.out H3.out H4.out H5.out HRA.out HRB.out HRC.out HRR.out;have HP:=ag okp;have HSMP:=ag smp;have HVP:=ag vdp;have HUN:=ag un;have HEP:=ag ep;clear H1 H2 H3 H4 H5 HRA HRB HRC HRR okp smp vdp un ep;obtain ⟨c0,c1,c2,hlt⟩:=HCP.out;have HG1:=ag hlt;clear hlt HCP;have HC:Hid (∀w',Below wa.heap.size wa w'→w'.cell? ⟨g1,0,none⟩=some (.slice (some ⟨ga,0,none⟩) 2 2)∧w'.cell? ⟨g1,1,none⟩=some (.slice (some ⟨gr,0,none⟩) 1 1)∧w'.cell? ⟨g1,2,none⟩=some (.slice (some ⟨gc,0,none⟩) 1 1)):=ag (fun w' hb=>⟨(hb.cell (p:=⟨g1,0,none⟩) HG1.out).trans c0,(hb.cell (p:=⟨g1,1,none⟩) HG1.out).trans c1,(hb.cell (p:=⟨g1,2,none⟩) HG1.out).trans c2⟩)
 go_wp2_with fail;have hcall:=uC wa p HP.out HSMP.out HVP.out;rw [HEP.out] at hcall;refine hcall.mono ?_;rintro _ wb ⟨s,rfl,good,bb⟩;have HGD:=ag good;replace HP:=ag (HP.out.below bb);replace HBW:=ag (ai HBW.out bb HBW.out.size);have HB1:=ag bb;clear good bb hcall c0 c1 c2;go_upto_region 3 with fail;have sb:=(cY wb s 31).1;have bb:=(cY wb s 31).2;generalize (wb.alloc (.cells #[.int .i64 s.kind, .slice s.X.A s.X.vs.length s.X.c, .slice s.Y.A s.Y.vs.length s.Y.c, .slice s.R.A s.R.vs.length s.R.c, .bool s.v.b, .slice s.v.A s.v.xs.length s.v.c, .slice s.v.D s.v.ys.length s.v.d] 31))=wc at sb bb⊢;generalize wb.heap.size=g2 at sb⊢
 have HOK:=ag (HGD.out.ok.below bb);replace HP:=ag (HP.out.below bb);replace HBW:=ag (ai HBW.out bb HBW.out.size);replace HB1:=ag (ai HB1.out bb HB1.out.size);have HSB:=ag sb;clear sb bb;obtain ⟨pz,ez,okz,smz,nvz⟩:=Bc wc;go_wp2_with fail;have hcall:=uv wc pz okz smz nvz;rw [ez] at hcall;refine hcall.mono ?_;rintro _ wd ⟨rfl,bb⟩;replace HOK:=ag (HOK.out.below bb);replace HP:=ag (HP.out.below bb);replace HBW:=ag (ai HBW.out bb HBW.out.size);replace HB1:=ag (ai HB1.out bb HB1.out.size);replace HSB:=ag (HSB.out.below bb);clear bb hcall ez okz smz nvz;go_upto_region 4 with fail;have bb:=(cY wd (⟨0,slN,slN,slN,Fx.nil⟩:Sn) 31).2
 generalize (wd.alloc (.cells #[.int .i64 0, .slice none 0 0, .slice none 0 0, .slice none 0 0, .bool false, .slice none 0 0, .slice none 0 0] 31))=wr at bb⊢;replace HOK:=ag (HOK.out.below bb);replace HP:=ag (HP.out.below bb);replace HBW:=ag (ai HBW.out bb HBW.out.size);replace HB1:=ag (ai HB1.out bb HB1.out.size);replace HSB:=ag (HSB.out.below bb);clear bb;have hk:=HUN.out s HGD.out.chk;have HVN:Hid (∀w',Below wr.heap.size wr w'→Nm w' s.v ((-1:Int):Rat)):=ag (fun w' hb=>⟨HOK.out.v.below hb,(HGD.out.chk.V.v 0 (by simp)).1,hk.2.trans (by rfl),HGD.out.sm.ev.1,HGD.out.sm.ev.2⟩)
 have HCE:Hid (∀w',Below wr.heap.size wr w'→w'.cell? ⟨g1,0,none⟩=some (.slice (some ⟨ga,0,none⟩) 2 2)∧w'.cell? ⟨g1,1,none⟩=some (.slice (some ⟨gr,0,none⟩) 1 1)∧w'.cell? ⟨g1,2,none⟩=some (.slice (some ⟨gc,0,none⟩) 1 1)∧w'.cell? ⟨g2,0,none⟩=some (.int .i64 1)∧w'.cell? ⟨g2,1,none⟩=some s.X.val∧w'.cell? ⟨g2,2,none⟩=some s.Y.val∧w'.cell? ⟨g2,3,none⟩=some s.R.val∧w'.cell? ⟨g2,4,none⟩=some (.bool s.v.b)∧w'.cell? ⟨g2,5,none⟩=some (.slice s.v.A s.v.xs.length s.v.c)∧w'.cell? ⟨g2,6,none⟩=some (.slice s.v.D s.v.ys.length s.v.d)):=ag (fun w' hb=>by
  obtain ⟨k0,k1,k2⟩:=HC.out w' (ai HB1.out hb HB1.out.size);have h:=HSB.out.below hb;exact ⟨k0,k1,k2,by rw [h.c0,hk.1],h.c1,h.c2,h.c3,h.c4,h.c5,h.c6⟩)
 have HCC:Hid (∀wd,Below wr.heap.size wr wd→Calls Tryz.prog 17 #[.agg #[.slice (some ⟨ga,0,none⟩) 2 2, .slice (some ⟨gr,0,none⟩) 1 1, .slice (some ⟨gc,0,none⟩) 1 1], .agg #[.int .i64 1,s.X.val,s.Y.val,s.R.val, .bool s.v.b, .slice s.v.A s.v.xs.length s.v.c, .slice s.v.D s.v.ys.length s.v.d]] wd fun e w'=>e = .returned (.bool true)∧Below wd.heap.size wd w'):=ag (fun wd hb=>by
  have:=uJ wd p s true (HP.out.below hb) HSMP.out (HOK.out.below hb) HGD.out.sm (Iff.intro (fun _=>HGD.out.chk) (fun _=>rfl));rw [HEP.out,Sn.val,Sn.cells,hk.1] at this;exact this)
 clear hk;have HSP:Hid (∀w',Below wr.heap.size wr w'→(w'.cell? ⟨g1,0,none⟩=some (.slice (some ⟨ga,0,none⟩) 2 2)∧w'.cell? ⟨g1,1,none⟩=some (.slice (some ⟨gr,0,none⟩) 1 1)∧w'.cell? ⟨g1,2,none⟩=some (.slice (some ⟨gc,0,none⟩) 1 1)∧w'.cell? ⟨g2,0,none⟩=some (.int .i64 1)∧w'.cell? ⟨g2,1,none⟩=some s.X.val∧w'.cell? ⟨g2,2,none⟩=some s.Y.val∧w'.cell? ⟨g2,3,none⟩=some s.R.val∧w'.cell? ⟨g2,4,none⟩=some (.bool s.v.b)∧w'.cell? ⟨g2,5,none⟩=some (.slice s.v.A s.v.xs.length s.v.c)∧w'.cell? ⟨g2,6,none⟩=some (.slice s.v.D s.v.ys.length s.v.d))):=ag (fun _ bz=>(HCE.out _ bz));refine fR HSP (by kernel_rfl) (fun hHeld=>?_)
 have bz:=(ah wr.heap.size wr).drew;generalize wr.drew=wd at *;refine tki [sE 26 [3] [],sE 27 [26] [0],sE 28 [27] [1],sG 29 [2,28] [2] 2 true,sG 30 [29,28] [3,2] 2 true,sG 31 [30,28] [4,2] 2 true,sE 32 [28,31] [2,5],sE 33 [32] [6,2],sG 34 [2,33] [7] 7 true,sG 35 [34,33] [8,7] 7 true,sG 36 [35,33] [9,7,7] 7 true,sE 37 [33,36] [7,10],sE 38 [37] [11,10],sG 39 [2,38] [12] 12 true,sG 40 [39,38] [13,12] 12 true,sG 41 [38] [12,12] 12 true,sG 42 [40,41,38] [14,15,15,12] 12 true,sE 43 [38,42] [12,16],sE 44 [43] [17,16],sG 45 [1,44] [18] 18 true,sG 46 [2,44] [18] 18 true,sG 47 [45,46,44] [19,20,18,18] 18 true,sE 48 [44,47] [18,21],sE 49 [48] [22,21],sG 50 [5,49] [23] 23 true,sG 51 [50,49] [24,23] 23 true,sE 52 [49,51] [23,25],sE 0 [52] [26,23,0,1,2,3,4,5,6,7,8,9,10,11,12,13,14,15,16,17,18,19,20,21,22,23,24,25,26]] [false,false,false,false,false,false,false,false,false,false,false,false,false,false,false,false,false,false,false,false,false,false,false,false,false,false,false,false] (by kernel_rfl) (by kernel_rfl) (by kernel_rfl) (fun HSU=>?_)
 refine tks HSU 0 (.int .i64 0) rfl ?_;simp only [tz];refine tks HSU 1 (.bool true) rfl ?_;simp only [tz];refine tks HSU 2 (.bool true) rfl ?_;simp only [tz];refine tks HSU 3 (.pointer (some ⟨g2,0,none⟩)) rfl ?_;simp only [tz];refine tks HSU 4 (.int .i64 1) rfl ?_;simp only [tz];refine tks HSU 5 (.bool true) rfl ?_;simp only [tz];refine tkm HSU 2 [(6,32,1,some true)] rfl ?_;simp only [exI,exD,bH,bI,kV,rpS,rpZ,apC,apN];refine tks HSU 8 (.pointer (some ⟨g2,4,none⟩)) rfl ?_;simp only [tz];refine tks HSU 9 (s.v.val) rfl ?_;simp only [tz];refine tk1 HSU 10 rfl (fun K hK=>?_);go_simp;go_at_call 32;refine (bF wd s.v true (HVN.out wd bz).ok (HVN.out wd bz).l (HVN.out wd bz).m (decide_eq_true (HVN.out wd bz).v)).mono ?_
 rintro e wd ⟨rfl,bb⟩;replace bz:=ai bz bb bz.size;clear bb;refine hK.out _ _ (HSP.out _ bz) (fun hHeld=>?_);clear hK K;try simp only [tz]
 refine tkm HSU 2 [(11,37,1,some true)] rfl ?_;simp only [exI,exD,bH,bI,kV,rpS,rpZ,apC,apN];refine tks HSU 13 (.pointer (some ⟨g2,4,none⟩)) rfl ?_;simp only [tz];refine tks HSU 14 (s.v.val) rfl ?_;simp only [tz];refine tk1 HSU 15 rfl (fun K hK=>?_);go_simp;go_at_call 26;refine (dS wd (-1) (by omega) (by omega)).mono ?_
 rintro e wd ⟨y,rfl,ey,bb⟩;replace bz:=ai bz bb bz.size;clear bb;refine hK.out _ _ (HSP.out _ bz) (fun hHeld=>?_);clear hK K;try simp only [tz]
 refine tk1 HSU 16 rfl (fun K hK=>?_);go_simp;go_at_call 24;refine (gA wd s.v y _ _ true (HVN.out wd bz) (ey.nm sz_m1) (decide_eq_true rfl)).mono ?_;rintro e wd ⟨rfl,bb⟩;clear ey;replace bz:=ai bz bb bz.size;clear bb;refine hK.out _ _ (HSP.out _ bz) (fun hHeld=>?_);clear hK K;try simp only [tz]
 refine tkm HSU 2 [(17,43,1,some true)] rfl ?_;simp only [exI,exD,bH,bI,kV,rpS,rpZ,apC,apN];refine tks HSU 19 (.agg #[.slice (some ⟨ga,0,none⟩) 2 2, .slice (some ⟨gr,0,none⟩) 1 1, .slice (some ⟨gc,0,none⟩) 1 1]) rfl ?_;simp only [tz];refine tks HSU 20 (.agg #[.int .i64 1,s.X.val,s.Y.val,s.R.val, .bool s.v.b, .slice s.v.A s.v.xs.length s.v.c, .slice s.v.D s.v.ys.length s.v.d]) rfl ?_;simp only [tz];refine tk1 HSU 21 rfl (fun K hK=>?_);go_simp;go_at_call 17;refine (HCC.out wd bz).mono ?_;rintro e wd ⟨rfl,bb⟩;replace bz:=ai bz bb bz.size;clear bb;refine hK.out _ _ (HSP.out _ bz) (fun hHeld=>?_);clear hK K;try simp only [tz]
 refine tkm HSU 2 [(22,48,1,some true)] rfl ?_;simp only [exI,exD,bH,bI,kV,rpS,rpZ,apC,apN];refine tks HSU 24 (.int .i64 1) rfl ?_;simp only [tz];refine tks HSU 25 (.bool true) rfl ?_;simp only [tz];refine tks HSU 26 (.bool true) rfl ?_;simp only [tz];refine tkm HSU 1 [(27,0,0,some true)] rfl ?_;simp only [exI,exD,bH,bI,kV,rpZ,apN];refine wpAnyH_done (tkn HSU (by kernel_rfl)) ?_ _
 go_wp2_with fail;go_ret;exact ⟨rfl,ai HBW.out bz HBW.out.size⟩
end Go.Proofs.YtkpfbekmaafehaaGreat
