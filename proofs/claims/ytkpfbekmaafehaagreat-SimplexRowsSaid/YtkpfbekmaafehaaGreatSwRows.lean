/- The walk of drydocklaw16.SimplexRows. -/
import Derived.Test.YtkpfbekmaafehaaGreatSvF
import Derived.Test.YtkpfbekmaafehaaGreatSvN
import Derived.Test.YtkpfbekmaafehaaGreatOpenB
namespace Go.Proofs.YtkpfbekmaafehaaGreat
set_option maxRecDepth 100000
open Go.RowKit
theorem Zb.gq {w:World} {x:Fx} {q:Rat} (h:El w x q) (b:Zb 1023 q):Nm w x q∧x.ok w∧Gq x:=by
 have n:=h.nm (b.sz (by omega))
 obtain ⟨z,rfl,hz⟩:=b;refine ⟨n,n.ok,n.v,⟨n.l,n.m⟩,?_⟩;rw [n.q,wgB]
 split
 ·omega
 ·rw [Rat.num_intCast,Rat.den_intCast];have h1:=(bP z.natAbs 10).2 (by omega)
  have h2:¬ 1<aI 1:=by decide
  rw [if_neg h2];omega
section
variable {n m nx ny nr nx' ny' nr':Nat} {k k':Int} {a a':Nat→Nat→Rat} {b b' c ux uy ur ux' uy' ur':Nat→Rat} {q q' t:Rat}
theorem rows_law (ea:∀r,r<m→∀j,j<n→a' r j=a r j) (eb:∀r,r<m→b' r=b r) (em:∀j,j<n→a' m j=t*aj (fun r=>a r j) m) (ebm:b' m=t*aj b m)
 (h:dN k n m nx ny nr a b c ux uy ur q) (h':dN k' n (m+1) nx' ny' nr' a' b' c ux' uy' ur' q'):k=k'∧q=q':=by
 have sy:∀f:Nat→Rat,∀g g':Nat→Rat,(∀r,r<m→g' r=g r)→aj (fun r=>(if r<m then f r else 0)*g' r) (m+1)=aj (fun r=>f r*g r) m:=fun f g g' e=>by
  rw [aj,if_neg (Nat.lt_irrefl m),Rat.zero_mul,Rat.add_zero];exact ay fun r hr=>by rw [if_pos hr,e r hr]
 have fit:∀ {nn:Nat} {x:Nat→Rat} {u u':Nat→Rat},(∀r,r<m→u' r=u r)→u' m=t*aj u m→dX n m nn a x u→dX n (m+1) nn a' x u':=fun {nn x u u'} e1 e2 hf=>⟨hf.1,hf.2.1,fun i hi=>by
  rcases Nat.lt_or_ge i m with h1|h1
  ·rw [e1 i h1,←hf.2.2 i h1];exact ay fun j hj=>by rw [ea i h1 j hj]
  ·obtain rfl:i=m:=by omega
   have s1:aj (fun j=>a' i j*x j) n=t*aj (fun j=>aj (fun r=>a r j) i*x j) n:=by
    rw [←bJ];exact ay fun j hj=>by rw [em j hj,Rat.mul_assoc]
   have s2:aj (fun j=>aj (fun r=>a r j) i*x j) n=aj u i:=by
    rw [ay (h:=fun j=>aj (fun r=>a r j*x j) i) (fun j _=>(mO _ _ _).symm),fF];exact ay fun r hr=>hf.2.2 r hr
   rw [e2,s1,s2]⟩
 have e:dN k n (m+1) nx (if k=3 then 0 else m+1) nr a' b' c ux (fun r=>if r<m then uy r else 0) ur q:=by
  rcases h.kind with rfl|rfl|rfl
  ·obtain ⟨h0,h1,h2,h3,h4⟩:=dN.one.1 h;exact dN.one.2 ⟨h0,fit eb ebm h1,⟨by simp,fun j hj=>by rw [sy uy (fun r=>a r j) (fun r=>a' r j) (fun r hr=>ea r hr j hj)];exact h2.2 j hj⟩,h3,by rw [sy uy b b' eb];exact h4⟩
  ·obtain ⟨h0,h1,h2,h3,h4⟩:=dN.two.1 h;exact dN.two.2 ⟨h0,h1,⟨by simp,fun j hj=>by rw [sy uy (fun r=>a r j) (fun r=>a' r j) (fun r hr=>ea r hr j hj)];exact h2.2 j hj⟩,by rw [sy uy b b' eb];exact h3,h4⟩
  ·obtain ⟨h0,h1,h2,h3,h4⟩:=dN.three.1 h;exact dN.three.2 ⟨by simp,fit eb ebm h1,fit (u:=fun _=>0) (u':=fun _=>0) (fun _ _=>rfl) (by rw [bu (fun _ _=>rfl),Rat.mul_zero]) h2,h3,h4⟩
 exact vo e h'
end
structure Ro (w0 w:World) (g11 B:Nat) (A1:Option Addr) (cA:Nat) (vs:List Fx) (y:Fx) (q:Rat):Prop where
 v11:Vl w g11 y q
 n11:NL w g11
 yr:Yr w B A1 cA vs
 bf:Below w0.heap.size w0 w
 o:w0.heap.size≤g11∧g11<B∧B≤w.heap.size
section
variable {w0 w w':World} {g11 B cA:Nat} {A1:Option Addr} {vs:List Fx} {y:Fx} {q:Rat}
theorem Ro.below (h:Ro w0 w g11 B A1 cA vs y q) (hb:Below w.heap.size w w'):Ro w0 w' g11 B A1 cA vs y q:=
 ⟨h.v11.below hb,h.n11.below hb,h.yr.below hb,ai h.bf hb h.bf.size,h.o.1,h.o.2.1,Nat.le_trans h.o.2.2 hb.size⟩
theorem Ro.put (h:Ro w0 w g11 B A1 cA vs y q) {z:Fx} {r:Rat} (e:El w z r):Ro w0 (((w.setCell ⟨g11,0,none⟩ (.bool z.b)).setCell ⟨g11,1,none⟩ (.slice z.A z.xs.length z.c)).setCell ⟨g11,2,none⟩ (.slice z.D z.ys.length z.d)) g11 B A1 cA vs z r:=by
 have o:=h.o;have kk:=(Kp.refl (fun a=>a=g11) w).set3 (S:=fun a=>a=g11) rfl 0 1 2 (.bool z.b) (.slice z.A z.xs.length z.c) (.slice z.D z.ys.length z.d);have nl:∀a,a=g11→NL w a:=fun a e=>by rw [e];exact h.n11
 exact ⟨⟨h.v11.fa.put e.ok,e.rp⟩,((h.n11.set 0 rfl).set 1 rfl).set 2 rfl,h.yr.kp kk nl (fun g e e2=>by have:=(h.yr.lt e).1;omega),aR h.bf o.1,⟨o.1,o.2.1,Nat.le_trans o.2.2 kk.size⟩⟩
theorem Ro.push (h:Ro w0 w g11 B A1 cA vs y q) {A':Option Addr} {c':Nat} {us:List Fx} (yr:Yr w' B A' c' us) (kk:Kp (fun a=>A1.map (·.block)=some a) w w'):Ro w0 w' g11 B A' c' us y q:=by
 have o:=h.o;have nl:=h.yr.ni.nlr;have hb:∀g,A1.map (·.block)=some g→B≤g:=fun g e=>(h.yr.lt e).1;exact ⟨h.v11.kp kk nl (fun e=>by have:=hb _ e;omega),h.n11.kp kk (fun e=>by have:=hb _ e;omega),yr,h.bf.trans (kk.below (fun a e=>by have:=hb _ e;omega) h.bf.size),⟨o.1,o.2.1,Nat.le_trans o.2.2 kk.size⟩⟩
theorem nl_frac2 (w:World) (x:Fx):NL (w.alloc (.cells x.cells 29)) w.heap.size:=⟨_,_,heap_alloc_new w _,fun u hu=>by
 simp at hu;rcases hu with rfl|rfl|rfl <;> rfl⟩
end
def RoS (w:World) (g:Nat) (q:Rat):Prop:=∃y:Fx,Vl w g y q
theorem ros {w:World} {g:Nat} {q:Rat} {y:Fx} (h:Vl w g y q):RoS w g q:=⟨y,h⟩
def RoW (p:Pg) (t:Rat) (m:Nat) (w0:World) (g11 B j:Nat) (A1:Option Addr) (cA:Nat) (w:World):Prop:=∃(vs:List Fx) (y:Fx),vs.length=j∧(∀i,i<j→fxV vs i=t*aj (fun r=>p.a r i) m)∧Ro w0 w g11 B A1 cA vs y 0
structure RoF (p:Pg) (m n cA:Nat) (A1:Option Addr) (vs:List Fx) (x:Fx) (g8:Nat) (w2:World) (A2:Option Addr) (c2:Nat) (A3:Option Addr) (c3:Nat) (w:World):Prop where
 q8:Q3 w g8 (.slice p.cost.A n p.cost.c) (.slice A2 (m+1) c2) (.slice A3 (m+1) c3)
 gr:Gr Sl.val 22 w w2.heap.size A2 c2 (p.rows ++ [⟨A1,cA,vs⟩])
 yr:Yr w w2.heap.size A3 c3 (p.right.vs ++ [x])
 mid:∃wm,Below w2.heap.size w2 wm∧Kp (fun a=>a=g8) wm w∧NL wm g8
theorem a_zb {w:World} {p:Pg} (h:Ip w p) (r j:Nat):Zb 63 (p.a r j):=by
 rcases Nat.lt_or_ge r p.rows.length with hr|hr
 ·have:=(h.rz _ (List.getElem_mem hr)).1.zb j;rw [CM hr rfl];exact this
 ·have e:p.a r j=0:=by
   rw [Pg.a,List.getD_eq_getElem?_getD (l:=p.rows),List.getElem?_eq_none hr];simp;rfl
  rw [e];exact Zb.zero _
set_option maxHeartbeats 4000000 in
theorem rows16_law (w:World) (A:Option Addr) (c:Nat) (bs:List Nat) (by_:Int) (h:Rd u8b w A bs) (hc:bs.length≤c) (hm:c≤9223372036854775807) (hb:∀b∈bs,b<256) (hby:(Lit.int .u8 by_).wf=true) :
 Calls Tryz.prog 8 #[.slice A bs.length c, .int .u8 by_] w fun e w'=>e = .returned (.bool true)∧Below w.heap.size w w':=by
 have HBY:=ag (Cz hby);clear hby;have HR:=ag h;have HB:=ag hb;clear h hb;go_enter Tryz.func8,Tryz.ntmps8;go_wp2_with fail;refine (sn w A c bs HR.out hc hm HB.out).mono ?_;rintro e wa ⟨G1,A1,k1,rfl,tp,hge,bb⟩;have HGE:=ag hge.1;have HTP:=ag tp;have HBW:=ag bb;clear tp hge bb;go_wp2_with fail;refine (wV wa G1 k1 0 A1 _ HTP.out).mono ?_;rintro e wb ⟨p,_,rfl,ip,-,kp⟩;replace HBW:=ag (HBW.out.trans (kp.below (B:=w.heap.size) (fun a e=>by rw [e];exact HGE.out) HBW.out.size))
 have HIP:=ag ip;clear HTP HGE ip kp;go_upto_region 2 with fail;have q0:=Q3.new wb p.cost.val (.slice p.rA p.rows.length p.rc) p.right.val 25 rfl rfl rfl;have bb:=(ah wb.heap.size wb).alloc (Nat.le_refl _) (.cells #[.slice p.cost.A p.cost.vs.length p.cost.c, .slice p.rA p.rows.length p.rc, .slice p.right.A p.right.vs.length p.right.c] 25);generalize (wb.alloc (.cells #[.slice p.cost.A p.cost.vs.length p.cost.c, .slice p.rA p.rows.length p.rc, .slice p.right.A p.right.vs.length p.right.c] 25))=wc at q0 bb⊢;generalize wb.heap.size=g4 at q0⊢;replace HIP:=ag (HIP.out.below bb);replace HBW:=ag (ai HBW.out bb HBW.out.size)
 have HPB:=ag q0;have c0:=q0.c0;have c1:=q0.c1;have c2:=q0.c2;clear q0 bb;go_wp2_with fail;refine (uA wc p HIP.out.ok HIP.out.small.1 HIP.out.small.2).mono ?_;rintro e wd ⟨s,rfl,good,bb⟩;replace HIP:=ag (HIP.out.below bb);replace HPB:=ag (HPB.out.below bb);replace HBW:=ag (ai HBW.out bb HBW.out.size);have HGD:=ag good;clear good c0 c1 c2 bb;go_upto_region 3 with fail;have sb:=(cY wd s 31).1;have bb:=(cY wd s 31).2;generalize (wd.alloc (.cells #[.int .i64 s.kind, .slice s.X.A s.X.vs.length s.X.c, .slice s.Y.A s.Y.vs.length s.Y.c, .slice s.R.A s.R.vs.length s.R.c, .bool s.v.b, .slice s.v.A s.v.xs.length s.v.c, .slice s.v.D s.v.ys.length s.v.d] 31))=we at sb bb⊢
 generalize wd.heap.size=g5 at sb⊢;have HPS:Hid (Pj we p s g4 g5):=ag ⟨HIP.out.below bb,HGD.out.below bb,HPB.out.below bb,sb⟩;replace HBW:=ag (ai HBW.out bb HBW.out.size);clear sb bb HIP HPB HGD;have hb8:=HBY.out;have hw1:IntKind.i64.wrap by_=by_:=IntWalk.i64_in _ (by omega)
 have hw2:IntKind.i64.wrap (by_.tmod 5)=by_.tmod 5:=IntWalk.i64_in _ (by have:=Int.tmod_lt_of_pos by_ (show (0:Int)<5 by omega);have:=Int.tmod_nonneg 5 (show 0≤by_ by omega);omega)
 obtain ⟨n,hn⟩:∃n,p.cost.vs.length=n:=⟨_,rfl⟩;obtain ⟨m,hm_⟩:∃m,p.rows.length=m:=⟨_,rfl⟩;have HN:=ag hn;have HM:=ag hm_;have HLB:Hid (p.right.vs.length=m):=ag (by rw [←hm_];exact HPS.out.ip.lb)
 have hn5:n≤5:=by rw [←hn];exact HPS.out.ip.c2
 have hm3:m≤3:=by rw [←hm_];exact HPS.out.ip.r2
 have HM1:Hid (1≤m):=ag (by rw [←hm_];exact HPS.out.ip.r1)
 clear hn hm_;have q4:=HPS.out.pb;have c0:we.cell? ⟨g4,0,none⟩=some (.slice p.cost.A n p.cost.c):=by rw [←HN.out];exact q4.c0
 have c1:we.cell? ⟨g4,1,none⟩=some (.slice p.rA m p.rc):=by rw [←HM.out];exact q4.c1
 have c2:we.cell? ⟨g4,2,none⟩=some (.slice p.right.A m p.right.c):=by rw [←HLB.out];exact q4.c2
 clear q4;go_upto_region 4 with fail;have HPE:=ag HPS.out;have HBWE:=ag HBW.out;have q8:=Q3.new we (.slice p.cost.A n p.cost.c) (.slice p.rA m p.rc) (.slice p.right.A m p.right.c) 25 rfl rfl rfl;have bb:=(ah we.heap.size we).alloc (Nat.le_refl _) (.cells #[.slice p.cost.A n p.cost.c, .slice p.rA m p.rc, .slice p.right.A m p.right.c] 25);replace HPS:=ag (HPS.out.below bb);replace HBW:=ag (ai HBW.out bb HBW.out.size);have HBE:=ag bb;clear c0 c1 c2 bb;generalize (we.alloc (.cells #[.slice p.cost.A n p.cost.c, .slice p.rA m p.rc, .slice p.right.A m p.right.c] 25))=wf at *;obtain ⟨g8,hg8⟩:∃g,we.heap.size=g:=⟨_,rfl⟩
 have HGE:Hid (we.heap.size≤g8):=ag (Nat.le_of_eq hg8);rw [hg8] at q8
 try rw [hg8]
 clear hg8;have HQ8:=ag q8;clear q8;go_wp2_with fail;obtain ⟨nk,hnk⟩:∃n:Int,1+by_ % 5=n:=⟨_,rfl⟩;have HNK5:Hid (1≤nk∧nk≤5):=ag (by omega)
 rw [hnk];clear hw1 hw2 hnk hb8;have h5:=HNK5.out;refine (dS wf nk (by omega) (by omega)).mono ?_
 rintro e wg ⟨k,rfl,ek,bb⟩;obtain ⟨t,ht⟩:∃t:Rat,(nk:Rat)=t:=⟨_,rfl⟩;have HTZ:Hid (Zb 5 t):=ag ⟨nk,ht.symm,by omega⟩
 rw [ht] at ek;replace HPS:=ag (HPS.out.below bb);replace HQ8:=ag (HQ8.out.below bb);replace HBW:=ag (ai HBW.out bb HBW.out.size);replace HBE:=ag (ai HBE.out bb HBE.out.size);have HEK:=ag ek;clear ek bb ht h5;go_upto_region 5 with fail;have v9:Vl (wg.alloc (.cells k.cells 29)) wg.heap.size k t:=⟨(au HEK.out.ok).1,HEK.out.rp⟩;have bb:=(au HEK.out.ok).2;replace HPS:=ag (HPS.out.below bb);replace HQ8:=ag (HQ8.out.below bb);replace HBW:=ag (ai HBW.out bb HBW.out.size);replace HBE:=ag (ai HBE.out bb HBE.out.size);clear HEK bb;generalize (wg.alloc (.cells #[.bool k.b, .slice k.A k.xs.length k.c, .slice k.D k.ys.length k.d] 29))=w0 at *
 generalize wg.heap.size=g9 at v9⊢;have HK:Hid (∀w',Below w0.heap.size w0 w'→Vl w' g9 k t∧Nm w' k t):=ag (fun w' hb=>⟨v9.below hb,(v9.below hb).el.nm (HTZ.out.sz (by omega))⟩)
 clear v9;go_wp2_with fail;refine (iT w0).mono ?_;rintro e wh ⟨y0,rfl,ey,bb⟩;have HEY:=ag ey;have HB0:=ag bb;clear ey bb;go_upto_region 7 with fail;have v11:Vl (wh.alloc (.cells y0.cells 29)) wh.heap.size y0 0:=⟨(au HEY.out.ok).1,HEY.out.rp⟩;have n11:=nl_frac2 wh y0;have bb:=ai HB0.out (au HEY.out.ok).2 HB0.out.size;have hg:wh.heap.size<(wh.alloc (.cells y0.cells 29)).heap.size:=by simp
 clear HEY;generalize (wh.alloc (.cells #[.bool y0.b, .slice y0.A y0.xs.length y0.c, .slice y0.D y0.ys.length y0.d] 29))=wi at v11 n11 bb hg⊢;have hg0:=HB0.out.size;generalize wh.heap.size=g11 at v11 n11 hg hg0⊢;obtain ⟨B,hB⟩:∃B,wi.heap.size=B:=⟨_,rfl⟩;have HRO:Hid (RoW p t m w0 g11 B 0 none 0 wi):=ag (by
  unfold RoW;exact ⟨[],y0,rfl,(fun i hi=>absurd hi (by omega)),v11,n11,Yr.nil _ _,bb,hg0,by omega,Nat.le_of_eq hB.symm⟩)
 clear v11 n11 bb hg hg0 hB HB0;go_wp2_with fail;go_loopw [10,12] (fun rv jv wx=>∃(j:Nat) (A1:Option Addr) (cA:Nat),j≤n∧jv = .int .i64 j∧rv = .slice A1 j cA∧RoW p t m w0 g11 B j A1 cA wx) (fun _ jv _=>n-(intOf jv).toNat)
 case atStart=>exact ⟨0,none,0,by omega,rfl,rfl,HRO.out⟩
 case round=>
  clear HRO;obtain ⟨j,A1,cA,hj,rfl,rfl,hro⟩:=hrel;generalize wr=wj at *;unfold RoW at hro;obtain ⟨vs,y,hvl,hvs,ro⟩:=hro;have HVL:=ag hvl;have HVS:=ag hvs;have HRO:=ag ro;have HP4:Hid (∀w',Below w0.heap.size w0 w'→w'.cell? ⟨g4,0,none⟩=some (.slice p.cost.A n p.cost.c)∧w'.cell? ⟨g4,1,none⟩=some (.slice p.rA m p.rc)∧w'.cell? ⟨g4,2,none⟩=some (.slice p.right.A m p.right.c)):=ag (fun w' hb=>by
   have q:=(HPS.out.below hb).pb;have h0:=q.c0;have h1:=q.c1;have h2:=q.c2;rw [show p.cost.val = .slice p.cost.A p.cost.vs.length p.cost.c from rfl,HN.out] at h0;rw [HM.out] at h1;rw [show p.right.val = .slice p.right.A p.right.vs.length p.right.c from rfl,HLB.out] at h2;exact ⟨h0,h1,h2⟩)
  have c0:=(HP4.out wj ro.bf).1;clear hvl hvs ro;by_cases hlt:j<n
  ·go_wp2_with fail;refine (iT wj).mono ?_;rintro e wk ⟨y1,rfl,ey,bb⟩;have HEY:=ag ey;replace HRO:=ag (HRO.out.below bb);clear ey bb c0;go_upto_region 11 with fail;have v13:Vl (wk.alloc (.cells y1.cells 29)) wk.heap.size y1 0:=⟨(au HEY.out.ok).1,HEY.out.rp⟩;have bb:=(au HEY.out.ok).2;have HRJ:=ag HRO.out;replace HRO:=ag (HRO.out.below bb);clear HEY;generalize (wk.alloc (.cells #[.bool y1.b, .slice y1.A y1.xs.length y1.c, .slice y1.D y1.ys.length y1.d] 29))=wl at v13 bb HRO⊢;have HG13:=ag (Nat.le_refl wk.heap.size);obtain ⟨g13,hg13⟩:∃g,wk.heap.size=g:=⟨_,rfl⟩;have HGK:Hid (wk.heap.size≤g13):=ag (Nat.le_of_eq hg13)
   rw [hg13] at v13;have HB13:=ag bb
   try rw [hg13]
   clear bb hg13 HG13;go_wp2_with fail;go_loopw [14] (fun iv wx=>∃(i:Nat),i≤m∧iv = .int .i64 i∧RoS wx g13 (aj (fun r=>p.a r j) i)∧Below wk.heap.size wk wx) (fun iv _=>m-(intOf iv).toNat)
   case atStart=>exact ⟨0,by omega,rfl,ros v13,HB13.out⟩
   case round=>
    clear v13 HB13 HRO;obtain ⟨i,hi,rfl,hv,bf⟩:=hrel;unfold RoS at hv;obtain ⟨y,v13⟩:=hv;have HV13:=ag v13;have HBK:=ag bf;have HBF:=ag (ai HRJ.out.bf bf HRJ.out.bf.size);have c1:=(HP4.out wr HBF.out).2.1;clear v13 bf;by_cases him:i<m
    ·have hir:i<p.rows.length:=by rw [HM.out];exact him
     obtain ⟨sr,hsr⟩:∃r,p.rows[i]=r:=⟨_,rfl⟩;have pk:=HPS.out.below HRJ.out.bf;have hrz:=pk.ip.rz _ (List.getElem_mem hir);rw [hsr,HN.out] at hrz;have hpa:∀j,p.a i j=fxV sr.vs j:=fun j=>by rw [CM hir hsr]
     obtain ⟨adc,hadc,xc,efc,zc,qcc⟩:=hrz.1.at (k:=j) (by rw [hrz.2];exact hlt)
     obtain ⟨adr,hadr,_,_⟩:=pk.ip.rd (by omega)
     have HXC:=ag zc;have HQX:Hid (p.a i j=xc.q):=ag (by rw [hpa j];exact qcc.symm)
     have HSC:Hid (∀w',Below wk.heap.size wk w'→w'.cell? ⟨g4,1,none⟩=some (.slice (some adr) m p.rc)∧w'.cell? (adr.add i)=some (.slice (some adc) n sr.c)∧w'.cell? (adc.add (j*3))=some (.bool xc.b)∧w'.cell? ⟨(adc.add (j*3)).block,(adc.add (j*3)).off+1,none⟩=some (.slice xc.A xc.xs.length xc.c)∧w'.cell? ⟨(adc.add (j*3)).block,(adc.add (j*3)).off+2,none⟩=some (.slice xc.D xc.ys.length xc.d)):=ag (fun w' hb=>by
      have h1:=(HP4.out w' (ai HRJ.out.bf hb HRJ.out.bf.size)).2.1;rw [hadr] at h1;obtain ⟨ad',e',_,hc'⟩:=(pk.ip.rd.below hb rfl) (by omega)
      rw [hadr] at e';injection e' with e';subst e';have h2:=hc' i hir;rw [hsr,show sr.val = .slice sr.A sr.vs.length sr.c from rfl,hadc,hrz.2] at h2;exact ⟨h1,h2,(efc.below hb).c0,(efc.below hb).c1,(efc.below hb).c2⟩)
     have HBS:Hid (Zb (63*i) (aj (fun r=>p.a r j) i)):=ag (qY i (fun r hr=>a_zb HPS.out.ip r j));have HZ2:Hid (Zb (63*i+63) (aj (fun r=>p.a r j) i+xc.q)):=ag (HBS.out.add zc.q.1);have HSE:Hid (aj (fun r=>p.a r j) (i+1)=aj (fun r=>p.a r j) i+xc.q):=ag (by rw [aj,HQX.out])
     clear pk hrz hpa efc zc qcc hsr hadc hadr;go_upto_region 14 with fail;clear c1;have v13:=HV13.out.below ((ah wr.heap.size wr).drew);have bk:=HBK.out.drew;refine wp_region_held_drew (S:=fun w'=>w'.cell? ⟨g4,1,none⟩=some (.slice (some adr) m p.rc)∧w'.cell? (adr.add i)=some (.slice (some adc) n sr.c)∧w'.cell? (adc.add (j*3))=some (.bool xc.b)∧w'.cell? ⟨(adc.add (j*3)).block,(adc.add (j*3)).off+1,none⟩=some (.slice xc.A xc.xs.length xc.c)∧w'.cell? ⟨(adc.add (j*3)).block,(adc.add (j*3)).off+2,none⟩=some (.slice xc.D xc.ys.length xc.d)) (by kernel_rfl) (HSC.out _ (HBK.out.drew)) (fun hHeld=>?_)
     have bz:=(ah wr.heap.size wr).drew;generalize wr.drew=wd at *;refine tki [(some 51,[13],[],none),(some 52,[5],[],none),(some 53,[52],[1],none),(some 54,[14],[],none),(some 55,[53,54],[2,3],none),(some 56,[55],[4],none),(some 57,[12],[],none),(some 58,[56,57],[5,6],none),(some 59,[58],[7],none),(some 60,[51,59],[0,8],none),(some 50,[60],[9],none),(some 61,[50],[10],none),(some 62,[50],[10],none),(none,[13,61],[11,9,0,1,2,3,4,5,6,7,8,9,10,11],none)] [false,false,false,false,false,false,false,false,false,false,false,false,false,false] (by kernel_rfl) (by kernel_rfl) (by kernel_rfl) (fun HSU=>?_)
     refine tks HSU 1 (.pointer (some ⟨g4,1,none⟩)) rfl ?_;simp only [tz];refine tks HSU 2 (.slice (some adr) m p.rc) rfl ?_;simp only [tz];refine tks HSU 3 (.int .i64 (i:Int)) rfl ?_;simp only [tz];refine tks HSU 4 (.pointer (some (adr.add i))) rfl ?_;simp only [tz];refine tks HSU 5 (.slice (some adc) n sr.c) rfl ?_;simp only [tz];refine tks HSU 6 (.int .i64 (j:Int)) rfl ?_;simp only [tz];refine tks HSU 7 (.pointer (some (adc.add (j*3)))) rfl ?_;simp only [tz];refine tks HSU 8 (xc.val) rfl ?_;simp only [tz];refine tk1 HSU 0 rfl (fun K hK=>?_);have k0:=v13.c0;have k1:=v13.c1;have k2:=v13.c2;go_simp
     clear k0 k1 k2;refine hK.out _ _ (HSC.out _ bk) (fun hHeld=>?_);clear hK K;try simp only [tz]
     refine tk1 HSU 9 rfl (fun K hK=>?_);go_simp;go_at_call 29;refine (tj wd y xc _ _ (v13.el.nm (HBS.out.sz (by omega))) ((HXC.out.below bk).nm) (HZ2.out.sz (by omega))).mono ?_
     rintro e we ⟨x2,rfl,e2,bb⟩;replace v13:=v13.below bb;replace bk:=ai bk bb bk.size;clear bb hHeld;generalize we=wd at *;refine hK.out _ _ (HSC.out _ bk) (fun hHeld=>?_);clear hK K;try simp only [tz]
     refine tks HSU 10 (.tuple #[x2.val, .int .i64 0]) rfl ?_;simp only [tz];refine tks HSU 11 (x2.val) rfl ?_;simp only [tz];refine tks HSU 12 (.int .i64 0) rfl ?_;simp only [tz];refine tk1 HSU 13 rfl (fun K hK=>?_);clear hHeld;have t:=v13.fa.bk;obtain ⟨k0,k1,k2,kf0,kf1,kf2,_,_⟩:=t;go_simp;clear k0 k1 k2 kf0 kf1 kf2;have v14:Vl _ g13 x2 (aj (fun r=>p.a r j) (i+1)):=⟨v13.fa.put e2.ok,by rw [HSE.out];exact e2.rp⟩
     have b3:=aR (G:=g13) (a := .bool x2.b) (b := .slice x2.A x2.xs.length x2.c) (c := .slice x2.D x2.ys.length x2.d) bk HGK.out;clear v13 e2 bk;generalize (((wd.setCell ⟨g13,0,none⟩ (.bool x2.b)).setCell ⟨g13,1,none⟩ (.slice x2.A x2.xs.length x2.c)).setCell ⟨g13,2,none⟩ (.slice x2.D x2.ys.length x2.d))=we at *;have bk:=b3;clear b3;generalize we=wd at *;refine hK.out _ _ (HSC.out _ bk) (fun hHeld=>?_);clear hK K;try simp only [tz]
     refine wpAnyH_done (tkn HSU (by kernel_rfl)) ?_ _
     go_wp2_with fail;go_roundw
     case rel=>exact ⟨i+1,by omega,by go_num,ros v14,bk⟩
     case measure=>simp [intOf];omega
    ·have him2:m=i:=by omega
     subst him2;have HRO:=ag (HRJ.out.below HBK.out);have HBS:Hid (Zb 189 (aj (fun r=>p.a r j) m)):=ag ((qY m (fun r hr=>a_zb HPS.out.ip r j)).mono0 (by omega))
     have HZM:Hid (Zb 945 (t*aj (fun r=>p.a r j) m)):=ag (HTZ.out.mul HBS.out);have vk:=(HK.out wr HBF.out).1;have d0:=vk.c0;have d1:=vk.c1;have d2:=vk.c2;have e0:=HV13.out.c0;have e1:=HV13.out.c1;have e2:=HV13.out.c2;clear vk;go_wp2_with fail;refine (kC wr k y _ _ (HK.out wr HBF.out).2 (HV13.out.el.nm (HBS.out.sz (by omega))) (HZM.out.sz (by omega))).mono ?_
     rintro e wx ⟨x,rfl,ex,bb⟩;replace HRO:=ag (HRO.out.below bb);have HEX:=ag ex;clear ex bb d0 d1 d2 e0 e1 e2 c1;go_upto_region 16 with fail;have v15:Vl (wx.alloc (.cells x.cells 29)) wx.heap.size x (t*aj (fun r=>p.a r j) m):=⟨(au HEX.out.ok).1,HEX.out.rp⟩;have bb:=(au HEX.out.ok).2;replace HRO:=ag (HRO.out.below bb);clear HEX bb;generalize (wx.alloc (.cells #[.bool x.b, .slice x.A x.xs.length x.c, .slice x.D x.ys.length x.d] 29))=wy at v15 HRO⊢;generalize wx.heap.size=g15 at v15⊢;have gq:=Zb.gq v15.el (HZM.out.mono0 (by omega))
     have d0:=v15.c0;have d1:=v15.c1;have d2:=v15.c2;have bl:=(au gq.2.1).2;have lit:=eN gq.2.1;have HR2:=ag (HRO.out.below bl);have HG2:=ag (And.intro (gq.2.1.below bl) gq.2.2);have HXQ:Hid (x.q=t*aj (fun r=>p.a r j) m):=ag gq.1.q;clear v15 gq bl HRO;go_upto_region 9 with (at_builtin;refine wpList_append_yr _ rfl _ _ rfl rfl (n:=j) rfl HVL.out.symm HR2.out.yr _ 1 x rfl lit HG2.out (by omega) HR2.out.o.2.2 ?_;intro A8 c8 w8 y8 kk _)
     have r8:=HR2.out.push y8 kk;clear y8 kk lit HR2 HG2 d0 d1 d2 HRJ HBK HBF HV13;go_wp2_with fail;go_roundw
     case rel=>exact ⟨j+1,A8,c8,by omega,by go_num,rfl,by
      unfold RoW;exact ⟨vs ++ [x],_,by rw [List.length_append,HVL.out,List.length_singleton],(fun i hi=>by
       rcases Nat.lt_or_ge i j with h1|h1
       ·rw [BS (by rw [HVL.out];exact h1)];exact HVS.out i h1
       ·obtain rfl:i=j:=by omega
        rw [fxV_last HVL.out,HXQ.out]),r8⟩⟩
     case measure=>simp [intOf];omega
  ·have hjn:n=j:=by omega
   subst hjn;go_upto_region 17 with fail;clear c0;generalize wj=w1 at *;generalize y=y5 at *;go_wp2_with fail;go_loopw [17] (fun iv wx=>∃(i:Nat) (y:Fx),i≤m∧iv = .int .i64 i∧Ro w0 wx g11 B A1 cA vs y (aj p.b i)) (fun iv _=>m-(intOf iv).toNat)
   case atStart=>exact ⟨0,y5,by omega,rfl,HRO.out⟩
   case round=>
    clear HRO;obtain ⟨i,y,hi,rfl,fr⟩:=hrel;have HFR:=ag fr;have c2:=(HP4.out wr fr.bf).2.2;have HBS:Hid (Zb (63*i) (aj p.b i)):=ag (qY i (fun r hr=>HPS.out.ip.bz.zb r));clear fr;by_cases him:i<m
    ·obtain ⟨adc,hadc,xc,efc,zc,qcc⟩:=HPS.out.ip.bz.at (k:=i) (by rw [HLB.out];exact him)
     have HXC:=ag zc;have HQX:Hid (p.b i=xc.q):=ag qcc.symm;have HZ2:Hid (Zb (63*i+63) (aj p.b i+xc.q)):=ag (HBS.out.add zc.q.1);have HSE:Hid (aj p.b (i+1)=aj p.b i+xc.q):=ag (by rw [aj,HQX.out])
     have HSC:Hid (∀w',Below w0.heap.size w0 w'→w'.cell? ⟨g4,2,none⟩=some (.slice (some adc) m p.right.c)∧w'.cell? (adc.add (i*3))=some (.bool xc.b)∧w'.cell? ⟨(adc.add (i*3)).block,(adc.add (i*3)).off+1,none⟩=some (.slice xc.A xc.xs.length xc.c)∧w'.cell? ⟨(adc.add (i*3)).block,(adc.add (i*3)).off+2,none⟩=some (.slice xc.D xc.ys.length xc.d)):=ag (fun w' hb=>by
      have h2:=(HP4.out w' hb).2.2;rw [hadc] at h2;exact ⟨h2,(efc.below hb).c0,(efc.below hb).c1,(efc.below hb).c2⟩)
     clear efc zc qcc hadc;go_upto_region 20 with fail;clear c2;have fr:=HFR.out.below ((ah wr.heap.size wr).drew);refine wp_region_held_drew (S:=fun w'=>w'.cell? ⟨g4,2,none⟩=some (.slice (some adc) m p.right.c)∧w'.cell? (adc.add (i*3))=some (.bool xc.b)∧w'.cell? ⟨(adc.add (i*3)).block,(adc.add (i*3)).off+1,none⟩=some (.slice xc.A xc.xs.length xc.c)∧w'.cell? ⟨(adc.add (i*3)).block,(adc.add (i*3)).off+2,none⟩=some (.slice xc.D xc.ys.length xc.d)) (by kernel_rfl) (HSC.out _ (HFR.out.below (ah wr.heap.size wr).drew).bf) (fun hHeld=>?_)
     have bz:=(ah wr.heap.size wr).drew;generalize wr.drew=wd at *;refine tki [(some 81,[11],[],none),(some 82,[5],[],none),(some 83,[82],[1],none),(some 84,[17],[],none),(some 85,[83,84],[2,3],none),(some 86,[85],[4],none),(some 87,[81,86],[0,5],none),(some 80,[87],[6],none),(some 88,[80],[7],none),(some 89,[80],[7],none),(none,[11,88],[8,6,0,1,2,3,4,5,6,7,8],none)] [false,false,false,false,false,false,false,false,false,false,false] (by kernel_rfl) (by kernel_rfl) (by kernel_rfl) (fun HSU=>?_)
     refine tks HSU 1 (.pointer (some ⟨g4,2,none⟩)) rfl ?_;simp only [tz];refine tks HSU 2 (.slice (some adc) m p.right.c) rfl ?_;simp only [tz];refine tks HSU 3 (.int .i64 (i:Int)) rfl ?_;simp only [tz];refine tks HSU 4 (.pointer (some (adc.add (i*3)))) rfl ?_;simp only [tz];refine tks HSU 5 (xc.val) rfl ?_;simp only [tz];refine tk1 HSU 0 rfl (fun K hK=>?_);have k0:=fr.v11.c0;have k1:=fr.v11.c1;have k2:=fr.v11.c2;go_simp;clear k0 k1 k2;refine hK.out _ _ (HSC.out _ fr.bf) (fun hHeld=>?_);clear hK K;try simp only [tz]
     refine tk1 HSU 6 rfl (fun K hK=>?_);go_simp;go_at_call 29;refine (tj wd y xc _ _ (fr.v11.el.nm (HBS.out.sz (by omega))) ((HXC.out.below fr.bf).nm) (HZ2.out.sz (by omega))).mono ?_
     rintro e we ⟨x2,rfl,e2,bb⟩;replace fr:=fr.below bb;clear bb hHeld;generalize we=wd at *;refine hK.out _ _ (HSC.out _ fr.bf) (fun hHeld=>?_);clear hK K;try simp only [tz]
     refine tks HSU 7 (.tuple #[x2.val, .int .i64 0]) rfl ?_;simp only [tz];refine tks HSU 8 (x2.val) rfl ?_;simp only [tz];refine tks HSU 9 (.int .i64 0) rfl ?_;simp only [tz];refine tk1 HSU 10 rfl (fun K hK=>?_);clear hHeld;have t:=fr.v11.fa.bk;obtain ⟨k0,k1,k2,kf0,kf1,kf2,_,_⟩:=t;go_simp;clear k0 k1 k2 kf0 kf1 kf2;replace fr:=fr.put (r:=aj p.b (i+1)) (by rw [HSE.out];exact e2)
     clear e2;generalize (((wd.setCell ⟨g11,0,none⟩ (.bool x2.b)).setCell ⟨g11,1,none⟩ (.slice x2.A x2.xs.length x2.c)).setCell ⟨g11,2,none⟩ (.slice x2.D x2.ys.length x2.d))=we at *;generalize we=wd at *;refine hK.out _ _ (HSC.out _ fr.bf) (fun hHeld=>?_);clear hK K;try simp only [tz]
     refine wpAnyH_done (tkn HSU (by kernel_rfl)) ?_ _
     go_wp2_with fail;go_roundw
     case rel=>exact ⟨i+1,x2,by omega,by go_num,fr⟩
     case measure=>simp [intOf];omega
    ·have him2:m=i:=by omega
     subst him2;have HBM:Hid (Zb 189 (aj p.b m)):=ag (HBS.out.mono0 (by omega))
     have HZM:Hid (Zb 945 (t*aj p.b m)):=ag (HTZ.out.mul HBM.out);have vk:=(HK.out wr HFR.out.bf).1;have d0:=vk.c0;have d1:=vk.c1;have d2:=vk.c2;have e0:=HFR.out.v11.c0;have e1:=HFR.out.v11.c1;have e2:=HFR.out.v11.c2;clear vk;go_wp2_with fail;refine (kC wr k y _ _ (HK.out wr HFR.out.bf).2 (HFR.out.v11.el.nm (HBM.out.sz (by omega))) (HZM.out.sz (by omega))).mono ?_
     rintro e wx ⟨x,rfl,ex,bb⟩;have fr:=HFR.out.below bb;have t0:=fr.v11.fa.bk;obtain ⟨k0,k1,k2,kf0,kf1,kf2,_,_⟩:=t0;clear d0 d1 d2 e0 e1 e2 bb c2 HFR;go_upto_region 22 with fail;have f2:=fr.put ex;clear k0 k1 k2 kf0 kf1 kf2 fr ex;generalize (((wx.setCell ⟨g11,0,none⟩ (.bool x.b)).setCell ⟨g11,1,none⟩ (.slice x.A x.xs.length x.c)).setCell ⟨g11,2,none⟩ (.slice x.D x.ys.length x.d))=w2 at f2⊢;have HF:=ag f2;have HXQ2:Hid (x.q=t*aj p.b m):=ag (Zb.gq f2.v11.el (HZM.out.mono0 (by omega))).1.q
     have HG8B:Hid (g8<w0.heap.size):=ag HQ8.out.lt;clear f2;have HIR:=ag (HPS.out.below HF.out.bf).ip;have HQ8':=ag (HQ8.out.below HF.out.bf);have hxg:=Zb.gq HF.out.v11.el (HZM.out.mono0 (by omega))
     have HXG:=ag hxg.2;have HG8:Hid (g8<w2.heap.size):=ag HQ8'.out.lt;have HSC:Hid (∀w',Below w2.heap.size w2 w'→w'.cell? ⟨g4,1,none⟩=some (.slice p.rA m p.rc)∧w'.cell? ⟨g4,2,none⟩=some (.slice p.right.A m p.right.c)∧w'.cell? ⟨g11,0,none⟩=some (.bool x.b)∧w'.cell? ⟨g11,1,none⟩=some (.slice x.A x.xs.length x.c)∧w'.cell? ⟨g11,2,none⟩=some (.slice x.D x.ys.length x.d)):=ag (fun w' hb=>by
      have h4:=(HP4.out w' (ai HF.out.bf hb HF.out.bf.size)).2;have v:=HF.out.v11.below hb;exact ⟨h4.1,h4.2,v.c0,v.c1,v.c2⟩)
     obtain ⟨i1,si,si0,si1,si2⟩:=info_parts jt;clear hxg HQ8;have HQ8:=ag HQ8'.out;clear HQ8'
     go_cut [] (fun wx=>∃(A2:Option Addr) (c2:Nat) (A3:Option Addr) (c3:Nat),RoF p m n cA A1 vs x g8 w2 A2 c2 A3 c3 wx)
     case first=>
      refine tkiK (S:=fun w'=>w'.cell? ⟨g4,1,none⟩=some (.slice p.rA m p.rc)∧w'.cell? ⟨g4,2,none⟩=some (.slice p.right.A m p.right.c)∧w'.cell? ⟨g11,0,none⟩=some (.bool x.b)∧w'.cell? ⟨g11,1,none⟩=some (.slice x.A x.xs.length x.c)∧w'.cell? ⟨g11,2,none⟩=some (.slice x.D x.ys.length x.d)) 15 SU22 [false,false,false,false,false,false,false,false,false,false,false,false,false,false,false,false,false,false] (by kernel_rfl) (by kernel_rfl) (by kernel_rfl) (by kernel_rfl) (HSC.out _ (ah w2.heap.size w2).drew) (fun HSU hHeld=>?_)
      have bw0:=(ah w2.heap.size w2).drew;generalize w2.drew=wd at *;refine mY HSU 1 (.pointer (some ⟨g4,1,none⟩)) rfl ?_;simp only [tz];refine mY HSU 2 (.slice p.rA m p.rc) rfl ?_;simp only [tz];refine mY HSU 4 (.slice A1 n cA) rfl ?_;simp only [tz];refine mY HSU 8 (.pointer (some ⟨g4,2,none⟩)) rfl ?_;simp only [tz];refine mY HSU 9 (.slice p.right.A m p.right.c) rfl ?_;simp only [tz];refine mY HSU 11 (x.val) rfl ?_;simp only [tz];refine walk22 HSU rfl rfl rfl rfl rfl rfl rfl rfl rfl (fun b0 b3 b5 b6 b7 b10 b12 b13 b14 v0 v3 v5 v6 v7 v10 v12 v13 v14 w=>R22 w2.heap.size m p.rows ⟨A1,cA,vs⟩ p.right.vs x w b0 b3 b5 b6 b7 b10 b12 b13 v0 v3 v5 v6 v7 v10 v12 v13∧Below w2.heap.size w2 w∧(b14=true→v14 = .pointer (some ⟨g8,1,none⟩))) ?_ ?_ ?_ ?_ ?_ ?_ ?_ ?_ ?_ ?_ (v0:=undef) (v3:=undef) (v5:=undef) (v6:=undef) (v7:=undef) (v10:=undef) (v12:=undef) (v13:=undef) (v14:=undef) ?_ ⟨⟨(fun b=>Bool.noConfusion b),(fun b=>Bool.noConfusion b),(fun b=>Bool.noConfusion b),(fun b=>Bool.noConfusion b),(fun b=>Bool.noConfusion b),(fun b=>Bool.noConfusion b),(fun b=>Bool.noConfusion b),(fun b=>Bool.noConfusion b),(fun _ _ _ _ b=>Bool.noConfusion b),(fun _ _ _ _ b=>Bool.noConfusion b),(fun _ _ _ _ _ b=>Bool.noConfusion b)⟩,bw0,(fun b=>Bool.noConfusion b)⟩
      ·intro b5 b7 b12 v0 v3 v5 v6 v7 v10 v12 v13 v14 wd ⟨h22,bw,h14⟩ K hK act hact;simp only [A22,tz] at hact;subst hact;go_simp;have bb:=(ah wd.heap.size wd).alloc (Nat.le_refl _) (.cells #[] 22);have b2:=ai bw bb bw.size;have ho:=hK.out (.slice (some ⟨wd.heap.size,0,none⟩) 0 0) _ (HSC.out _ b2) ⟨h22.a0 bw.size,b2,h14⟩;simpa only [A22,tz] using ho
      ·intro b5 b7 b12 v0 v3 v5 v6 v7 v10 v12 v13 v14 wd ⟨h22,bw,h14⟩ K hK act hact;simp only [A22,tz] at hact;subst hact;obtain ⟨e,rfl,gr0,nle⟩:=h22.x0 rfl rfl;obtain ⟨adr,hadr,_⟩:=HIR.out.rd (by rw [HM.out];exact HM1.out)
       refine bE wd (mk:=Sl.val) (fun _=>rfl) (fun _=>rfl) rfl _ _ 23 rfl 22 i1 (.slice none 0 0) 24 Tryz.underlying23 si si0 si1 si2 rfl (by intro u hu;simp [Value.cells] at hu;subst hu;rfl) rfl rfl gr0 (fun g hg=>by injection hg with hg;rw [←hg];exact nle) adr m p.rc p.rows (by show Value.slice p.rA m p.rc=_;rw [hadr]) HM.out.symm (by rw [←hadr];exact HIR.out.rd.below bw rfl) (by rw [HM.out];exact HM1.out) (by simp only [maxLen];omega) (by omega) bw.size ?_
       intro A4 c4 we h1 h2 h3 h4 _;rw [List.nil_append] at h1;have kk:Kp (fun a=>a=e) wd we:=ci h3 (fun k hk=>by injection hk with hk;exact hk.symm)
       have b2:=bw.trans h4;have ho:=hK.out (.slice A4 m c4) _ (HSC.out _ b2) ⟨h22.p3 gr0 nle h1 h2 kk,b2,h14⟩;simpa only [A22,tz,Nat.zero_add] using ho
      ·intro b0 b3 b7 b12 v0 v3 v5 v6 v7 v10 v12 v13 v14 wd ⟨h22,bw,h14⟩ K hK act hact;simp only [A22,tz] at hact;subst hact;go_simp;have er:(⟨A1,cA,vs⟩:Sl).val = .slice A1 n cA:=by simp only [Sl.val,HVL.out]
       have bb:=(ah wd.heap.size wd).alloc (Nat.le_refl _) (.cells #[.slice A1 n cA] 22);have b2:=ai bw bb bw.size;have h5:=h22.a5;rw [er] at h5;have ho:=hK.out (.slice (some ⟨wd.heap.size,0,none⟩) 1 1) _ (HSC.out _ b2) ⟨h5,b2,h14⟩;simpa only [A22,tz] using ho
      ·intro b7 b12 v0 v3 v5 v6 v7 v10 v12 v13 v14 wd ⟨h22,bw,h14⟩ K hK act hact;simp only [A22,tz] at hact;subst hact;obtain ⟨A3,c3,rfl,gr0,nl0⟩:=h22.x3 rfl rfl;obtain ⟨l,rfl,lt⟩:=h22.x5 rfl rfl;refine bE wd (mk:=Sl.val) (fun _=>rfl) (fun _=>rfl) rfl _ _ 23 rfl 22 i1 (.slice none 0 0) 24 Tryz.underlying23 si si0 si1 si2 rfl (by intro u hu;simp [Value.cells] at hu;subst hu;rfl) rfl HM.out.symm gr0 nl0 ⟨l,0,none⟩ 1 1 [⟨A1,cA,vs⟩] rfl rfl lt.rd (by simp) (by simp only [maxLen];omega) (by omega) bw.size ?_
       intro A4 c4 we h1 _ h3 h4 _;have kk:Kp (fun a=>A3.map (·.block)=some a) wd we:=ci h3 (fun k e=>e);have b2:=bw.trans h4;have ho:=hK.out (.slice A4 (m+1) c4) _ (HSC.out _ b2) ⟨h22.p6 gr0 nl0 h1 kk,b2,h14⟩;simpa only [A22,tz] using ho
      ·intro b0 b3 b5 b6 b12 b14 v0 v3 v5 v6 v7 v10 v12 v13 v14 wd ⟨h22,bw,h14⟩ K hK act hact;simp only [A22,tz] at hact;subst hact;go_simp;have bb:=(ah wd.heap.size wd).alloc (Nat.le_refl _) (.cells #[] 29);have b2:=ai bw bb bw.size;have ho:=hK.out (.slice (some ⟨wd.heap.size,0,none⟩) 0 0) _ (HSC.out _ b2) ⟨h22.a7 bw.size,b2,h14⟩;simpa only [A22,tz] using ho
      ·intro b12 b14 v0 v3 v5 v6 v7 v10 v12 v13 v14 wd ⟨h22,bw,h14⟩ K hK act hact;simp only [A22,tz] at hact;subst hact;obtain ⟨e,rfl,y0⟩:=h22.x7 rfl rfl;refine step_append_ym wd rfl _ _ rfl rfl rfl rfl y0 p.right.A m p.right.c p.right.vs rfl HLB.out.symm (HIR.out.bz.below bw).rd (fun v hv=>⟨((HIR.out.bz.below bw).el v hv).ok,((HIR.out.bz.below bw).el v hv).gq⟩) (by rw [HLB.out];exact HM1.out) (by omega) bw.size ?_
       intro A4 c4 we h1 kk hat;rw [List.nil_append] at h1;have kk2:Kp (fun a=>a=e) wd we:=kk.mono (fun g hg=>by injection hg with hg;exact hg.symm)
       have b2:=bw.trans (kk.below (B:=w2.heap.size) (fun g hg=>(y0.lt hg).1) bw.size);have ho:=hK.out (.slice A4 m c4) _ (HSC.out _ b2) ⟨h22.p10 rfl y0 h1 kk2 hat,b2,h14⟩;simpa only [A22,tz,Nat.zero_add] using ho
      ·intro b0 b3 b5 b6 b7 b10 b14 v0 v3 v5 v6 v7 v10 v12 v13 v14 wd ⟨h22,bw,h14⟩ K hK act hact;simp only [A22,tz] at hact;subst hact;go_simp;have bb:=(ah wd.heap.size wd).alloc (Nat.le_refl _) (.cells x.cells 29);have b2:=ai bw bb bw.size;have ho:=hK.out (.slice (some ⟨wd.heap.size,0,none⟩) 1 1) _ (HSC.out _ b2) ⟨h22.a12,b2,h14⟩;simpa only [A22,tz] using ho
      ·intro b14 v0 v3 v5 v6 v7 v10 v12 v13 v14 wd ⟨h22,bw,h14⟩ K hK act hact;simp only [A22,tz] at hact;subst hact;obtain ⟨A3,c3,rfl,y0⟩:=h22.x10 rfl rfl;obtain ⟨l,rfl,lt⟩:=h22.x12 rfl rfl;refine step_append_ym wd rfl _ _ rfl rfl rfl HLB.out.symm y0 (some ⟨l,0,none⟩) 1 1 [x] rfl rfl lt.rdf (fun v hv=>by rw [List.mem_singleton] at hv;rw [hv];exact ⟨HXG.out.1.below bw,HXG.out.2⟩) (by simp) (by omega) bw.size ?_
       intro A4 c4 we h1 kk _;have b2:=bw.trans (kk.below (B:=w2.heap.size) (fun g hg=>(y0.lt hg).1) bw.size);have ho:=hK.out (.slice A4 (m+1) c4) _ (HSC.out _ b2) ⟨h22.p13 rfl y0 h1 kk,b2,h14⟩;simpa only [A22,tz] using ho
      ·intro b7 b10 b12 b13 v0 v3 v5 v6 v7 v10 v12 v13 v14 wd ⟨h22,bw,h14⟩ K hK act hact;simp only [A22,tz] at hact;subst hact;go_simp;have ho:=hK.out (.pointer (some ⟨g8,1,none⟩)) _ (HSC.out _ bw) ⟨h22,bw,fun _=>rfl⟩;simpa only [A22,tz] using ho
      ·intro v0 v3 v5 v6 v7 v10 v12 v13 v14 wd ⟨h22,bw,h14⟩;obtain ⟨A2,c2,rfl,gr⟩:=h22.x6 rfl;obtain ⟨A3,c3,rfl,yr⟩:=h22.x13 rfl;have e14:=h14 rfl;subst e14;have q:=HQ8.out.below bw;clear h22 h14;simp only [A22,tz];refine Bh HSU 15 rfl (fun K hK=>?_);have k0:=q.c1;have kf0:=q.f1;go_simp;clear k0 kf0;have q1:=q.set1 (u := .slice A2 (m+1) c2) rfl;have ka:=rM wd g8 1 (.slice A2 (m+1) c2);refine hK.out _ _ ?_;clear hK K;simp only [tz];refine Bh HSU 16 rfl (fun K hK=>?_);go_simp;refine hK.out _ _ ?_;clear hK K;simp only [tz];refine Bh HSU 17 rfl (fun K hK=>?_);have k0:=q1.c2;have kf0:=q1.f2;go_simp
       clear k0 kf0;have q2:=q1.set2 (u := .slice A3 (m+1) c3) rfl;have kb:=rM (wd.setCell ⟨g8,1,none⟩ (.slice A2 (m+1) c2)) g8 2 (.slice A3 (m+1) c3);refine hK.out _ _ ?_;clear hK K;simp only [tz];refine tkdK (tkn HSU (by kernel_rfl)) ?_ _
       have kc:=ka.trans kb;have nG:∀a,a=g8→NL wd a:=fun a e=>by rw [e];exact q.nl
       have g1:=kc.gr gr (fun ad e e2=>by have:=(gr.form.2.2 ad e).1;have:=HG8.out;omega)
       have y1:=yr.kp kc nG (fun g e e2=>by have:=(yr.lt e).1;have:=HG8.out;omega)
       have mid:∃wm,Below w2.heap.size w2 wm∧Kp (fun a=>a=g8) wm _∧NL wm g8:=⟨wd,bw,kc,q.nl⟩;clear q q1 ka kb kc nG gr yr;go_wp2_with fail;go_meet
       case rel=>exact ⟨A2,c2,A3,c3,q2,g1,y1,mid⟩
      ·simp only [A22,tz]
     case rest=>
      obtain ⟨A2,c2,A3,c3,rf⟩:=hcut;obtain ⟨wm,bm,kc,ng⟩:=rf.mid;have hng:∀a,a=g8→NL wm a:=fun a e=>by rw [e];exact ng
      have b2:=ai HBE.out HF.out.bf HBE.out.size;have b3:=ai b2 bm b2.size;have b4:=b3.trans (kc.below (B:=we.heap.size) (fun g e=>by rw [e];exact HGE.out) b3.size)
      have pj:=HPE.out.below b4;have yr:=(HF.out.yr.below bm).kp kc hng (fun g e e2=>by have:=(HF.out.yr.lt e).1;have:=HF.out.o;have:=HG8B.out;omega)
      have hrl:(p.rows ++ [(⟨A1,cA,vs⟩:Sl)]).length=m+1:=by rw [List.length_append,HM.out,List.length_singleton]
      have hbl:(p.right.vs ++ [x]).length=m+1:=by rw [List.length_append,HLB.out,List.length_singleton]
      have hrow:∀r∈p.rows ++ [(⟨A1,cA,vs⟩:Sl)],r.ok wc∧r.vs.length=p.cost.vs.length∧∀v∈r.vs,Gq v:=fun r hr=>by
       rcases List.mem_append.1 hr with h|h
       ·have:=pj.ip.rz r h;exact ⟨this.1.ok,this.2,fun v hv=>(this.1.el v hv).gq⟩
       ·rw [List.mem_singleton] at h;subst h;exact ⟨yr.sl,by show vs.length=_;rw [HVL.out,HN.out],fun v hv=>(yr.el v hv).2⟩
      have okq:(⟨p.cost,A2,c2,p.rows ++ [⟨A1,cA,vs⟩],⟨A3,c3,p.right.vs ++ [x]⟩⟩:Pg).ok wc:=⟨pj.ip.cz.ok,rf.yr.sl,rf.gr.rd,fun r hr=>(hrow r hr).1,rf.gr.form.1⟩;have smq:=zz (p:=⟨p.cost,A2,c2,p.rows ++ [⟨A1,cA,vs⟩],⟨A3,c3,p.right.vs ++ [x]⟩⟩) (by show 1≤(p.rows++_).length;rw [hrl];omega) (by show (p.rows++_).length≤4;rw [hrl];omega) pj.ip.c1 (Nat.le_succ_of_le pj.ip.c2) (by show (p.right.vs ++ [x]).length=(p.rows++_).length;rw [hrl,hbl]) (fun v hv=>(pj.ip.cz.el v hv).gq) (fun v hv=>(rf.yr.el v hv).2) (fun r hr=>(hrow r hr).2)
      have hcall:=uA wc _ okq smq.1 smq.2;rw [show (⟨p.cost,A2,c2,p.rows ++ [⟨A1,cA,vs⟩],⟨A3,c3,p.right.vs ++ [x]⟩⟩:Pg).val = .agg #[.slice p.cost.A n p.cost.c, .slice A2 (m+1) c2, .slice A3 (m+1) c3] from by simp only [Pg.val,Sl.val,HN.out,hrl,hbl]] at hcall
      have q0:=rf.q8.c0;have q1:=rf.q8.c1;have q2:=rf.q8.c2;have HBX:=ag b4;clear rf hng b2 b3 b4 bm kc ng pj yr hrow okq smq;go_wp2_with fail;refine hcall.mono ?_;rintro e wd ⟨u,rfl,gu,bb⟩;have ra:∀r,r<m→∀j,j<n→(⟨p.cost,A2,c2,p.rows ++ [⟨A1,cA,vs⟩],⟨A3,c3,p.right.vs ++ [x]⟩⟩:Pg).a r j=p.a r j:=fun r hr j _=>by
       simp only [Pg.a];rw [bC (p.rows ++ [(⟨A1,cA,vs⟩:Sl)]) r ⟨none,0,[]⟩ (by rw [hrl];omega),bC p.rows r ⟨none,0,[]⟩ (by rw [HM.out];exact hr),List.getElem_append_left (by rw [HM.out];exact hr)]
      have rm:∀j,j<n→(⟨p.cost,A2,c2,p.rows ++ [⟨A1,cA,vs⟩],⟨A3,c3,p.right.vs ++ [x]⟩⟩:Pg).a m j=t*aj (fun r=>p.a r j) m:=fun j hj=>by
       rw [←HVS.out j hj];simp only [Pg.a];rw [bC (p.rows ++ [(⟨A1,cA,vs⟩:Sl)]) m ⟨none,0,[]⟩ (by rw [hrl];omega),List.getElem_append_right (by rw [HM.out];exact Nat.le_refl _)]
       simp only [HM.out,Nat.sub_self,List.getElem_cons_zero];rfl
      have rb:∀r,r<m→(⟨p.cost,A2,c2,p.rows ++ [⟨A1,cA,vs⟩],⟨A3,c3,p.right.vs ++ [x]⟩⟩:Pg).b r=p.b r:=fun r hr=>BS (by rw [HLB.out];exact hr)
      have rbm:(⟨p.cost,A2,c2,p.rows ++ [⟨A1,cA,vs⟩],⟨A3,c3,p.right.vs ++ [x]⟩⟩:Pg).b m=t*aj p.b m:=(fxV_last HLB.out).trans HXQ2.out;have hlaw:=rows_law ra rb rm rbm (by have:=HPE.out.gd.chk.P;rw [HN.out,HM.out] at this;exact this) (by
       have:=gu.chk.P;rw [show (⟨p.cost,A2,c2,p.rows ++ [⟨A1,cA,vs⟩],⟨A3,c3,p.right.vs ++ [x]⟩⟩:Pg).cost.vs.length=n from HN.out,show (⟨p.cost,A2,c2,p.rows ++ [⟨A1,cA,vs⟩],⟨A3,c3,p.right.vs ++ [x]⟩⟩:Pg).rows.length=m+1 from hrl] at this;exact this)
      have HLAW:=ag hlaw;have HGU:=ag gu;replace HBX:=ag (ai HBX.out bb HBX.out.size);clear ra rm rb rbm hlaw gu bb hcall q0 q1 q2 hrl hbl;go_upto_region 24 with fail;have su:=(cY wd u 31).1;have bb:=(cY wd u 31).2;generalize (wd.alloc (.cells #[.int .i64 u.kind, .slice u.X.A u.X.vs.length u.X.c, .slice u.Y.A u.Y.vs.length u.Y.c, .slice u.R.A u.R.vs.length u.R.c, .bool u.v.b, .slice u.v.A u.v.xs.length u.v.c, .slice u.v.D u.v.ys.length u.v.d] 31))=wk at su bb⊢;generalize wd.heap.size=g18 at su⊢;replace HGU:=ag (HGU.out.below bb);replace HBX:=ag (ai HBX.out bb HBX.out.size);have ps:=HPE.out.below HBX.out
      have HNV:=ag ps.gd.nmv;have s0:=ps.sb.c0;have s4:=ps.sb.c4;have s5:=ps.sb.c5;have s6:=ps.sb.c6;have u0:=su.c0;have u4:=su.c4;have u5:=su.c5;have u6:=su.c6;rw [←HLAW.out.1] at u0;clear su bb ps;go_wp2_with fail;refine (gA wk s.v u.v _ _ true HNV.out HGU.out.nmv (decide_eq_true HLAW.out.2)).mono ?_;rintro e w7 ⟨rfl,bb⟩;replace HBX:=ag (ai HBX.out bb HBX.out.size);clear bb s0 s4 s5 s6 u0 u4 u5 u6;go_wp2_with fail;refine (jH w7).mono ?_;rintro e w8 ⟨rfl,bb⟩;replace HBX:=ag (ai HBX.out bb HBX.out.size);go_wp2_with fail;go_ret;exact ⟨rfl,ai HBWE.out HBX.out HBWE.out.size⟩
end Go.Proofs.YtkpfbekmaafehaaGreat
