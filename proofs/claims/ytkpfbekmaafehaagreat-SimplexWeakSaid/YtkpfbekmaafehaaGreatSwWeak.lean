/- The walk of drydocklaw16.SimplexWeak. -/
import Derived.Test.YtkpfbekmaafehaaGreatOpenB
namespace Go.Proofs.YtkpfbekmaafehaaGreat
set_option maxRecDepth 100000
open Go.RowKit
structure Ps (w:World) (p:Pg) (s:Sn) (g4 g5:Nat):Prop where
  ip:Ip w p
  gd:vA w p s
  pb:Pb w g4 p
  sb:Sb w g5 s
theorem Ps.below {w w':World} {p:Pg} {s:Sn} {g4 g5:Nat} (h:Ps w p s g4 g5) (hb:Below w.heap.size w w'):Ps w' p s g4 g5:=⟨h.ip.below hb,h.gd.below hb,h.pb.below hb,h.sb.below hb⟩
structure Lw (wf w:World) (g7 Gu:Nat) (Au:Option Addr) (cu:Nat) (bs:List Nat) (k Bx:Nat) (A9:Option Addr) (c9:Nat) (vs:List Fx) (y:Fx) (q:Rat):Prop where
  v7:Vl w g7 y q
  n7:NL w g7
  tp:Tp w Gu Au cu bs k
  zr:Zr w Bx A9 c9 vs
  bf:Below wf.heap.size wf w
  o:wf.heap.size≤g7∧g7<Gu∧Gu<Bx∧Bx≤w.heap.size
  td:0<bs.length→∀ad,Au=some ad→g7<ad.block∧ad.block<Bx
section
variable {wf w w':World} {g7 Gu cu k k' Bx c9:Nat} {Au A9:Option Addr} {bs:List Nat} {vs:List Fx} {y:Fx} {q:Rat}
theorem Lw.below (h:Lw wf w g7 Gu Au cu bs k Bx A9 c9 vs y q) (hb:Below w.heap.size w w'):Lw wf w' g7 Gu Au cu bs k Bx A9 c9 vs y q:=
  ⟨h.v7.below hb,h.n7.below hb,h.tp.below hb,h.zr.below hb,ai h.bf hb h.bf.size,⟨h.o.1,h.o.2.1,h.o.2.2.1,Nat.le_trans h.o.2.2.2 hb.size⟩,h.td⟩
theorem Lw.next (h:Lw wf w g7 Gu Au cu bs k Bx A9 c9 vs y q) (tp:Tp w' Gu Au cu bs k') (kk:Kp (fun a=>a=Gu) w w'):Lw wf w' g7 Gu Au cu bs k' Bx A9 c9 vs y q:=by
  have o:=h.o;have nl:∀a,a=Gu→NL w a:=fun a e=>by rw [e];exact h.tp.nl
  exact ⟨h.v7.kp kk nl (by omega),h.n7.kp kk (by omega),tp,h.zr.kp kk nl (fun g e e2=>by have:=(h.zr.lt e).1;omega),h.bf.trans (kk.below (fun a e=>by omega) h.bf.size),⟨o.1,o.2.1,o.2.2.1,Nat.le_trans o.2.2.2 kk.size⟩,h.td⟩
theorem Lw.push (h:Lw wf w g7 Gu Au cu bs k Bx A9 c9 vs y q) {A':Option Addr} {c':Nat} {us:List Fx} (zr:Zr w' Bx A' c' us) (kk:Kp (fun a=>A9.map (·.block)=some a) w w'):Lw wf w' g7 Gu Au cu bs k Bx A' c' us y q:=by
  have o:=h.o;have nl:=h.zr.ni.nlr;have hb:∀g,A9.map (·.block)=some g→Bx≤g:=fun g e=>(h.zr.lt e).1;exact ⟨h.v7.kp kk nl (fun e=>by have:=hb _ e;omega),h.n7.kp kk (fun e=>by have:=hb _ e;omega),h.tp.kp kk (fun e=>by have:=hb _ e;omega) (fun hn ad e e2=>by have:=hb _ e2;have:=h.td hn ad e;omega),zr,h.bf.trans (kk.below (fun a e=>by have:=hb _ e;omega) h.bf.size),⟨o.1,o.2.1,o.2.2.1,Nat.le_trans o.2.2.2 kk.size⟩,h.td⟩
theorem Lw.cost (h:Lw wf w g7 Gu Au cu bs k Bx A9 c9 vs y q) {z:Fx} {r:Rat} (e:El w z r):Lw wf (((w.setCell ⟨g7,0,none⟩ (.bool z.b)).setCell ⟨g7,1,none⟩ (.slice z.A z.xs.length z.c)).setCell ⟨g7,2,none⟩ (.slice z.D z.ys.length z.d)) g7 Gu Au cu bs k Bx A9 c9 vs z r:=by
  have o:=h.o;have kk:=(Kp.refl (fun a=>a=g7) w).set3 (S:=fun a=>a=g7) rfl 0 1 2 (.bool z.b) (.slice z.A z.xs.length z.c) (.slice z.D z.ys.length z.d);have nl:∀a,a=g7→NL w a:=fun a e=>by rw [e];exact h.n7
  exact ⟨⟨h.v7.fa.put e.ok,e.rp⟩,((h.n7.set 0 rfl).set 1 rfl).set 2 rfl,h.tp.kp kk (by omega) (fun hn ad e e2=>by have:=h.td hn ad e;omega),h.zr.kp kk nl (fun g e e2=>by have:=(h.zr.lt e).1;omega),aR h.bf o.1,⟨o.1,o.2.1,o.2.2.1,Nat.le_trans o.2.2.2 kk.size⟩,h.td⟩
theorem BL (w:World) (x:Fx):NL (w.alloc (.cells x.cells 29)) w.heap.size:=⟨_,_,heap_alloc_new w _,fun u hu=>by
  simp at hu;rcases hu with rfl|rfl|rfl <;> rfl⟩
end
set_option maxHeartbeats 4000000 in
theorem yq (w:World) (A:Option Addr) (c:Nat) (bs:List Nat) (h:Rd u8b w A bs) (hc:bs.length≤c) (hm:c≤9223372036854775807) (hb:∀b∈bs,b<256) :
    Calls Tryz.prog 7 #[.slice A bs.length c] w fun e w'=>e = .returned (.bool true)∧Below w.heap.size w w':=by
  have HR:=ag h;have HB:=ag hb;clear h hb;go_enter Tryz.func7,Tryz.ntmps7;go_wp2_with fail;refine (sn w A c bs HR.out hc hm HB.out).mono ?_;rintro e wa ⟨G1,A1,k1,rfl,tp,hge,bb⟩;have HGE:=ag hge.1;have HTP:=ag tp;have HBW:=ag bb;clear tp hge bb;go_wp2_with fail;refine (wV wa G1 k1 0 A1 _ HTP.out).mono ?_;rintro e wb ⟨p,_,rfl,ip,-,kp⟩;replace HBW:=ag (HBW.out.trans (kp.below (B:=w.heap.size) (fun a e=>by rw [e];exact HGE.out) HBW.out.size))
  have HIP:=ag ip;clear HTP HGE ip kp;go_upto_region 3 with fail;have pb:=(aY wb p 25).1;have bb:=(aY wb p 25).2;generalize (wb.alloc (.cells #[.slice p.cost.A p.cost.vs.length p.cost.c, .slice p.rA p.rows.length p.rc, .slice p.right.A p.right.vs.length p.right.c] 25))=wc at pb bb⊢;generalize wb.heap.size=g4 at pb⊢;replace HIP:=ag (HIP.out.below bb);replace HBW:=ag (ai HBW.out bb HBW.out.size);have HPB:=ag pb;have c0:=pb.c0;have c1:=pb.c1;have c2:=pb.c2;clear pb bb;go_wp2_with fail;refine (uA wc p HIP.out.ok HIP.out.small.1 HIP.out.small.2).mono ?_;rintro e wd ⟨s,rfl,good,bb⟩;replace HIP:=ag (HIP.out.below bb)
  replace HPB:=ag (HPB.out.below bb);replace HBW:=ag (ai HBW.out bb HBW.out.size);have HGD:=ag good;clear good c0 c1 c2 bb;go_upto_region 4 with fail;have sb:=(cY wd s 31).1;have bb:=(cY wd s 31).2;generalize (wd.alloc (.cells #[.int .i64 s.kind, .slice s.X.A s.X.vs.length s.X.c, .slice s.Y.A s.Y.vs.length s.Y.c, .slice s.R.A s.R.vs.length s.R.c, .bool s.v.b, .slice s.v.A s.v.xs.length s.v.c, .slice s.v.D s.v.ys.length s.v.d] 31))=we at sb bb⊢;generalize wd.heap.size=g5 at sb⊢;have HPS:Hid (Ps we p s g4 g5):=ag ⟨HIP.out.below bb,HGD.out.below bb,HPB.out.below bb,sb⟩;replace HBW:=ag (ai HBW.out bb HBW.out.size)
  clear sb bb HIP HPB HGD;go_wp2_with fail;refine (iT we).mono ?_;rintro e wf ⟨y,rfl,ey,bb⟩;replace HPS:=ag (HPS.out.below bb);replace HBW:=ag (ai HBW.out bb HBW.out.size);have HEY:=ag ey;clear ey bb;go_upto_region 7 with fail;have v7:Vl (wf.alloc (.cells y.cells 29)) wf.heap.size y 0:=⟨(au HEY.out.ok).1,HEY.out.rp⟩;have n7:=BL wf y;have bf:=(au HEY.out.ok).2;have hg7:wf.heap.size<(wf.alloc (.cells y.cells 29)).heap.size:=by simp
  clear HEY;generalize (wf.alloc (.cells #[.bool y.b, .slice y.A y.xs.length y.c, .slice y.D y.ys.length y.d] 29))=wg at v7 n7 bf hg7⊢;obtain ⟨g7,hg⟩:∃g,wf.heap.size=g:=⟨_,rfl⟩;have HG7:Hid (wf.heap.size≤g7∧g7<wg.heap.size):=ag (by omega)
  rw [hg] at v7 n7;have HV7:=ag v7;have HN7:=ag n7;have HBF:=ag bf;clear v7 n7 bf hg7
  try rw [hg]
  clear hg;go_wp2_with fail;refine (sn wg A c bs (HR.out.below (ai HBW.out HBF.out HBW.out.size) rfl) hc hm HB.out).mono ?_;rintro e wh ⟨Gu,Au,cu,rfl,tp,hge,bb⟩;obtain ⟨bt,hbt⟩:∃l,bs.take 400=l:=⟨_,rfl⟩;rw [hbt] at tp;obtain ⟨Bx,hBx⟩:∃g,wh.heap.size=g:=⟨_,rfl⟩;have HLW:Hid (Lw wf wh g7 Gu Au cu bt 0 Bx none 0 [] y 0):=ag ⟨HV7.out.below bb,HN7.out.below bb,tp,Zr.nil _ _,ai HBF.out bb HBF.out.size,⟨HG7.out.1,by have:=HG7.out;omega,by have:=tp.lt;omega,by omega⟩,fun hn ad e=>by
    have h1:=hge.2 ad e;obtain ⟨ad',e',h2,_⟩:=tp.rd hn;rw [e] at e';injection e' with e';subst e';have:=HG7.out;omega⟩
  clear tp hge bb hbt HV7 HN7 HBF HG7 hBx;go_wp2_with fail;refine (dy wh Gu cu 0 3 Au bt HLW.out.tp (by omega) (by omega)).mono ?_
  rintro e wi ⟨z1,k1,rfl,_,_,tp,kk⟩;replace HLW:=ag (HLW.out.next tp kk)
  clear tp kk;go_wp2_with fail;refine (dy wi Gu cu k1 5 Au bt HLW.out.tp (by omega) (by omega)).mono ?_
  rintro e wj ⟨z2,k2,rfl,_,_,tp,kk⟩;replace HLW:=ag (HLW.out.next tp kk)
  clear tp kk;obtain ⟨n,hn⟩:∃n,p.cost.vs.length=n:=⟨_,rfl⟩;have HN:=ag hn;have hn5:n≤5:=by rw [←hn];exact HPS.out.ip.c2
  clear hn;go_wp2_with fail;go_loopw [9,11] (fun xv jv wr=>∃(j:Nat) (A9:Option Addr) (c9:Nat) (vs:List Fx) (y:Fx) (k:Nat),j≤n∧jv = .int .i64 j∧xv = .slice A9 j c9∧vs.length=j∧(∀v∈vs,0≤v.q)∧Lw wf wr g7 Gu Au cu bt k Bx A9 c9 vs y (aj (fun i=>p.c i*fxV vs i) j)) (fun _ jv _=>n-(intOf jv).toNat)
  case atStart=>exact ⟨0,none,0,[],y,k2,by omega,rfl,rfl,rfl,(fun v hv=>absurd hv (by simp)),HLW.out⟩
  case round=>
    clear HLW;obtain ⟨j,A9,c9,vs,y,k,hj,rfl,rfl,hvl,hv0,lw⟩:=hrel;have HVL:=ag hvl;have HV0:=ag hv0;have HLW:=ag lw;have c0:wr.cell? ⟨g4,0,none⟩=some (.slice p.cost.A n p.cost.c):=by rw [←HN.out];exact ((HPS.out.below lw.bf).pb).c0
    have HBS:Hid (Zb (3969*j) (aj (fun i=>p.c i*fxV vs i) j)):=ag (qY j (fun i _=>(HPS.out.ip.cz.zb i).mul (lw.zr.zs.zb i)));clear hvl hv0 lw;by_cases hlt:j<n
    · go_wp2_with fail
      --D{
      refine (dy wr Gu cu k 4 Au bt HLW.out.tp (by omega) (by omega)).mono ?_
      rintro e we ⟨z,k3,rfl,hz0,hz4,tp,kk⟩;replace HLW:=ag (HLW.out.next tp kk)
      clear tp kk c0;go_wp2_with fail;refine (dS we z (by omega) (by omega)).mono ?_
      rintro e wr ⟨x,rfl,ex,bb⟩;have zx:Zl wr x:=⟨z,by omega,ex⟩
      have bl:=(au zx.ok).2;have lit:=eN zx.ok;have b2:=ai bb bl bb.size;have HZX:=ag (zx.below bl);have HXQ:Hid (0≤x.q):=ag (by
        rw [(ex.int (z:=z) (by omega)).q]
        exact Rat.intCast_nonneg.2 hz0)
      replace HLW:=ag (HLW.out.below b2);clear ex zx bb bl b2 hz0 hz4;go_upto_region 15 with (at_builtin;refine iB _ rfl _ _ rfl rfl (n:=j) rfl HVL.out.symm HLW.out.zr _ 1 x rfl lit HZX.out (by omega) HLW.out.o.2.2.2 ?_;intro A8 c8 w8 z8 kk _)
      have lw:=HLW.out.push z8 kk;clear z8 kk lit HZX HLW;have HLW:=ag lw;clear lw;go_wp2_with fail;refine (dy w8 Gu cu k3 9 Au bt HLW.out.tp (by omega) (by omega)).mono ?_
      rintro e wr ⟨z9,k4,rfl,_,_,tp,kk⟩;replace HLW:=ag (HLW.out.next tp kk)
      clear tp kk;have HPR:=ag (HPS.out.below HLW.out.bf);obtain ⟨ad9,rfl,xj,ef9,zj,qj⟩:=HLW.out.zr.zs.at (k:=j) (by rw [List.length_append,HVL.out];simp)
      obtain ⟨adc,hadc,xc,efc,zc,qc⟩:=HPR.out.ip.cz.at (k:=j) (by rw [HN.out];exact hlt)
      have HNX:Hid (Nm wr xj (fxV (vs ++ [x]) j)):=ag (by rw [←qj];exact zj.nm)
      have HNC:Hid (Nm wr xc (p.c j)):=ag (by rw [show p.c j=xc.q from qc.symm];exact zc.nm)
      have HBM:Hid (Zb 3969 (p.c j*fxV (vs ++ [x]) j)):=ag (by rw [←qj,show p.c j=xc.q from qc.symm];exact zc.q.1.mul zj.q.1)
      have HZM:Hid (Sz (p.c j*fxV (vs ++ [x]) j) 128 128):=ag (HBM.out.sz (by omega))
      have HCC:Hid (∀w',Below wr.heap.size wr w'→w'.cell? ⟨g4,0,none⟩=some (.slice (some adc) n p.cost.c)):=ag (fun w' hb=>by
        have:=(HPR.out.below hb).pb.c0;rw [show p.cost.val = .slice p.cost.A p.cost.vs.length p.cost.c from rfl,hadc,HN.out] at this;exact this)
      have HEC:=ag efc;have HE9:=ag ef9;have HSC:Hid (∀w',Below wr.heap.size wr w'→w'.cell? ⟨g4,0,none⟩=some (.slice (some adc) n p.cost.c)∧w'.cell? (adc.add (j*3))=some (.bool xc.b)∧w'.cell? ⟨(adc.add (j*3)).block,(adc.add (j*3)).off+1,none⟩=some (.slice xc.A xc.xs.length xc.c)∧w'.cell? ⟨(adc.add (j*3)).block,(adc.add (j*3)).off+2,none⟩=some (.slice xc.D xc.ys.length xc.d)∧w'.cell? (ad9.add (j*3))=some (.bool xj.b)∧w'.cell? ⟨(ad9.add (j*3)).block,(ad9.add (j*3)).off+1,none⟩=some (.slice xj.A xj.xs.length xj.c)∧w'.cell? ⟨(ad9.add (j*3)).block,(ad9.add (j*3)).off+2,none⟩=some (.slice xj.D xj.ys.length xj.d)):=ag (fun w' hb=>⟨HCC.out w' hb,(HEC.out.below hb).c0,(HEC.out.below hb).c1,(HEC.out.below hb).c2,(HE9.out.below hb).c0,(HE9.out.below hb).c1,(HE9.out.below hb).c2⟩)
      have hjx:¬((j:Int)+1≤(j:Int)):=by omega
      clear efc ef9 zj zc qj qc hadc;go_upto_region 16 with fail
      go_cut [12] (fun v wx=>∃(g12:Nat) (x2:Fx),v = .pointer (some ⟨g12,0,none⟩)∧Vl wx g12 x2 (p.c j*fxV (vs ++ [x]) j)∧wr.heap.size≤g12∧Below wr.heap.size wr wx)
      case first=>
        have HSP:Hid (∀w',Below wr.heap.size wr w'→(w'.cell? ⟨g4,0,none⟩=some (.slice (some adc) n p.cost.c)∧w'.cell? (adc.add (j*3))=some (.bool xc.b)∧w'.cell? ⟨(adc.add (j*3)).block,(adc.add (j*3)).off+1,none⟩=some (.slice xc.A xc.xs.length xc.c)∧w'.cell? ⟨(adc.add (j*3)).block,(adc.add (j*3)).off+2,none⟩=some (.slice xc.D xc.ys.length xc.d)∧w'.cell? (ad9.add (j*3))=some (.bool xj.b)∧w'.cell? ⟨(ad9.add (j*3)).block,(ad9.add (j*3)).off+1,none⟩=some (.slice xj.A xj.xs.length xj.c)∧w'.cell? ⟨(ad9.add (j*3)).block,(ad9.add (j*3)).off+2,none⟩=some (.slice xj.D xj.ys.length xj.d))):=ag (fun _ bz=>(HSC.out _ bz))
        refine fR HSP (by kernel_rfl) (fun hHeld=>?_)
        have bz:=(ah wr.heap.size wr).drew;generalize wr.drew=wd at *;refine tki [(some 53,[4],[],none),(some 54,[53],[0],none),(some 55,[11],[],none),(some 56,[54,55],[1,2],none),(some 57,[56],[3],none),(some 58,[9],[],none),(some 59,[11],[],none),(some 60,[58,59],[5,6],none),(some 61,[60],[7],none),(some 62,[57,61],[4,8],none),(some 52,[62],[9],none),(some 63,[52],[10],none),(some 64,[52],[10],none),(some 12,[],[],none),(none,[12,63],[13,11,9,0,1,2,3,4,5,6,7,8,9,10,11,13],none),(some 13,[64],[12,14,0,1,2,3,4,5,6,7,8,9,10,11,12,13,14],none)] [false,false,false,false,false,false,false,false,false,false,false,false,false,false,false,false] (by kernel_rfl) (by kernel_rfl) (by kernel_rfl) (fun HSU=>?_)
        refine tks HSU 0 (.pointer (some ⟨g4,0,none⟩)) rfl ?_;simp only [tz];refine tks HSU 1 (.slice (some adc) n p.cost.c) rfl ?_;simp only [tz];refine tks HSU 2 (.int .i64 (j:Int)) rfl ?_;simp only [tz];refine tks HSU 3 (.pointer (some (adc.add (j*3)))) rfl ?_;simp only [tz];refine tks HSU 4 (xc.val) rfl ?_;simp only [tz];refine tks HSU 5 (.slice (some ad9) (j+1) c8) rfl ?_;simp only [tz];refine tks HSU 6 (.int .i64 (j:Int)) rfl ?_;simp only [tz];refine tks HSU 7 (.pointer (some (ad9.add (j*3)))) rfl ?_;simp only [tz];refine tks HSU 8 (xj.val) rfl ?_;simp only [tz];refine wpAnyH_ready (rs := [9,13]) (tkn HSU (by kernel_rfl)) (by simp) ?_
        refine AllReadyH.cons rfl (fun K hK=>?_) ?_
        ·go_simp;go_at_call 28;refine (kC wd xc xj _ _ (HNC.out.below bz) (HNX.out.below bz) HZM.out).mono ?_;rintro e wd ⟨x2,rfl,e2,bb⟩;have RP:=ag e2.rp;have ok2:=e2.ok;clear e2;replace bz:=ai bz bb bz.size;clear bb;refine hK.out _ _ (HSP.out _ bz) (fun hHeld=>?_);clear hK K;try simp only [tz]
         refine tks HSU 10 (.tuple #[x2.val, .int .i64 0]) rfl ?_;simp only [tz];refine tks HSU 11 (x2.val) rfl ?_;simp only [tz];refine tks HSU 12 (.int .i64 0) rfl ?_;simp only [tz];refine tk1 HSU 13 rfl (fun K hK=>?_);go_simp;have k12:=aK wd;have bb:=(ah wd.heap.size wd).alloc (Nat.le_refl _) (.cells #[.bool false, .slice none 0 0, .slice none 0 0] 29);have s12:=bz.size;generalize h12:wd.heap.size=g12 at k12 s12⊢;replace ok2:=ok2.below bb;replace bz:=ai bz bb bz.size;clear bb;generalize (wd.alloc (.cells #[.bool false, .slice none 0 0, .slice none 0 0] 29))=we at *;clear h12;generalize we=wd at *
         refine hK.out _ _ (HSP.out _ bz) (fun hHeld=>?_);clear hK K;try simp only [tz]
         refine tk1 HSU 14 rfl (fun K hK=>?_);have t:=k12;obtain ⟨k0,k1,k2,kf0,kf1,kf2,_,_⟩:=t;go_simp;clear k0 k1 k2 kf0 kf1 kf2;have hk:Fa wd g12 Fx.nil:=⟨k12,Fx.nil_ok _⟩;have a2:=hk.put ok2;have b5:=aR (G:=g12) (a:=(.bool x2.b)) (b:=(.slice x2.A x2.xs.length x2.c)) (c:=(.slice x2.D x2.ys.length x2.d)) bz s12;clear bz hk k12 ok2 hHeld;generalize (((wd.setCell ⟨g12,0,none⟩ (.bool x2.b)).setCell ⟨g12,1,none⟩ (.slice x2.A x2.xs.length x2.c)).setCell ⟨g12,2,none⟩ (.slice x2.D x2.ys.length x2.d))=we at *;have bz:=b5;clear b5;generalize we=wd at *;refine hK.out _ _ (HSP.out _ bz) (fun hHeld=>?_);clear hK K;try simp only [tz]
         refine tk1 HSU 15 rfl (fun K hK=>?_);go_simp;refine hK.out _ _ (HSP.out _ bz) (fun hHeld=>?_);clear hK K;try simp only [tz]
         refine wpAnyH_done (tkn HSU (by kernel_rfl)) ?_ _
         go_wp2_with fail;go_meet
         case rel=>exact ⟨g12,x2,rfl,⟨a2,RP.out⟩,s12,bz⟩
        refine AllReadyH.cons rfl (fun K hK=>?_) ?_
        ·go_simp;have k12:=aK wd;have bb:=(ah wd.heap.size wd).alloc (Nat.le_refl _) (.cells #[.bool false, .slice none 0 0, .slice none 0 0] 29);have s12:=bz.size;generalize h12:wd.heap.size=g12 at k12 s12⊢;replace bz:=ai bz bb bz.size;clear bb;generalize (wd.alloc (.cells #[.bool false, .slice none 0 0, .slice none 0 0] 29))=we at *;clear h12;generalize we=wd at *;refine hK.out _ _ (HSP.out _ bz) (fun hHeld=>?_);clear hK K;try simp only [tz]
         refine tk1 HSU 9 rfl (fun K hK=>?_);go_simp;go_at_call 28;refine (kC wd xc xj _ _ (HNC.out.below bz) (HNX.out.below bz) HZM.out).mono ?_;rintro e wd ⟨x2,rfl,e2,bb⟩;have RP:=ag e2.rp;have ok2:=e2.ok;clear e2;replace k12:=k12.below bb;replace bz:=ai bz bb bz.size;clear bb;refine hK.out _ _ (HSP.out _ bz) (fun hHeld=>?_);clear hK K;try simp only [tz]
         refine tks HSU 10 (.tuple #[x2.val, .int .i64 0]) rfl ?_;simp only [tz];refine tks HSU 11 (x2.val) rfl ?_;simp only [tz];refine tks HSU 12 (.int .i64 0) rfl ?_;simp only [tz];refine tk1 HSU 14 rfl (fun K hK=>?_);have t:=k12;obtain ⟨k0,k1,k2,kf0,kf1,kf2,_,_⟩:=t;go_simp;clear k0 k1 k2 kf0 kf1 kf2;have hk:Fa wd g12 Fx.nil:=⟨k12,Fx.nil_ok _⟩;have a2:=hk.put ok2;have b5:=aR (G:=g12) (a:=(.bool x2.b)) (b:=(.slice x2.A x2.xs.length x2.c)) (c:=(.slice x2.D x2.ys.length x2.d)) bz s12;clear bz hk k12 ok2 hHeld;generalize (((wd.setCell ⟨g12,0,none⟩ (.bool x2.b)).setCell ⟨g12,1,none⟩ (.slice x2.A x2.xs.length x2.c)).setCell ⟨g12,2,none⟩ (.slice x2.D x2.ys.length x2.d))=we at *
         have bz:=b5;clear b5;generalize we=wd at *;refine hK.out _ _ (HSP.out _ bz) (fun hHeld=>?_);clear hK K;try simp only [tz]
         refine tk1 HSU 15 rfl (fun K hK=>?_);go_simp;refine hK.out _ _ (HSP.out _ bz) (fun hHeld=>?_);clear hK K;try simp only [tz]
         refine wpAnyH_done (tkn HSU (by kernel_rfl)) ?_ _
         go_wp2_with fail;go_meet
         case rel=>exact ⟨g12,x2,rfl,⟨a2,RP.out⟩,s12,bz⟩
        exact AllReadyH.nil
      case rest=>
        obtain ⟨g12,x2,rfl,v12,hg12,bb⟩:=hcut;have v7:=HLW.out.v7.below bb;have c0:=v7.c0;have c1:=v7.c1;have c2:=v7.c2;have d0:=v12.c0;have d1:=v12.c1;have d2:=v12.c2;replace HLW:=ag (HLW.out.below bb);have HV12:=ag v12;clear v7 v12 hg12 bb HSC HCC HEC HE9 HNX HNC HPR hjx;have HSS:Hid (aj (fun i=>p.c i*fxV (vs ++ [x]) i) (j+1)=aj (fun i=>p.c i*fxV vs i) j+p.c j*fxV (vs ++ [x]) j):=ag (by
          rw [aj]
          congr 1
          exact ay fun i hi=>by rw [BS (by rw [HVL.out];exact hi)])
        have HZ2:Hid (Zb (3969*(j+1)) (aj (fun i=>p.c i*fxV vs i) j+p.c j*fxV (vs ++ [x]) j)):=ag (HBS.out.add HBM.out);go_wp2_with fail;refine (tj _ _ x2 _ _ (HLW.out.v7.el.nm (HBS.out.sz (by omega))) (HV12.out.el.nm HZM.out) (HZ2.out.sz (by omega))).mono ?_
        rintro e wr ⟨y3,rfl,e3,bb⟩;replace HLW:=ag (HLW.out.below bb);have t:=HLW.out.v7.fa.bk;obtain ⟨k0,k1,k2,kf0,kf1,kf2,_,_⟩:=t;clear c0 c1 c2 d0 d1 d2 bb HV12;go_wp2_with fail;go_roundw
        case rel=>exact ⟨j+1,some ad9,c8,vs ++ [x],y3,k4,by omega,by go_num,rfl,by rw [List.length_append,HVL.out,List.length_singleton],(fun v hv=>by
          rcases List.mem_append.1 hv with h|h
          · exact HV0.out v h
          · rw [List.mem_singleton] at h;rw [h];exact HXQ.out),by rw [HSS.out];exact HLW.out.cost e3⟩
        case measure=>simp [intOf];omega
      --D}
    · have hjn:n=j:=by omega
      subst hjn;have HWI:=ag (HPS.out.below HLW.out.bf);have HBI:=ag (ai HBW.out HLW.out.bf HBW.out.size);have HV7:=ag HLW.out.v7;have HXR:=ag HLW.out.zr.zs;have HX0:Hid (∀j,0≤fxV vs j):=ag (fun j=>Dz HV0.out j);go_upto_region 18 with fail;clear HLW HPS HBW c0;obtain ⟨qc,hqc⟩:∃q,aj (fun i=>p.c i*fxV vs i) n=q:=⟨_,rfl⟩;rw [hqc] at HV7 HBS;have HQC:=ag hqc;clear hqc;obtain ⟨m,hm_⟩:∃m,p.rows.length=m:=⟨_,rfl⟩;have HM:=ag hm_;have hm3:m≤3:=by rw [←hm_];exact HWI.out.ip.r2
      clear hm_;go_wp2_with fail;generalize wr=wi at *;go_loopw [8,14] (fun pv iv wz=>∃(i:Nat) (pt:Bool),i≤m∧iv = .int .i64 i∧pv = .bool pt∧(pt=true↔∀r,r<i→aj (fun j=>p.a r j*fxV vs j) n=p.b r)∧Below wi.heap.size wi wz) (fun _ iv _=>m-(intOf iv).toNat)
      case atStart=>exact ⟨0,true,by omega,rfl,rfl,(Iff.intro (fun _ r hr=>absurd hr (by omega)) (fun _=>rfl)),ah _ _⟩
      case round=>
        obtain ⟨i,pt,hi,rfl,rfl,hpt,bi⟩:=hrel;generalize wr=wx at *;have HPT:=ag hpt;have HBX:=ag bi;have HWX:=ag (HWI.out.below bi);have c1:wx.cell? ⟨g4,1,none⟩=some (.slice p.rA m p.rc):=by rw [←HM.out];exact HWX.out.pb.c1
        clear hpt bi;by_cases hlt:i<m
        · have hir:i<p.rows.length:=by rw [HM.out];exact hlt
          obtain ⟨sr,hsr⟩:∃r,p.rows[i]=r:=⟨_,rfl⟩;have HRZ:Hid (Zw wi sr∧sr.vs.length=n):=ag (by
            have:=HWI.out.ip.rz _ (List.getElem_mem hir);rw [hsr,HN.out] at this;exact this)
          have HPA:Hid (∀j,p.a i j=fxV sr.vs j):=ag (fun j=>by rw [CM hir hsr])
          have HRC:Hid (∃ad,p.rA=some ad∧∀w',Below wi.heap.size wi w'→w'.cell? (ad.add i)=some (.slice sr.A n sr.c)):=ag (by
            obtain ⟨ad,e,_,hc⟩:=HWI.out.ip.rd (by omega)
            refine ⟨ad,e,fun w' hb=>?_⟩;have h1:=hc i hir;rw [hsr] at h1;obtain ⟨ad',e',_,hc'⟩:=HWI.out.ip.rd.below hb rfl (by omega)
            rw [e] at e';injection e' with e';subst e';have h2:=hc' i hir;rw [hsr] at h2;rw [←HRZ.out.2];exact h2)
          clear hsr;go_wp2_with fail;refine (iT wx).mono ?_;rintro e wk ⟨y0,rfl,ey,bb⟩;have b2:=ai HBX.out bb HBX.out.size;go_upto_region 22 with fail;have v15:Vl (wk.alloc (.cells y0.cells 29)) wk.heap.size y0 0:=⟨(au ey.ok).1,ey.rp⟩;have hg:=b2.size;have b3:=ai b2 (au ey.ok).2 b2.size;clear ey bb b2 c1;generalize (wk.alloc (.cells #[.bool y0.b, .slice y0.A y0.xs.length y0.c, .slice y0.D y0.ys.length y0.d] 29))=wl at v15 b3⊢;generalize wk.heap.size=g15 at v15 hg⊢;have HG15:=ag hg;clear hg;go_wp2_with fail;go_loopw [16] (fun jv wr=>∃(j:Nat) (y:Fx),j≤n∧jv = .int .i64 j∧Vl wr g15 y (aj (fun j=>p.a i j*fxV vs j) j)∧Below wi.heap.size wi wr) (fun jv _=>n-(intOf jv).toNat)
          case atStart=>exact ⟨0,y0,by omega,rfl,v15,b3⟩
          case round=>
            clear v15 b3;obtain ⟨j,y,hj,rfl,v15,bj⟩:=hrel;have HV15:=ag v15;have HBJ:=ag bj;clear v15 bj;by_cases hjn:j<n
            · obtain ⟨ad9,had9,xj,ef9,zj,qj⟩:=(HXR.out.below HBJ.out).at (k:=j) (by show j<vs.length;rw [HVL.out];exact hjn)
              obtain ⟨adc,hadc,xc,efc,zc,qcc⟩:=(HRZ.out.1.below HBJ.out).at (k:=j) (by rw [HRZ.out.2];exact hjn)
              obtain ⟨adr,hadr,hrc⟩:=HRC.out;have had9':A9=some ad9:=had9;subst had9';have qj':xj.q=fxV vs j:=qj;have HNX:Hid (Nm wr xj (fxV vs j)):=ag (by rw [←qj'];exact zj.nm)
              have HNC:Hid (Nm wr xc (p.a i j)):=ag (by rw [HPA.out j,←qcc];exact zc.nm)
              have HBM:Hid (Zb 3969 (p.a i j*fxV vs j)):=ag (by rw [←qj',HPA.out j,←qcc];exact zc.q.1.mul zj.q.1)
              have HZM:Hid (Sz (p.a i j*fxV vs j) 128 128):=ag (HBM.out.sz (by omega))
              have HBT:Hid (Zb (3969*j) (aj (fun j=>p.a i j*fxV vs j) j)):=ag (qY j (fun k _=>by rw [HPA.out k];exact (HRZ.out.1.zb k).mul (HXR.out.zb k)))
              have HEC:=ag efc;have HE9:=ag ef9;have HSC:Hid (∀w',Below wr.heap.size wr w'→w'.cell? ⟨g4,1,none⟩=some (.slice (some adr) m p.rc)∧w'.cell? (adr.add i)=some (.slice (some adc) n sr.c)∧w'.cell? (adc.add (j*3))=some (.bool xc.b)∧w'.cell? ⟨(adc.add (j*3)).block,(adc.add (j*3)).off+1,none⟩=some (.slice xc.A xc.xs.length xc.c)∧w'.cell? ⟨(adc.add (j*3)).block,(adc.add (j*3)).off+2,none⟩=some (.slice xc.D xc.ys.length xc.d)∧w'.cell? (ad9.add (j*3))=some (.bool xj.b)∧w'.cell? ⟨(ad9.add (j*3)).block,(ad9.add (j*3)).off+1,none⟩=some (.slice xj.A xj.xs.length xj.c)∧w'.cell? ⟨(ad9.add (j*3)).block,(ad9.add (j*3)).off+2,none⟩=some (.slice xj.D xj.ys.length xj.d)):=ag (fun w' hb=>by
                have hb2:=ai HBJ.out hb HBJ.out.size;have h1:=(HWI.out.below hb2).pb.c1;rw [hadr,HM.out] at h1;have h2:=hrc w' hb2;rw [hadc] at h2;exact ⟨h1,h2,(HEC.out.below hb).c0,(HEC.out.below hb).c1,(HEC.out.below hb).c2,(HE9.out.below hb).c0,(HE9.out.below hb).c1,(HE9.out.below hb).c2⟩)
              clear efc ef9 zj zc qj qj' qcc hadc had9 hadr hrc;go_upto_region 25 with fail
              go_cut [17] (fun v wz=>∃(g17:Nat) (x2:Fx),v = .pointer (some ⟨g17,0,none⟩)∧Vl wz g17 x2 (p.a i j*fxV vs j)∧wr.heap.size≤g17∧Below wr.heap.size wr wz)
              case first=>
                have HSP:Hid (∀w',Below wr.heap.size wr w'→(w'.cell? ⟨g4,1,none⟩=some (.slice (some adr) m p.rc)∧w'.cell? (adr.add i)=some (.slice (some adc) n sr.c)∧w'.cell? (adc.add (j*3))=some (.bool xc.b)∧w'.cell? ⟨(adc.add (j*3)).block,(adc.add (j*3)).off+1,none⟩=some (.slice xc.A xc.xs.length xc.c)∧w'.cell? ⟨(adc.add (j*3)).block,(adc.add (j*3)).off+2,none⟩=some (.slice xc.D xc.ys.length xc.d)∧w'.cell? (ad9.add (j*3))=some (.bool xj.b)∧w'.cell? ⟨(ad9.add (j*3)).block,(ad9.add (j*3)).off+1,none⟩=some (.slice xj.A xj.xs.length xj.c)∧w'.cell? ⟨(ad9.add (j*3)).block,(ad9.add (j*3)).off+2,none⟩=some (.slice xj.D xj.ys.length xj.d))):=ag (fun _ bz=>(HSC.out _ bz))
                refine fR HSP (by kernel_rfl) (fun hHeld=>?_)
                have bz:=(ah wr.heap.size wr).drew;generalize wr.drew=wd at *;refine tki [(some 86,[4],[],none),(some 87,[86],[0],none),(some 88,[14],[],none),(some 89,[87,88],[1,2],none),(some 90,[89],[3],none),(some 91,[16],[],none),(some 92,[90,91],[4,5],none),(some 93,[92],[6],none),(some 94,[9],[],none),(some 95,[16],[],none),(some 96,[94,95],[8,9],none),(some 97,[96],[10],none),(some 98,[93,97],[7,11],none),(some 85,[98],[12],none),(some 99,[85],[13],none),(some 100,[85],[13],none),(some 17,[],[],none),(none,[17,99],[16,14,12,0,1,2,3,4,5,6,7,8,9,10,11,12,13,14,16],none),(some 18,[100],[15,17,0,1,2,3,4,5,6,7,8,9,10,11,12,13,14,15,16,17],none)] [false,false,false,false,false,false,false,false,false,false,false,false,false,false,false,false,false,false,false] (by kernel_rfl) (by kernel_rfl) (by kernel_rfl) (fun HSU=>?_)
                refine tks HSU 0 (.pointer (some ⟨g4,1,none⟩)) rfl ?_;simp only [tz];refine tks HSU 1 (.slice (some adr) m p.rc) rfl ?_;simp only [tz];refine tks HSU 2 (.int .i64 (i:Int)) rfl ?_;simp only [tz];refine tks HSU 3 (.pointer (some (adr.add i))) rfl ?_;simp only [tz];refine tks HSU 4 (.slice (some adc) n sr.c) rfl ?_;simp only [tz];refine tks HSU 5 (.int .i64 (j:Int)) rfl ?_;simp only [tz];refine tks HSU 6 (.pointer (some (adc.add (j*3)))) rfl ?_;simp only [tz];refine tks HSU 7 (xc.val) rfl ?_;simp only [tz];refine tks HSU 8 (.slice (some ad9) n c9) rfl ?_;simp only [tz];refine tks HSU 9 (.int .i64 (j:Int)) rfl ?_;simp only [tz]
                refine tks HSU 10 (.pointer (some (ad9.add (j*3)))) rfl ?_;simp only [tz];refine tks HSU 11 (xj.val) rfl ?_;simp only [tz];refine wpAnyH_ready (rs := [12,16]) (tkn HSU (by kernel_rfl)) (by simp) ?_
                refine AllReadyH.cons rfl (fun K hK=>?_) ?_
                ·go_simp;go_at_call 28;refine (kC wd xc xj _ _ (HNC.out.below bz) (HNX.out.below bz) HZM.out).mono ?_;rintro e wd ⟨x2,rfl,e2,bb⟩;have RP:=ag e2.rp;have ok2:=e2.ok;clear e2;replace bz:=ai bz bb bz.size;clear bb;refine hK.out _ _ (HSP.out _ bz) (fun hHeld=>?_);clear hK K;try simp only [tz]
                 refine tks HSU 13 (.tuple #[x2.val, .int .i64 0]) rfl ?_;simp only [tz];refine tks HSU 14 (x2.val) rfl ?_;simp only [tz];refine tks HSU 15 (.int .i64 0) rfl ?_;simp only [tz];refine tk1 HSU 16 rfl (fun K hK=>?_);go_simp;have k17:=aK wd;have bb:=(ah wd.heap.size wd).alloc (Nat.le_refl _) (.cells #[.bool false, .slice none 0 0, .slice none 0 0] 29);have s17:=bz.size;generalize h17:wd.heap.size=g17 at k17 s17⊢;replace ok2:=ok2.below bb;replace bz:=ai bz bb bz.size;clear bb;generalize (wd.alloc (.cells #[.bool false, .slice none 0 0, .slice none 0 0] 29))=we at *;clear h17;generalize we=wd at *
                 refine hK.out _ _ (HSP.out _ bz) (fun hHeld=>?_);clear hK K;try simp only [tz]
                 refine tk1 HSU 17 rfl (fun K hK=>?_);have t:=k17;obtain ⟨k0,k1,k2,kf0,kf1,kf2,_,_⟩:=t;go_simp;clear k0 k1 k2 kf0 kf1 kf2;have hk:Fa wd g17 Fx.nil:=⟨k17,Fx.nil_ok _⟩;have a2:=hk.put ok2;have b5:=aR (G:=g17) (a:=(.bool x2.b)) (b:=(.slice x2.A x2.xs.length x2.c)) (c:=(.slice x2.D x2.ys.length x2.d)) bz s17;clear bz hk k17 ok2 hHeld;generalize (((wd.setCell ⟨g17,0,none⟩ (.bool x2.b)).setCell ⟨g17,1,none⟩ (.slice x2.A x2.xs.length x2.c)).setCell ⟨g17,2,none⟩ (.slice x2.D x2.ys.length x2.d))=we at *;have bz:=b5;clear b5;generalize we=wd at *;refine hK.out _ _ (HSP.out _ bz) (fun hHeld=>?_);clear hK K;try simp only [tz]
                 refine tk1 HSU 18 rfl (fun K hK=>?_);go_simp;refine hK.out _ _ (HSP.out _ bz) (fun hHeld=>?_);clear hK K;try simp only [tz]
                 refine wpAnyH_done (tkn HSU (by kernel_rfl)) ?_ _
                 go_wp2_with fail;go_meet
                 case rel=>exact ⟨g17,x2,rfl,⟨a2,RP.out⟩,s17,bz⟩
                refine AllReadyH.cons rfl (fun K hK=>?_) ?_
                ·go_simp;have k17:=aK wd;have bb:=(ah wd.heap.size wd).alloc (Nat.le_refl _) (.cells #[.bool false, .slice none 0 0, .slice none 0 0] 29);have s17:=bz.size;generalize h17:wd.heap.size=g17 at k17 s17⊢;replace bz:=ai bz bb bz.size;clear bb;generalize (wd.alloc (.cells #[.bool false, .slice none 0 0, .slice none 0 0] 29))=we at *;clear h17;generalize we=wd at *;refine hK.out _ _ (HSP.out _ bz) (fun hHeld=>?_);clear hK K;try simp only [tz]
                 refine tk1 HSU 12 rfl (fun K hK=>?_);go_simp;go_at_call 28;refine (kC wd xc xj _ _ (HNC.out.below bz) (HNX.out.below bz) HZM.out).mono ?_;rintro e wd ⟨x2,rfl,e2,bb⟩;have RP:=ag e2.rp;have ok2:=e2.ok;clear e2;replace k17:=k17.below bb;replace bz:=ai bz bb bz.size;clear bb;refine hK.out _ _ (HSP.out _ bz) (fun hHeld=>?_);clear hK K;try simp only [tz]
                 refine tks HSU 13 (.tuple #[x2.val, .int .i64 0]) rfl ?_;simp only [tz];refine tks HSU 14 (x2.val) rfl ?_;simp only [tz];refine tks HSU 15 (.int .i64 0) rfl ?_;simp only [tz];refine tk1 HSU 17 rfl (fun K hK=>?_);have t:=k17;obtain ⟨k0,k1,k2,kf0,kf1,kf2,_,_⟩:=t;go_simp;clear k0 k1 k2 kf0 kf1 kf2;have hk:Fa wd g17 Fx.nil:=⟨k17,Fx.nil_ok _⟩;have a2:=hk.put ok2;have b5:=aR (G:=g17) (a:=(.bool x2.b)) (b:=(.slice x2.A x2.xs.length x2.c)) (c:=(.slice x2.D x2.ys.length x2.d)) bz s17;clear bz hk k17 ok2 hHeld;generalize (((wd.setCell ⟨g17,0,none⟩ (.bool x2.b)).setCell ⟨g17,1,none⟩ (.slice x2.A x2.xs.length x2.c)).setCell ⟨g17,2,none⟩ (.slice x2.D x2.ys.length x2.d))=we at *
                 have bz:=b5;clear b5;generalize we=wd at *;refine hK.out _ _ (HSP.out _ bz) (fun hHeld=>?_);clear hK K;try simp only [tz]
                 refine tk1 HSU 18 rfl (fun K hK=>?_);go_simp;refine hK.out _ _ (HSP.out _ bz) (fun hHeld=>?_);clear hK K;try simp only [tz]
                 refine wpAnyH_done (tkn HSU (by kernel_rfl)) ?_ _
                 go_wp2_with fail;go_meet
                 case rel=>exact ⟨g17,x2,rfl,⟨a2,RP.out⟩,s17,bz⟩
                exact AllReadyH.nil
              case rest=>
                obtain ⟨g17,x2,rfl,v17,hg17,bb⟩:=hcut;have v15:=HV15.out.below bb;have c0:=v15.c0;have c1:=v15.c1;have c2:=v15.c2;have d0:=v17.c0;have d1:=v17.c1;have d2:=v17.c2;replace HV15:=ag v15;replace HBJ:=ag (ai HBJ.out bb HBJ.out.size);have HV17:=ag v17;have HZ2:Hid (Zb (3969*(j+1)) (aj (fun j=>p.a i j*fxV vs j) j+p.a i j*fxV vs j)):=ag (HBT.out.add HBM.out);clear v15 v17 hg17 bb HSC HEC HE9 HNX HNC;go_wp2_with fail;refine (tj _ y x2 _ _ (HV15.out.el.nm (HBT.out.sz (by omega))) (HV17.out.el.nm HZM.out) (HZ2.out.sz (by omega))).mono ?_
                rintro e wz ⟨y3,rfl,e3,bb⟩;have v15:=HV15.out.below bb;have bz:=ai HBJ.out bb HBJ.out.size;have t:=v15.fa.bk;obtain ⟨k0,k1,k2,kf0,kf1,kf2,_,_⟩:=t;clear c0 c1 c2 d0 d1 d2 bb HV17 HV15;go_wp2_with fail;go_roundw
                case rel=>exact ⟨j+1,y3,by omega,by go_num,⟨v15.fa.put e3.ok,e3.rp⟩,aR bz HG15.out⟩
                case measure=>simp [intOf];omega
            · have hjn2:n=j:=by omega
              subst hjn2;have HBT:Hid (Zb (3969*n) (aj (fun j=>p.a i j*fxV vs j) n)):=ag (qY n (fun k _=>by rw [HPA.out k];exact (HRZ.out.1.zb k).mul (HXR.out.zb k)))
              go_upto_region 27 with fail;cases pt
              · have HBP:Hid (false=true↔∀r,r<i+1→aj (fun j=>p.a r j*fxV vs j) n=p.b r):=ag (Iff.intro (fun h=>Bool.noConfusion h) (fun h=>HPT.out.2 (fun r hr=>h r (by omega))))
                have HSP:Hid (∀w',Below wr.heap.size wr w'→(w'.cell? ⟨g15,0,none⟩=some (.bool y.b))):=ag (fun _ bz=>((HV15.out.below bz).c0));refine fR HSP (by kernel_rfl) (fun hHeld=>?_)
                have bz:=(ah wr.heap.size wr).drew;generalize wr.drew=wd at *;refine tki [(some 107,[8],[],none),(some 108,[107],[0],none),(some 109,[15,108],[1],some (1,true)),(some 110,[4,108],[1],some (1,true)),(some 111,[110,108],[3,1],some (1,true)),(some 112,[14,108],[1],some (1,true)),(some 113,[111,112,108],[4,5,1],some (1,true)),(some 114,[113,108],[6,1],some (1,true)),(some 115,[109,114,108],[2,7,1,1],some (1,true)),(some 116,[108,115],[1,8],none),(some 8,[116],[9,8,0,1,2,3,4,5,6,7,8,9],none)] [false,false,false,false,false,false,false,false,false,false,false] (by kernel_rfl) (by kernel_rfl) (by kernel_rfl) (fun HSU=>?_)
                refine tkm HSU 10 [(0,107,1,some false),(0,0,6,none),(0,0,0,some false)] rfl ?_;simp only [exI,exD,bH,bI,kV,rpS,rpZ,apC,apN];refine tkm HSU 1 [(10,8,0,some false)] rfl ?_;simp only [exI,exD,bH,bI,kV,rpZ,apN];refine wpAnyH_done (tkn HSU (by kernel_rfl)) ?_ _
                go_wp2_with fail;go_roundw
                case rel=>exact ⟨i+1,false,by omega,by go_num,rfl,HBP.out,ai HBJ.out bz HBJ.out.size⟩
                case measure=>simp [intOf];omega
              · obtain ⟨adb,hadb,xb,efb,zb,qb⟩:=(HWI.out.ip.bz.below HBJ.out).at (k:=i) (by rw [HWI.out.ip.lb,HM.out];exact hlt)
                have HNB:Hid (Nm wr xb (p.b i)):=ag (by rw [show p.b i=xb.q from qb.symm];exact zb.nm)
                have HNY:Hid (Nm wr y (aj (fun j=>p.a i j*fxV vs j) n)):=ag (HV15.out.el.nm (HBT.out.sz (by omega)))
                obtain ⟨bo,hbo⟩:∃b,decide (aj (fun j=>p.a i j*fxV vs j) n=p.b i)=b:=⟨_,rfl⟩;have HBO:=ag hbo;have HBP:Hid (bo=true↔∀r,r<i+1→aj (fun j=>p.a r j*fxV vs j) n=p.b r):=ag (by
                  rw [←hbo,decide_eq_true_eq];refine Iff.intro (fun h r hr=>?_) (fun h=>h i (by omega))
                  rcases Nat.lt_or_ge r i with h1|h1
                  · exact HPT.out.1 rfl r h1
                  · obtain rfl:r=i:=by omega
                    exact h)
                have HEB:=ag efb;have HSC:Hid (∀w',Below wr.heap.size wr w'→w'.cell? ⟨g15,0,none⟩=some (.bool y.b)∧w'.cell? ⟨g15,1,none⟩=some (.slice y.A y.xs.length y.c)∧w'.cell? ⟨g15,2,none⟩=some (.slice y.D y.ys.length y.d)∧w'.cell? ⟨g4,2,none⟩=some (.slice (some adb) m p.right.c)∧w'.cell? (adb.add (i*3))=some (.bool xb.b)∧w'.cell? ⟨(adb.add (i*3)).block,(adb.add (i*3)).off+1,none⟩=some (.slice xb.A xb.xs.length xb.c)∧w'.cell? ⟨(adb.add (i*3)).block,(adb.add (i*3)).off+2,none⟩=some (.slice xb.D xb.ys.length xb.d)):=ag (fun w' hb=>by
                  have v:=HV15.out.below hb;have h1:=(HWI.out.below (ai HBJ.out hb HBJ.out.size)).pb.c2;rw [show p.right.val = .slice p.right.A p.right.vs.length p.right.c from rfl,hadb,HWI.out.ip.lb,HM.out] at h1;exact ⟨v.c0,v.c1,v.c2,h1,(HEB.out.below hb).c0,(HEB.out.below hb).c1,(HEB.out.below hb).c2⟩)
                clear hbo efb zb qb hadb;have HSP:Hid (∀w',Below wr.heap.size wr w'→(w'.cell? ⟨g15,0,none⟩=some (.bool y.b)∧w'.cell? ⟨g15,1,none⟩=some (.slice y.A y.xs.length y.c)∧w'.cell? ⟨g15,2,none⟩=some (.slice y.D y.ys.length y.d)∧w'.cell? ⟨g4,2,none⟩=some (.slice (some adb) m p.right.c)∧w'.cell? (adb.add (i*3))=some (.bool xb.b)∧w'.cell? ⟨(adb.add (i*3)).block,(adb.add (i*3)).off+1,none⟩=some (.slice xb.A xb.xs.length xb.c)∧w'.cell? ⟨(adb.add (i*3)).block,(adb.add (i*3)).off+2,none⟩=some (.slice xb.D xb.ys.length xb.d))):=ag (fun _ bz=>(HSC.out _ bz));refine fR HSP (by kernel_rfl) (fun hHeld=>?_)
                have bz:=(ah wr.heap.size wr).drew;generalize wr.drew=wd at *;refine tki [(some 107,[8],[],none),(some 108,[107],[0],none),(some 109,[15,108],[1],some (1,true)),(some 110,[4,108],[1],some (1,true)),(some 111,[110,108],[3,1],some (1,true)),(some 112,[14,108],[1],some (1,true)),(some 113,[111,112,108],[4,5,1],some (1,true)),(some 114,[113,108],[6,1],some (1,true)),(some 115,[109,114,108],[2,7,1,1],some (1,true)),(some 116,[108,115],[1,8],none),(some 8,[116],[9,8,0,1,2,3,4,5,6,7,8,9],none)] [false,false,false,false,false,false,false,false,false,false,false] (by kernel_rfl) (by kernel_rfl) (by kernel_rfl) (fun HSU=>?_)
                refine tkm HSU 2 [(0,107,1,some true)] rfl ?_;simp only [exI,exD,bH,bI,kV,rpS,rpZ,apC,apN];refine tks HSU 2 (y.val) rfl ?_;simp only [tz];refine tks HSU 3 (.pointer (some ⟨g4,2,none⟩)) rfl ?_;simp only [tz];refine tks HSU 4 (.slice (some adb) m p.right.c) rfl ?_;simp only [tz];refine tks HSU 5 (.int .i64 (i:Int)) rfl ?_;simp only [tz];refine tks HSU 6 (.pointer (some (adb.add (i*3)))) rfl ?_;simp only [tz];refine tks HSU 7 (xb.val) rfl ?_;simp only [tz];refine tk1 HSU 8 rfl (fun K hK=>?_);go_simp;go_at_call 24;refine (gA wd y xb _ _ bo (HNY.out.below bz) (HNB.out.below bz) HBO.out).mono ?_
                rintro e wd ⟨rfl,bb⟩;replace bz:=ai bz bb bz.size;clear bb;refine hK.out _ _ (HSP.out _ bz) (fun hHeld=>?_);clear hK K;try simp only [tz]
                refine tks HSU 9 (.bool bo) rfl ?_;simp only [tz];refine tk1 HSU 10 rfl (fun K hK=>?_);go_simp;refine hK.out _ _ (HSP.out _ bz) (fun hHeld=>?_);clear hK K;try simp only [tz]
                refine wpAnyH_done (tkn HSU (by kernel_rfl)) ?_ _
                go_wp2_with fail;go_roundw
                case rel=>exact ⟨i+1,bo,by omega,by go_num,rfl,HBP.out,ai HBJ.out bz HBJ.out.size⟩
                case measure=>simp [intOf];omega
        · have him:m=i:=by omega
          subst him;have HV:=ag (HV7.out.below HBX.out);have HBQ:=ag (ai HBI.out HBX.out HBI.out.size);cases pt
          · go_wp2_with fail
            refine (jH wx).mono ?_;rintro e wz ⟨rfl,bb⟩;go_wp2_with fail;go_ret;exact ⟨rfl,ai HBQ.out bb HBQ.out.size⟩
          · have hlp:LPx m n p.a p.b (fxV vs):=⟨fun j _=>HX0.out j,fun r hr=>HPT.out.1 rfl r hr⟩
            have sb:=HWX.out.sb;have s0:=sb.c0;have s4:=sb.c4;have s5:=sb.c5;have s6:=sb.c6;have u0:=HV.out.c0;have u1:=HV.out.c1;have u2:=HV.out.c2;have hk3:=HWX.out.gd.chk.P.kind;have HK:=ag HWX.out.gd.chk.P;clear sb;rcases hk3 with hk|hk|hk
            · have hle:¬qc<s.v.q:=by
                have h1:=HK.out;rw [hk,HN.out,HM.out] at h1;have h2:=kJ hlp h1.opt.le;rw [h1.opt.vy,HQC.out] at h2;exact Rat.not_lt.2 h2
              have HLE:=ag (decide_eq_false hle);have HNV:Hid (Nm wx s.v s.v.q):=ag ⟨HWX.out.gd.ok.v,(HWX.out.gd.chk.V.v 0 (by simp)).1,rfl,HWX.out.gd.sm.ev.1,HWX.out.gd.sm.ev.2⟩
              rw [hk] at s0;clear hle hlp hk;go_wp2_with fail;refine (oV wx y s.v _ _ false (HV.out.el.nm (HBS.out.sz (by omega))) HNV.out HLE.out).mono ?_
              rintro e wz ⟨rfl,bb⟩;have HBQ2:=ag (ai HBQ.out bb HBQ.out.size);clear bb s0 s4 s5 s6 u0 u1 u2 c1;go_wp2_with fail;refine (jH wz).mono ?_;rintro e wk ⟨rfl,bb⟩;go_wp2_with fail;go_ret;exact ⟨rfl,ai HBQ2.out bb HBQ2.out.size⟩
            · exfalso
              have h1:=HK.out;rw [hk,HN.out,HM.out] at h1;exact iF hlp h1.inf.1
            · rw [hk] at s0
              clear hlp hk;go_wp2_with fail;refine (jH wx).mono ?_;rintro e wk ⟨rfl,bb⟩;go_wp2_with fail;go_ret;exact ⟨rfl,ai HBQ.out bb HBQ.out.size⟩
end Go.Proofs.YtkpfbekmaafehaaGreat
