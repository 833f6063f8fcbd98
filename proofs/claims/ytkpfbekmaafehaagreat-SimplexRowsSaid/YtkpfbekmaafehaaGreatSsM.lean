/- The walk of simplex.Check: solutions of the kinds 2 and 3. -/
import Derived.Test.YtkpfbekmaafehaaGreatSpB
import Derived.Test.YtkpfbekmaafehaaGreatSsJ
namespace Go.Proofs.YtkpfbekmaafehaaGreat
set_option maxRecDepth 100000
open Go.RowKit
def uu:List dC := [sE 136 [5] [],sE 137 [136] [0],sE 138 [137] [1],sE 139 [138] [2],sG 140 [9,139] [3] 3 true,sG 141 [140,139] [4,3] 3 true,sG 142 [141,139] [5,3] 3 true,sE 143 [139,142] [3,6],sE 144 [143] [7,3],sG 145 [13,144] [8] 8 true,sG 146 [7,144] [8] 8 true,sG 147 [13,144] [8] 8 true,sG 148 [147,144] [11,8] 8 true,sG 149 [148,144] [12,8] 8 true,sG 150 [149,144] [13,8] 8 true,sG 151 [150,144] [14,8] 8 true,sG 152 [151,144] [15,8,8] 8 true,sG 153 [145,146,152,144] [9,10,16,16,8] 8 true,sE 154 [144,153] [8,17],sE 155 [154] [18,17],sG 156 [7,155] [19] 19 true,sG 157 [13,155] [19] 19 true,sG 158 [157,155] [21,19] 19 true,sG 159 [158,155] [22,19] 19 true,sG 160 [159,155] [23,19] 19 true,sG 161 [155] [19,19] 19 true,sG 162 [156,160,161,155] [20,24,25,25,19] 19 true,sG 163 [162,155] [26,19] 19 true,sE 164 [155,163] [19,27],sE 165 [164] [28,26],sG 166 [11,165] [29] 29 true,sG 167 [166,165] [30,29] 29 true,sG 168 [167,165] [31,29] 29 true,sG 169 [168,165] [32,29,29] 29 true,sG 170 [169,165] [33,29] 29 true,sE 171 [165,170] [29,34],sE 4 [171] [35,33,0,1,2,3,4,5,6,7,8,9,10,11,12,13,14,15,16,17,18,19,20,21,22,23,24,25,26,27,28,29,30,31,32,33,34,35]]
def yC:List dC := [sE 174 [7] [],sE 175 [174] [0],sE 176 [175] [1],sE 177 [176] [2],sG 178 [13,177] [3] 3 true,sG 179 [5,177] [3] 3 true,sG 180 [13,177] [3] 3 true,sG 181 [180,177] [6,3] 3 true,sG 182 [181,177] [7,3] 3 true,sG 183 [182,177] [8,3] 3 true,sG 184 [178,179,183,177] [4,5,9,3,3] 3 true,sE 185 [177,184] [3,10],sE 186 [185] [11,10],sG 187 [13,186] [12] 12 true,sG 188 [9,186] [12] 12 true,sG 189 [13,186] [12] 12 true,sG 190 [189,186] [15,12] 12 true,sG 191 [190,186] [16,12] 12 true,sG 192 [191,186] [17,12] 12 true,sG 193 [192,186] [18,12] 12 true,sG 194 [193,186] [19,12,12] 12 true,sG 195 [187,188,194,186] [13,14,20,20,12] 12 true,sE 196 [186,195] [12,21],sE 197 [196] [22,21],sG 198 [13,197] [23] 23 true,sG 199 [198,197] [24,23] 23 true,sG 200 [199,197] [25,23] 23 true,sG 201 [200,197] [26,23] 23 true,sG 202 [9,197] [23] 23 true,sG 203 [197] [23,23] 23 true,sG 204 [201,202,203,197] [27,28,29,29,23] 23 true,sG 205 [204,197] [30,23] 23 true,sE 206 [197,205] [23,31],sE 207 [206] [32,30],sG 208 [11,207] [33] 33 true,sG 209 [208,207] [34,33] 33 true,sG 210 [209,207] [35,33] 33 true,sG 211 [210,207] [36,33,33] 33 true,sG 212 [211,207] [37,33] 33 true,sE 213 [207,212] [33,38],sE 4 [213] [39,37,0,1,2,3,4,5,6,7,8,9,10,11,12,13,14,15,16,17,18,19,20,21,22,23,24,25,26,27,28,29,30,31,32,33,34,35,36,37,38,39]]
set_option maxHeartbeats 4000000 in
theorem xA (w:World) (p:Pg) (s:Sn) (bo:Bool) (h:p.ok w) (sm:p.sm) (hs:s.ok w) (ss:s.sm) (hb:bo=true↔yo p s) (vd:p.vd) (mx:Md s.X.vs) (my:Md s.Y.vs) (mr:Md s.R.vs) (mv:Md [s.v]) (hk:s.kind=2∨s.kind=3) :
 Calls Tryz.prog 17 #[p.val,s.val] w fun e w'=>e = .returned (.bool bo)∧Below w.heap.size w w':=by
 have HO:=ag h;have HSM:=ag sm;have HSO:=ag hs;have HSS:=ag ss;have HB:=ag hb;have HVD:=ag vd;have HMX:=ag mx;have HMY:=ag my;have HMR:=ag mr;have HMV:=ag mv;have HKD:=ag hk;clear h sm hs ss hb vd mx my mr mv hk;go_enter Tryz.func17,Tryz.ntmps17;go_upto_region 1 with fail;have pb:=(aY w p 25).1;have bw:=(aY w p 25).2;have hsz:=iV w p 25;generalize (w.alloc (.cells #[.slice p.cost.A p.cost.vs.length p.cost.c, .slice p.rA p.rows.length p.rc, .slice p.right.A p.right.vs.length p.right.c] 25))=wm at pb bw hsz⊢;have sb:=(cY wm s 31).1;have bb:=(cY wm s 31).2;rw [hsz] at sb;replace pb:=pb.below bb;replace bw:=ai bw bb bw.size
 clear bb hsz;generalize (wm.alloc (.cells #[.int .i64 s.kind, .slice s.X.A s.X.vs.length s.X.c, .slice s.Y.A s.Y.vs.length s.Y.c, .slice s.R.A s.R.vs.length s.R.c, .bool s.v.b, .slice s.v.A s.v.xs.length s.v.c, .slice s.v.D s.v.ys.length s.v.d] 31))=wb at *;obtain ⟨g1,hg1⟩:∃g,w.heap.size=g:=⟨_,rfl⟩;obtain ⟨g2,hg2⟩:∃g,w.heap.size+1=g:=⟨_,rfl⟩;have pb1:Pb wb g1 p:=by rw [←hg1];exact pb
 rw [hg2] at sb;rw [hg2,hg1];clear hg1 hg2 pb;have c0:=pb1.c0;have c1:=pb1.c1;have c2:=pb1.c2;have HPB:=ag pb1;have HSB:=ag sb;have HBW:=ag bw;go_wp2_with fail;refine (fE wb p true (HO.out.below bw) HSM.out (Iff.intro (fun _=>HVD.out) (fun _=>rfl))).mono ?_;rintro e wa ⟨rfl,bb⟩;replace HPB:=ag (HPB.out.below bb);replace HSB:=ag (HSB.out.below bb);replace HBW:=ag (ai HBW.out bb HBW.out.size);clear bb c0 c1 c2 pb1 sb bw wb;have s1:=HSB.out.c1;go_wp2_with fail;refine (cm wa s.X (HSO.out.X.below HBW.out) HSS.out.lX HSS.out.eX).mono ?_;rintro e wb ⟨A1,l1,c1,b1,rfl,hx,bb⟩;obtain rfl:b1=true:=by
  cases b1
  ·exact absurd HMX.out (hx.f rfl)
  ·rfl
 have HX:=ag hx;replace HPB:=ag (HPB.out.below bb);replace HSB:=ag (HSB.out.below bb);replace HBW:=ag (ai HBW.out bb HBW.out.size);clear bb s1 hx wa;have s2:=HSB.out.c2;go_wp2_with fail;refine (cm wb s.Y (HSO.out.Y.below HBW.out) HSS.out.lY HSS.out.eY).mono ?_;rintro e wa ⟨A2,l2,c2,b2,rfl,hx,bb⟩;obtain rfl:b2=true:=by
  cases b2
  ·exact absurd HMY.out (hx.f rfl)
  ·rfl
 replace HX:=ag (HX.out.below bb);have HY:=ag hx;replace HPB:=ag (HPB.out.below bb);replace HSB:=ag (HSB.out.below bb);replace HBW:=ag (ai HBW.out bb HBW.out.size);clear bb s2 hx wb;have s3:=HSB.out.c3;go_wp2_with fail;refine (cm wa s.R (HSO.out.R.below HBW.out) HSS.out.lR HSS.out.eR).mono ?_;rintro e wb ⟨A3,l3,c3,b3,rfl,hx,bb⟩;obtain rfl:b3=true:=by
  cases b3
  ·exact absurd HMR.out (hx.f rfl)
  ·rfl
 replace HX:=ag (HX.out.below bb);replace HY:=ag (HY.out.below bb);have HR:=ag hx;replace HPB:=ag (HPB.out.below bb);replace HSB:=ag (HSB.out.below bb);replace HBW:=ag (ai HBW.out bb HBW.out.size);clear bb s3 hx wa;have s4:=HSB.out.c4;have s5:=HSB.out.c5;have s6:=HSB.out.c6;go_wp2_with fail;have e6:(⟨some ⟨wb.heap.size,0,none⟩,1,[s.v]⟩:Sl).ok (wb.alloc (.cells s.v.cells 29)):=⟨eN (HSO.out.v.below HBW.out),(fun v hv=>by
  obtain rfl:=List.mem_singleton.1 hv;exact (HSO.out.v.below HBW.out).below ((ah _ _).alloc (Nat.le_refl _) _)),Nat.le_refl _⟩
 have bb:=(ah wb.heap.size wb).alloc (Nat.le_refl _) (.cells s.v.cells 29);refine (cm _ _ e6 (by simp) (by intro v hv;obtain rfl:=List.mem_singleton.1 hv;exact HSS.out.ev)).mono ?_
 rintro e wa ⟨A4,l4,c4,b4,rfl,hx,b5⟩;obtain rfl:b4=true:=by
  cases b4
  ·exact absurd HMV.out (hx.f rfl)
  ·rfl
 replace bb:=ai bb b5 bb.size;replace HX:=ag (HX.out.below bb);replace HY:=ag (HY.out.below bb);replace HR:=ag (HR.out.below bb);have HV:Hid (Sho wa A4 l4 true [s.v]):=ag hx;replace HPB:=ag (HPB.out.below bb);replace HSB:=ag (HSB.out.below bb);replace HBW:=ag (ai HBW.out bb HBW.out.size);clear bb s4 s5 s6 hx e6 b5;generalize wb.heap.size=g40;clear wb;obtain ⟨n,hn⟩:∃n,p.cost.vs.length=n:=⟨_,rfl⟩;obtain ⟨m,hm⟩:∃m,p.rows.length=m:=⟨_,rfl⟩;obtain ⟨rA,hrA⟩:∃x,p.rA=x:=⟨_,rfl⟩;have HNN:=ag hn;have HMM:=ag hm;have HRA:=ag hrA;have HRM:Hid (p.right.vs.length=m):=ag (HVD.out.lb.trans hm);have hnl:n≤256:=by rw [←hn];exact HVD.out.c2
 have hml:m≤32:=by rw [←hm];exact HVD.out.r2
 have c0:wa.cell? ⟨g1,0,none⟩=some (.slice p.cost.A n p.cost.c):=by rw [←hn];exact HPB.out.c0
 have c1:wa.cell? ⟨g1,1,none⟩=some (.slice rA m p.rc):=by rw [←hm,←hrA];exact HPB.out.c1
 have c2:wa.cell? ⟨g1,2,none⟩=some (.slice p.right.A m p.right.c):=by rw [←HRM.out];exact HPB.out.c2
 have HC0:=ag c0;have HC1:=ag c1;have HC2:=ag c2;have HG1:=ag HPB.out.lt;clear hn hm hrA;go_upto_region 9 with fail
 go_cut [13] (fun v wx=>∃(G:Nat) (cs rs:Sl),v = .pointer (some ⟨G,0,none⟩)∧Cb wx wa.heap.size G n m p.a p.b p.c cs rs none 0 []∧Below wa.heap.size wa wx)
 case first=>
  have HSP:Hid (∀w',Below wa.heap.size wa w'→(w'.cell? ⟨g1,0,none⟩=some (.slice p.cost.A n p.cost.c)∧w'.cell? ⟨g1,2,none⟩=some (.slice p.right.A m p.right.c))):=ag (fun _ bz=>⟨(bz.cell (p:=⟨g1,0,none⟩) HG1.out).trans HC0.out,(bz.cell (p:=⟨g1,2,none⟩) HG1.out).trans HC2.out⟩);refine fR HSP (by kernel_rfl) (fun hHeld=>?_)
  have bz:=(ah wa.heap.size wa).drew;generalize wa.drew=wd at *;refine tki [(some 58,[2],[],none),(some 59,[58],[0],none),(some 60,[59],[1],none),(some 61,[2],[],none),(some 62,[61],[3],none),(some 63,[62],[4,2],none),(some 64,[60,63],[2,5],none),(some 65,[64],[6],none),(some 13,[65],[7,5,0,1,2,3,4,5,6,7],none)] [false,false,false,false,false,false,false,false,false] (by kernel_rfl) (by kernel_rfl) (by kernel_rfl) (fun HSU=>?_)
  refine tks HSU 0 (.pointer (some ⟨g1,0,none⟩)) rfl ?_;simp only [tz];refine tks HSU 1 (.slice p.cost.A n p.cost.c) rfl ?_;simp only [tz];refine tks HSU 3 (.pointer (some ⟨g1,2,none⟩)) rfl ?_;simp only [tz];refine tks HSU 4 (.slice p.right.A m p.right.c) rfl ?_;simp only [tz];refine tk1 HSU 2 rfl (fun K hK=>?_);go_simp;go_at_call 38;refine (dD wd p.cost n (HO.out.cost.below (ai HBW.out bz HBW.out.size)) HNN.out (by omega) HSM.out.ec HVD.out.vc).mono ?_
  rintro e wd ⟨gc,vc,hvc,rfl,oc_,bb⟩;have oc:Cl wd (some ⟨gc,0,none⟩) vc p.c:=oc_.cl;clear oc_;replace bz:=ai bz bb bz.size;clear bb;refine hK.out _ _ (HSP.out _ bz) (fun hHeld=>?_);clear hK K;try simp only [tz]
  refine tk1 HSU 5 rfl (fun K hK=>?_);go_simp;go_at_call 38;refine (dD wd p.right m (HO.out.right.below (ai HBW.out bz HBW.out.size)) HRM.out (by omega) HSM.out.eb HVD.out.vb).mono ?_
  rintro e wd ⟨gr,vr,hvr,rfl,or_,bb⟩;have ob:Cl wd (some ⟨gr,0,none⟩) vr p.b:=or_.cl;clear or_;replace oc:=oc.below bb;replace bz:=ai bz bb bz.size;clear bb;refine hK.out _ _ (HSP.out _ bz) (fun hHeld=>?_);clear hK K;try simp only [tz]
  refine tks HSU 6 (.agg #[.slice (some ⟨gc,0,none⟩) n n, .slice (some ⟨gr,0,none⟩) m m, .slice none 0 0]) rfl ?_;simp only [tz];refine tk1 HSU 7 rfl (fun K hK=>?_);go_simp;have cb:=tY wd n m p.a p.b p.c ⟨some ⟨gc,0,none⟩,n,vc⟩ ⟨some ⟨gr,0,none⟩,m,vr⟩ 70 oc ob hvc hvr wa.heap.size bz.size;replace bz:=bz.trans ((ah wa.heap.size wd).alloc bz.size (.cells #[.slice (some ⟨gc,0,none⟩) n n, .slice (some ⟨gr,0,none⟩) m m, .slice none 0 0] 70));clear oc ob hHeld;generalize wd.heap.size=G at cb⊢;generalize (wd.alloc (.cells #[.slice (some ⟨gc,0,none⟩) n n, .slice (some ⟨gr,0,none⟩) m m, .slice none 0 0] 70))=wd at *
  refine hK.out _ _ (HSP.out _ bz) (fun hHeld=>?_);clear hK K;try simp only [tz]
  refine tk1 HSU 8 rfl (fun K hK=>?_);go_simp;refine hK.out _ _ (HSP.out _ bz) (fun hHeld=>?_);clear hK K;try simp only [tz]
  refine wpAnyH_done (tkn HSU (by kernel_rfl)) ?_ _
  go_wp2_with fail;go_meet
  case rel=>exact ⟨G,⟨some ⟨gc,0,none⟩,n,vc⟩,⟨some ⟨gr,0,none⟩,m,vr⟩,rfl,cb,bz⟩
 case rest=>
  obtain ⟨G,cs,rs,rfl,cb,bb⟩:=hcut;have c1':wc.cell? ⟨g1,1,none⟩=some (.slice rA m p.rc):=(bb.cell (p:=⟨g1,1,none⟩) HG1.out).trans HC1.out;clear c0 c1 c2;have HBC:Hid (Below wa.heap.size wa wc):=ag bb;go_wp2_with fail;clear c1';go_loopw [69] (fun iv wr=>∃(k:Nat) (A:Option Addr) (ca:Nat) (rows:List Sl),k≤m∧iv = .int .i64 k∧rows.length=k∧Cb wr wa.heap.size G n m p.a p.b p.c cs rs A ca rows∧Below wa.heap.size wa wr) (fun iv _=>m-(intOf iv).toNat)
  case atStart=>exact ⟨0,none,0,[],by omega,rfl,rfl,cb,bb⟩
  case round=>
   clear cb bb HBC;obtain ⟨k,A,ca,rows,hk,rfl,hrl,cb,bw⟩:=hrel;have HRL:=ag hrl;have HCB:=ag cb;have HBV:=ag bw;clear hrl cb bw;by_cases hlt:k<m
   ·have hir:k<p.rows.length:=by rw [HMM.out];exact hlt
    have hrd:Rd Sl.val wr rA p.rows:=by rw [←HRA.out];exact HO.out.rd.below (ai HBW.out HBV.out HBW.out.size) rfl
    obtain ⟨ad0,rfl,_,hc⟩:=hrd (by omega)
    have hcj:=hc k hir;have HME:=ag (List.getElem_mem hir);have HAV:Hid (fxV p.rows[k].vs=p.a k):=ag (by funext j;rw [Pg.a,bC _ _ _ hir];rfl)
    obtain ⟨s1,hs⟩:∃s,p.rows[k]=s:=⟨_,rfl⟩;rw [hs] at hcj HME HAV;have HSL:Hid (s1.vs.length=n):=ag (by rw [←HNN.out];exact HVD.out.la s1 HME.out)
    have hcs:wr.cell? (ad0.add k)=some (.slice s1.A n s1.c):=by rw [←HSL.out];exact hcj
    clear hc hcj hs hrd;obtain ⟨i1,si,si0,si1,si2⟩:=info_parts jt;go_upto_region 13 with fail;have cb:=HCB.out.below ((ah wr.heap.size wr).drew);have bw:=HBV.out.drew;refine wp_region_held_drew (S:=fun _=>True) (by kernel_rfl) trivial (fun hHeld=>?_)
    have bz:=(ah wr.heap.size wr).drew;generalize wr.drew=wd at *;refine tki [(some 73,[13],[],none),(some 74,[13],[],none),(some 75,[74],[1],none),(some 76,[75],[2],none),(some 77,[76],[3],none),(some 78,[15],[],none),(some 79,[78],[5],none),(some 80,[79],[6],none),(some 81,[77,80],[4,7,6],none),(some 82,[73],[0,0,1,2,3,4,5,6,7,8],none),(some 83,[82],[9,0,1,2,3,4,5,6,7,8],none),(none,[83,81],[10,8,8,0,1,2,3,4,5,6,7,8],none)] [false,false,false,false,false,false,false,false,false,false,false,false] (by kernel_rfl) (by kernel_rfl) (by kernel_rfl) (fun HSU=>?_)
    refine tks HSU 0 (.pointer (some ⟨G,0,none⟩)) rfl ?_;simp only [tz];refine tks HSU 1 (.pointer (some ⟨G,0,none⟩)) rfl ?_;simp only [tz];refine tks HSU 2 (.pointer (some ⟨G,0,none⟩)) rfl ?_;simp only [tz];refine tks HSU 3 (.pointer (some ⟨G,2,none⟩)) rfl ?_;simp only [tz];refine tks HSU 5 (.slice s1.A n s1.c) rfl ?_;simp only [tz];refine wpAnyH_ready (rs := [4,6]) (tkn HSU (by kernel_rfl)) (by simp) ?_
    refine AllReadyH.cons rfl (fun K hK=>?_) ?_
    ·have k0:=cb.F.cell;rw [HRL.out] at k0;go_simp;clear k0;refine hK.out _ _ trivial (fun hHeld=>?_);clear hK K;try simp only [tz]
     refine tk1 HSU 6 rfl (fun K hK=>?_);go_simp;go_at_call 38;refine (dD wd s1 n (((HO.out.rows s1 HME.out).below HBW.out).below (bw.mono (Nat.le_refl _))) HSL.out (by omega) (HSM.out.ea s1 HME.out) (HVD.out.va s1 HME.out)).mono ?_
     rintro e we ⟨gl,vl,hvl,rfl,ol_,bb⟩;rw [HAV.out] at ol_;have hgl:wd.heap.size≤gl:=(ol_.qr.fr.lt gl rfl).1;have hap:Ap A G ⟨some ⟨gl,0,none⟩,n,vl⟩:=fun _ ad e=>by
      injection e with e;subst e;exact ⟨fun h=>by have:=(cb.F.lt h).2;simp only at *;omega,fun h=>by have:=cb.gl;simp only at *;omega⟩
     have ol:Cl we (some ⟨gl,0,none⟩) vl (p.a k):=ol_.cl;clear ol_ hgl;replace cb:=cb.below bb;replace bw:=ai bw bb bw.size;clear bb hHeld;generalize we=wd at *;refine hK.out _ _ trivial (fun hHeld=>?_);clear hK K;try simp only [tz]
     refine tk1 HSU 7 rfl (fun K hK=>?_);go_simp;have lit:Rd Sl.val _ (some ⟨wd.heap.size,0,none⟩) [⟨some ⟨gl,0,none⟩,n,vl⟩]:=Rd.one_ wd 22 _ (.slice (some ⟨gl,0,none⟩) n n) (by show _=Value.slice _ vl.length n;rw [hvl])
     have bb:=(ah wd.heap.size wd).alloc (Nat.le_refl _) (.cells #[.slice (some ⟨gl,0,none⟩) n n] 22);replace cb:=cb.below bb
     try replace ol:=ol.below bb
     replace bw:=ai bw bb bw.size;clear bb hHeld;generalize wd.heap.size=g80 at lit⊢;generalize (wd.alloc (.cells #[.slice (some ⟨gl,0,none⟩) n n] 22))=wd at *;refine hK.out _ _ trivial (fun hHeld=>?_);clear hK K;try simp only [tz]
     refine tk1 HSU 8 rfl (fun K hK=>?_);refine bE wd (mk:=Sl.val) (fun _=>rfl) (fun _=>rfl) rfl _ _ 23 rfl 22 i1 (.slice none 0 0) 24 Tryz.underlying23 si si0 si1 si2 rfl (by intro u hu;simp [Value.cells] at hu;subst hu;rfl) rfl HRL.out.symm cb.F.gr cb.F.nl ⟨g80,0,none⟩ 1 1 [⟨some ⟨gl,0,none⟩,n,vl⟩] rfl rfl lit (by simp) (by simp only [maxLen];omega) (by omega) bw.size ?_
     intro A4 c4 we h1 h2 h3 h4 h5;have kk:Kp (fun a=>A.map (·.block)=some a) wd we:=ci h3 (fun k e=>e);have k0:=(kk.cell (p:=⟨G,2,none⟩) cb.gl (fun e=>cb.F.ne G e rfl)).trans cb.F.cell;have kf0:=(kk.frozen (p:=⟨G,2,none⟩) cb.gl (fun e=>cb.F.ne G e rfl)).trans cb.F.fz;have cb2:=cb.push (s:=⟨some ⟨gl,0,none⟩,n,vl⟩) (by rw [HRL.out];exact ol) hvl hap h1 h2 kk h5
     have hGB:=cb.gB;replace bw:=bw.trans h4;rw [HRL.out] at cb2 k0;clear h1 h2 h3 h4 h5 kk cb ol hap lit hHeld;generalize we=wd at *;refine hK.out _ _ trivial (fun hHeld=>?_);clear hK K;try simp only [tz]
     refine tks HSU 9 (.pointer (some ⟨G,0,none⟩)) rfl ?_;simp only [tz];refine tks HSU 10 (.pointer (some ⟨G,2,none⟩)) rfl ?_;simp only [tz];refine tk1 HSU 11 rfl (fun K hK=>?_);go_simp;clear k0 kf0;have kG:Kp (fun a=>a=G) wd (wd.setCell ⟨G,2,none⟩ (.slice A4 (k+1) c4)):=(Kp.refl (fun a=>a=G) wd).set (S:=fun a=>a=G) rfl _ _;replace bw:=bw.trans (kG.below (fun a e=>by rw [e];exact hGB) bw.size)
     clear hHeld kG hGB;generalize (wd.setCell ⟨G,2,none⟩ (.slice A4 (k+1) c4))=wd at *;refine hK.out _ _ trivial (fun hHeld=>?_);clear hK K;try simp only [tz]
     refine wpAnyH_done (tkn HSU (by kernel_rfl)) ?_ _
     go_wp2_with fail;go_roundw
     case rel=>exact ⟨k+1,A4,c4,_,by omega,by go_num,by rw [List.length_append,HRL.out];rfl,cb2,bw⟩
     case measure=>simp [intOf];omega
    refine AllReadyH.cons rfl (fun K hK=>?_) ?_
    ·go_simp;go_at_call 38;refine (dD wd s1 n (((HO.out.rows s1 HME.out).below HBW.out).below (bw.mono (Nat.le_refl _))) HSL.out (by omega) (HSM.out.ea s1 HME.out) (HVD.out.va s1 HME.out)).mono ?_
     rintro e we ⟨gl,vl,hvl,rfl,ol_,bb⟩;rw [HAV.out] at ol_;have hgl:wd.heap.size≤gl:=(ol_.qr.fr.lt gl rfl).1;have hap:Ap A G ⟨some ⟨gl,0,none⟩,n,vl⟩:=fun _ ad e=>by
      injection e with e;subst e;exact ⟨fun h=>by have:=(cb.F.lt h).2;simp only at *;omega,fun h=>by have:=cb.gl;simp only at *;omega⟩
     have ol:Cl we (some ⟨gl,0,none⟩) vl (p.a k):=ol_.cl;clear ol_ hgl;replace cb:=cb.below bb;replace bw:=ai bw bb bw.size;clear bb hHeld;generalize we=wd at *;refine hK.out _ _ trivial (fun hHeld=>?_);clear hK K;try simp only [tz]
     refine wpAnyH_ready (rs := [4,7]) (tkn HSU (by kernel_rfl)) (by simp) ?_
     refine AllReadyH.cons rfl (fun K hK=>?_) ?_
     ·have k0:=cb.F.cell;rw [HRL.out] at k0;go_simp;clear k0;refine hK.out _ _ trivial (fun hHeld=>?_);clear hK K;try simp only [tz]
      refine tk1 HSU 7 rfl (fun K hK=>?_);go_simp;have lit:Rd Sl.val _ (some ⟨wd.heap.size,0,none⟩) [⟨some ⟨gl,0,none⟩,n,vl⟩]:=Rd.one_ wd 22 _ (.slice (some ⟨gl,0,none⟩) n n) (by show _=Value.slice _ vl.length n;rw [hvl])
      have bb:=(ah wd.heap.size wd).alloc (Nat.le_refl _) (.cells #[.slice (some ⟨gl,0,none⟩) n n] 22);replace cb:=cb.below bb
      try replace ol:=ol.below bb
      replace bw:=ai bw bb bw.size;clear bb hHeld;generalize wd.heap.size=g80 at lit⊢;generalize (wd.alloc (.cells #[.slice (some ⟨gl,0,none⟩) n n] 22))=wd at *;refine hK.out _ _ trivial (fun hHeld=>?_);clear hK K;try simp only [tz]
      refine tk1 HSU 8 rfl (fun K hK=>?_);refine bE wd (mk:=Sl.val) (fun _=>rfl) (fun _=>rfl) rfl _ _ 23 rfl 22 i1 (.slice none 0 0) 24 Tryz.underlying23 si si0 si1 si2 rfl (by intro u hu;simp [Value.cells] at hu;subst hu;rfl) rfl HRL.out.symm cb.F.gr cb.F.nl ⟨g80,0,none⟩ 1 1 [⟨some ⟨gl,0,none⟩,n,vl⟩] rfl rfl lit (by simp) (by simp only [maxLen];omega) (by omega) bw.size ?_
      intro A4 c4 we h1 h2 h3 h4 h5;have kk:Kp (fun a=>A.map (·.block)=some a) wd we:=ci h3 (fun k e=>e);have k0:=(kk.cell (p:=⟨G,2,none⟩) cb.gl (fun e=>cb.F.ne G e rfl)).trans cb.F.cell;have kf0:=(kk.frozen (p:=⟨G,2,none⟩) cb.gl (fun e=>cb.F.ne G e rfl)).trans cb.F.fz;have cb2:=cb.push (s:=⟨some ⟨gl,0,none⟩,n,vl⟩) (by rw [HRL.out];exact ol) hvl hap h1 h2 kk h5
      have hGB:=cb.gB;replace bw:=bw.trans h4;rw [HRL.out] at cb2 k0;clear h1 h2 h3 h4 h5 kk cb ol hap lit hHeld;generalize we=wd at *;refine hK.out _ _ trivial (fun hHeld=>?_);clear hK K;try simp only [tz]
      refine tks HSU 9 (.pointer (some ⟨G,0,none⟩)) rfl ?_;simp only [tz];refine tks HSU 10 (.pointer (some ⟨G,2,none⟩)) rfl ?_;simp only [tz];refine tk1 HSU 11 rfl (fun K hK=>?_);go_simp;clear k0 kf0;have kG:Kp (fun a=>a=G) wd (wd.setCell ⟨G,2,none⟩ (.slice A4 (k+1) c4)):=(Kp.refl (fun a=>a=G) wd).set (S:=fun a=>a=G) rfl _ _;replace bw:=bw.trans (kG.below (fun a e=>by rw [e];exact hGB) bw.size)
      clear hHeld kG hGB;generalize (wd.setCell ⟨G,2,none⟩ (.slice A4 (k+1) c4))=wd at *;refine hK.out _ _ trivial (fun hHeld=>?_);clear hK K;try simp only [tz]
      refine wpAnyH_done (tkn HSU (by kernel_rfl)) ?_ _
      go_wp2_with fail;go_roundw
      case rel=>exact ⟨k+1,A4,c4,_,by omega,by go_num,by rw [List.length_append,HRL.out];rfl,cb2,bw⟩
      case measure=>simp [intOf];omega
     refine AllReadyH.cons rfl (fun K hK=>?_) ?_
     ·go_simp;have lit:Rd Sl.val _ (some ⟨wd.heap.size,0,none⟩) [⟨some ⟨gl,0,none⟩,n,vl⟩]:=Rd.one_ wd 22 _ (.slice (some ⟨gl,0,none⟩) n n) (by show _=Value.slice _ vl.length n;rw [hvl])
      have bb:=(ah wd.heap.size wd).alloc (Nat.le_refl _) (.cells #[.slice (some ⟨gl,0,none⟩) n n] 22);replace cb:=cb.below bb
      try replace ol:=ol.below bb
      replace bw:=ai bw bb bw.size;clear bb hHeld;generalize wd.heap.size=g80 at lit⊢;generalize (wd.alloc (.cells #[.slice (some ⟨gl,0,none⟩) n n] 22))=wd at *;refine hK.out _ _ trivial (fun hHeld=>?_);clear hK K;try simp only [tz]
      refine tk1 HSU 4 rfl (fun K hK=>?_);have k0:=cb.F.cell;rw [HRL.out] at k0;go_simp;clear k0;refine hK.out _ _ trivial (fun hHeld=>?_);clear hK K;try simp only [tz]
      refine tk1 HSU 8 rfl (fun K hK=>?_);refine bE wd (mk:=Sl.val) (fun _=>rfl) (fun _=>rfl) rfl _ _ 23 rfl 22 i1 (.slice none 0 0) 24 Tryz.underlying23 si si0 si1 si2 rfl (by intro u hu;simp [Value.cells] at hu;subst hu;rfl) rfl HRL.out.symm cb.F.gr cb.F.nl ⟨g80,0,none⟩ 1 1 [⟨some ⟨gl,0,none⟩,n,vl⟩] rfl rfl lit (by simp) (by simp only [maxLen];omega) (by omega) bw.size ?_
      intro A4 c4 we h1 h2 h3 h4 h5;have kk:Kp (fun a=>A.map (·.block)=some a) wd we:=ci h3 (fun k e=>e);have k0:=(kk.cell (p:=⟨G,2,none⟩) cb.gl (fun e=>cb.F.ne G e rfl)).trans cb.F.cell;have kf0:=(kk.frozen (p:=⟨G,2,none⟩) cb.gl (fun e=>cb.F.ne G e rfl)).trans cb.F.fz;have cb2:=cb.push (s:=⟨some ⟨gl,0,none⟩,n,vl⟩) (by rw [HRL.out];exact ol) hvl hap h1 h2 kk h5
      have hGB:=cb.gB;replace bw:=bw.trans h4;rw [HRL.out] at cb2 k0;clear h1 h2 h3 h4 h5 kk cb ol hap lit hHeld;generalize we=wd at *;refine hK.out _ _ trivial (fun hHeld=>?_);clear hK K;try simp only [tz]
      refine tks HSU 9 (.pointer (some ⟨G,0,none⟩)) rfl ?_;simp only [tz];refine tks HSU 10 (.pointer (some ⟨G,2,none⟩)) rfl ?_;simp only [tz];refine tk1 HSU 11 rfl (fun K hK=>?_);go_simp;clear k0 kf0;have kG:Kp (fun a=>a=G) wd (wd.setCell ⟨G,2,none⟩ (.slice A4 (k+1) c4)):=(Kp.refl (fun a=>a=G) wd).set (S:=fun a=>a=G) rfl _ _;replace bw:=bw.trans (kG.below (fun a e=>by rw [e];exact hGB) bw.size)
      clear hHeld kG hGB;generalize (wd.setCell ⟨G,2,none⟩ (.slice A4 (k+1) c4))=wd at *;refine hK.out _ _ trivial (fun hHeld=>?_);clear hK K;try simp only [tz]
      refine wpAnyH_done (tkn HSU (by kernel_rfl)) ?_ _
      go_wp2_with fail;go_roundw
      case rel=>exact ⟨k+1,A4,c4,_,by omega,by go_num,by rw [List.length_append,HRL.out];rfl,cb2,bw⟩
      case measure=>simp [intOf];omega
     exact AllReadyH.nil
    exact AllReadyH.nil
   ·obtain rfl:m=k:=by omega
    have HCK:=ag (HCB.out.ck HRL.out);have HSB2:=ag (HSB.out.below HBV.out);obtain ⟨mdx,elx,xs,hxl,hxc⟩:=(HX.out.below HBV.out).t rfl;obtain ⟨mdy,ely,ys,hyl,hyc⟩:=(HY.out.below HBV.out).t rfl;obtain ⟨mdr,elr,zs,hzl,hzc⟩:=(HR.out.below HBV.out).t rfl;obtain ⟨mdv,elv,vv,hvl,hvc⟩:=(HV.out.below HBV.out).t rfl;obtain rfl:l4=1:=elv;obtain ⟨av,rfl,xv,hve,hvx⟩:=hvc.at (k:=0) (by rw [hvl];omega)
    have HVE:Hid (Ef wr av xv):=ag (by rw [Nat.zero_mul,qQ] at hve;exact hve)
    have HVX:Hid (El wr xv s.v.q):=ag hvx;have HQS:Hid (Sz s.v.q 32 32):=ag (mdv.v 0 (by simp)).2
    have HXC:=ag hxc;have HYC:=ag hyc;have HRC:=ag hzc;have HXM:=ag mdx.mz;have HYM:=ag mdy.mz;have HRM2:=ag mdr.mz;have HX1:=ag HSS.out.lX;have HY1:=ag HSS.out.lY;have HR1:=ag HSS.out.lR;have HCB1:Hid (bo=true↔dN s.kind n m s.X.vs.length s.Y.vs.length s.R.vs.length p.a p.b p.c (fxV s.X.vs) (fxV s.Y.vs) (fxV s.R.vs) s.v.q):=ag (by
     rw [←HNN.out,←HMM.out];exact HB.out.trans ⟨fun f=>f.P,fun f=>⟨HVD.out,mdx,mdy,mdr,mdv,f⟩⟩)
    obtain ⟨U,hU⟩:∃U,Pz n m p.a p.b p.c U:=⟨_,by have:=HVD.out.pz;rw [HNN.out,HMM.out] at this;exact this⟩
    have HPZ:=ag hU;obtain ⟨V1,hV1⟩:∃V,eV (fxV s.X.vs) s.X.vs.length=V:=⟨_,rfl⟩;obtain ⟨V2,hV2⟩:∃V,eV (fxV s.Y.vs) s.Y.vs.length=V:=⟨_,rfl⟩;obtain ⟨V3,hV3⟩:∃V,eV (fxV s.R.vs) s.R.vs.length=V:=⟨_,rfl⟩;rw [hV1] at HXM;rw [hV2] at HYM;rw [hV3] at HRM2;clear hV1 hV2 hV3 HX HY HR HV HB hve hvx hxc hyc hzc hvc mdx mdy mdr mdv hU;generalize s.X.vs.length=nx at *;generalize s.Y.vs.length=ny at *;generalize s.R.vs.length=nr at *;generalize fxV s.X.vs=ux at *;generalize fxV s.Y.vs=uy at *;generalize fxV s.R.vs=ur at *;have ex:=elx.symm;have ey:=ely.symm;have er:=elr.symm;clear elx ely elr;subst ex ey er
    have HXL:=ag hxl;have HYL:=ag hyl;have HRL:=ag hzl;have HBW2:=ag (ai HBW.out HBV.out HBW.out.size);clear HRM;have HRM:=HRM2;clear HRM2;have s0:=HSB2.out.c0;clear hxl hyl hzl hvl HSB HSB2 HPB HG1 HC0 HC1 HC2 HCB HBV HSS;have hn:n≤1000:=by omega
    have hm:m≤1000:=by omega
    rcases HKD.out with hk2|hk3
    ·rw [hk2] at s0 HCB1;clear hk2 HKD;have HB:Hid (bo=true↔_):=ag (HCB1.out.trans dN.two);clear HCB1;go_upto_region 19 with fail;clear s0;obtain ⟨f2,hf2⟩:=lu (dU n m ny p.a uy (fun _=>0));obtain ⟨z1,hz1⟩:∃z,bA (aj (fun i=>uy i*p.b i) m-0) 0=z:=⟨_,rfl⟩;obtain ⟨z2,hz2⟩:∃z,bA s.v.q 0=z:=⟨_,rfl⟩;have Hf2:=ag hf2;have Hz1:=ag hz1;have Hz2:=ag hz2;clear hf2 hz1 hz2;by_cases h0:nx=0
     ·have HX0:=ag h0;have hx0:((nx:Int) == 0)=true:=by simpa using h0
      clear h0;by_cases h1:nr=0
      ·have HR0:=ag h1;have hr0:((nr:Int) == 0)=true:=by simpa using h1
       clear h1;have HSP:Hid (∀w',Below wr.heap.size wr w'→(w'.cell? ⟨G,0,none⟩=some (.slice cs.A n cs.c)∧w'.cell? ⟨G,1,none⟩=some (.slice rs.A m rs.c)∧w'.cell? ⟨G,2,none⟩=some (.slice A m ca)∧w'.cell? av=some (.bool xv.b)∧w'.cell? ⟨av.block,av.off+1,none⟩=some (.slice xv.A xv.xs.length xv.c)∧w'.cell? ⟨av.block,av.off+2,none⟩=some (.slice xv.D xv.ys.length xv.d))):=ag (fun _ bz=>⟨(HCK.out.below bz).c0,(HCK.out.below bz).c1,(HCK.out.below bz).c2,(HVE.out.below bz).c0,(HVE.out.below bz).c1,(HVE.out.below bz).c2⟩);refine fR HSP (by kernel_rfl) (fun hHeld=>?_)
       have bz:=(ah wr.heap.size wr).drew;generalize wr.drew=wd at *;refine tki uu [false,false,false,false,false,false,false,false,false,false,false,false,false,false,false,false,false,false,false,false,false,false,false,false,false,false,false,false,false,false,false,false,false,false,false,false,false] (by kernel_rfl) (by kernel_rfl) (by kernel_rfl) (fun HSU=>?_)
       refine tks HSU 0 (.slice A1 nx c1) rfl ?_;simp only [tz];refine tks HSU 1 (.int .i64 (nx:Int)) rfl ?_;simp only [tz];refine tks HSU 2 (.bool true) rfl ?_;simp only [tz];refine tks HSU 3 (.bool true) rfl ?_;simp only [tz];refine tks HSU 4 (.slice A3 nr c3) rfl ?_;simp only [tz];refine tks HSU 5 (.int .i64 (nr:Int)) rfl ?_;simp only [tz];refine tks HSU 6 (.bool true) rfl ?_;simp only [tz];refine tkm HSU 2 [(7,143,1,some true)] rfl ?_;simp only [exI,exD,bH,bI,kV,rpS,rpZ,apC,apN];refine tks HSU 9 (.pointer (some ⟨G,0,none⟩)) rfl ?_;simp only [tz];refine tks HSU 10 (.slice A2 ny c2) rfl ?_;simp only [tz]
       refine tks HSU 11 (.pointer (some ⟨G,0,none⟩)) rfl ?_;simp only [tz];refine tks HSU 12 (.pointer (some ⟨G,0,none⟩)) rfl ?_;simp only [tz];refine tks HSU 13 (.pointer (some ⟨G,0,none⟩)) rfl ?_;simp only [tz];refine tks HSU 14 (.slice cs.A n cs.c) rfl ?_;simp only [tz];refine tks HSU 15 (.int .i64 (n:Int)) rfl ?_;simp only [tz];refine tk1 HSU 16 rfl (fun K hK=>?_);go_simp;go_at_call 42;refine (oH wd n hn).mono ?_;rintro e wd ⟨g0,v0,hv0,rfl,oz,bb⟩;have cz:Cl wd (some ⟨g0,0,none⟩) v0 (fun _=>0):=oz.cl;clear oz;replace bz:=ai bz bb bz.size;clear bb;refine hK.out _ _ (HSP.out _ bz) (fun hHeld=>?_);clear hK K;try simp only [tz]
       refine tk1 HSU 17 rfl (fun K hK=>?_);go_simp;go_at_call 40;refine (oO wd G n m ny p.a p.b p.c cs rs A ca rows (HCK.out.below bz) hn hm A2 (some ⟨g0,0,none⟩) c2 n ys v0 uy (fun _=>0) U V2 f2 (HYC.out.below bz) cz HYL.out hv0 HPZ.out HYM.out (fun _ _=>Sz.zero 60 (by omega)) Hf2.out).mono ?_
       rintro e wd ⟨rfl,bb⟩;clear cz;replace bz:=ai bz bb bz.size;clear bb;refine hK.out _ _ (HSP.out _ bz) (fun hHeld=>?_);clear hK K;try simp only [tz]
       cases f2
       ·skip
        refine tkm HSU 18 [(18,154,1,some false),(0,0,7,none),(0,0,1,some false),(0,0,4,none),(0,0,0,some false)] rfl ?_;simp only [exI,exD,bH,bI,kV,rpS,rpZ,apC,apN];refine tkm HSU 1 [(36,4,0,some false)] rfl ?_;simp only [exI,exD,bH,bI,kV,rpZ,apN];refine wpAnyH_done (tkn HSU (by kernel_rfl)) ?_ _
        have hbf:bo=false:=by
         cases bo
         ·rfl
         ·exact absurd (HB.out.1 rfl) (fun f=>Bool.noConfusion (Hf2.out.2 f.2.2.1))
        subst hbf;go_wp2_with fail;go_ret;exact ⟨rfl,ai HBW2.out bz HBW2.out.size⟩
       ·skip
        have HYB:=ag (Hf2.out.1 rfl).1;refine tkm HSU 2 [(18,154,1,some true)] rfl ?_;simp only [exI,exD,bH,bI,kV,rpS,rpZ,apC,apN];refine tks HSU 20 (.slice A2 ny c2) rfl ?_;simp only [tz];refine tks HSU 21 (.pointer (some ⟨G,0,none⟩)) rfl ?_;simp only [tz];refine tks HSU 22 (.pointer (some ⟨G,0,none⟩)) rfl ?_;simp only [tz];refine tks HSU 23 (.pointer (some ⟨G,1,none⟩)) rfl ?_;simp only [tz];refine tks HSU 24 (.slice rs.A m rs.c) rfl ?_;simp only [tz];refine tk1 HSU 25 rfl (fun K hK=>?_);go_simp;go_at_call 43;refine (dO wd).mono ?_;rintro e wd ⟨x0,rfl,e0,bb⟩;replace bz:=ai bz bb bz.size;clear bb
        refine hK.out _ _ (HSP.out _ bz) (fun hHeld=>?_);clear hK K;try simp only [tz]
        refine tk1 HSU 26 rfl (fun K hK=>?_);go_simp;go_at_call 41;refine (ig wd A2 rs.A c2 rs.c ys rs.vs x0 uy p.b 0 z1 V2 U ny m m HYB.out rfl (HYC.out.below bz) (HCK.out.below bz).cb e0 (HYL.out.trans HYB.out) HCK.out.lb hm (fun k hk=>(HYM.out.s k (by rw [HYB.out];exact hk)).1) (fun k hk=>(HPZ.out.sb k hk).1) (Sz.zero 60 (by omega)) (fun k hk=>(HYM.out.s k (by rw [HYB.out];exact hk)).2) (fun k hk=>(HPZ.out.sb k hk).2) HYM.out.vl HPZ.out.ul HYM.out.v0 HPZ.out.u0 Hz1.out).mono ?_
        rintro e wd ⟨rfl,bb⟩;clear e0;replace bz:=ai bz bb bz.size;clear bb;refine hK.out _ _ (HSP.out _ bz) (fun hHeld=>?_);clear hK K;try simp only [tz]
        by_cases hz1:0<z1
        ·skip
         have hd_z1:decide (0<z1)=true:=by simpa using hz1
         refine tks HSU 27 (.bool true) rfl ?_;simp only [tz];refine tkm HSU 2 [(28,164,1,some true)] rfl ?_;simp only [exI,exD,bH,bI,kV,rpS,rpZ,apC,apN];refine tks HSU 30 (.slice (some av) 1 c4) rfl ?_;simp only [tz];refine tks HSU 31 (.pointer (some av)) rfl ?_;simp only [tz];refine tks HSU 32 (xv.val) rfl ?_;simp only [tz];refine tk1 HSU 33 rfl (fun K hK=>?_);go_simp;go_at_call 44;refine (aU wd xv s.v.q z2 (HVX.out.below bz) (HQS.out.mono (by omega) (by omega)) Hz2.out).mono ?_
         rintro e wd ⟨rfl,bb⟩;replace bz:=ai bz bb bz.size;clear bb;refine hK.out _ _ (HSP.out _ bz) (fun hHeld=>?_);clear hK K;try simp only [tz]
         by_cases hz2:z2=0
         ·subst hz2;refine tks HSU 34 (.bool true) rfl ?_;simp only [tz];refine tks HSU 35 (.bool true) rfl ?_;simp only [tz];refine tkm HSU 1 [(36,4,0,some true)] rfl ?_;simp only [exI,exD,bH,bI,kV,rpZ,apN];refine wpAnyH_done (tkn HSU (by kernel_rfl)) ?_ _
          have hbt:bo=true:=HB.out.2 ⟨HX0.out,HR0.out,Hf2.out.1 rfl,(kT _ _).1 (by rw [Hz1.out];exact hz1),(aZ _).1 Hz2.out⟩
          subst hbt;go_wp2_with fail;go_ret;exact ⟨rfl,ai HBW2.out bz HBW2.out.size⟩
         ·skip
          have hd_z2:(z2 == 0)=false:=by simpa using hz2
          refine tks HSU 34 (.bool false) rfl ?_;simp only [tz];refine tks HSU 35 (.bool false) rfl ?_;simp only [tz];refine tkm HSU 1 [(36,4,0,some false)] rfl ?_;simp only [exI,exD,bH,bI,kV,rpZ,apN];refine wpAnyH_done (tkn HSU (by kernel_rfl)) ?_ _
          have hbf:bo=false:=by
           cases bo
           ·rfl
           ·exact absurd (HB.out.1 rfl) (fun f=>hz2 (Hz2.out.symm.trans ((aZ _).2 f.2.2.2.2)))
          subst hbf;go_wp2_with fail;go_ret;exact ⟨rfl,ai HBW2.out bz HBW2.out.size⟩
        ·skip
         have hd_z1:decide (0<z1)=false:=by simpa using hz1
         refine tks HSU 27 (.bool false) rfl ?_;simp only [tz];refine tkm HSU 8 [(28,164,1,some false),(0,0,4,none),(0,0,0,some false)] rfl ?_;simp only [exI,exD,bH,bI,kV,rpS,rpZ,apC,apN];refine tkm HSU 1 [(36,4,0,some false)] rfl ?_;simp only [exI,exD,bH,bI,kV,rpZ,apN];refine wpAnyH_done (tkn HSU (by kernel_rfl)) ?_ _
         have hbf:bo=false:=by
          cases bo
          ·rfl
          ·exact absurd (HB.out.1 rfl) (fun f=>hz1 (Hz1.out ▸ (kT _ _).2 f.2.2.2.1))
         subst hbf;go_wp2_with fail;go_ret;exact ⟨rfl,ai HBW2.out bz HBW2.out.size⟩
      ·have hr0:((nr:Int) == 0)=false:=by simpa using h1
       have HSP:Hid (∀w',Below wr.heap.size wr w'→(w'.cell? ⟨G,0,none⟩=some (.slice cs.A n cs.c)∧w'.cell? ⟨G,1,none⟩=some (.slice rs.A m rs.c)∧w'.cell? ⟨G,2,none⟩=some (.slice A m ca)∧w'.cell? av=some (.bool xv.b)∧w'.cell? ⟨av.block,av.off+1,none⟩=some (.slice xv.A xv.xs.length xv.c)∧w'.cell? ⟨av.block,av.off+2,none⟩=some (.slice xv.D xv.ys.length xv.d))):=ag (fun _ bz=>⟨(HCK.out.below bz).c0,(HCK.out.below bz).c1,(HCK.out.below bz).c2,(HVE.out.below bz).c0,(HVE.out.below bz).c1,(HVE.out.below bz).c2⟩);refine fR HSP (by kernel_rfl) (fun hHeld=>?_)
       have bz:=(ah wr.heap.size wr).drew;generalize wr.drew=wd at *;refine tki uu [false,false,false,false,false,false,false,false,false,false,false,false,false,false,false,false,false,false,false,false,false,false,false,false,false,false,false,false,false,false,false,false,false,false,false,false,false] (by kernel_rfl) (by kernel_rfl) (by kernel_rfl) (fun HSU=>?_)
       refine tks HSU 0 (.slice A1 nx c1) rfl ?_;simp only [tz];refine tks HSU 1 (.int .i64 (nx:Int)) rfl ?_;simp only [tz];refine tks HSU 2 (.bool true) rfl ?_;simp only [tz];refine tks HSU 3 (.bool true) rfl ?_;simp only [tz];refine tks HSU 4 (.slice A3 nr c3) rfl ?_;simp only [tz];refine tks HSU 5 (.int .i64 (nr:Int)) rfl ?_;simp only [tz];refine tks HSU 6 (.bool false) rfl ?_;simp only [tz];refine tkm HSU 29 [(7,143,1,some false),(0,0,8,none),(0,0,1,some false),(0,0,7,none),(0,0,1,some false),(0,0,4,none),(0,0,0,some false)] rfl ?_;simp only [exI,exD,bH,bI,kV,rpS,rpZ,apC,apN];refine tkm HSU 1 [(36,4,0,some false)] rfl ?_
       simp only [exI,exD,bH,bI,kV,rpZ,apN];refine wpAnyH_done (tkn HSU (by kernel_rfl)) ?_ _
       have hbf:bo=false:=by
        cases bo
        ·rfl
        ·exact absurd (HB.out.1 rfl) (fun f=>h1 f.2.1)
       subst hbf;go_wp2_with fail;go_ret;exact ⟨rfl,ai HBW2.out bz HBW2.out.size⟩
     ·have hx0:((nx:Int) == 0)=false:=by simpa using h0
      have HSP:Hid (∀w',Below wr.heap.size wr w'→(w'.cell? ⟨G,0,none⟩=some (.slice cs.A n cs.c)∧w'.cell? ⟨G,1,none⟩=some (.slice rs.A m rs.c)∧w'.cell? ⟨G,2,none⟩=some (.slice A m ca)∧w'.cell? av=some (.bool xv.b)∧w'.cell? ⟨av.block,av.off+1,none⟩=some (.slice xv.A xv.xs.length xv.c)∧w'.cell? ⟨av.block,av.off+2,none⟩=some (.slice xv.D xv.ys.length xv.d))):=ag (fun _ bz=>⟨(HCK.out.below bz).c0,(HCK.out.below bz).c1,(HCK.out.below bz).c2,(HVE.out.below bz).c0,(HVE.out.below bz).c1,(HVE.out.below bz).c2⟩);refine fR HSP (by kernel_rfl) (fun hHeld=>?_)
      have bz:=(ah wr.heap.size wr).drew;generalize wr.drew=wd at *;refine tki uu [false,false,false,false,false,false,false,false,false,false,false,false,false,false,false,false,false,false,false,false,false,false,false,false,false,false,false,false,false,false,false,false,false,false,false,false,false] (by kernel_rfl) (by kernel_rfl) (by kernel_rfl) (fun HSU=>?_)
      refine tks HSU 0 (.slice A1 nx c1) rfl ?_;simp only [tz];refine tks HSU 1 (.int .i64 (nx:Int)) rfl ?_;simp only [tz];refine tks HSU 2 (.bool false) rfl ?_;simp only [tz];refine tkm HSU 33 [(3,139,0,some false),(0,0,2,none),(0,0,1,some false),(0,0,8,none),(0,0,1,some false),(0,0,7,none),(0,0,1,some false),(0,0,4,none),(0,0,0,some false)] rfl ?_;simp only [exI,exD,bH,bI,kV,rpS,rpZ,apC,apN];refine tkm HSU 1 [(36,4,0,some false)] rfl ?_;simp only [exI,exD,bH,bI,kV,rpZ,apN];refine wpAnyH_done (tkn HSU (by kernel_rfl)) ?_ _
      have hbf:bo=false:=by
       cases bo
       ·rfl
       ·exact absurd (HB.out.1 rfl) (fun f=>h0 f.1)
      subst hbf;go_wp2_with fail;go_ret;exact ⟨rfl,ai HBW2.out bz HBW2.out.size⟩
    ·rw [hk3] at s0 HCB1;clear hk3 HKD;have HB:Hid (bo=true↔_):=ag (HCB1.out.trans dN.three);clear HCB1;go_upto_region 21 with fail;clear s0;obtain ⟨f1,hf1⟩:=lu (dX n m nx p.a ux p.b);obtain ⟨f2,hf2⟩:=lu (dX n m nr p.a ur (fun _=>0));obtain ⟨z1,hz1⟩:∃z,bA (aj (fun i=>p.c i*ur i) n-0) 0=z:=⟨_,rfl⟩;obtain ⟨z2,hz2⟩:∃z,bA s.v.q 0=z:=⟨_,rfl⟩;have Hf1:=ag hf1;have Hf2:=ag hf2;have Hz1:=ag hz1;have Hz2:=ag hz2;clear hf1 hf2 hz1 hz2;by_cases h0:ny=0
     ·have HY0:=ag h0;have hy0:((ny:Int) == 0)=true:=by simpa using h0
      clear h0;have HSP:Hid (∀w',Below wr.heap.size wr w'→(w'.cell? ⟨G,0,none⟩=some (.slice cs.A n cs.c)∧w'.cell? ⟨G,1,none⟩=some (.slice rs.A m rs.c)∧w'.cell? ⟨G,2,none⟩=some (.slice A m ca)∧w'.cell? av=some (.bool xv.b)∧w'.cell? ⟨av.block,av.off+1,none⟩=some (.slice xv.A xv.xs.length xv.c)∧w'.cell? ⟨av.block,av.off+2,none⟩=some (.slice xv.D xv.ys.length xv.d))):=ag (fun _ bz=>⟨(HCK.out.below bz).c0,(HCK.out.below bz).c1,(HCK.out.below bz).c2,(HVE.out.below bz).c0,(HVE.out.below bz).c1,(HVE.out.below bz).c2⟩);refine fR HSP (by kernel_rfl) (fun hHeld=>?_)
      have bz:=(ah wr.heap.size wr).drew;generalize wr.drew=wd at *;refine tki yC [false,false,false,false,false,false,false,false,false,false,false,false,false,false,false,false,false,false,false,false,false,false,false,false,false,false,false,false,false,false,false,false,false,false,false,false,false,false,false,false,false] (by kernel_rfl) (by kernel_rfl) (by kernel_rfl) (fun HSU=>?_)
      refine tks HSU 0 (.slice A2 ny c2) rfl ?_;simp only [tz];refine tks HSU 1 (.int .i64 (ny:Int)) rfl ?_;simp only [tz];refine tks HSU 2 (.bool true) rfl ?_;simp only [tz];refine tks HSU 3 (.bool true) rfl ?_;simp only [tz];refine tks HSU 4 (.pointer (some ⟨G,0,none⟩)) rfl ?_;simp only [tz];refine tks HSU 5 (.slice A1 nx c1) rfl ?_;simp only [tz];refine tks HSU 6 (.pointer (some ⟨G,0,none⟩)) rfl ?_;simp only [tz];refine tks HSU 7 (.pointer (some ⟨G,0,none⟩)) rfl ?_;simp only [tz];refine tks HSU 8 (.pointer (some ⟨G,1,none⟩)) rfl ?_;simp only [tz];refine tks HSU 9 (.slice rs.A m rs.c) rfl ?_;simp only [tz]
      refine tk1 HSU 10 rfl (fun K hK=>?_);go_simp;go_at_call 39;refine (ml wd G n m nx p.a p.b p.c cs rs A ca rows (HCK.out.below bz) hn hm A1 rs.A c1 rs.c xs rs.vs ux p.b U V1 f1 (HXC.out.below bz) (HCK.out.below bz).cb HXL.out HX1.out HCK.out.lb HPZ.out HXM.out (fun i hi=>(HPZ.out.sb i hi).1.mono (by omega) (by omega)) Hf1.out).mono ?_
      rintro e wd ⟨rfl,bb⟩;replace bz:=ai bz bb bz.size;clear bb;refine hK.out _ _ (HSP.out _ bz) (fun hHeld=>?_);clear hK K;try simp only [tz]
      cases f1
      ·skip
       refine tkm HSU 29 [(11,185,1,some false),(0,0,8,none),(0,0,1,some false),(0,0,7,none),(0,0,1,some false),(0,0,4,none),(0,0,0,some false)] rfl ?_;simp only [exI,exD,bH,bI,kV,rpS,rpZ,apC,apN];refine tkm HSU 1 [(40,4,0,some false)] rfl ?_;simp only [exI,exD,bH,bI,kV,rpZ,apN];refine wpAnyH_done (tkn HSU (by kernel_rfl)) ?_ _
       have hbf:bo=false:=by
        cases bo
        ·rfl
        ·exact absurd (HB.out.1 rfl) (fun f=>Bool.noConfusion (Hf1.out.2 f.2.1))
       subst hbf;go_wp2_with fail;go_ret;exact ⟨rfl,ai HBW2.out bz HBW2.out.size⟩
      ·skip
       skip
       refine tkm HSU 2 [(11,185,1,some true)] rfl ?_;simp only [exI,exD,bH,bI,kV,rpS,rpZ,apC,apN];refine tks HSU 13 (.pointer (some ⟨G,0,none⟩)) rfl ?_;simp only [tz];refine tks HSU 14 (.slice A3 nr c3) rfl ?_;simp only [tz];refine tks HSU 15 (.pointer (some ⟨G,0,none⟩)) rfl ?_;simp only [tz];refine tks HSU 16 (.pointer (some ⟨G,0,none⟩)) rfl ?_;simp only [tz];refine tks HSU 17 (.pointer (some ⟨G,2,none⟩)) rfl ?_;simp only [tz];refine tks HSU 18 (.slice A m ca) rfl ?_;simp only [tz];refine tks HSU 19 (.int .i64 (m:Int)) rfl ?_;simp only [tz];refine tk1 HSU 20 rfl (fun K hK=>?_);go_simp;go_at_call 42
       refine (oH wd m hm).mono ?_;rintro e wd ⟨g0,v0,hv0,rfl,oz,bb⟩;have cz:Cl wd (some ⟨g0,0,none⟩) v0 (fun _=>0):=oz.cl;clear oz;replace bz:=ai bz bb bz.size;clear bb;refine hK.out _ _ (HSP.out _ bz) (fun hHeld=>?_);clear hK K;try simp only [tz]
       refine tk1 HSU 21 rfl (fun K hK=>?_);go_simp;go_at_call 39;refine (ml wd G n m nr p.a p.b p.c cs rs A ca rows (HCK.out.below bz) hn hm A3 (some ⟨g0,0,none⟩) c3 m zs v0 ur (fun _=>0) U V3 f2 (HRC.out.below bz) cz HRL.out HR1.out hv0 HPZ.out HRM.out (fun _ _=>Sz.zero 60 (by omega)) Hf2.out).mono ?_
       rintro e wd ⟨rfl,bb⟩;clear cz;replace bz:=ai bz bb bz.size;clear bb;refine hK.out _ _ (HSP.out _ bz) (fun hHeld=>?_);clear hK K;try simp only [tz]
       cases f2
       ·skip
        refine tkm HSU 18 [(22,196,1,some false),(0,0,7,none),(0,0,1,some false),(0,0,4,none),(0,0,0,some false)] rfl ?_;simp only [exI,exD,bH,bI,kV,rpS,rpZ,apC,apN];refine tkm HSU 1 [(40,4,0,some false)] rfl ?_;simp only [exI,exD,bH,bI,kV,rpZ,apN];refine wpAnyH_done (tkn HSU (by kernel_rfl)) ?_ _
        have hbf:bo=false:=by
         cases bo
         ·rfl
         ·exact absurd (HB.out.1 rfl) (fun f=>Bool.noConfusion (Hf2.out.2 f.2.2.1))
        subst hbf;go_wp2_with fail;go_ret;exact ⟨rfl,ai HBW2.out bz HBW2.out.size⟩
       ·skip
        have HRB:=ag (Hf2.out.1 rfl).1;refine tkm HSU 2 [(22,196,1,some true)] rfl ?_;simp only [exI,exD,bH,bI,kV,rpS,rpZ,apC,apN];refine tks HSU 24 (.pointer (some ⟨G,0,none⟩)) rfl ?_;simp only [tz];refine tks HSU 25 (.pointer (some ⟨G,0,none⟩)) rfl ?_;simp only [tz];refine tks HSU 26 (.pointer (some ⟨G,0,none⟩)) rfl ?_;simp only [tz];refine tks HSU 27 (.slice cs.A n cs.c) rfl ?_;simp only [tz];refine tks HSU 28 (.slice A3 nr c3) rfl ?_;simp only [tz];refine tk1 HSU 29 rfl (fun K hK=>?_);go_simp;go_at_call 43;refine (dO wd).mono ?_;rintro e wd ⟨x0,rfl,e0,bb⟩;replace bz:=ai bz bb bz.size;clear bb
        refine hK.out _ _ (HSP.out _ bz) (fun hHeld=>?_);clear hK K;try simp only [tz]
        refine tk1 HSU 30 rfl (fun K hK=>?_);go_simp;go_at_call 41;refine (ig wd cs.A A3 cs.c c3 cs.vs zs x0 p.c ur 0 z1 U V3 n nr n rfl HRB.out (HCK.out.below bz).cc (HRC.out.below bz) e0 HCK.out.lc (HRL.out.trans HRB.out) hn (fun k hk=>(HPZ.out.sc k hk).1) (fun k hk=>(HRM.out.s k (by rw [HRB.out];exact hk)).1) (Sz.zero 60 (by omega)) (fun k hk=>(HPZ.out.sc k hk).2) (fun k hk=>(HRM.out.s k (by rw [HRB.out];exact hk)).2) HPZ.out.ul HRM.out.vl HPZ.out.u0 HRM.out.v0 Hz1.out).mono ?_
        rintro e wd ⟨rfl,bb⟩;clear e0;replace bz:=ai bz bb bz.size;clear bb;refine hK.out _ _ (HSP.out _ bz) (fun hHeld=>?_);clear hK K;try simp only [tz]
        by_cases hz1:z1<0
        ·skip
         have hd_z1:decide (z1<0)=true:=by simpa using hz1
         refine tks HSU 31 (.bool true) rfl ?_;simp only [tz];refine tkm HSU 2 [(32,206,1,some true)] rfl ?_;simp only [exI,exD,bH,bI,kV,rpS,rpZ,apC,apN];refine tks HSU 34 (.slice (some av) 1 c4) rfl ?_;simp only [tz];refine tks HSU 35 (.pointer (some av)) rfl ?_;simp only [tz];refine tks HSU 36 (xv.val) rfl ?_;simp only [tz];refine tk1 HSU 37 rfl (fun K hK=>?_);go_simp;go_at_call 44;refine (aU wd xv s.v.q z2 (HVX.out.below bz) (HQS.out.mono (by omega) (by omega)) Hz2.out).mono ?_
         rintro e wd ⟨rfl,bb⟩;replace bz:=ai bz bb bz.size;clear bb;refine hK.out _ _ (HSP.out _ bz) (fun hHeld=>?_);clear hK K;try simp only [tz]
         by_cases hz2:z2=0
         ·subst hz2;refine tks HSU 38 (.bool true) rfl ?_;simp only [tz];refine tks HSU 39 (.bool true) rfl ?_;simp only [tz];refine tkm HSU 1 [(40,4,0,some true)] rfl ?_;simp only [exI,exD,bH,bI,kV,rpZ,apN];refine wpAnyH_done (tkn HSU (by kernel_rfl)) ?_ _
          have hbt:bo=true:=HB.out.2 ⟨HY0.out,Hf1.out.1 rfl,Hf2.out.1 rfl,(tW _).1 (by rw [Hz1.out];exact hz1),(aZ _).1 Hz2.out⟩
          subst hbt;go_wp2_with fail;go_ret;exact ⟨rfl,ai HBW2.out bz HBW2.out.size⟩
         ·skip
          have hd_z2:(z2 == 0)=false:=by simpa using hz2
          refine tks HSU 38 (.bool false) rfl ?_;simp only [tz];refine tks HSU 39 (.bool false) rfl ?_;simp only [tz];refine tkm HSU 1 [(40,4,0,some false)] rfl ?_;simp only [exI,exD,bH,bI,kV,rpZ,apN];refine wpAnyH_done (tkn HSU (by kernel_rfl)) ?_ _
          have hbf:bo=false:=by
           cases bo
           ·rfl
           ·exact absurd (HB.out.1 rfl) (fun f=>hz2 (Hz2.out.symm.trans ((aZ _).2 f.2.2.2.2)))
          subst hbf;go_wp2_with fail;go_ret;exact ⟨rfl,ai HBW2.out bz HBW2.out.size⟩
        ·skip
         have hd_z1:decide (z1<0)=false:=by simpa using hz1
         refine tks HSU 31 (.bool false) rfl ?_;simp only [tz];refine tkm HSU 8 [(32,206,1,some false),(0,0,4,none),(0,0,0,some false)] rfl ?_;simp only [exI,exD,bH,bI,kV,rpS,rpZ,apC,apN];refine tkm HSU 1 [(40,4,0,some false)] rfl ?_;simp only [exI,exD,bH,bI,kV,rpZ,apN];refine wpAnyH_done (tkn HSU (by kernel_rfl)) ?_ _
         have hbf:bo=false:=by
          cases bo
          ·rfl
          ·exact absurd (HB.out.1 rfl) (fun f=>hz1 (Hz1.out ▸ (tW _).2 f.2.2.2.1))
         subst hbf;go_wp2_with fail;go_ret;exact ⟨rfl,ai HBW2.out bz HBW2.out.size⟩
     ·have hy0:((ny:Int) == 0)=false:=by simpa using h0
      have HSP:Hid (∀w',Below wr.heap.size wr w'→(w'.cell? ⟨G,0,none⟩=some (.slice cs.A n cs.c)∧w'.cell? ⟨G,1,none⟩=some (.slice rs.A m rs.c)∧w'.cell? ⟨G,2,none⟩=some (.slice A m ca)∧w'.cell? av=some (.bool xv.b)∧w'.cell? ⟨av.block,av.off+1,none⟩=some (.slice xv.A xv.xs.length xv.c)∧w'.cell? ⟨av.block,av.off+2,none⟩=some (.slice xv.D xv.ys.length xv.d))):=ag (fun _ bz=>⟨(HCK.out.below bz).c0,(HCK.out.below bz).c1,(HCK.out.below bz).c2,(HVE.out.below bz).c0,(HVE.out.below bz).c1,(HVE.out.below bz).c2⟩);refine fR HSP (by kernel_rfl) (fun hHeld=>?_)
      have bz:=(ah wr.heap.size wr).drew;generalize wr.drew=wd at *;refine tki yC [false,false,false,false,false,false,false,false,false,false,false,false,false,false,false,false,false,false,false,false,false,false,false,false,false,false,false,false,false,false,false,false,false,false,false,false,false,false,false,false,false] (by kernel_rfl) (by kernel_rfl) (by kernel_rfl) (fun HSU=>?_)
      refine tks HSU 0 (.slice A2 ny c2) rfl ?_;simp only [tz];refine tks HSU 1 (.int .i64 (ny:Int)) rfl ?_;simp only [tz];refine tks HSU 2 (.bool false) rfl ?_;simp only [tz];refine tkm HSU 37 [(3,177,0,some false),(0,0,6,none),(0,0,1,some false),(0,0,8,none),(0,0,1,some false),(0,0,7,none),(0,0,1,some false),(0,0,4,none),(0,0,0,some false)] rfl ?_;simp only [exI,exD,bH,bI,kV,rpS,rpZ,apC,apN];refine tkm HSU 1 [(40,4,0,some false)] rfl ?_;simp only [exI,exD,bH,bI,kV,rpZ,apN];refine wpAnyH_done (tkn HSU (by kernel_rfl)) ?_ _
      have hbf:bo=false:=by
       cases bo
       ·rfl
       ·exact absurd (HB.out.1 rfl) (fun f=>h0 f.1)
      subst hbf;go_wp2_with fail;go_ret;exact ⟨rfl,ai HBW2.out bz HBW2.out.size⟩
end Go.Proofs.YtkpfbekmaafehaaGreat
