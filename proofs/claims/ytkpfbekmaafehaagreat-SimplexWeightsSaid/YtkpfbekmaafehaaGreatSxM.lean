/- The walk of drydockref16.Solve: from the first run to the second. -/
import Derived.Test.YtkpfbekmaafehaaGreatSxC
import Derived.Test.YtkpfbekmaafehaaGreatSxP
namespace Go.Proofs.YtkpfbekmaafehaaGreat
set_option maxHeartbeats 40000000
set_option maxRecDepth 100000
open Go.RowKit
theorem r16mid (w wr:World) (p:Pg) (n m N G gt g1 g2:Nat) (L:Ly) (HO:Hd (p.ok w)) (bt:Hd p.sm) (bN:Hd p.vd) (HN:Hd (p.cost.vs.length=n)) (HW:Hd (Wgt m n (dG m n p.a p.b) p.c)) (hnl:n<=256) (hml:m<=32) (cq:Hd (N=n+m+1)) (hNl:N<=1000) (hNw:((n:Int)+(m:Int))+1=(N:Int)) (ip:Hd (w.heap.size<=g2)) (HX:Hd (Hx w wr p g1 g2 gt L G n m N (extT m (n+m) (bZ n) (DM m n p.a p.b)))) (uu:Value) (hu:uu=undef) (v8 v9 v10 v11 v12 v13 v28 v29 v30 v32 v33 v34 v35 v36 v37 v38 v39 v40 v41 v42 v43 v44 v45 v46 v47 v48 v49 v50 v51 v52 v53 v54 v55 v56 v57 v58 v59 v60 v61 v62 v63 v64 v65 v66 v67 v68 v69 v70 v71 v72 v73 v74 v75 v76 v77 v78 v79 v80 v81 v82 v83 v84 v85 v86 v87 v88 v89 v90 v91 v92 v93 v94 v95 v96 v97 v98 v99 v100 v101 v102 v103 v104 v105 v106 v107 v108 v109 v110 v111 v112 v113 v114 v115 v116 v117 v118 v119 v120 v121 v122 v123 v124 v125 v126 v127 v128 v129 v130 v131 v132 v133 v134 v135 v136 v137 v138 v139 v140 v141 v142 v143 v144 v145 v146 v147 v148 v149 v150 v151 v152 v153 v154 v155 v156 v157 v158 v159 v160 v161 v162 v163 v164 v165 v166 v167 v168 v169 v170 v171 v172 v173 v174 v175 v176 v177 v178 v179 v180 v181 v182 v183 v184 v185 v186 v187 v188 v189:Value) :
 Code.wp Tryz.prog (cd 7 (Tryz.f23.body.getD .skip)) (bodyPost Tryz.prog Tryz.f23 fun e w'=>∃s:Sn,e = .returned (.tuple #[s.val, .int .i64 0])/\SolS w' w.heap.size m n p.a p.b p.c s/\SolA s/\Below w.heap.size w w') { tmps := #[p.val, .pointer (some ⟨g1,0,none⟩), .pointer (some ⟨g2,0,none⟩), .int .i64 0, .int .i64 (m:Int), .int .i64 (n:Int), .pointer (some ⟨G,0,none⟩), .slice (some ⟨gt,0,none⟩) m m,v8,v9,v10,v11,v12,v13,uu,uu,uu,uu,uu,uu,uu,uu,uu,uu,uu,uu,uu,uu,v28,v29,v30,uu,v32,v33,v34,v35,v36,v37,v38,v39,v40,v41,v42,v43,v44,v45,v46,v47,v48,v49,v50,v51,v52,v53,v54,v55,v56,v57,v58,v59,v60,v61,v62,v63,v64,v65,v66,v67,v68,v69,v70,v71,v72,v73,v74,v75,v76,v77,v78,v79,v80,v81,v82,v83,v84,v85,v86,v87,v88,v89,v90,v91,v92,v93,v94,v95,v96,v97,v98,v99,v100,v101,v102,v103,v104,v105,v106,v107,v108,v109,v110,v111,v112,v113,v114,v115,v116,v117,v118,v119,v120,v121,v122,v123,v124,v125,v126,v127,v128,v129,v130,v131,v132,v133,v134,v135,v136,v137,v138,v139,v140,v141,v142,v143,v144,v145,v146,v147,v148,v149,v150,v151,v152,v153,v154,v155,v156,v157,v158,v159,v160,v161,v162,v163,v164,v165,v166,v167,v168,v169,v170,v171,v172,v173,v174,v175,v176,v177,v178,v179,v180,v181,v182,v183,v184,v185,v186,v187,v188,v189,uu,uu,uu,uu,uu,uu,uu,uu,uu,uu,uu,uu,uu,uu,uu,uu,uu,uu,uu,uu,uu,uu,uu,uu,uu,uu,uu,uu,uu,uu,uu,uu,uu,uu,uu,uu,uu,uu,uu,uu,uu,uu,uu,uu,uu,uu,uu,uu,uu,uu,uu,uu,uu,uu,uu,uu,uu,uu,uu,uu,uu,uu,uu,uu,uu,uu,uu,uu,uu,uu,uu,uu,uu,uu,uu,uu,uu,uu,uu,uu,uu,uu,uu,uu,uu,uu,uu,uu,uu,uu,uu,uu,uu,uu,uu,uu,uu,uu,uu,uu,uu,uu,uu,uu,uu,uu,uu,uu,uu,uu,uu,uu,uu,uu,uu,uu,uu,uu,uu,uu,uu,uu,uu,uu,uu,uu,uu,uu,uu,uu,uu,uu,uu,uu,uu,uu,uu,uu,uu,uu,uu,uu,uu,uu,uu,uu,uu,uu,uu,uu,uu,uu,uu,uu,uu,uu,uu,uu,uu,uu,uu,uu,uu,uu,uu,uu,uu,uu,uu,uu,uu,uu,uu,uu,uu,uu,uu,uu,uu,uu,uu,uu,uu,uu,uu,uu,uu,uu,uu,uu,uu,uu,uu,uu,uu,uu,uu,uu,uu,uu,uu,uu,uu,uu,uu,uu,uu,uu,uu,uu,uu,uu,uu,uu,uu,uu,uu,uu,uu,uu,uu,uu,uu,uu,uu,uu,uu,uu,uu,uu,uu,uu,uu,uu,uu,uu,uu,uu,uu,uu,uu,uu,uu,uu,uu,uu,uu,uu,uu,uu,uu,uu,uu,uu,uu,uu,uu,uu,uu,uu,uu,uu,uu,uu,uu,uu,uu,uu,uu,uu,uu,uu,uu,uu,uu,uu,uu,uu,uu,uu,uu,uu,uu,uu,uu,uu,uu,uu,uu,uu,uu,uu,uu,uu,uu,uu],defers := []} wr:=by
 subst hu
 conv=>arg 2;whnf
 have HC:=ag (r16run_rtz (O:=dG m n p.a p.b) HX.o.t hNl DL (fun y hy=>ext1 hy HW.o));go_wp2_with fail;refine HC.o.mono ?_;rintro e w6 ⟨y1,rfl,nx,ok,_,t6,kk⟩;replace HX:=ag (HX.o.run t6 kk);have fd:=ag ok;have zb:=ag nx;clear nx ok t6 kk HC;obtain ⟨M,hM⟩:∃M,n+m=M:=⟨_,rfl⟩;have q8:=ag hM;have hMw:(n:Int)+(m:Int)=(M:Int):=by omega
 have hMN:M<N:=by have:=cq.o;omega
 clear hM;obtain ⟨gm,hgm⟩:∃g,L.g m=g:=⟨_,rfl⟩;have cH:=ag hgm;obtain ⟨d1,hd1⟩:∃d,bV m (bZ n) y1.T y1.B (n+m)=d:=⟨_,rfl⟩;have mo:=ag hd1;have he:(extT m (n+m) (bZ n) y1).T m M = - d1:=by rw [<-q8.o,<-mo.o];exact ext_val
 have hev:=HX.o.t.elg (Nat.le_refl m) hgm hMN;rw [he] at hev;obtain ⟨xv,ev⟩:=hev;have bf:=ag ev;have l9:Hd (Sz (-d1) 128 128):=ag (by rw [<-mo.o];exact Sz.neg ((DA fd.o HW.o).dt (n+m) (Nat.le_refl _) m (Nat.le_refl _)).up)
 obtain ⟨z,hz⟩:∃z,bA (-d1) 0=z:=⟨_,rfl⟩;have HZ:=ag hz;have C6:Hd (decide (z<0)=decide (-d1<0)):=ag (by rw [<-hz];exact xY _ _)
 have c1:=HX.o.t.c1 hgm;have k0:=ev.c0;have k1:=ev.c1;have k2:=ev.c2;clear hd1 he ev hz hgm;go_wp2_with fail;refine (r2sign_el w6 xv _ z bf.o.el l9.o HZ.o).mono ?_;rintro e w7 ⟨rfl,bb⟩;replace HX:=ag (HX.o.below bb);clear bb c1 k0 k1 k2 bf l9 HZ hMw;by_cases hneg:z<0
 ·
--D{
  have lw:Hd (0<bV m (bZ n) y1.T y1.B (n+m)):=ag (by
   have h:=C6.o;rw [decide_eq_true hneg] at h;have h2:=of_decide_eq_true h.symm;rw [mo.o];exact (neg_lt0 d1).1 h2)
  obtain ⟨f1,fi,fi0,fi1,fi2⟩:=info_parts dr;go_upto_region 37 with (refine wpList_make_full w7 rfl _ _ 22 rfl w7.heap.size 29 f1 Fx.nil.val 3 Tryz.underlying22 fi fi0 fi1 .i64 .i64 _ _ m rfl rfl (by omega) (by omega) (by rw [fi2];omega) (by simp only [maxLen];omega) (Nat.le_refl _) ?_;intro w9 hg2 hb2)
  have bb:Below w7.heap.size w7 w9:=(ah _ _).grown hb2 (Nat.le_refl _) (by intro k hk;cases hk)
  have bj:Hd (Ou w9 w7.heap.size w7.heap.size m (fun a=>a<0) (kr m n p.b (bZ n) y1)):=ag (by
   refine ⟨List.replicate m Fx.nil,⟨?_,fun v hv=>by rw [List.eq_of_mem_replicate hv];exact Fx.nil_ok _⟩,by simp,fun _ _ h=>absurd h (Nat.not_lt_zero _)⟩
   unfold Fr;rw [List.length_replicate,<-dm];exact hg2)
  have dy:=ag HX.o.lts;replace HX:=ag (HX.o.below bb);clear hg2 hb2 bb fi fi0 fi1 fi2 f1;generalize w7.heap.size=gY at *;have FT:Hd (¬gm=gY):=ag (by have:=dy.o.S gm (.inr ⟨m,by rw [HX.o.t.em];exact Nat.le_refl m,cH.o.symm⟩);omega)
  go_wp2_with fail;go_loopw [15] (fun iv wr=>∃k:Nat,k<=m/\iv = .int .i64 k/\Ou wr gY gY m (fun a=>a<k) (kr m n p.b (bZ n) y1)/\Hx w wr p g1 g2 gt L G n m N (extT m (n+m) (bZ n) y1)) (fun iv _=>m-(intOf iv).toNat)
  case atStart=>exact ⟨0,by omega,rfl,bj.o.mono (fun a _ h=>by omega) (fun _ _ _=>rfl),HX.o⟩
  case round=>
   clear bj HX;obtain ⟨k,hk,rfl,ou,hx⟩:=hrel;by_cases hlt:k<m
   ·obtain ⟨nk,hnk⟩:∃a,n+k=a:=⟨_,rfl⟩;have hni:(n:Int)+(k:Int)=(nk:Int):=by omega
    have hwb:IntKind.i64.wrap (nk:Int)=(nk:Int):=IntWalk.i64_in _ (by omega)
    have hnN:nk<N:=by have:=cq.o;omega
    have hel:=hx.t.elg (Nat.le_refl m) cH.o hnN;obtain ⟨xc,ec⟩:=hel;obtain ⟨v,hv⟩:∃v,(extT m (n+m) (bZ n) y1).T m nk=v:=⟨_,rfl⟩;rw [hv] at ec;have l7:Hd ((1:Rat)-v=nf m n (bZ n) y1.T y1.B k):=ag (by rw [<-hv,<-hnk];exact inf_pri hlt)
    have rW:Hd (Sz v 128 128):=ag (by rw [<-hv];exact (ext1 fd.o HW.o m (Nat.le_refl m) nk (by omega)).up)
    have cI:Hd (Sz ((1:Int):Rat) 128 128):=ag (iN (z:=1) (by omega)).up
    have a7:Hd (Sz (((1:Int):Rat)-v) 128 128):=ag (by
     show Sz ((1:Rat)-v) 128 128
     rw [l7.o];exact (pri_sz (DA fd.o HW.o) hlt).up)
    have eZ:=ag ec;have HX:=ag hx;have bj:=ag ou;have zh:Hd (k<m):=ag hlt;clear hnk hv ec ou hx;go_upto_region 40 with fail;have hx:=HX.o.below (ah wr.heap.size wr).drew;have ou:=bj.o.below (ah wr.heap.size wr).drew;have ec:=eZ.o.below (ah wr.heap.size wr).drew;refine wp_region_held_drew (S:=fun w'=>w'.cell? ⟨G,1,none⟩=some (.slice (some ⟨gm,0,none⟩) N (L.c m))/\w'.cell? ⟨gm,nk*3,none⟩=some (.bool xc.b)/\w'.cell? ⟨gm,nk*3+1,none⟩=some (.slice xc.A xc.xs.length xc.c)/\w'.cell? ⟨gm,nk*3+2,none⟩=some (.slice xc.D xc.ys.length xc.d)) (by kernel_rfl) ⟨hx.t.c1 cH.o,ec.c0,ec.c1,ec.c2⟩ fun hH=>?_
    have bz:=(ah wr.heap.size wr).drew;generalize wr.drew=wd at *;refine qj 18 fun Ha=>?_
    refine qh Ha 0 (.slice (some ⟨gY,0,none⟩) m m) rfl ?_;refine qh Ha 1 (.int .i64 (k:Int)) rfl ?_;refine qh Ha 3 (.pointer (some ⟨G,0,none⟩)) rfl ?_;refine qh Ha 4 (.pointer (some ⟨G,0,none⟩)) rfl ?_;simp only [tz];refine qh Ha 5 (.pointer (some ⟨G,1,none⟩)) rfl ?_;refine qh Ha 6 (.slice (some ⟨gm,0,none⟩) N (L.c m)) rfl ?_;refine qh Ha 7 (.int .i64 (n:Int)) rfl ?_;refine qh Ha 8 (.int .i64 (k:Int)) rfl ?_;simp only [tz];refine qh Ha 9 (.int .i64 (nk:Int)) rfl ?_;refine qh Ha 10 (.pointer (some ⟨gm,nk*3,none⟩)) rfl ?_
    refine tks Ha 11 (xc.val) rfl ?_;simp only [tz];refine tk1 Ha 2 rfl fun K hK=>?_;go_simp;go_at_call 26;refine (dS wd 1 (by omega) (by omega)).mono ?_
    rintro e we ⟨x1,rfl,e1,bb⟩;replace hx:=hx.below bb;replace ou:=ou.below bb;replace ec:=ec.below bb;clear bb hH;generalize we=wd at *;refine hK.out _ _ ⟨hx.t.c1 cH.o,ec.c0,ec.c1,ec.c2⟩ fun hH=>?_;clear hK K;try simp only [tz]
    refine tk1 Ha 12 rfl fun K hK=>?_;go_simp;go_at_call 60;refine (r2sub_el wd x1 xc _ _ e1 ec.el cI.o rW.o a7.o).mono ?_;rintro e we ⟨x3,rfl,e3,bb⟩;clear e1;replace hx:=hx.below bb;replace ou:=ou.below bb;replace ec:=ec.below bb;clear bb hH;generalize we=wd at *;refine hK.out _ _ ⟨hx.t.c1 cH.o,ec.c0,ec.c1,ec.c2⟩ fun hH=>?_;clear hK K;try simp only [tz]
    refine qh Ha 13 (.tuple #[x3.val, .int .i64 0]) rfl ?_;refine qh Ha 14 (x3.val) rfl ?_;refine qh Ha 15 (.int .i64 0) rfl ?_;refine tks Ha 16 (.pointer (some ⟨gY,k*3,none⟩)) rfl ?_;simp only [tz];refine tk1 Ha 17 rfl fun K hK=>?_;have hsl:=ou.slot zh.o;obtain ⟨v,k0,k1,k2,aF,aG,aH⟩:=hsl;go_simp;clear v k0 k1 k2 aF aG aH;have t6:=ou.put (i:=k) e3;have hx2:=hx.new dy.o (Nat.le_refl _) ou.nl t6.2;have nly:=ou.nl;have ec2:=ec.kp t6.2 (fun a e=>by rw [e];exact nly) FT.o
    have ou2:=t6.1;clear hx ou t6 ec e3 nly hH;generalize (((wd.setCell ⟨gY,k*3,none⟩ (.bool x3.b)).setCell ⟨gY,k*3+1,none⟩ (.slice x3.A x3.xs.length x3.c)).setCell ⟨gY,k*3+2,none⟩ (.slice x3.D x3.ys.length x3.d))=wd at *;have hx:=hx2;have ou:=ou2;have ec:=ec2;clear hx2 ou2 ec2;refine hK.out _ _ ⟨hx.t.c1 cH.o,ec.c0,ec.c1,ec.c2⟩ fun hH=>?_;clear hK K;try simp only [tz]
    refine qp Ha ?_
    replace HX:=ag hx;replace bj:=ag ou;clear hx ou ec eZ;clear hni hnN hwb;obtain ⟨b,hb⟩:∃b,decide (p.b k<0)=b:=⟨_,rfl⟩;have ct:wd.cell? ⟨gt,k,none⟩=some (.bool b):=by rw [<-hb];exact HX.o.tn.c k hlt
    cases b with
    | false=>
      have HF:Hd (kr m n p.b (bZ n) y1 k=((1:Int):Rat)-v):=ag (by rw [prc_f hb,<-l7.o];rfl)
      clear hb;go_wp2_with fail;go_roundw
      case rel=>exact ⟨k+1,by omega,by go_num,bj.o.mono (fun a _ ha=>by omega) (fun a _ _=>by by_cases hak:a=k <;> simp [hak,HF.o]),HX.o⟩
      case measure=>simp [intOf];omega
    | true=>
      have HF:Hd (kr m n p.b (bZ n) y1 k = -(((1:Int):Rat)-v)):=ag (by rw [prc_t hb,<-l7.o];rfl)
      have hev:=bj.o.ev hlt (Or.inr rfl);rw [if_pos rfl] at hev;obtain ⟨xe,ev⟩:=hev;have bf:=ag ev;have k0:=ev.c0;have k1:=ev.c1;have k2:=ev.c2;clear hb ev;go_wp2_with fail;refine (r2opp_el wd xe _ bf.o.el a7.o).mono ?_;rintro e we ⟨x4,rfl,e4,bb⟩;replace bj:=ag (bj.o.below bb);replace HX:=ag (HX.o.below bb);clear k0 k1 k2 ct bb;obtain ⟨v9,k0,k1,k2,aF,aG,aH⟩:=bj.o.slot hlt;go_wp2_with fail;have t6:=bj.o.put (i:=k) e4;have hx2:=HX.o.new dy.o (Nat.le_refl _) bj.o.nl t6.2;go_roundw
      case rel=>exact ⟨k+1,by omega,by go_num,t6.1.mono (fun a _ ha=>by omega) (fun a _ _=>by by_cases hak:a=k <;> simp [hak,HF.o]),hx2⟩
      case measure=>simp [intOf];omega
   ·obtain rfl:m=k:=by omega
    have bj:Hd (Ou wr gY gY m (fun _=>True) (kr m n p.b (bZ n) y1)):=ag (ou.mono (fun a ha _=>ha) (fun _ _ _=>rfl));have HX:=ag hx;clear ou hx;go_wp2_with fail;refine (iT wr).mono ?_;rintro e w10 ⟨x9,rfl,e9,bb⟩;have os0:=(bj.o.below bb).os;obtain ⟨vY,hvY,osY⟩:=os0;replace HX:=ag (HX.o.below bb);have SOL:Hd (SolS w10 w.heap.size m n p.a p.b p.c ⟨2,slN,⟨some ⟨gY,0,none⟩,m,vY⟩,slN,x9⟩):=ag (.inf y1 fd.o zb.o lw.o rfl rfl rfl (osY.mono dy.o.b) e9);have ps:Hd (¬gY=g2):=ag (by have:=dy.o.g2;omega)
    have cF:=ag hvY;clear osY e9 bb bj hvY;obtain ⟨z0,z1,z2,z3,z4,z5,z6,zf,zl,zn⟩:=HX.o.zs;have f0:=zf 0;have f1:=zf 1;have f2:=zf 2;have f3:=zf 3;have f4:=zf 4;have f5:=zf 5;have f6:=zf 6;have ZN:=ag zn;clear zn zl;go_wp2_with fail;refine bodyPost_ret (v := .tuple #[(⟨2,slN,⟨some ⟨gY,0,none⟩,m,vY⟩,slN,x9⟩:Sn).val, .int .i64 0]) (by simp [results,Tryz.results23,go_sem,z0,z1,z2,z3,z4,z5,z6,cF.o]) rfl ?_
    have k7:=Kp.set7 (S:=fun a=>a=g2) (Kp.refl _ w10) rfl (.int .i64 2) (.slice none 0 0) (.slice (some ⟨gY,0,none⟩) m m) (.slice none 0 0) (.bool x9.b) (.slice x9.A x9.xs.length x9.c) (.slice x9.D x9.ys.length x9.d);clear z0 z1 z2 z3 z4 z5 z6 f0 f1 f2 f3 f4 f5 f6 zf;generalize (((((((w10.setCell ⟨g2,0,none⟩ (.int .i64 2)).setCell ⟨g2,1,none⟩ (.slice none 0 0)).setCell ⟨g2,2,none⟩ (.slice (some ⟨gY,0,none⟩) m m)).setCell ⟨g2,3,none⟩ (.slice none 0 0)).setCell ⟨g2,4,none⟩ (.bool x9.b)).setCell ⟨g2,5,none⟩ (.slice x9.A x9.xs.length x9.c)).setCell ⟨g2,6,none⟩ (.slice x9.D x9.ys.length x9.d))=wf at k7|-
    exact ⟨_,rfl,SOL.o.kp k7 (fun a e=>by rw [e];exact ZN.o) (fun ad e=>by cases e) (fun ad e=>by injection e with e;subst e;exact ps.o) (fun ad e=>by cases e),(fun a b e1 _=>by cases e1),HX.o.bw.trans (k7.below (fun a e=>by rw [e];exact ip.o) HX.o.bw.size)⟩
--D}
 ·have zc:Hd (¬ 0<bV m (bZ n) y1.T y1.B (n+m)):=ag (by
   have h:=C6.o;rw [decide_eq_false hneg] at h;have h2:=of_decide_eq_false h.symm;rw [mo.o];intro h3;exact h2 ((neg_lt0 d1).2 h3))
  have hz1:=zw fd.o zc.o;have nj:Hd (∀t,t<=m->Okx m n (dG m n p.a p.b) (j5 n y1 t)/\Art m n t (j5 n y1 t)):=ag (Cv fd.o hz1);clear hz1 zc C6 mo zb;go_wp2_with fail;go_loopw [16] (fun iv wr=>∃i:Nat,i<=m/\iv = .int .i64 i/\Hx w wr p g1 g2 gt L G n m N (extT m (n+m) (bZ n) (j5 n y1 i))) (fun iv _=>m-(intOf iv).toNat)
  case atStart=>exact ⟨0,by omega,rfl,HX.o⟩
  case round=>
   clear HX;obtain ⟨i,hi,rfl,hx⟩:=hrel;by_cases hlt:i<m
   ·
--D{
    obtain ⟨y,hy⟩:∃y,j5 n y1 i=y:=⟨_,rfl⟩;have HY:Hd (j5 n y1 (i+1)=iJ n y i):=ag (by rw [<-hy];rfl)
    have p8:Hd (Okx m n (dG m n p.a p.b) y):=ag (by rw [<-hy];exact (nj.o i hi).1)
    have FU:Hd (Okx m n (dG m n p.a p.b) (iJ n y i)):=ag (by rw [<-HY.o];exact (nj.o (i+1) hlt).1)
    rw [hy] at hx;have HX:=ag hx;have f8:Hd (i<m):=ag hlt;obtain ⟨gi,hgi⟩:∃g,L.g i=g:=⟨_,rfl⟩;have cp:=ag hgi;clear hx hy hgi;go_wp2_with fail;go_loopw [17] (fun jv wr=>∃j:Nat,j<=n/\jv = .int .i64 j/\((Hx w wr p g1 g2 gt L G n m N (extT m (n+m) (bZ n) y)/\(∀k,k<j->y.T i k=0))\/(Hx w wr p g1 g2 gt L G n m N (extT m (n+m) (bZ n) (iJ n y i))/\(iJ n y i).B i<n))) (fun jv _=>n-(intOf jv).toNat)
    case atStart=>exact ⟨0,by omega,rfl, .inl ⟨HX.o,fun k hk=>by omega⟩⟩
    case round=>
     clear HX;obtain ⟨j,hj,rfl,hor⟩:=hrel;rcases hor with ⟨hx,hz⟩|⟨hx,hbl⟩
     ·obtain ⟨bi,hbi⟩:∃b,y.B i=b:=⟨_,rfl⟩;have mf:=ag hbi;have c2:=hx.t.c2;have cb:wr.cell? ⟨L.gb,i,none⟩=some (.int .i64 (bi:Int)):=by rw [<-hbi];exact hx.t.bas f8.o
      have HX:=ag hx;have p4:=ag hz;clear hx hz hbi;by_cases hjn:j<n
      ·have q1:decide ((j:Int)<(n:Int))=true:=decide_eq_true (by omega)
       by_cases hbn:n<=bi
       ·have q2:decide ((n:Int)<=(bi:Int))=true:=decide_eq_true (by omega)
        have hjN:j<N:=by have:=cq.o;omega
        have hel:=HX.o.t.elg (Nat.le_of_lt f8.o) cp.o hjN;rw [show (extT m (n+m) (bZ n) y).T i j=y.T i j from ext_row f8.o] at hel;obtain ⟨xe,ev⟩:=hel;have bf:=ag ev;have c0:=HX.o.t.c0;have cr:=HX.o.t.rowg f8.o cp.o;have k0:=ev.c0;have k1:=ev.c1;have k2:=ev.c2;have eJ:Hd (Sz (y.T i j) 128 128):=ag ((DA p8.o HW.o).el i f8.o j (by omega)).up
        clear ev;obtain ⟨z,hz⟩:∃z,bA (y.T i j) 0=z:=⟨_,rfl⟩;have HZ:=ag hz;by_cases h0:z=0
        ·subst h0;have HE:Hd (y.T i j=0):=ag ((aZ _).1 hz);clear hz;go_wp2_with fail;refine (r2sign_el wr xe _ 0 bf.o.el eJ.o HZ.o).mono ?_;rintro e w5 ⟨rfl,bb⟩;go_wp2_with fail;go_roundw
         case rel=>exact ⟨j+1,by omega,by go_num, .inl ⟨HX.o.below bb,fun k hk=>by
          rcases Nat.lt_or_ge k j with k1|k1
          ·exact p4.o k k1
          ·obtain rfl:k=j:=by omega
           exact HE.o⟩⟩
         case measure=>simp [intOf];omega
        ·have iD:Hd (y.T i j≠0):=ag (fun hh=>h0 (by rw [<-hz];exact (aZ _).2 hh))
         have gD:Hd (iJ n y i=⟨bY y.T i j,cg y.B i j⟩):=ag (ye (by rw [mf.o];exact hbn) hjn p4.o iD.o)
         clear hz;have hb2:(z != 0)=true:=by simpa using h0
         go_wp2_with fail;refine (r2sign_el wr xe _ z bf.o.el eJ.o HZ.o).mono ?_;rintro e w5 ⟨rfl,bb⟩;replace HX:=ag (HX.o.below bb);clear HZ bb bf k0 k1 k2 c0 cr c2 cb;go_wp2_with fail;refine (r16pivot_rtz HX.o.t hNl f8.o (by omega) iD.o (ext1 p8.o HW.o) (by rw [<-gD.o];exact ext1 FU.o HW.o)).mono ?_
         rintro e w7 ⟨rfl,t7,k7⟩;rw [<-gD.o] at t7;have CD:Hd ((iJ n y i).B i<n):=ag (by rw [gD.o];show cg y.B i j i<n;rw [cg,if_pos rfl];exact hjn)
         have FV:=ag (HX.o.run t7 k7);clear t7 k7;go_wp2_with fail;go_roundw
         case rel=>exact ⟨j+1,by omega,by go_num, .inr ⟨FV.o,CD.o⟩⟩
         case measure=>simp [intOf];omega
       ·have q2:decide ((n:Int)<=(bi:Int))=false:=decide_eq_false (by omega)
        have gD:Hd (iJ n y i=y):=ag (yf (by rw [mf.o];omega))
        go_wp2_with fail;go_roundw
        case rel=>exact ⟨i+1,by omega,by go_num,by rw [HY.o,gD.o];exact HX.o⟩
        case measure=>simp [intOf];omega
      ·have q1:decide ((j:Int)<(n:Int))=false:=decide_eq_false (by omega)
       have gD:Hd (iJ n y i=y):=ag (yg (fun k hk=>p4.o k (by omega)))
       clear c2 cb;go_wp2_with fail;go_roundw
       case rel=>exact ⟨i+1,by omega,by go_num,by rw [HY.o,gD.o];exact HX.o⟩
       case measure=>simp [intOf];omega
     ·obtain ⟨y2,hy2⟩:∃y2,iJ n y i=y2:=⟨_,rfl⟩;rw [hy2] at hx hbl;have gK:=ag hy2;obtain ⟨bi,hbi⟩:∃b,y2.B i=b:=⟨_,rfl⟩;have c2:=hx.t.c2;have cb:wr.cell? ⟨L.gb,i,none⟩=some (.int .i64 (bi:Int)):=by rw [<-hbi];exact hx.t.bas f8.o
      rw [hbi] at hbl;have HX:=ag hx;clear hx hbi hy2;have q2:decide ((n:Int)<=(bi:Int))=false:=decide_eq_false (by omega)
      by_cases hjn:j<n
      ·have q1:decide ((j:Int)<(n:Int))=true:=decide_eq_true (by omega)
       go_wp2_with fail;go_roundw
       case rel=>exact ⟨i+1,by omega,by go_num,by rw [HY.o,gK.o];exact HX.o⟩
       case measure=>simp [intOf];omega
      ·have q1:decide ((j:Int)<(n:Int))=false:=decide_eq_false (by omega)
       go_wp2_with fail;go_roundw
       case rel=>exact ⟨i+1,by omega,by go_num,by rw [HY.o,gK.o];exact HX.o⟩
       case measure=>simp [intOf];omega
--D}
   ·obtain rfl:m=i:=by omega
    have gK:Hd (Okx m n (dG m n p.a p.b) (j5 n y1 m)/\Art m n m (j5 n y1 m)):=ag (nj.o m (Nat.le_refl m));obtain ⟨y2,hy2⟩:∃y,j5 n y1 m=y:=⟨_,rfl⟩;rw [hy2] at hx gK;have hx0:∃f0,Hx w wr p g1 g2 gt L G n m N (csT m f0 y2):=⟨_,hx.congr ext_cs⟩;obtain ⟨f0,hx0⟩:=hx0;have HX:=ag hx0;clear hx hx0 hy2 nj fd;go_wp2_with fail;go_loopw [18] (fun jv wr=>∃j:Nat,j<=N/\jv = .int .i64 j/\Hx w wr p g1 g2 gt L G n m N (csT m (fun a=>if a<j then cV n p.c a else f0 a) y2)) (fun jv _=>N-(intOf jv).toNat)
    case atStart=>exact ⟨0,by omega,rfl,HX.o.congr (cs_congr fun k=>(if_neg (Nat.not_lt_zero k)).symm)⟩
    case round=>
     clear HX;obtain ⟨j,hj,rfl,hx⟩:=hrel;by_cases hjN:j<N
     ·
--D{
      have HX:=ag hx;have EM:Hd (j<N):=ag hjN;clear hx;go_upto_region 55 with fail;have hx:=HX.o.below (ah wr.heap.size wr).drew;refine qm (S:=fun w'=>w'.cell? ⟨G,1,none⟩=some (.slice (some ⟨gm,0,none⟩) N (L.c m))) 7 8 (hx.t.c1 cH.o) fun Ha hH=>?_
      generalize wr.drew=wd at *;refine mY Ha 0 (.pointer (some ⟨G,0,none⟩)) rfl ?_;simp only [tz];refine mY Ha 1 (.pointer (some ⟨G,0,none⟩)) rfl ?_;simp only [tz];refine mY Ha 2 (.pointer (some ⟨G,1,none⟩)) rfl ?_;simp only [tz];refine mY Ha 3 (.slice (some ⟨gm,0,none⟩) N (L.c m)) rfl ?_;simp only [tz];refine mY Ha 4 (.int .i64 (j:Int)) rfl ?_;simp only [tz];refine qW Ha 5 rfl fun K hK=>?_;go_simp;go_at_call 26;refine (iT wd).mono ?_;rintro e we ⟨x1,rfl,e1,bb⟩;replace hx:=hx.below bb;clear bb hH;generalize we=wd at *;refine hK.out _ _ (hx.t.c1 cH.o) fun hH=>?_;clear hK K;try simp only [tz]
      refine mY Ha 6 (.pointer (some ⟨gm,j*3,none⟩)) rfl ?_;simp only [tz];refine Bh Ha 7 rfl fun K hK=>?_;have hel:=hx.t.elg (Nat.le_refl m) cH.o EM.o;obtain ⟨v,ev⟩:=hel;have k0:=ev.c0;have k1:=ev.c1;have k2:=ev.c2;have aF:=ev.f0;have aG:=ev.f1;have aH:=ev.f2;go_simp;clear k0 k1 k2 aF aG aH ev v;have hx2:=hx.put (k:=j) cH.o e1;clear hx e1 hH;generalize (((wd.setCell ⟨gm,j*3,none⟩ (.bool x1.b)).setCell ⟨gm,j*3+1,none⟩ (.slice x1.A x1.xs.length x1.c)).setCell ⟨gm,j*3+2,none⟩ (.slice x1.D x1.ys.length x1.d))=wd at *;refine hK.out _ _ ?_;clear hK K;try simp only [tz]
      refine q5 Ha ?_
      replace HX:=ag hx2;clear hx2;generalize wd=w8 at *;by_cases hjn:j<n
      ·have hjc:j<p.cost.vs.length:=by rw [HN.o];exact hjn
       have C7:=HX.o;obtain ⟨ad,hca,ef⟩:=(HO.o.cost.below C7.bw).rd.at j hjc;have hme:=List.getElem_mem hjc;obtain ⟨xe,hxe⟩:∃x,p.cost.vs[j]=x:=⟨_,rfl⟩;rw [hxe] at hme;have tc:Hd (xe.ok w8):=ag ((HO.o.cost.below C7.bw).el xe hme);have i5:=ag (bt.o.ec xe hme);have u4:Hd xe.v:=ag (bN.o.vc xe hme);have FW:Hd (xe.q=cV n p.c j):=ag (by rw [cV,if_pos hjn,Pg.c,bC _ _ _ hjc,hxe])
       have ja:Hd (∀(w':World) {x:St},Hx w w' p g1 g2 gt L G n m N x->w'.cell? ⟨g1,0,none⟩=some (.slice (some ad) n p.cost.c)/\Ef w' (ad.add (j*3)) xe):=ag (fun w' x h=>by
        have h0:=h.pb.c0;rw [show p.cost.val = .slice p.cost.A p.cost.vs.length p.cost.c from rfl,hca,HN.o] at h0;obtain ⟨ad',hca',ef'⟩:=(HO.o.cost.below h.bw).rd.at j hjc;rw [hca] at hca';injection hca' with hca';subst hca';exact ⟨h0,by rw [<-hxe];exact ef'⟩)
       clear C7 hca ef hme hxe;go_upto_region 57 with fail;have hx:=HX.o.below (ah w8.heap.size w8).drew;have aa:=tc.o.below (ah w8.heap.size w8).drew;refine wp_region_held_drew (S:=fun w'=>w'.cell? ⟨G,1,none⟩=some (.slice (some ⟨gm,0,none⟩) N (L.c m))/\w'.cell? ⟨g1,0,none⟩=some (.slice (some ad) n p.cost.c)/\w'.cell? (ad.add (j*3))=some (.bool xe.b)/\w'.cell? ⟨(ad.add (j*3)).block,(ad.add (j*3)).off+1,none⟩=some (.slice xe.A xe.xs.length xe.c)/\w'.cell? ⟨(ad.add (j*3)).block,(ad.add (j*3)).off+2,none⟩=some (.slice xe.D xe.ys.length xe.d)) (by kernel_rfl) ⟨hx.t.c1 cH.o,(ja.o _ hx).1,(ja.o _ hx).2.c0,(ja.o _ hx).2.c1,(ja.o _ hx).2.c2⟩ fun hH=>?_
       have bz:=(ah w8.heap.size w8).drew;generalize w8.drew=wd at *;refine qj 16 fun Ha=>?_
       refine qh Ha 0 (.pointer (some ⟨G,0,none⟩)) rfl ?_;refine qh Ha 1 (.pointer (some ⟨G,0,none⟩)) rfl ?_;refine qh Ha 2 (.pointer (some ⟨G,1,none⟩)) rfl ?_;refine qh Ha 3 (.slice (some ⟨gm,0,none⟩) N (L.c m)) rfl ?_;simp only [tz];refine qh Ha 4 (.int .i64 (j:Int)) rfl ?_;refine qh Ha 5 (.pointer (some ⟨g1,0,none⟩)) rfl ?_;refine qh Ha 6 (.slice (some ad) n p.cost.c) rfl ?_;refine qh Ha 7 (.int .i64 (j:Int)) rfl ?_;simp only [tz];refine qh Ha 8 (.pointer (some (ad.add (j*3)))) rfl ?_
       refine tks Ha 9 (xe.val) rfl ?_;simp only [tz];refine tk1 Ha 10 rfl fun K hK=>?_;go_simp;go_at_call 58;refine (r2red_el wd xe aa u4.o i5.o.1 i5.o.2).mono ?_;rintro e we ⟨x3,rfl,e3,bb⟩;replace hx:=hx.below bb;clear bb hH aa;generalize we=wd at *;refine hK.out _ _ ⟨hx.t.c1 cH.o,(ja.o _ hx).1,(ja.o _ hx).2.c0,(ja.o _ hx).2.c1,(ja.o _ hx).2.c2⟩ fun hH=>?_;clear hK K;try simp only [tz]
       refine qh Ha 11 (.tuple #[x3.val, .int .i64 0]) rfl ?_;refine qh Ha 12 (x3.val) rfl ?_;refine qh Ha 13 (.int .i64 0) rfl ?_;refine tks Ha 14 (.pointer (some ⟨gm,j*3,none⟩)) rfl ?_;simp only [tz];refine tk1 Ha 15 rfl fun K hK=>?_;have hel:=hx.t.elg (Nat.le_refl m) cH.o EM.o;obtain ⟨v,ev⟩:=hel;have k0:=ev.c0;have k1:=ev.c1;have k2:=ev.c2;have aF:=ev.f0;have aG:=ev.f1;have aH:=ev.f2;go_simp;clear k0 k1 k2 aF aG aH ev v;have hx2:=hx.put (k:=j) cH.o e3;clear hx e3 hH;generalize (((wd.setCell ⟨gm,j*3,none⟩ (.bool x3.b)).setCell ⟨gm,j*3+1,none⟩ (.slice x3.A x3.xs.length x3.c)).setCell ⟨gm,j*3+2,none⟩ (.slice x3.D x3.ys.length x3.d))=wd at *
       have hx:=hx2;clear hx2;refine hK.out _ _ ⟨hx.t.c1 cH.o,(ja.o _ hx).1,(ja.o _ hx).2.c0,(ja.o _ hx).2.c1,(ja.o _ hx).2.c2⟩ fun hH=>?_;clear hK K;try simp only [tz]
       refine qp Ha ?_
       go_wp2_with fail;go_roundw
       case rel=>exact ⟨j+1,by omega,by go_num,hx.congr (cs_congr fun a=>by
        by_cases h1:a=j
        ·rw [if_pos h1,if_pos (by omega),h1,FW.o]
        ·rw [if_neg h1,if_neg h1];by_cases h2:a<j
         ·rw [if_pos h2,if_pos (by omega)]
         ·rw [if_neg h2,if_neg (by omega)])⟩
       case measure=>simp [intOf];omega
      ·go_wp2_with fail;go_roundw
       case rel=>exact ⟨j+1,by omega,by go_num,HX.o.congr (cs_congr fun a=>by
        by_cases h1:a=j
        ·rw [if_pos h1,if_pos (by omega),h1,cV,if_neg hjn]
        ·rw [if_neg h1];by_cases h2:a<j
         ·rw [if_pos h2,if_pos (by omega)]
         ·rw [if_neg h2,if_neg (by omega)])⟩
       case measure=>simp [intOf];omega
--D}
     ·obtain rfl:N=j:=by omega
      have HX:Hd (Hx w wr p g1 g2 gt L G n m N (csT m (elT n p.c y2 0) y2)):=ag (hx.cost (fun k hk=>by rw [if_pos hk,el_zero]))
      clear hx;go_wp2_with fail;go_loopw [19] (fun iv wr=>∃i:Nat,i<=m/\iv = .int .i64 i/\Hx w wr p g1 g2 gt L G n m N (csT m (elT n p.c y2 i) y2)) (fun iv _=>m-(intOf iv).toNat)
      case atStart=>exact ⟨0,by omega,rfl,HX.o⟩
      case round=>
       clear HX;obtain ⟨i,hi,rfl,hx⟩:=hrel;by_cases hlt:i<m
       ·
--D{
        obtain ⟨bi,hbi⟩:∃b,y2.B i=b:=⟨_,rfl⟩;have c2:=hx.t.c2;have cb:wr.cell? ⟨L.gb,i,none⟩=some (.int .i64 (bi:Int)):=by rw [<-hbi];exact hx.t.bas hlt
        have mf:=ag hbi;have HX:=ag hx;have f8:Hd (i<m):=ag hlt;clear hx hbi;by_cases hbn:n<=bi
        ·go_wp2_with fail;go_roundw
         case rel=>exact ⟨i+1,by omega,by go_num,by rw [el_skip (by rw [mf.o,cV,if_neg (by omega)])];exact HX.o⟩
         case measure=>simp [intOf];omega
        ·have hbN:bi<N:=by have:=cq.o;omega
         obtain ⟨qf,hqf⟩:∃q,cV n p.c bi=q:=⟨_,rfl⟩;have hel:=HX.o.t.elg (Nat.le_refl m) cH.o hbN;rw [cs_cost,<-mf.o,el_bas gK.o.1.tab hlt,mf.o,hqf] at hel;obtain ⟨xf,ef⟩:=hel;have gF:=ag ef;have BK:Hd (cV n p.c (y2.B i)=qf):=ag (by rw [mf.o];exact hqf)
         have l5:Hd (∀w',Below wr.heap.size wr w'->w'.cell? ⟨L.gb,i,none⟩=some (.int .i64 (bi:Int))):=ag (fun w' hb=>by rw [<-mf.o];exact (HX.o.below hb).t.bas f8.o)
         clear ef hqf;go_upto_region 62 with fail;have okf:=(gF.o.below ((ah wr.heap.size wr).drew)).el.ok;have a7:Hd (∀w',Below wr.heap.size wr w'->(w'.cell? ⟨G,1,none⟩=some (.slice (some ⟨gm,0,none⟩) N (L.c m))/\w'.cell? ⟨G,2,none⟩=some (.slice (some ⟨L.gb,0,none⟩) m L.cb)/\w'.cell? ⟨L.gb,i,none⟩=some (.int .i64 (bi:Int))/\w'.cell? ⟨gm,bi*3,none⟩=some (.bool xf.b)/\w'.cell? ⟨gm,bi*3+1,none⟩=some (.slice xf.A xf.xs.length xf.c)/\w'.cell? ⟨gm,bi*3+2,none⟩=some (.slice xf.D xf.ys.length xf.d))):=ag (fun _ bz=>⟨(HX.o.below bz).t.c1 cH.o,(HX.o.below bz).t.c2,l5.o _ bz,(gF.o.below bz).c0,(gF.o.below bz).c1,(gF.o.below bz).c2⟩)
         refine fR a7 (by kernel_rfl) fun hH=>?_
         have bz:=(ah wr.heap.size wr).drew;generalize wr.drew=wd at *;refine qj 15 fun Ha=>?_
         refine qh Ha 0 (.pointer (some ⟨G,0,none⟩)) rfl ?_;refine qh Ha 1 (.pointer (some ⟨G,0,none⟩)) rfl ?_;refine qh Ha 2 (.pointer (some ⟨G,1,none⟩)) rfl ?_;refine qh Ha 3 (.slice (some ⟨gm,0,none⟩) N (L.c m)) rfl ?_;simp only [tz];refine qh Ha 4 (.pointer (some ⟨G,0,none⟩)) rfl ?_;refine qh Ha 5 (.pointer (some ⟨G,0,none⟩)) rfl ?_;refine qh Ha 6 (.pointer (some ⟨G,2,none⟩)) rfl ?_;refine qh Ha 7 (.slice (some ⟨L.gb,0,none⟩) m L.cb) rfl ?_;simp only [tz];refine qh Ha 8 (.int .i64 (i:Int)) rfl ?_
         refine qh Ha 9 (.pointer (some ⟨L.gb,i,none⟩)) rfl ?_;refine qh Ha 10 (.int .i64 (bi:Int)) rfl ?_;refine qh Ha 11 (.pointer (some ⟨gm,bi*3,none⟩)) rfl ?_;simp only [tz];refine tks Ha 12 (xf.val) rfl ?_;simp only [tz];refine tk1 Ha 13 rfl fun K hK=>?_;go_simp;have k20:=aK wd;have bb:=qc wd (.cells #[.bool false, .slice none 0 0, .slice none 0 0] 29);have s20:=bz.size;generalize h20:wd.heap.size=g20 at k20 s20|-;replace okf:=okf.below bb;replace bz:=qd bz bb;clear bb;generalize (wd.alloc (.cells #[.bool false, .slice none 0 0, .slice none 0 0] 29))=we at *
         clear h20;generalize we=wd at *;refine hK.out _ _ (a7.o _ bz) fun hH=>?_;clear hK K;try simp only [tz]
         refine tk1 Ha 14 rfl fun K hK=>?_;have t:=k20;obtain ⟨k0,k1,k2,aF,aG,aH,_,_⟩:=t;go_simp;clear k0 k1 k2 aF aG aH;have hk:Fa wd g20 Fx.nil:=⟨k20,Fx.nil_ok _⟩;have af:=hk.put okf;have b5:=aR (G:=g20) (a:=(.bool xf.b)) (b:=(.slice xf.A xf.xs.length xf.c)) (c:=(.slice xf.D xf.ys.length xf.d)) bz s20;clear bz hk k20 okf hH;generalize (((wd.setCell ⟨g20,0,none⟩ (.bool xf.b)).setCell ⟨g20,1,none⟩ (.slice xf.A xf.xs.length xf.c)).setCell ⟨g20,2,none⟩ (.slice xf.D xf.ys.length xf.d))=we at *;have bz:=b5;clear b5;generalize we=wd at *;refine hK.out _ _ (a7.o _ bz) fun hH=>?_;clear hK K;try simp only [tz]
         refine qp Ha ?_
         have dA:Hd (Vl wd g20 xf qf):=ag ⟨af,gF.o.el.rp⟩;have FX:=ag HX.o.lts;have FY:Hd (wr.heap.size<=g20):=ag s20;replace HX:=ag (HX.o.below bz);clear af s20 bz gF l5;clear c2 cb;generalize wd=w6 at *;obtain ⟨gi,hgi⟩:∃g,L.g i=g:=⟨_,rfl⟩;have cp:=ag hgi;have zq:Hd (Fit m n (cV n p.c) y2):=ag (fit2 gK.o.1 HW.o);have c7:Hd (Sz qf 128 128):=ag (by rw [<-BK.o];exact (zq.o.cs _ (gK.o.1.tab.lt i f8.o)).up)
         obtain ⟨z,hz⟩:∃z,bA qf 0=z:=⟨_,rfl⟩;have HZ:=ag hz;have FZ:Hd (z=0↔qf=0):=ag (by rw [<-hz];exact aZ qf)
         clear hgi hz;go_wp2_with fail;go_loopw [21] (fun kv wr=>∃k:Nat,k<=N/\kv = .int .i64 k/\Hx w wr p g1 g2 gt L G n m N (csT m (fun a=>if a<k then elT n p.c y2 (i+1) a else elT n p.c y2 i a) y2)/\Vl wr g20 xf qf) (fun kv _=>N-(intOf kv).toNat)
         case atStart=>exact ⟨0,by omega,rfl,HX.o.congr (cs_congr fun k=>(if_neg (Nat.not_lt_zero k)).symm),dA.o⟩
         case round=>
          clear HX dA;obtain ⟨k,hk,rfl,hx,vf⟩:=hrel;have c1:=hx.t.c1 cH.o;have HX:=ag hx;have dA:=ag vf;have k0:=vf.c0;have k1:=vf.c1;have k2:=vf.c2;clear hx vf;by_cases hkN:k<N
          ·have q1:decide ((k:Int)<(N:Int))=true:=decide_eq_true (by omega)
           by_cases h0:z=0
           ·have cK:Hd (elT n p.c y2 (i+1)=elT n p.c y2 i):=ag (el_skip (by rw [BK.o];exact FZ.o.1 h0))
            have hb2:(z != 0)=false:=by simpa using h0
            go_wp2_with fail;refine (r2sign_el wr xf qf z dA.o.el c7.o HZ.o).mono ?_;rintro e w7 ⟨rfl,bb⟩;replace HX:=ag (HX.o.below bb);clear bb;go_wp2_with fail;go_roundw
            case rel=>exact ⟨i+1,by omega,by go_num,HX.o.congr (cs_congr fun a=>by rw [cK.o];split <;> rfl)⟩
            case measure=>simp [intOf];omega
           ·have hb2:(z != 0)=true:=by simpa using h0
            go_wp2_with fail;refine (r2sign_el wr xf qf z dA.o.el c7.o HZ.o).mono ?_;rintro e w7 ⟨rfl,bb⟩;replace HX:=ag (HX.o.below bb);replace dA:=ag (dA.o.below bb);clear bb c1 k0 k1 k2 q1 hb2;generalize w7=wr at *;have hkm:k<=n+m:=by have:=cq.o;omega
            have hec:=HX.o.t.elg (Nat.le_refl m) cH.o hkN;have hee:=HX.o.t.elg (Nat.le_of_lt f8.o) cp.o hkN;rw [cs_cost,if_neg (Nat.lt_irrefl k)] at hec;rw [cs_row f8.o] at hee;obtain ⟨xc,ec⟩:=hec;obtain ⟨xe,ee⟩:=hee;have eZ:=ag ec;have zj:=ag ee;have fn:Hd (Sz (elT n p.c y2 i k) 128 128):=ag (el_sz zq.o (by omega) hkm)
            have EN:Hd (Sz (y2.T i k) 60 60):=ag (zq.o.el i f8.o k hkm);have eJ:=ag EN.o.up;have bt:Hd (Sz (qf*y2.T i k) 128 128):=ag (by rw [<-BK.o];exact ((zq.o.cs _ (gK.o.1.tab.lt i f8.o)).mul EN.o).mono (by omega) (by omega))
            have cK:Hd (elT n p.c y2 (i+1) k=elT n p.c y2 i k-qf*y2.T i k):=ag (by rw [el_next,BK.o])
            have l9:Hd (Sz (elT n p.c y2 i k-qf*y2.T i k) 128 128):=ag (by rw [<-cK.o];exact el_sz zq.o (by omega) hkm)
            clear ec ee hkm;go_upto_region 66 with fail;have hx:=HX.o.below (ah wr.heap.size wr).drew;have vf:=dA.o.below (ah wr.heap.size wr).drew;have ec:=eZ.o.below (ah wr.heap.size wr).drew;have ee:=zj.o.below (ah wr.heap.size wr).drew;refine qm (S:=fun w'=>w'.cell? ⟨G,0,none⟩=some (.slice (some ⟨L.go,0,none⟩) m L.co)/\w'.cell? ⟨G,1,none⟩=some (.slice (some ⟨gm,0,none⟩) N (L.c m))/\w'.cell? ⟨L.go,i,none⟩=some (.slice (some ⟨gi,0,none⟩) N (L.c i))/\w'.cell? ⟨g20,0,none⟩=some (.bool xf.b)/\w'.cell? ⟨g20,1,none⟩=some (.slice xf.A xf.xs.length xf.c)/\w'.cell? ⟨g20,2,none⟩=some (.slice xf.D xf.ys.length xf.d)/\w'.cell? ⟨gm,k*3,none⟩=some (.bool xc.b)/\w'.cell? ⟨gm,k*3+1,none⟩=some (.slice xc.A xc.xs.length xc.c)/\w'.cell? ⟨gm,k*3+2,none⟩=some (.slice xc.D xc.ys.length xc.d)/\w'.cell? ⟨gi,k*3,none⟩=some (.bool xe.b)/\w'.cell? ⟨gi,k*3+1,none⟩=some (.slice xe.A xe.xs.length xe.c)/\w'.cell? ⟨gi,k*3+2,none⟩=some (.slice xe.D xe.ys.length xe.d)) 25 26 ⟨hx.t.c0,hx.t.c1 cH.o,hx.t.rowg f8.o cp.o,vf.c0,vf.c1,vf.c2,ec.c0,ec.c1,ec.c2,ee.c0,ee.c1,ee.c2⟩ fun Ha hH=>?_
            generalize wr.drew=wd at *;refine mY Ha 0 (.pointer (some ⟨G,0,none⟩)) rfl ?_;simp only [tz];refine mY Ha 1 (.pointer (some ⟨G,0,none⟩)) rfl ?_;simp only [tz];refine mY Ha 2 (.pointer (some ⟨G,1,none⟩)) rfl ?_;simp only [tz];refine mY Ha 3 (.slice (some ⟨gm,0,none⟩) N (L.c m)) rfl ?_;simp only [tz];refine mY Ha 4 (.int .i64 (k:Int)) rfl ?_;simp only [tz];refine mY Ha 5 (.pointer (some ⟨G,0,none⟩)) rfl ?_;simp only [tz];refine mY Ha 6 (.pointer (some ⟨G,0,none⟩)) rfl ?_;simp only [tz];refine mY Ha 7 (.pointer (some ⟨G,1,none⟩)) rfl ?_;simp only [tz];refine mY Ha 8 (.slice (some ⟨gm,0,none⟩) N (L.c m)) rfl ?_;simp only [tz]
            refine mY Ha 9 (.int .i64 (k:Int)) rfl ?_;simp only [tz];refine mY Ha 10 (.pointer (some ⟨gm,k*3,none⟩)) rfl ?_;simp only [tz];refine mY Ha 11 (xc.val) rfl ?_;simp only [tz];refine mY Ha 12 (xf.val) rfl ?_;simp only [tz];refine mY Ha 13 (.pointer (some ⟨G,0,none⟩)) rfl ?_;simp only [tz];refine mY Ha 14 (.pointer (some ⟨G,0,none⟩)) rfl ?_;simp only [tz];refine mY Ha 15 (.pointer (some ⟨G,0,none⟩)) rfl ?_;simp only [tz];refine mY Ha 16 (.slice (some ⟨L.go,0,none⟩) m L.co) rfl ?_;simp only [tz];refine mY Ha 17 (.int .i64 (i:Int)) rfl ?_;simp only [tz];refine mY Ha 18 (.pointer (some ⟨L.go,i,none⟩)) rfl ?_;simp only [tz]
            refine mY Ha 19 (.slice (some ⟨gi,0,none⟩) N (L.c i)) rfl ?_;simp only [tz];refine mY Ha 20 (.int .i64 (k:Int)) rfl ?_;simp only [tz];refine mY Ha 21 (.pointer (some ⟨gi,k*3,none⟩)) rfl ?_;simp only [tz];refine mY Ha 22 (xe.val) rfl ?_;simp only [tz];refine qW Ha 23 rfl fun K hK=>?_;go_simp;go_at_call 63;refine (r16minus_any wd xc xf xe _ _ _ ec.el vf.el ee.el fn.o c7.o eJ.o bt.o l9.o).mono ?_;rintro e we ⟨x3,rfl,e3,bb⟩;replace hx:=hx.below bb;replace vf:=vf.below bb;replace ec:=ec.below bb;replace ee:=ee.below bb;clear bb hH;generalize we=wd at *;refine hK.out _ _ ⟨hx.t.c0,hx.t.c1 cH.o,hx.t.rowg f8.o cp.o,vf.c0,vf.c1,vf.c2,ec.c0,ec.c1,ec.c2,ee.c0,ee.c1,ee.c2⟩ fun hH=>?_;clear hK K;try simp only [tz]
            refine mY Ha 24 (.pointer (some ⟨gm,k*3,none⟩)) rfl ?_;simp only [tz];refine Bh Ha 25 rfl fun K hK=>?_;have k0:=ec.c0;have k1:=ec.c1;have k2:=ec.c2;have aF:=ec.f0;have aG:=ec.f1;have aH:=ec.f2;go_simp;clear k0 k1 k2 aF aG aH;have t6:=hx.t.put (k:=k) cH.o e3;have hx2:=hx.put (k:=k) cH.o e3;have vf2:=vf.kp t6.2 hx.t.nl (fun e=>by have:=FX.o.S _ e;have:=FY.o;omega)
            clear hx t6 vf ec ee e3 hH;generalize (((wd.setCell ⟨gm,k*3,none⟩ (.bool x3.b)).setCell ⟨gm,k*3+1,none⟩ (.slice x3.A x3.xs.length x3.c)).setCell ⟨gm,k*3+2,none⟩ (.slice x3.D x3.ys.length x3.d))=wd at *;refine hK.out _ _ ?_;clear hK K;try simp only [tz]
            refine q5 Ha ?_
            go_wp2_with fail;go_roundw
            case rel=>exact ⟨k+1,by omega,by go_num,hx2.congr (cs_congr fun a=>by
             by_cases h1:a=k
             ·rw [if_pos h1,if_pos (by omega),h1,cK.o]
             ·rw [if_neg h1];by_cases h2:a<k
              ·rw [if_pos h2,if_pos (by omega)]
              ·rw [if_neg h2,if_neg (by omega)]),vf2⟩
            case measure=>simp [intOf];omega
          ·have q1:decide ((k:Int)<(N:Int))=false:=decide_eq_false (by omega)
           go_wp2_with fail;go_roundw
           case rel=>exact ⟨i+1,by omega,by go_num,HX.o.cost (fun a ha=>if_pos (by omega))⟩
           case measure=>simp [intOf];omega
--D}
       ·obtain rfl:m=i:=by omega
        iterate 22 (first|go_values|go_skip|go_guarded|go_step|go_upon|go_back | (simp only [Int.not_lt,Int.not_le] at *;go_simp))
        exact r16end w wr p n m N G gt g1 g2 L HW hnl hml cq hNl hNw ip y2 gK gm cH M q8 hMN hx undef rfl _ _ _ _ _ _ _ _ _ _ _ _ _ _ _ _ _ _ _ _ _ _ _ _ _ _ _ _ _ _ _ _ _ _ _ _ _ _ _ _ _ _ _ _ _ _ _ _ _ _ _ _ _ _ _ _ _ _ _ _ _ _ _ _ _ _ _ _ _ _ _ _ _ _ _ _ _ _ _ _ _ _ _ _ _ _ _ _ _ _ _ _ _ _ _ _ _ _ _ _ _ _ _ _ _ _ _ _ _ _ _ _ _ _ _ _ _ _ _ _ _ _ _ _ _ _ _ _ _ _ _ _ _ _ _ _ _ _ _ _ _ _ _ _ _ _ _ _ _ _ _ _ _ _ _ _ _ _ _ _ _ _ _ _ _ _ _ _ _ _ _ _ _ _ _ _ _ _ _ _ _ _ _ _ _ _ _ _ _ _ _ _ _ _ _ _ _ _ _ _ _ _ _ _ _ _ _ _ _ _ _ _ _ _ _ _ _ _ _ _ _ _ _ _ _ _ _ _ _ _ _ _ _ _ _ _ _ _ _ _ _ _ _ _ _ _ _ _ _ _ _ _ _ _ _ _ _ _ _ _ _ _ _ _ _ _ _ _ _ _ _ _ _ _ _ _ _ _ _ _ _ _ _ _ _ _ _ _ _ _ _ _ _ _ _ _ _ _ _ _ _ _ _ _ _ _ _ _ _ _ _ _ _ _ _ _ _ _ _ _ _ _
end Go.Proofs.YtkpfbekmaafehaaGreat
