/- The walk of simplex.begin. -/
import Derived.Test.YtkpfbekmaafehaaGreatSpB
import Derived.Test.YtkpfbekmaafehaaGreatSqK
import Derived.Test.YtkpfbekmaafehaaGreatSqG
import Derived.Deep.CutBlock
import Derived.Deep.DeepCutAuto
import Derived.Deep.RegionHeld3
namespace Go.Proofs.YtkpfbekmaafehaaGreat
open _root_.Go.Proofs.Tryz
set_option maxHeartbeats 8000000
set_option maxRecDepth 100000
open Go.RowKit
theorem yK (q:Rat):sgT false*q=q:=by rw [sgT,if_neg (by simp)];grind
theorem yJ (q:Rat):sgT true*q=((0:Int):Rat)-q:=by rw [sgT,if_pos rfl];grind
theorem Bj {q:Rat} (h:Sz q 128 128):Sz (((0:Int):Rat)-q) 128 128:=by
 have e:((0:Int):Rat)-q = - q:=by grind
 rw [e];exact h.neg
theorem Az (w:World) (n N B:Nat) (T:Nat->Nat->Rat) (e:TypeId) (hB:B<=w.heap.size):Bg (w.alloc (.cells #[.slice none 0 0, .slice none 0 0, .int .i64 (n:Int), .slice none 0 0] e)) B w.heap.size N n [] [] [] T none 0 none 0 none 0:=by
 have hb:=heap_alloc_new w (.cells #[.slice none 0 0, .slice none 0 0, .int .i64 (n:Int), .slice none 0 0] e);refine ⟨⟨by go_simp,by go_simp,Gr.nil _ _,NLr.nil _,fun a h=>by cases h⟩,⟨by go_simp,by go_simp,Gr.nil _ _,NLr.nil _,fun a h=>by cases h⟩,⟨by go_simp,by go_simp,Gr.nil _ _,NLr.nil _,fun a h=>by cases h⟩,by go_simp,⟨fun i hi=>absurd hi (by simp),List.nodup_nil⟩,by simp,hB,⟨_,_,hb,fun u hu=>?_⟩,by simp,(fun a h=>by cases h),(fun a h=>by cases h),fun a h=>by cases h⟩
 simp at hu;rcases hu with rfl|rfl|rfl <;> rfl
theorem BI {g G:Nat} (h:g≠G):∀ad:Addr,(some ⟨g,0,none⟩:Option Addr)=some ad->ad.block≠G:=by
 intro ad e;injection e with e;subst e;exact h
section
variable {G g1 gr H c:Nat} {gs:List Nat} {A1 A2 A3 A':Option Addr}
theorem Bf.push1 (h:Bf G gs A1 A2 A3 g1) (hat:A'.map (·.block)=A1.map (·.block)\/A'.map (·.block)=some H) (hl:g1<H) (hr:¬g1=gr):Bf G (gs ++ [gr]) A' A2 A3 g1:=
 ⟨h.a,fun e=>by
  rcases hat with h1|h1
  ·rw [h1] at e;exact h.b e
  ·rw [h1] at e;injection e with e;omega,h.c,h.d,fun hm=>by
  rcases List.mem_append.1 hm with hm|hm
  ·exact h.e hm
  ·exact hr (by simpa using hm)⟩
theorem Bf.push2 (h:Bf G gs A1 A2 A3 g1) (hat:A'.map (·.block)=A2.map (·.block)\/A'.map (·.block)=some H) (hl:g1<H):Bf G gs A1 A' A3 g1:=
 ⟨h.a,h.b,fun e=>by
  rcases hat with h1|h1
  ·rw [h1] at e;exact h.c e
  ·rw [h1] at e;injection e with e;omega,h.d,h.e⟩
theorem Bf.push3 (h:Bf G gs A1 A2 A3 g1) (hat:A'.map (·.block)=A3.map (·.block)\/A'.map (·.block)=some H) (hl:g1<H):Bf G gs A1 A2 A' g1:=
 ⟨h.a,h.b,h.c,fun e=>by
  rcases hat with h1|h1
  ·rw [h1] at e;exact h.d e
  ·rw [h1] at e;injection e with e;omega,h.e⟩
end
theorem Kp.new3 {S:Nat->Prop} {w w':World} (h:Kp S w w') {g:Nat} (hg:w.heap.size<=g) (i j k:Nat) (v0 v1 v2:Value):Kp S w (((w'.setCell ⟨g,i,none⟩ v0).setCell ⟨g,j,none⟩ v1).setCell ⟨g,k,none⟩ v2):=by
 have hb:=yV (i:=i) (j:=j) (k:=k) (v0:=v0) (v1:=v1) (v2:=v2) (ah w.heap.size w') hg;exact ⟨hb.os.trans h.os,hb.tape.trans h.tape,hb.output.trans h.output,Nat.le_trans h.size hb.size,fun a ha hS=>(hb.block a ha).trans (h.block a ha hS)⟩
theorem Rw.var3 {w:World} {B g N G:Nat} {vs:List Fx} {f:Nat->Rat} {v0 v1 v2 u0 u1 u2:Value} (h:Rw w B g N vs f) (bk:Bk3 w G v0 v1 v2) (e0:dY v0=false) (e1:dY v1=false) (e2:dY v2=false) (hne:g≠G) :
 Rw (((w.setCell ⟨G,0,none⟩ u0).setCell ⟨G,1,none⟩ u1).setCell ⟨G,2,none⟩ u2) B g N vs f:=by
 have ho:∀ad:Addr,(some ⟨g,0,none⟩:Option Addr)=some ad->ad.block≠G:=BI hne;exact ⟨((h.fr.far (p:=⟨G,0,none⟩) ho _).far (p:=⟨G,1,none⟩) ho _).far (p:=⟨G,2,none⟩) ho _,((h.nl.far hne).far hne).far hne,fun v hv=>bD (h.ok v hv) bk e0 e1 e2,h.rp⟩
theorem Rw.mono {w:World} {B g N:Nat} {vs:List Fx} {f f':Nat->Rat} (h:Rw w B g N vs f) (e:∀k,k<vs.length->f k=f' k):Rw w B g N vs f':=⟨h.fr,h.nl,h.ok,fun k hk=>by rw [<-e k hk];exact h.rp k hk⟩
theorem Rw.ev {w:World} {B g N:Nat} {vs:List Fx} {f:Nat->Rat} (h:Rw w B g N vs f) {k:Nat} (hk:k<vs.length):∃x,Ev w g k x (f k):=by
 obtain ⟨h0,h1,h2⟩:=gH vs k hk;have hc:=fun j hj=>World.ownsRow.cellAt h.fr j hj;exact ⟨vs[k],⟨h.ok _ (List.getElem_mem hk),h.rp k hk⟩,(hc (k*3) (by omega)).trans h0,(hc (k*3+1) (by omega)).trans h1,(hc (k*3+2) (by omega)).trans h2,h.fr.free _,h.fr.free _,h.fr.free _,(h.fr.lt g rfl).2⟩
theorem mX {ops:Array Oper} {rest:List Oper} {o:Oper} {a:Act} {Q:Exit->Act->World->Prop} (w:World) (B:Nat)
 (hgd:o.guard=none) (l c:Operand) (hop:o.op=Op.makeSlice 22 l c) (C:Int) (n:Nat) (hl:a.eval l = .int .i64 0) (hc:a.eval c = .int .i64 C) (hC:C=(n:Int)) (hN:n<=1000) (hB:B<=w.heap.size)
 (h:∀w',Fr w' B (some ⟨w.heap.size,0,none⟩) n []->NL w' w.heap.size->Below w.heap.size w w'->w.heap.size<w'.heap.size->wpList prog ops Q rest (a.put o.dst (.slice (some ⟨w.heap.size,0,none⟩) 0 n)) w'):wpList prog ops Q (o::rest) a w:=by
 obtain ⟨f1,f2⟩:=BX (B:=B) w n hN hB;exact mW w hgd l c hop 0 C 0 n hl hc rfl hC (by omega) hN (h _ f1 f2 (qc w _) (by simp))
theorem uK (w:World) (p:Pg) (h:p.ok w) (sm:p.sm) (vd:p.vd) :
 Calls prog 50 #[p.val] w fun e w'=>∃L:Lay,e = .returned (.pointer (some ⟨L.G,0,none⟩))/\Tw w' w.heap.size L (DM p.rows.length p.cost.vs.length p.a p.b)/\L.n=p.cost.vs.length/\L.gs.length=p.rows.length/\(∀i,i<p.rows.length->L.ts.getD i false=decide (p.b i<0))/\Below w.heap.size w w':=by
 have HO:=ag h;have bt:=ag sm;have bN:=ag vd;obtain ⟨n,hn⟩:∃n,p.cost.vs.length=n:=⟨_,rfl⟩;obtain ⟨m,hm⟩:∃m,p.rows.length=m:=⟨_,rfl⟩;have hnl:n<=256:=by rw [<-hn];exact vd.c2
 have hml:m<=32:=by rw [<-hm];exact vd.r2
 have HN:=ag hn;have HM:=ag hm;have rz:Hd (1<=m):=ag (by rw [<-hm];exact vd.r1)
 have HK:Hd (p.right.vs.length=m):=ag (by rw [<-hm];exact vd.lb)
 obtain ⟨T,hT⟩:∃T,dG m n p.a p.b=T:=⟨_,rfl⟩;have o9:=ag hT;rw [hm,hn];obtain ⟨i1,si,si0,si1,si2⟩:=info_parts jt;obtain ⟨i2,ji,ji0,ji1,ji2⟩:=info_parts tM;obtain ⟨i3,ki,ki0,ki1,ki2⟩:=info_parts yi;obtain ⟨N,hNV⟩:∃N,N=n+m+1:=⟨_,rfl⟩;have cq:=ag hNV;have hNl:N<=1000:=by omega
 clear h sm vd hn hm hT hNV;go_enter func50,ntmps50;go_upto_region 1 with fail;have pb:=(aY w p 25).1;have bw:=(aY w p 25).2;generalize (w.alloc (.cells #[.slice p.cost.A p.cost.vs.length p.cost.c, .slice p.rA p.rows.length p.rc, .slice p.right.A p.right.vs.length p.right.c] 25))=wm at pb bw|-;obtain ⟨g1,hg1⟩:∃g,w.heap.size=g:=⟨_,rfl⟩;have fl:Hd (w.heap.size<=g1):=ag (Nat.le_of_eq hg1);have pb1:Pb wm g1 p:=by rw [<-hg1];exact pb
 rw [hg1];clear hg1 pb;have c0:wm.cell? ⟨g1,0,none⟩=some (.slice p.cost.A n p.cost.c):=by rw [<-HN.o];exact pb1.c0
 go_upto_region 2 with fail;have bg:=Az wm n N w.heap.size T 85 bw.size;have bb:=qc wm (.cells #[.slice none 0 0, .slice none 0 0, .int .i64 (n:Int), .slice none 0 0] 85);have Fs:Hd (¬g1=wm.heap.size):=ag (by have:=pb1.lt;omega)
 have u3:Hd (w.heap.size<=wm.heap.size):=ag bw.size;replace pb1:=pb1.below bb;replace bw:=qd bw bb;clear c0 bb;generalize (wm.alloc (.cells #[.slice none 0 0, .slice none 0 0, .int .i64 (n:Int), .slice none 0 0] 85))=wx at *;generalize wm.heap.size=G at *;clear wm;obtain ⟨rA,hrA⟩:∃x,p.rA=x:=⟨_,rfl⟩;have gu:=ag hrA;have c1:wx.cell? ⟨g1,1,none⟩=some (.slice rA m p.rc):=by rw [<-HM.o,<-hrA];exact pb1.c1
 clear hrA;go_wp2_with fail;clear c1;go_loopw [21] (fun iv wr=>∃(i:Nat) (gs:List Nat) (bs:List Int) (ts:List Bool) (A1:Option Addr) (c1:Nat) (A2:Option Addr) (c2:Nat) (A3:Option Addr) (c3:Nat),i<=m/\iv = .int .i64 i/\gs.length=i/\bs.length=i/\ts.length=i/\(∀k (h:k<bs.length),bs[k]=((n+k:Nat):Int))/\(∀k (h:k<ts.length),ts[k]=decide (p.b k<0))/\Bg wr w.heap.size G N n gs bs ts T A1 c1 A2 c2 A3 c3/\Pb wr g1 p/\Bf G gs A1 A2 A3 g1/\Below w.heap.size w wr) (fun iv _=>m-(intOf iv).toNat)
 case atStart=>exact ⟨0,[],[],[],none,0,none,0,none,0,by omega,rfl,rfl,rfl,rfl,(fun k h=>absurd h (by simp)),(fun k h=>absurd h (by simp)),bg,pb1,⟨Fs.o,(fun e=>by cases e),(fun e=>by cases e),(fun e=>by cases e),(by simp)⟩,bw⟩
 case round=>
  clear bg pb1 bw;obtain ⟨i,gs,bs,ts,A1,c1,A2,c2,A3,c3,hi,rfl,hgl,hbl,htl,hbs,hts,bg,pb,hb1,bw⟩:=hrel;have dK:=ag hb1;have fy:=ag hgl;have lf:=ag hbl;have br:=ag htl;have rB:=ag hbs;have Eh:=ag hts;have ks:=ag bg;have bq:=ag pb;have aw:=ag bw;clear hgl hbl htl hbs hts bg pb bw hb1;by_cases hlt:i<m
  ·have hir:i<p.rows.length:=by rw [HM.o];exact hlt
   have hib:i<p.right.vs.length:=by rw [HK.o];exact hlt
   have hrd:Rd Sl.val wr rA p.rows:=by rw [<-gu.o];exact HO.o.rd.below aw.o rfl
   obtain ⟨ad0,rfl,_,hc⟩:=hrd (by omega)
   have hcj:=hc i hir;have de:=ag (List.getElem_mem hir);have pa:Hd (∀j,j<n->p.a i j=(p.rows[i].vs.getD j Fx.nil).q):=ag (fun j _=>by rw [Pg.a,bC _ _ _ hir])
   obtain ⟨s,hs⟩:∃s,p.rows[i]=s:=⟨_,rfl⟩;rw [hs] at hcj de pa;have gN:Hd (s.vs.length=n):=ag (by rw [<-HN.o];exact bN.o.la s de.o)
   have hcs:wr.cell? (ad0.add i)=some (.slice s.A n s.c):=by rw [<-gN.o];exact hcj
   obtain ⟨ad,hra,ef⟩:=(HO.o.right.below aw.o).rd.at i hib;have fp:Hd (p.b i=p.right.vs[i].q):=ag (by rw [Pg.b,bC _ _ _ hib])
   have hmr:=List.getElem_mem hib;obtain ⟨xr,hxr⟩:∃x,p.right.vs[i]=x:=⟨_,rfl⟩;rw [hxr] at fp hmr;have ef0:Ef wr (ad.add (i*3)) xr:=by rw [<-hxr];exact ef
   have u4:Hd xr.v:=ag (bN.o.vb xr hmr);have i5:=ag (bt.o.eb xr hmr);have tc:=ag ((HO.o.right.below aw.o).el xr hmr);have fm:Hd (∀w',Below wr.heap.size wr w'->w'.cell? ⟨g1,2,none⟩=some (.slice (some ad) m p.right.c)):=ag (fun w' hb=>by
    have:=(bq.o.below hb).c2;rw [show p.right.val = .slice p.right.A p.right.vs.length p.right.c from rfl,hra,HK.o] at this;exact this)
   have gF:=ag ef0;have cc2:=fm.o wr (ah _ _);have e0:=ef0.c0;have e1:=ef0.c1;have e2:=ef0.c2;clear hc hcj hs hrd hra ef hmr hxr ef0;obtain ⟨z,hz⟩:∃z,bA xr.q 0=z:=⟨_,rfl⟩;have HZ:Hd ((if nv xr.xs=0 then 0 else if xr.b then -1 else 1:Int)=z):=ag (by rw [Bm u4.o];exact hz)
   have u5:Hd (decide (z<0)=decide (p.b i<0)):=ag (by
    rw [fp.o];rcases du xr.q 0 with ⟨k1,k2⟩|⟨k1,k2⟩|⟨k1,k2⟩
    ·rw [decide_eq_true k1,<-hz,k2];rfl
    ·rw [k1,<-hz,k2];rfl
    ·rw [<-hz,k2,decide_eq_false (show ¬xr.q<0 by grind)];rfl)
   clear hz;go_upto_region 5 with fail
   go_cut [6] (fun v wx=>v = .bool (decide (p.b i<0))/\Below wr.heap.size wr wx)
   case first=>
    go_wp2_with fail;refine (pY wr xr z tc.o i5.o.1 HZ.o).mono ?_;rintro e w5 ⟨rfl,bb⟩;go_wp2_with fail;go_meet
    case rel=>exact ⟨by rw [u5.o],bb⟩
   case rest=>
    obtain ⟨rfl,bb⟩:=hcut;replace ks:=ag (ks.o.below bb);replace bq:=ag (bq.o.below bb);replace aw:=ag (qd aw.o bb);clear cc2 e0 e1 e2 hcs fm gF tc HZ u5 bb;obtain ⟨tb,htb⟩:∃t,decide (p.b i<0)=t:=⟨_,rfl⟩;have wX:=ag htb;rw [htb];generalize wc=wr at *;have cc1:wr.cell? ⟨g1,1,none⟩=some (.slice (some ad0) m p.rc):=by rw [<-HM.o,<-gu.o];exact bq.o.c1
    have hNw:((n:Int)+(m:Int))+1=(N:Int):=by rw [cq.o];omega
    clear htb z;go_upto_region 7 with (refine mX wr w.heap.size rfl _ _ rfl (N:Int) N rfl rfl rfl hNl aw.o.size ?_;intro wy fr0 nl0 bb hrs);have rC:Hd (Bf G gs A1 A2 A3 wr.heap.size):=ag (ks.o.free (Nat.le_refl _));have pA:Hd (¬g1=wr.heap.size):=ag (by have:=bq.o.lt;omega)
    have wY:Hd (w.heap.size<=wr.heap.size):=ag aw.o.size;have B9:Hd (Rw wy w.heap.size wr.heap.size N [] (fun k=>sgT tb*(if k<n then p.a i k else p.b i))):=ag ⟨fr0,nl0,(fun v hv=>absurd hv (by simp)),fun k hk=>absurd hk (by simp)⟩
    replace ks:=ag (ks.o.below bb);replace bq:=ag (bq.o.below bb);replace aw:=ag (qd aw.o bb);clear fr0 nl0 cc1 bb hNw;generalize wr.heap.size=gr at rC pA wY B9 hrs|-;have xa:Hd (gr<wy.heap.size):=ag hrs;clear hrs;clear wr;generalize wy=wr at *;have iu:=ag ((HO.o.rows s de.o).below aw.o);obtain ⟨ad,hra,ef⟩:=(HO.o.right.below aw.o).rd.at i hib;obtain ⟨xr,hxr⟩:∃x,p.right.vs[i]=x:=⟨_,rfl⟩;have gF:Hd (Ef wr (ad.add (i*3)) xr):=ag (by rw [<-hxr];exact ef)
    have lv:Hd (xr.ok wr):=ag (by rw [<-hxr];exact (HO.o.right.below aw.o).el _ (List.getElem_mem hib))
    have fp:Hd (p.b i=xr.q):=ag (by rw [Pg.b,bC _ _ _ hib,hxr])
    have m3:Hd (xr∈p.right.vs):=ag (by rw [<-hxr];exact List.getElem_mem hib)
    have fm:Hd (∀w',Below wr.heap.size wr w'->w'.cell? ⟨g1,2,none⟩=some (.slice (some ad) m p.right.c)):=ag (fun w' hb=>by
     have:=(bq.o.below hb).c2;rw [show p.right.val = .slice p.right.A p.right.vs.length p.right.c from rfl,hra,HK.o] at this;exact this)
    clear hra ef hxr;obtain ⟨n1,hn1⟩:∃x,x=n+1:=⟨_,rfl⟩;have eE:=ag hn1;clear hn1
    go_cut [49,50,51] (fun v49 v50 v51 wx=>∃(A49:Option Addr) (c49:Nat),v49 = .slice A49 n1 c49/\v50 = .int .i64 (n1:Int)/\v51 = .int .i64 0/\Fr wx wr.heap.size A49 c49 (s.vs ++ [xr])/\Below wr.heap.size wr wx)
    case first=>
     have a7:Hd (∀w',Below wr.heap.size wr w'->(w'.cell? ⟨g1,2,none⟩=some (.slice (some ad) m p.right.c)/\w'.cell? (ad.add (i*3))=some (.bool xr.b)/\w'.cell? ⟨(ad.add (i*3)).block,(ad.add (i*3)).off+1,none⟩=some (.slice xr.A xr.xs.length xr.c)/\w'.cell? ⟨(ad.add (i*3)).block,(ad.add (i*3)).off+2,none⟩=some (.slice xr.D xr.ys.length xr.d))):=ag (fun _ bz=>⟨fm.o _ bz,(gF.o.below bz).c0,(gF.o.below bz).c1,(gF.o.below bz).c2⟩);refine fR a7 (by kernel_rfl) fun hH=>?_
     have bz:=(ah wr.heap.size wr).drew;generalize wr.drew=wd at *;refine qj 11 fun Ha=>?_
     refine qh Ha 0 (.slice s.A n s.c) rfl ?_;refine qh Ha 2 (.pointer (some ⟨g1,2,none⟩)) rfl ?_;refine qh Ha 3 (.slice (some ad) m p.right.c) rfl ?_;refine qh Ha 4 (.int .i64 (i:Int)) rfl ?_;refine qh Ha 5 (.pointer (some (ad.add (i*3)))) rfl ?_;refine qh Ha 6 (xr.val) rfl ?_;refine tks Ha 10 (.int .i64 0) rfl ?_;simp only [tz];refine wpAnyH_ready (rs := [1,7]) (tkn Ha (by kernel_rfl)) (by simp) ?_
     refine AllReadyH.cons rfl (fun K hK=>?_) ?_
     ·refine ek wd rfl _ _ rfl rfl (B:=wr.heap.size) (A:=none) (xs := []) rfl rfl (rR _ _) s.A n s.c s.vs rfl gN.o.symm (iu.o.below bz).rd (by omega) bz.size ?_
      intro A42 c42 we fr42 _ h3 _;rw [List.nil_append] at fr42;have bb:Below wd.heap.size wd we:=(ah _ _).grown h3 (Nat.le_refl _) (by intro k hk;cases hk)
      clear h3
      try replace lit:=lit.below bb
      try replace fr42:=fr42.below bb
      replace bz:=qd bz bb;clear bb;clear hH;generalize we=wd at *;refine hK.out _ _ (a7.o _ bz) fun hH=>?_;clear hK K;try simp only [tz]
      refine tk1 Ha 7 rfl fun K hK=>?_;go_simp;have lit:=j3 (lv.o.below bz);have bb:=(au (lv.o.below bz)).2
      try replace fr42:=fr42.below bb
      replace bz:=qd bz bb;clear bb hH;generalize wd.heap.size=g48 at lit|-;generalize (wd.alloc (.cells #[.bool xr.b, .slice xr.A xr.xs.length xr.c, .slice xr.D xr.ys.length xr.d] 29))=wd at *;refine hK.out _ _ (a7.o _ bz) fun hH=>?_;clear hK K;try simp only [tz]
      refine tk1 Ha 8 rfl fun K hK=>?_;refine ek wd rfl _ _ rfl rfl (B:=wr.heap.size) rfl (by first|exact gN.o.symm | (rw [Nat.zero_add];exact gN.o.symm)) fr42 (some ⟨g48,0,none⟩) 1 1 [xr] rfl rfl lit (by omega) bz.size ?_
      intro A49 c49 we fr49 h2 _ _;replace bz:=bz.trans h2;clear h2 fr42 lit hH;generalize we=wd at *;refine hK.out _ _ (a7.o _ bz) fun hH=>?_;clear hK K;try simp only [tz]
      refine tks Ha 9 (.int .i64 ((0+n+1:Nat):Int)) rfl ?_;simp only [tz];refine qp Ha ?_
      go_wp2_with fail;go_meet
      case rel=>exact ⟨A49,c49,by first | (rw [eE.o];done) | (rw [eE.o];rfl) | (rw [eE.o,Nat.zero_add];done),by first | (rw [eE.o];done) | (rw [eE.o];rfl) | (rw [eE.o,Nat.zero_add];done) | (rw [eE.o,Nat.zero_add];rfl),rfl,fr49,bz⟩
     refine AllReadyH.cons rfl (fun K hK=>?_) ?_
     ·go_simp;have lit:=j3 (lv.o.below bz);have bb:=(au (lv.o.below bz)).2
      try replace fr42:=fr42.below bb
      replace bz:=qd bz bb;clear bb hH;generalize wd.heap.size=g48 at lit|-;generalize (wd.alloc (.cells #[.bool xr.b, .slice xr.A xr.xs.length xr.c, .slice xr.D xr.ys.length xr.d] 29))=wd at *;refine hK.out _ _ (a7.o _ bz) fun hH=>?_;clear hK K;try simp only [tz]
      refine tk1 Ha 1 rfl fun K hK=>?_;refine ek wd rfl _ _ rfl rfl (B:=wr.heap.size) (A:=none) (xs := []) rfl rfl (rR _ _) s.A n s.c s.vs rfl gN.o.symm (iu.o.below bz).rd (by omega) bz.size ?_
      intro A42 c42 we fr42 _ h3 _;rw [List.nil_append] at fr42;have bb:Below wd.heap.size wd we:=(ah _ _).grown h3 (Nat.le_refl _) (by intro k hk;cases hk)
      clear h3
      try replace lit:=lit.below bb
      try replace fr42:=fr42.below bb
      replace bz:=qd bz bb;clear bb;clear hH;generalize we=wd at *;refine hK.out _ _ (a7.o _ bz) fun hH=>?_;clear hK K;try simp only [tz]
      refine tk1 Ha 8 rfl fun K hK=>?_;refine ek wd rfl _ _ rfl rfl (B:=wr.heap.size) rfl (by first|exact gN.o.symm | (rw [Nat.zero_add];exact gN.o.symm)) fr42 (some ⟨g48,0,none⟩) 1 1 [xr] rfl rfl lit (by omega) bz.size ?_
      intro A49 c49 we fr49 h2 _ _;replace bz:=bz.trans h2;clear h2 fr42 lit hH;generalize we=wd at *;refine hK.out _ _ (a7.o _ bz) fun hH=>?_;clear hK K;try simp only [tz]
      refine tks Ha 9 (.int .i64 ((0+n+1:Nat):Int)) rfl ?_;simp only [tz];refine qp Ha ?_
      go_wp2_with fail;go_meet
      case rel=>exact ⟨A49,c49,by first | (rw [eE.o];done) | (rw [eE.o];rfl) | (rw [eE.o,Nat.zero_add];done),by first | (rw [eE.o];done) | (rw [eE.o];rfl) | (rw [eE.o,Nat.zero_add];done) | (rw [eE.o,Nat.zero_add];rfl),rfl,fr49,bz⟩
     exact AllReadyH.nil
    case rest=>
     obtain ⟨A49,c49,rfl,rfl,rfl,fr49,bb⟩:=hcut;replace ks:=ag (ks.o.below bb);replace bq:=ag (bq.o.below bb);replace aw:=ag (qd aw.o bb);have d5:=ag (B9.o.below bb);have td:Hd (∀k (h:k<(s.vs ++ [xr]).length),(s.vs ++ [xr])[k].ok wc/\(s.vs ++ [xr])[k].v/\((s.vs ++ [xr])[k].xs.length<=10000/\(s.vs ++ [xr])[k].ys.length<=10000)/\(if k<n then p.a i k else p.b i)=(s.vs ++ [xr])[k].q):=ag (fun k hk=>by
      rw [List.length_append,List.length_singleton,gN.o] at hk;rcases Nat.lt_or_ge k s.vs.length with h1|h1
      ·rw [List.getElem_append_left h1];have hm:=List.getElem_mem h1;exact ⟨(iu.o.el _ hm).below bb,bN.o.va s de.o _ hm,bt.o.ea s de.o _ hm,by rw [if_pos (by have:=gN.o;omega),pa.o k (by have:=gN.o;omega),bC _ _ _ h1]⟩
      ·have e:k=s.vs.length:=by have:=gN.o;omega
       subst e;rw [List.getElem_append_right (Nat.le_refl _)];simp only [Nat.sub_self,List.getElem_cons_zero];exact ⟨lv.o.below bb,bN.o.vb xr m3.o,bt.o.eb xr m3.o,by rw [if_neg (by have:=gN.o;omega),fp.o]⟩)
     have pv:Hd ((s.vs ++ [xr]).length=n1):=ag (by rw [List.length_append,List.length_singleton,gN.o,eE.o])
     have xj:Hd (∀ad,A49=some ad->¬ad.block=gr):=ag (fun ad e=>by
      have:=fr49.lt ad.block (by rw [e];rfl)
      have:=xa.o;omega)
     have kf:=ag fr49.rd;replace xa:Hd (gr<wc.heap.size):=ag (Nat.lt_of_lt_of_le xa.o bb.size);obtain ⟨es,hes⟩:∃es,s.vs ++ [xr]=es:=⟨_,rfl⟩;rw [hes] at td pv kf;clear hes fr49 lv m3 gF iu fm B9 bb pa fp gN;have Cj:Hd (∀a,a=gr->NL wc a):=ag (fun a e=>by rw [e];exact d5.o.nl)
     obtain ⟨f,hf⟩:∃f:Nat->Rat,(fun k=>sgT tb*(if k<n then p.a i k else p.b i))=f:=⟨_,rfl⟩
     rw [hf] at d5;have HF:Hd (∀k,f k=sgT tb*(if k<n then p.a i k else p.b i)):=ag (fun k=>by rw [<-hf])
     clear hf;generalize wc=w7 at *;go_wp2_with fail;go_loopw [7,51] (fun rv iv wr=>∃(k:Nat) (vs:List Fx),k<=n1/\iv = .int .i64 k/\rv = .slice (some ⟨gr,0,none⟩) k N/\vs.length=k/\Rw wr w.heap.size gr N vs f/\Kp (fun a=>a=gr) w7 wr) (fun _ iv _=>n1-(intOf iv).toNat)
     case atStart=>exact ⟨0,[],by omega,rfl,rfl,rfl,d5.o,Kp.refl _ _⟩
     case round=>
      clear d5;obtain ⟨k,vs,hk,rfl,rfl,hvl,rw_,kp⟩:=hrel;have cC:=ag hvl;have d5:=ag rw_;have ax:=ag kp;clear hvl rw_ kp;by_cases hkn:k<n1
      ·have hke:k<es.length:=by rw [pv.o];exact hkn
       obtain ⟨a9,rfl,ef⟩:=(ax.o.rdf kf.o (fun _ ad e=>xj.o ad e)).at k hke;obtain ⟨ok7,hv,hl9,hq⟩:=td.o k hke;have ok:=ax.o.ok ok7 Cj.o;have uU:Hd (f k=sgT tb*es[k].q):=ag (by rw [HF.o,hq])
       obtain ⟨xe0,hx⟩:∃x,es[k]=x:=⟨_,rfl⟩;have ef0:Ef wr (a9.add (k*3)) es[k]:=ef;rw [hx] at ef0 ok hv hl9 uU;have d0:=ef0.c0;have d1:=ef0.c1;have d2:=ef0.c2;have Ei:=ag hl9;have Ac:Hd (gz xe0=okS xe0.q):=ag (gp hv);have eJ:Hd (Sz xe0.q 128 128):=ag (kB hv).2;clear hx ef ef0 ok7 hq hl9 hv;go_upto_region 10 with fail;have a1:=(au ok).1;have bb:=(au ok).2;clear d0 d1 d2 ok;have ov:=ag ax.o.size;replace d5:=ag (d5.o.below bb);replace ax:=ag (ax.o.then bb)
       have xQ:Hd (¬gr=wr.heap.size):=ag (by have:=xa.o;have h2:=ov.o;omega)
       generalize (wr.alloc (.cells #[.bool xe0.b, .slice xe0.A xe0.xs.length xe0.c, .slice xe0.D xe0.ys.length xe0.d] 29))=wm at a1 bb d5 ax xQ|-;clear bb;generalize wr.heap.size=g9 at a1 xQ ov|-;have d0:=a1.c0;have d1:=a1.c1;have d2:=a1.c2;have m8:=ag a1;clear a1;go_wp2_with fail;refine (dZ wm xe0 _ m8.o.ok Ei.o.1 Ei.o.2 Ac.o).mono ?_;rintro e wn ⟨xe,rfl,hs1,ok1,bb⟩;have RP:=ag (Rp.of hs1);clear hs1 d0 d1 d2;have v9:=m8.o.below bb;have t:=v9.bk;obtain ⟨k0,k1,k2,aF,aG,aH,_,_⟩:=t;go_upto_region 11 with fail;clear k0 k1 k2 aF aG aH;have va:Vl (((wn.setCell ⟨g9,0,none⟩ (.bool xe.b)).setCell ⟨g9,1,none⟩ (.slice xe.A xe.xs.length xe.c)).setCell ⟨g9,2,none⟩ (.slice xe.D xe.ys.length xe.d)) g9 xe xe0.q:=⟨v9.put ok1,RP.o⟩
       have rw9:=(d5.o.below bb).var3 (u0 := .bool xe.b) (u1 := .slice xe.A xe.xs.length xe.c) (u2 := .slice xe.D xe.ys.length xe.d) v9.bk rfl rfl rfl xQ.o;have kp9:=(ax.o.then bb).new3 (g:=g9) ov.o 0 1 2 (.bool xe.b) (.slice xe.A xe.xs.length xe.c) (.slice xe.D xe.ys.length xe.d)
       clear v9 ok1 bb m8 d5 ax;generalize (((wn.setCell ⟨g9,0,none⟩ (.bool xe.b)).setCell ⟨g9,1,none⟩ (.slice xe.A xe.xs.length xe.c)).setCell ⟨g9,2,none⟩ (.slice xe.D xe.ys.length xe.d))=wp at va rw9 kp9|-;generalize wp=wr at *;have pD:=ag va;have d5:=ag rw9;have ax:=ag kp9;clear va rw9 kp9
       go_upto_if 60 with fail
       go_cut [] (fun wx=>∃x3,Vl wx g9 x3 (f k)/\Rw wx w.heap.size gr N vs f/\Kp (fun a=>a=gr) w7 wx)
       case first=>
        cases tb
        ·have nu:Hd (f k=xe0.q):=ag (by rw [uU.o,yK])
         go_wp2_with fail;go_meet
         case rel=>exact ⟨xe,by rw [nu.o];exact pD.o,d5.o,ax.o⟩
        ·have nu:Hd (f k=((0:Int):Rat)-xe0.q):=ag (by rw [uU.o,yJ])
         have ta:Hd (Sz ((0:Int):Rat) 128 128):=ag (iN (z:=0) (by omega)).up
         have c7:Hd (Sz (((0:Int):Rat)-xe0.q) 128 128):=ag (Bj eJ.o);go_upto_region 12 with fail;refine wp_region_held_drew (S:=fun w'=>True) (by kernel_rfl) trivial fun hH=>?_
         have bz:=(ah wr.heap.size wr).drew;generalize wr.drew=wd at *;refine qj 7 fun Ha=>?_
         refine wpAnyH_ready (rs := [0,1]) (tkn Ha (by kernel_rfl)) (by simp) ?_
         refine AllReadyH.cons rfl (fun K hK=>?_) ?_
         ·go_simp;go_at_call 43;refine (dk wd 0 (by omega) (by omega)).mono ?_
          rintro e wd ⟨x0,rfl,e0,bb⟩;replace bz:=qd bz bb;clear bb;refine hK.out _ _ trivial fun hH=>?_;clear hK K;try simp only [tz]
          refine tk1 Ha 1 rfl fun K hK=>?_;have ev:=pD.o.below bz;have k0:=ev.c0;have k1:=ev.c1;have k2:=ev.c2;go_simp;clear ev k0 k1 k2;refine hK.out _ _ trivial fun hH=>?_;clear hK K;try simp only [tz]
          refine tk1 Ha 2 rfl fun K hK=>?_;go_simp;go_at_call 89;refine (fX wd x0 xe _ _ e0 (pD.o.below bz).el ta.o eJ.o c7.o).mono ?_;rintro e wd ⟨x3,rfl,r3,ok3,bb⟩;clear e0;replace bz:=qd bz bb;clear bb;refine hK.out _ _ trivial fun hH=>?_;clear hK K;try simp only [tz]
          refine qh Ha 3 (.tuple #[x3.val, .int .i64 0]) rfl ?_;refine qh Ha 4 (x3.val) rfl ?_;refine tks Ha 5 (.int .i64 0) rfl ?_;simp only [tz];refine tk1 Ha 6 rfl fun K hK=>?_;have v9:=pD.o.below bz;have t:=v9.fa.bk;obtain ⟨k0,k1,k2,aF,aG,aH,_,_⟩:=t;go_simp;clear k0 k1 k2 aF aG aH;have rw9:=(d5.o.below bz).var3 (u0 := .bool x3.b) (u1 := .slice x3.A x3.xs.length x3.c) (u2 := .slice x3.D x3.ys.length x3.d) v9.fa.bk rfl rfl rfl xQ.o;have kp9:=(ax.o.then bz).new3 (g:=g9) ov.o 0 1 2 (.bool x3.b) (.slice x3.A x3.xs.length x3.c) (.slice x3.D x3.ys.length x3.d)
          have va:=v9.fa.put ok3;clear hH bz ok3 v9;generalize (((wd.setCell ⟨g9,0,none⟩ (.bool x3.b)).setCell ⟨g9,1,none⟩ (.slice x3.A x3.xs.length x3.c)).setCell ⟨g9,2,none⟩ (.slice x3.D x3.ys.length x3.d))=we at *;generalize we=wd at *;refine hK.out _ _ trivial fun hH=>?_;clear hK K;try simp only [tz]
          refine qp Ha ?_
          go_wp2_with fail;go_meet
          case rel=>exact ⟨x3,by rw [nu.o];exact ⟨va,r3⟩,rw9,kp9⟩
         refine AllReadyH.cons rfl (fun K hK=>?_) ?_
         ·have ev:=pD.o.below bz;have k0:=ev.c0;have k1:=ev.c1;have k2:=ev.c2;go_simp;clear ev k0 k1 k2;refine hK.out _ _ trivial fun hH=>?_;clear hK K;try simp only [tz]
          refine tk1 Ha 0 rfl fun K hK=>?_;go_simp;go_at_call 43;refine (dk wd 0 (by omega) (by omega)).mono ?_
          rintro e wd ⟨x0,rfl,e0,bb⟩;replace bz:=qd bz bb;clear bb;refine hK.out _ _ trivial fun hH=>?_;clear hK K;try simp only [tz]
          refine tk1 Ha 2 rfl fun K hK=>?_;go_simp;go_at_call 89;refine (fX wd x0 xe _ _ e0 (pD.o.below bz).el ta.o eJ.o c7.o).mono ?_;rintro e wd ⟨x3,rfl,r3,ok3,bb⟩;clear e0;replace bz:=qd bz bb;clear bb;refine hK.out _ _ trivial fun hH=>?_;clear hK K;try simp only [tz]
          refine qh Ha 3 (.tuple #[x3.val, .int .i64 0]) rfl ?_;refine qh Ha 4 (x3.val) rfl ?_;refine tks Ha 5 (.int .i64 0) rfl ?_;simp only [tz];refine tk1 Ha 6 rfl fun K hK=>?_;have v9:=pD.o.below bz;have t:=v9.fa.bk;obtain ⟨k0,k1,k2,aF,aG,aH,_,_⟩:=t;go_simp;clear k0 k1 k2 aF aG aH;have rw9:=(d5.o.below bz).var3 (u0 := .bool x3.b) (u1 := .slice x3.A x3.xs.length x3.c) (u2 := .slice x3.D x3.ys.length x3.d) v9.fa.bk rfl rfl rfl xQ.o;have kp9:=(ax.o.then bz).new3 (g:=g9) ov.o 0 1 2 (.bool x3.b) (.slice x3.A x3.xs.length x3.c) (.slice x3.D x3.ys.length x3.d)
          have va:=v9.fa.put ok3;clear hH bz ok3 v9;generalize (((wd.setCell ⟨g9,0,none⟩ (.bool x3.b)).setCell ⟨g9,1,none⟩ (.slice x3.A x3.xs.length x3.c)).setCell ⟨g9,2,none⟩ (.slice x3.D x3.ys.length x3.d))=we at *;generalize we=wd at *;refine hK.out _ _ trivial fun hH=>?_;clear hK K;try simp only [tz]
          refine qp Ha ?_
          go_wp2_with fail;go_meet
          case rel=>exact ⟨x3,by rw [nu.o];exact ⟨va,r3⟩,rw9,kp9⟩
         exact AllReadyH.nil
       case rest=>
        obtain ⟨x3,v9,rw_,kp⟩:=hcut;have d0:=v9.c0;have d1:=v9.c1;have d2:=v9.c2;have pD:=ag v9;have d5:=ag rw_;have ax:=ag kp;clear v9 rw_ kp;have hkN:k+1<=N:=by have:=cq.o;have:=eE.o;omega
        go_wp2_with (at_builtin;refine dT _ rfl _ _ rfl rfl (g:=gr) (c:=N) (xs:=vs) (n:=k) rfl cC.o.symm (d5.o.fr.below ((ah _ _).alloc (Nat.le_refl _) _)) (d5.o.nl.below ((ah _ _).alloc (Nat.le_refl _) _)) _ 1 1 [x3] rfl rfl (yP _ x3) (by simp) hkN hNl ?_;intro w8 h1 h2 h3)
        have bb:=(au pD.o.fa.ok).2;have v9:=pD.o.below bb;have rw_:=(d5.o.below bb).push h1 h2 h3 (by rw [cC.o];exact v9.el)
        have kp:=(ax.o.then bb).trans h3
        clear v9 bb h1 h2;go_roundw
        case rel=>exact ⟨k+1,vs ++ [x3],by omega,by go_num,rfl,by rw [List.length_append,cC.o,List.length_singleton],rw_,kp⟩
        case measure=>simp [intOf];omega
      ·obtain rfl:k=n1:=by omega
       obtain ⟨xb0,ev⟩:=d5.o.ev (k:=n) (by rw [cC.o,eE.o];omega)
       have hnk:n<k:=by have:=eE.o;omega
       have k0:=ev.c0;have k1:=ev.c1;have k2:=ev.c2;have bf:=ag ev;have ov:=ag ax.o.size;have hnN:n<=N:=by have:=cq.o;omega
       clear ev;go_upto_region 16 with fail;have v10:Vl (wr.alloc (.cells xb0.cells 29)) wr.heap.size xb0 (f n):=⟨(au bf.o.el.ok).1,bf.o.el.rp⟩;have bb:=(au bf.o.el.ok).2;have u6:Hd (¬wr.heap.size=gr):=ag (by have:=xa.o;have:=ov.o;omega)
       have Ej:Hd (w7.heap.size<=wr.heap.size):=ov;have rw_:=((d5.o.below bb).take n (by rw [cC.o,eE.o];omega)).mono (f':=T i) (fun k hk=>by
        have hkn:k<n:=by simp at hk;omega
        rw [<-o9.o,HF.o,if_pos hkn,kF hkn,wX.o])
       have hvl:(vs.take n).length=n:=by rw [List.length_take,cC.o,eE.o];omega
       replace ax:=ag (ax.o.then bb)
       clear bf d5 cC bb k0 k1 k2 ov;generalize (wr.alloc (.cells #[.bool xb0.b, .slice xb0.A xb0.xs.length xb0.c, .slice xb0.D xb0.ys.length xb0.d] 29))=wm at v10 rw_ ax|-;generalize wr.heap.size=g10 at v10 u6 Ej|-;generalize vs.take n=vs at rw_ hvl;generalize xb0=xb at v10;have cC:=ag hvl;have d5:=ag rw_;have p3:Hd (Vl wm g10 xb (T i (n+m))):=ag (by
        have e:f n=T i (n+m):=by rw [<-o9.o,HF.o,if_neg (by omega),oZ,wX.o]
        rw [<-e];exact v10)
       have cc1:wm.cell? ⟨g1,1,none⟩=some (.slice (some ad0) m p.rc):=by rw [<-HM.o,<-gu.o];exact (bq.o.kp ax.o (fun e=>pA.o e)).c1
       clear v10 rw_ hvl;go_wp2_with fail;go_loopw [7,84] (fun rv iv wr=>∃(j:Nat) (vs:List Fx),j<=m/\iv = .int .i64 j/\rv = .slice (some ⟨gr,0,none⟩) (n+j) N/\vs.length=n+j/\Rw wr w.heap.size gr N vs (T i)/\Vl wr g10 xb (T i (n+m))/\Kp (fun a=>a=gr) w7 wr) (fun _ iv _=>m-(intOf iv).toNat)
       case atStart=>exact ⟨0,vs,by omega,rfl,rfl,cC.o,d5.o,p3.o,ax.o⟩
       case round=>
        clear d5 p3 ax cC cc1;clear vs;obtain ⟨j,vs,hj,rfl,rfl,hvl,rw_,v10,kp⟩:=hrel;have cC:=ag hvl;have d5:=ag rw_;have p3:=ag v10;have ax:=ag kp;clear hvl rw_ v10 kp;by_cases hjm:j<m
        ·have hjN:n+j+1<=N:=by have:=cq.o;omega
         by_cases hji:j=i
         ·have gq:Hd (T i (n+j)=1):=ag (by rw [<-o9.o,iW i hlt j hjm,if_pos hji.symm])
          have hjI:(j:Int)=(i:Int):=by omega
          go_wp2_with fail;refine (mi wr).mono ?_;rintro e w5 ⟨y,rfl,el,bb⟩;replace d5:=ag (d5.o.below bb);replace p3:=ag (p3.o.below bb);replace ax:=ag (ax.o.then bb)
          have xR:=ag el;clear el bb hjI hji;go_wp2_with (at_builtin;refine dT _ rfl _ _ rfl rfl (g:=gr) (c:=N) (xs:=vs) (n:=n+j) rfl cC.o.symm (d5.o.fr.below ((ah _ _).alloc (Nat.le_refl _) _)) (d5.o.nl.below ((ah _ _).alloc (Nat.le_refl _) _)) _ 1 1 [y] rfl rfl (yP _ y) (by simp) hjN hNl ?_;intro w8 h1 h2 h3)
          have bb:=(au xR.o.ok).2;have rw_:=(d5.o.below bb).push h1 h2 h3 (by rw [cC.o,gq.o];exact xR.o.below bb)
          have kp:=(ax.o.then bb).trans h3
          have v10:=(p3.o.below bb).kp h3 (fun a e=>by rw [e];exact (d5.o.below bb).nl) u6.o
          clear bb h1 h2;go_roundw
          case rel=>exact ⟨j+1,vs ++ [y],by omega,by go_num,rfl,by rw [List.length_append,cC.o,List.length_singleton];rfl,rw_,v10,kp⟩
          case measure=>simp [intOf];omega
         ·have gq:Hd (T i (n+j)=0):=ag (by rw [<-o9.o,iW i hlt j hjm,if_neg (fun e=>hji e.symm)])
          have hjI:¬(j:Int)=(i:Int):=by omega
          go_wp2_with fail;refine (dO wr).mono ?_;rintro e w5 ⟨y,rfl,el,bb⟩;replace d5:=ag (d5.o.below bb);replace p3:=ag (p3.o.below bb);replace ax:=ag (ax.o.then bb)
          have xR:=ag el;clear el bb hjI hji;go_wp2_with (at_builtin;refine dT _ rfl _ _ rfl rfl (g:=gr) (c:=N) (xs:=vs) (n:=n+j) rfl cC.o.symm (d5.o.fr.below ((ah _ _).alloc (Nat.le_refl _) _)) (d5.o.nl.below ((ah _ _).alloc (Nat.le_refl _) _)) _ 1 1 [y] rfl rfl (yP _ y) (by simp) hjN hNl ?_;intro w8 h1 h2 h3)
          have bb:=(au xR.o.ok).2;have rw_:=(d5.o.below bb).push h1 h2 h3 (by rw [cC.o,gq.o];exact xR.o.below bb)
          have kp:=(ax.o.then bb).trans h3
          have v10:=(p3.o.below bb).kp h3 (fun a e=>by rw [e];exact (d5.o.below bb).nl) u6.o
          clear bb h1 h2;go_roundw
          case rel=>exact ⟨j+1,vs ++ [y],by omega,by go_num,rfl,by rw [List.length_append,cC.o,List.length_singleton];rfl,rw_,v10,kp⟩
          case measure=>simp [intOf];omega
        ·have hjm2:m=j:=by omega
         subst hjm2;have sh:Hd (Bf G gs A1 A2 A3 g10):=ag (ks.o.free Ej.o);replace ks:=ag (ks.o.kp ax.o Cj.o (fun a e=>by rw [e];exact rC.o))
         replace bq:=ag (bq.o.kp ax.o pA.o);replace aw:=ag (aw.o.trans (ax.o.below (fun a e=>by rw [e];exact wY.o) aw.o.size))
         clear ax td kf xj Cj HF pv;go_upto_region 25 with fail
         go_cut [] (fun wx=>∃(A4:Option Addr) (c4:Nat),Bg wx w.heap.size G N n (gs ++ [gr]) bs ts T A4 c4 A2 c2 A3 c3/\Pb wx g1 p/\Bf G (gs ++ [gr]) A4 A2 A3 g1/\Below w.heap.size w wx)
         case first=>
          have v10:=p3.o.below ((ah wr.heap.size wr).drew);have rw_:=d5.o.below ((ah wr.heap.size wr).drew);have bg:=ks.o.below ((ah wr.heap.size wr).drew);have pb:=bq.o.below ((ah wr.heap.size wr).drew);have bw:=aw.o.drew;refine wp_region_held_drew (S:=fun w'=>w'.cell? ⟨g10,0,none⟩=some (.bool xb.b)/\w'.cell? ⟨g10,1,none⟩=some (.slice xb.A xb.xs.length xb.c)/\w'.cell? ⟨g10,2,none⟩=some (.slice xb.D xb.ys.length xb.d)) (by kernel_rfl) ⟨v10.c0,v10.c1,v10.c2⟩ fun hH=>?_
          have bz:=(ah wr.heap.size wr).drew;generalize wr.drew=wd at *;refine qj 14 fun Ha=>?_
          refine qh Ha 0 (.pointer (some ⟨G,0,none⟩)) rfl ?_;refine qh Ha 1 (.pointer (some ⟨G,0,none⟩)) rfl ?_;refine qh Ha 2 (.pointer (some ⟨G,0,none⟩)) rfl ?_;refine qh Ha 3 (.pointer (some ⟨G,0,none⟩)) rfl ?_;refine qh Ha 5 (.slice (some ⟨gr,0,none⟩) (n+m) N) rfl ?_;refine tks Ha 6 (xb.val) rfl ?_;simp only [tz];refine wpAnyH_ready (rs := [4,7]) (tkn Ha (by kernel_rfl)) (by simp) ?_
          refine AllReadyH.cons rfl (fun K hK=>?_) ?_
          ·have k0:=bg.F1.cell;rw [fy.o] at k0;go_simp;clear k0;refine hK.out _ _ ⟨v10.c0,v10.c1,v10.c2⟩ fun hH=>?_;clear hK K;try simp only [tz]
           refine tk1 Ha 7 rfl fun K hK=>?_;go_simp;have lit:=j3 v10.fa.ok;have bb:=(au v10.fa.ok).2;replace v10:=v10.below bb
           try replace rw_:=rw_.below bb
           try replace qr_:=qr_.below bb
           replace bg:=bg.below bb;replace pb:=pb.below bb;replace bw:=qd bw bb;clear bb hH;generalize wd.heap.size=g103 at lit|-;generalize (wd.alloc (.cells #[.bool xb.b, .slice xb.A xb.xs.length xb.c, .slice xb.D xb.ys.length xb.d] 29))=wd at *;refine hK.out _ _ ⟨v10.c0,v10.c1,v10.c2⟩ fun hH=>?_;clear hK K;try simp only [tz]
           refine tk1 Ha 8 rfl fun K hK=>?_;refine eH wd rfl _ _ rfl rfl rfl cC.o.symm rw_.fr rw_.nl ⟨g103,0,none⟩ 1 1 [xb] rfl rfl lit (by simp) (by have:=cq.o;omega) hNl ?_
           intro we h1 h2 h3;have hgr:∀a,a=gr->NL wd a:=fun a e=>by rw [e];exact rw_.nl
           have rw2:=rw_.push h1 h2 h3 (⟨v10.fa.ok,by rw [cC.o];exact v10.rp⟩:El wd xb _)
           replace v10:=v10.kp h3 hgr u6.o;replace bg:=bg.kp h3 hgr (fun a e=>by rw [e];exact rC.o)
           replace pb:=pb.kp h3 pA.o;replace bw:=bw.trans (h3.below (fun a e=>by rw [e];exact wY.o) bw.size)
           have qr_:=rw2.qr (by rw [List.length_append,cC.o,List.length_singleton,cq.o])
           have lP:=ag rw2.rp;clear h1 h2 h3 rw_ hgr lit rw2 hH;generalize we=wd at *;refine hK.out _ _ ⟨v10.c0,v10.c1,v10.c2⟩ fun hH=>?_;clear hK K;try simp only [tz]
           refine tk1 Ha 9 rfl fun K hK=>?_;go_simp;have lit:Rd (oS N) _ (some ⟨wd.heap.size,0,none⟩) [gr]:=Rd.one_ wd 22 gr (.slice (some ⟨gr,0,none⟩) (n+m+1) N) (by show Value.slice _ (n+m+1) N=Value.slice _ N N;rw [<-cq.o])
           have bb:=qc wd (.cells #[.slice (some ⟨gr,0,none⟩) (n+m+1) N] 22);replace v10:=v10.below bb
           try replace rw_:=rw_.below bb
           try replace qr_:=qr_.below bb
           replace bg:=bg.below bb;replace pb:=pb.below bb;replace bw:=qd bw bb;clear bb hH;generalize wd.heap.size=g105 at lit|-;generalize (wd.alloc (.cells #[.slice (some ⟨gr,0,none⟩) (n+m+1) N] 22))=wd at *;refine hK.out _ _ ⟨v10.c0,v10.c1,v10.c2⟩ fun hH=>?_;clear hK K;try simp only [tz]
           refine tk1 Ha 10 rfl fun K hK=>?_;refine bE wd (mk:=oS N) (fun _=>rfl) (fun _=>rfl) rfl _ _ 23 rfl 22 i1 (.slice none 0 0) 24 underlying23 si si0 si1 si2 rfl (by intro u hu;simp [Value.cells] at hu;subst hu;rfl) rfl fy.o.symm bg.F1.gr bg.F1.nl ⟨g105,0,none⟩ 1 1 [gr] rfl rfl lit (by simp) (by simp only [maxLen];omega) (by omega) bw.size ?_
           intro A4 c4 we h1 h2 h3 h4 h5;have kk:Kp (fun a=>A1.map (·.block)=some a) wd we:=ci h3 (fun k e=>e);have hnl:∀a,A1.map (·.block)=some a->NL wd a:=bg.F1.nl;have k0:=(kk.cell (p:=⟨G,0,none⟩) bg.gl (fun e=>bg.F1.ne G e rfl)).trans bg.F1.cell;have aF:=(kk.frozen (p:=⟨G,0,none⟩) bg.gl (fun e=>bg.F1.ne G e rfl)).trans bg.F1.fz;have bg2:=bg.row qr_ (by rw [List.length_append,cC.o,List.length_singleton,cq.o]) (fun k hk=>by rw [fy.o];exact lP.o k hk) (fun _ _ _ _=>rfl) rC.o h1 h2 kk h5
           obtain ⟨cur,t,e1,hn⟩:=bg.nG;have nG:NL we G:=⟨cur,t,(kk.block _ (Array.getElem?_eq_some_iff.1 e1).1 (fun e=>bg.F1.ne G e rfl)).trans e1,hn⟩;clear e1 hn;have n10:¬A1.map (·.block)=some g10:=sh.o.b;have n1:¬A1.map (·.block)=some g1:=dK.o.b;have hb1:=dK.o.push1 h5 pb.lt pA.o;replace v10:=v10.kp kk hnl n10;replace pb:=pb.kp kk n1;replace bw:=bw.trans h4;rw [fy.o] at bg2;clear h1 h2 h3 h4 h5 kk hnl n10 n1 bg qr_ lit lP hH;generalize we=wd at *;refine hK.out _ _ ⟨v10.c0,v10.c1,v10.c2⟩ fun hH=>?_;clear hK K;try simp only [tz]
           refine qh Ha 11 (.pointer (some ⟨G,0,none⟩)) rfl ?_;refine tks Ha 12 (.pointer (some ⟨G,0,none⟩)) rfl ?_;simp only [tz];refine tk1 Ha 13 rfl fun K hK=>?_;go_simp;clear k0 aF;have kG:Kp (fun a=>a=G) wd (wd.setCell ⟨G,0,none⟩ (.slice A4 (i+1) c4)):=(Kp.refl (fun a=>a=G) wd).set (S:=fun a=>a=G) rfl _ _;replace pb:=pb.kp kG dK.o.a;replace bw:=bw.trans (kG.below (fun a e=>by rw [e];exact u3.o) bw.size)
           replace v10:=v10.kp kG (fun a e=>by rw [e];exact nG) sh.o.a
           clear hH kG nG;generalize (wd.setCell ⟨G,0,none⟩ (.slice A4 (i+1) c4))=wd at *;refine hK.out _ _ ⟨v10.c0,v10.c1,v10.c2⟩ fun hH=>?_;clear hK K;try simp only [tz]
           refine qp Ha ?_
           go_wp2_with fail;go_meet
           case rel=>exact ⟨A4,c4,bg2,pb,hb1,bw⟩
          refine AllReadyH.cons rfl (fun K hK=>?_) ?_
          ·go_simp;have lit:=j3 v10.fa.ok;have bb:=(au v10.fa.ok).2;replace v10:=v10.below bb
           try replace rw_:=rw_.below bb
           try replace qr_:=qr_.below bb
           replace bg:=bg.below bb;replace pb:=pb.below bb;replace bw:=qd bw bb;clear bb hH;generalize wd.heap.size=g103 at lit|-;generalize (wd.alloc (.cells #[.bool xb.b, .slice xb.A xb.xs.length xb.c, .slice xb.D xb.ys.length xb.d] 29))=wd at *;refine hK.out _ _ ⟨v10.c0,v10.c1,v10.c2⟩ fun hH=>?_;clear hK K;try simp only [tz]
           refine wpAnyH_ready (rs := [4,8]) (tkn Ha (by kernel_rfl)) (by simp) ?_
           refine AllReadyH.cons rfl (fun K hK=>?_) ?_
           ·have k0:=bg.F1.cell;rw [fy.o] at k0;go_simp;clear k0;refine hK.out _ _ ⟨v10.c0,v10.c1,v10.c2⟩ fun hH=>?_;clear hK K;try simp only [tz]
            refine tk1 Ha 8 rfl fun K hK=>?_;refine eH wd rfl _ _ rfl rfl rfl cC.o.symm rw_.fr rw_.nl ⟨g103,0,none⟩ 1 1 [xb] rfl rfl lit (by simp) (by have:=cq.o;omega) hNl ?_
            intro we h1 h2 h3;have hgr:∀a,a=gr->NL wd a:=fun a e=>by rw [e];exact rw_.nl
            have rw2:=rw_.push h1 h2 h3 (⟨v10.fa.ok,by rw [cC.o];exact v10.rp⟩:El wd xb _)
            replace v10:=v10.kp h3 hgr u6.o;replace bg:=bg.kp h3 hgr (fun a e=>by rw [e];exact rC.o)
            replace pb:=pb.kp h3 pA.o;replace bw:=bw.trans (h3.below (fun a e=>by rw [e];exact wY.o) bw.size)
            have qr_:=rw2.qr (by rw [List.length_append,cC.o,List.length_singleton,cq.o])
            have lP:=ag rw2.rp;clear h1 h2 h3 rw_ hgr lit rw2 hH;generalize we=wd at *;refine hK.out _ _ ⟨v10.c0,v10.c1,v10.c2⟩ fun hH=>?_;clear hK K;try simp only [tz]
            refine tk1 Ha 9 rfl fun K hK=>?_;go_simp;have lit:Rd (oS N) _ (some ⟨wd.heap.size,0,none⟩) [gr]:=Rd.one_ wd 22 gr (.slice (some ⟨gr,0,none⟩) (n+m+1) N) (by show Value.slice _ (n+m+1) N=Value.slice _ N N;rw [<-cq.o])
            have bb:=qc wd (.cells #[.slice (some ⟨gr,0,none⟩) (n+m+1) N] 22);replace v10:=v10.below bb
            try replace rw_:=rw_.below bb
            try replace qr_:=qr_.below bb
            replace bg:=bg.below bb;replace pb:=pb.below bb;replace bw:=qd bw bb;clear bb hH;generalize wd.heap.size=g105 at lit|-;generalize (wd.alloc (.cells #[.slice (some ⟨gr,0,none⟩) (n+m+1) N] 22))=wd at *;refine hK.out _ _ ⟨v10.c0,v10.c1,v10.c2⟩ fun hH=>?_;clear hK K;try simp only [tz]
            refine tk1 Ha 10 rfl fun K hK=>?_;refine bE wd (mk:=oS N) (fun _=>rfl) (fun _=>rfl) rfl _ _ 23 rfl 22 i1 (.slice none 0 0) 24 underlying23 si si0 si1 si2 rfl (by intro u hu;simp [Value.cells] at hu;subst hu;rfl) rfl fy.o.symm bg.F1.gr bg.F1.nl ⟨g105,0,none⟩ 1 1 [gr] rfl rfl lit (by simp) (by simp only [maxLen];omega) (by omega) bw.size ?_
            intro A4 c4 we h1 h2 h3 h4 h5;have kk:Kp (fun a=>A1.map (·.block)=some a) wd we:=ci h3 (fun k e=>e);have hnl:∀a,A1.map (·.block)=some a->NL wd a:=bg.F1.nl;have k0:=(kk.cell (p:=⟨G,0,none⟩) bg.gl (fun e=>bg.F1.ne G e rfl)).trans bg.F1.cell;have aF:=(kk.frozen (p:=⟨G,0,none⟩) bg.gl (fun e=>bg.F1.ne G e rfl)).trans bg.F1.fz;have bg2:=bg.row qr_ (by rw [List.length_append,cC.o,List.length_singleton,cq.o]) (fun k hk=>by rw [fy.o];exact lP.o k hk) (fun _ _ _ _=>rfl) rC.o h1 h2 kk h5
            obtain ⟨cur,t,e1,hn⟩:=bg.nG;have nG:NL we G:=⟨cur,t,(kk.block _ (Array.getElem?_eq_some_iff.1 e1).1 (fun e=>bg.F1.ne G e rfl)).trans e1,hn⟩;clear e1 hn;have n10:¬A1.map (·.block)=some g10:=sh.o.b;have n1:¬A1.map (·.block)=some g1:=dK.o.b;have hb1:=dK.o.push1 h5 pb.lt pA.o;replace v10:=v10.kp kk hnl n10;replace pb:=pb.kp kk n1;replace bw:=bw.trans h4;rw [fy.o] at bg2;clear h1 h2 h3 h4 h5 kk hnl n10 n1 bg qr_ lit lP hH;generalize we=wd at *;refine hK.out _ _ ⟨v10.c0,v10.c1,v10.c2⟩ fun hH=>?_;clear hK K;try simp only [tz]
            refine qh Ha 11 (.pointer (some ⟨G,0,none⟩)) rfl ?_;refine tks Ha 12 (.pointer (some ⟨G,0,none⟩)) rfl ?_;simp only [tz];refine tk1 Ha 13 rfl fun K hK=>?_;go_simp;clear k0 aF;have kG:Kp (fun a=>a=G) wd (wd.setCell ⟨G,0,none⟩ (.slice A4 (i+1) c4)):=(Kp.refl (fun a=>a=G) wd).set (S:=fun a=>a=G) rfl _ _;replace pb:=pb.kp kG dK.o.a;replace bw:=bw.trans (kG.below (fun a e=>by rw [e];exact u3.o) bw.size)
            replace v10:=v10.kp kG (fun a e=>by rw [e];exact nG) sh.o.a
            clear hH kG nG;generalize (wd.setCell ⟨G,0,none⟩ (.slice A4 (i+1) c4))=wd at *;refine hK.out _ _ ⟨v10.c0,v10.c1,v10.c2⟩ fun hH=>?_;clear hK K;try simp only [tz]
            refine qp Ha ?_
            go_wp2_with fail;go_meet
            case rel=>exact ⟨A4,c4,bg2,pb,hb1,bw⟩
           refine AllReadyH.cons rfl (fun K hK=>?_) ?_
           ·refine eH wd rfl _ _ rfl rfl rfl cC.o.symm rw_.fr rw_.nl ⟨g103,0,none⟩ 1 1 [xb] rfl rfl lit (by simp) (by have:=cq.o;omega) hNl ?_
            intro we h1 h2 h3;have hgr:∀a,a=gr->NL wd a:=fun a e=>by rw [e];exact rw_.nl
            have rw2:=rw_.push h1 h2 h3 (⟨v10.fa.ok,by rw [cC.o];exact v10.rp⟩:El wd xb _)
            replace v10:=v10.kp h3 hgr u6.o;replace bg:=bg.kp h3 hgr (fun a e=>by rw [e];exact rC.o)
            replace pb:=pb.kp h3 pA.o;replace bw:=bw.trans (h3.below (fun a e=>by rw [e];exact wY.o) bw.size)
            have qr_:=rw2.qr (by rw [List.length_append,cC.o,List.length_singleton,cq.o])
            have lP:=ag rw2.rp;clear h1 h2 h3 rw_ hgr lit rw2 hH;generalize we=wd at *;refine hK.out _ _ ⟨v10.c0,v10.c1,v10.c2⟩ fun hH=>?_;clear hK K;try simp only [tz]
            refine wpAnyH_ready (rs := [4,9]) (tkn Ha (by kernel_rfl)) (by simp) ?_
            refine AllReadyH.cons rfl (fun K hK=>?_) ?_
            ·have k0:=bg.F1.cell;rw [fy.o] at k0;go_simp;clear k0;refine hK.out _ _ ⟨v10.c0,v10.c1,v10.c2⟩ fun hH=>?_;clear hK K;try simp only [tz]
             refine tk1 Ha 9 rfl fun K hK=>?_;go_simp;have lit:Rd (oS N) _ (some ⟨wd.heap.size,0,none⟩) [gr]:=Rd.one_ wd 22 gr (.slice (some ⟨gr,0,none⟩) (n+m+1) N) (by show Value.slice _ (n+m+1) N=Value.slice _ N N;rw [<-cq.o])
             have bb:=qc wd (.cells #[.slice (some ⟨gr,0,none⟩) (n+m+1) N] 22);replace v10:=v10.below bb
             try replace rw_:=rw_.below bb
             try replace qr_:=qr_.below bb
             replace bg:=bg.below bb;replace pb:=pb.below bb;replace bw:=qd bw bb;clear bb hH;generalize wd.heap.size=g105 at lit|-;generalize (wd.alloc (.cells #[.slice (some ⟨gr,0,none⟩) (n+m+1) N] 22))=wd at *;refine hK.out _ _ ⟨v10.c0,v10.c1,v10.c2⟩ fun hH=>?_;clear hK K;try simp only [tz]
             refine tk1 Ha 10 rfl fun K hK=>?_;refine bE wd (mk:=oS N) (fun _=>rfl) (fun _=>rfl) rfl _ _ 23 rfl 22 i1 (.slice none 0 0) 24 underlying23 si si0 si1 si2 rfl (by intro u hu;simp [Value.cells] at hu;subst hu;rfl) rfl fy.o.symm bg.F1.gr bg.F1.nl ⟨g105,0,none⟩ 1 1 [gr] rfl rfl lit (by simp) (by simp only [maxLen];omega) (by omega) bw.size ?_
             intro A4 c4 we h1 h2 h3 h4 h5;have kk:Kp (fun a=>A1.map (·.block)=some a) wd we:=ci h3 (fun k e=>e);have hnl:∀a,A1.map (·.block)=some a->NL wd a:=bg.F1.nl;have k0:=(kk.cell (p:=⟨G,0,none⟩) bg.gl (fun e=>bg.F1.ne G e rfl)).trans bg.F1.cell;have aF:=(kk.frozen (p:=⟨G,0,none⟩) bg.gl (fun e=>bg.F1.ne G e rfl)).trans bg.F1.fz;have bg2:=bg.row qr_ (by rw [List.length_append,cC.o,List.length_singleton,cq.o]) (fun k hk=>by rw [fy.o];exact lP.o k hk) (fun _ _ _ _=>rfl) rC.o h1 h2 kk h5
             obtain ⟨cur,t,e1,hn⟩:=bg.nG;have nG:NL we G:=⟨cur,t,(kk.block _ (Array.getElem?_eq_some_iff.1 e1).1 (fun e=>bg.F1.ne G e rfl)).trans e1,hn⟩;clear e1 hn;have n10:¬A1.map (·.block)=some g10:=sh.o.b;have n1:¬A1.map (·.block)=some g1:=dK.o.b;have hb1:=dK.o.push1 h5 pb.lt pA.o;replace v10:=v10.kp kk hnl n10;replace pb:=pb.kp kk n1;replace bw:=bw.trans h4;rw [fy.o] at bg2;clear h1 h2 h3 h4 h5 kk hnl n10 n1 bg qr_ lit lP hH;generalize we=wd at *;refine hK.out _ _ ⟨v10.c0,v10.c1,v10.c2⟩ fun hH=>?_;clear hK K;try simp only [tz]
             refine qh Ha 11 (.pointer (some ⟨G,0,none⟩)) rfl ?_;refine tks Ha 12 (.pointer (some ⟨G,0,none⟩)) rfl ?_;simp only [tz];refine tk1 Ha 13 rfl fun K hK=>?_;go_simp;clear k0 aF;have kG:Kp (fun a=>a=G) wd (wd.setCell ⟨G,0,none⟩ (.slice A4 (i+1) c4)):=(Kp.refl (fun a=>a=G) wd).set (S:=fun a=>a=G) rfl _ _;replace pb:=pb.kp kG dK.o.a;replace bw:=bw.trans (kG.below (fun a e=>by rw [e];exact u3.o) bw.size)
             replace v10:=v10.kp kG (fun a e=>by rw [e];exact nG) sh.o.a
             clear hH kG nG;generalize (wd.setCell ⟨G,0,none⟩ (.slice A4 (i+1) c4))=wd at *;refine hK.out _ _ ⟨v10.c0,v10.c1,v10.c2⟩ fun hH=>?_;clear hK K;try simp only [tz]
             refine qp Ha ?_
             go_wp2_with fail;go_meet
             case rel=>exact ⟨A4,c4,bg2,pb,hb1,bw⟩
            refine AllReadyH.cons rfl (fun K hK=>?_) ?_
            ·go_simp;have lit:Rd (oS N) _ (some ⟨wd.heap.size,0,none⟩) [gr]:=Rd.one_ wd 22 gr (.slice (some ⟨gr,0,none⟩) (n+m+1) N) (by show Value.slice _ (n+m+1) N=Value.slice _ N N;rw [<-cq.o])
             have bb:=qc wd (.cells #[.slice (some ⟨gr,0,none⟩) (n+m+1) N] 22);replace v10:=v10.below bb
             try replace rw_:=rw_.below bb
             try replace qr_:=qr_.below bb
             replace bg:=bg.below bb;replace pb:=pb.below bb;replace bw:=qd bw bb;clear bb hH;generalize wd.heap.size=g105 at lit|-;generalize (wd.alloc (.cells #[.slice (some ⟨gr,0,none⟩) (n+m+1) N] 22))=wd at *;refine hK.out _ _ ⟨v10.c0,v10.c1,v10.c2⟩ fun hH=>?_;clear hK K;try simp only [tz]
             refine tk1 Ha 4 rfl fun K hK=>?_;have k0:=bg.F1.cell;rw [fy.o] at k0;go_simp;clear k0;refine hK.out _ _ ⟨v10.c0,v10.c1,v10.c2⟩ fun hH=>?_;clear hK K;try simp only [tz]
             refine tk1 Ha 10 rfl fun K hK=>?_;refine bE wd (mk:=oS N) (fun _=>rfl) (fun _=>rfl) rfl _ _ 23 rfl 22 i1 (.slice none 0 0) 24 underlying23 si si0 si1 si2 rfl (by intro u hu;simp [Value.cells] at hu;subst hu;rfl) rfl fy.o.symm bg.F1.gr bg.F1.nl ⟨g105,0,none⟩ 1 1 [gr] rfl rfl lit (by simp) (by simp only [maxLen];omega) (by omega) bw.size ?_
             intro A4 c4 we h1 h2 h3 h4 h5;have kk:Kp (fun a=>A1.map (·.block)=some a) wd we:=ci h3 (fun k e=>e);have hnl:∀a,A1.map (·.block)=some a->NL wd a:=bg.F1.nl;have k0:=(kk.cell (p:=⟨G,0,none⟩) bg.gl (fun e=>bg.F1.ne G e rfl)).trans bg.F1.cell;have aF:=(kk.frozen (p:=⟨G,0,none⟩) bg.gl (fun e=>bg.F1.ne G e rfl)).trans bg.F1.fz;have bg2:=bg.row qr_ (by rw [List.length_append,cC.o,List.length_singleton,cq.o]) (fun k hk=>by rw [fy.o];exact lP.o k hk) (fun _ _ _ _=>rfl) rC.o h1 h2 kk h5
             obtain ⟨cur,t,e1,hn⟩:=bg.nG;have nG:NL we G:=⟨cur,t,(kk.block _ (Array.getElem?_eq_some_iff.1 e1).1 (fun e=>bg.F1.ne G e rfl)).trans e1,hn⟩;clear e1 hn;have n10:¬A1.map (·.block)=some g10:=sh.o.b;have n1:¬A1.map (·.block)=some g1:=dK.o.b;have hb1:=dK.o.push1 h5 pb.lt pA.o;replace v10:=v10.kp kk hnl n10;replace pb:=pb.kp kk n1;replace bw:=bw.trans h4;rw [fy.o] at bg2;clear h1 h2 h3 h4 h5 kk hnl n10 n1 bg qr_ lit lP hH;generalize we=wd at *;refine hK.out _ _ ⟨v10.c0,v10.c1,v10.c2⟩ fun hH=>?_;clear hK K;try simp only [tz]
             refine qh Ha 11 (.pointer (some ⟨G,0,none⟩)) rfl ?_;refine tks Ha 12 (.pointer (some ⟨G,0,none⟩)) rfl ?_;simp only [tz];refine tk1 Ha 13 rfl fun K hK=>?_;go_simp;clear k0 aF;have kG:Kp (fun a=>a=G) wd (wd.setCell ⟨G,0,none⟩ (.slice A4 (i+1) c4)):=(Kp.refl (fun a=>a=G) wd).set (S:=fun a=>a=G) rfl _ _;replace pb:=pb.kp kG dK.o.a;replace bw:=bw.trans (kG.below (fun a e=>by rw [e];exact u3.o) bw.size)
             replace v10:=v10.kp kG (fun a e=>by rw [e];exact nG) sh.o.a
             clear hH kG nG;generalize (wd.setCell ⟨G,0,none⟩ (.slice A4 (i+1) c4))=wd at *;refine hK.out _ _ ⟨v10.c0,v10.c1,v10.c2⟩ fun hH=>?_;clear hK K;try simp only [tz]
             refine qp Ha ?_
             go_wp2_with fail;go_meet
             case rel=>exact ⟨A4,c4,bg2,pb,hb1,bw⟩
            exact AllReadyH.nil
           exact AllReadyH.nil
          exact AllReadyH.nil
         case rest=>
          obtain ⟨A4,c4,bg,pb,hb1,bw⟩:=hcut;have k1:wc.cell? ⟨G,1,none⟩=some (.slice A2 i c2):=by rw [<-lf.o];exact bg.F2.cell
          have hbw:=bw.size;have b1:=qc wc (.cells #[.int .i64 ((n:Int)+(i:Int))] 3);have bg1:=bg.below b1;have ic:=ag bg1;have th:=ag (pb.below b1);have tj:=ag (qd bw b1);have HB1':=ag hb1;clear bg pb bw hb1 b1 bg1;go_upto_region 27 with (at_builtin;refine fD _ (mk:=iv) (fun _=>rfl) (fun _=>rfl) rfl _ _ 82 rfl 3 i2 (iv 0) 8 underlying82 ji ji0 ji1 ji2 rfl (by intro u hu;simp [Value.cells] at hu;subst hu;rfl) (xs:=bs) (n:=i) rfl lf.o.symm ic.o.F2.gr ic.o.F2.nl _ 1 1 [(n:Int)+(i:Int)] rfl rfl (Rd.one _ _ _) (by simp) (by simp only [maxLen];omega) (by omega) (by simp;omega) ?_;intro A5 c5 w8 h1 h2 h3 h4 h5;have kk:Kp (fun a=>A2.map (·.block)=some a) _ w8:=ci h3 (fun k e=>e);have k0:=(kk.cell (p:=⟨G,1,none⟩) ic.o.gl (fun e=>ic.o.F2.ne G e rfl)).trans ic.o.F2.cell;have aF:=(kk.frozen (p:=⟨G,1,none⟩) ic.o.gl (fun e=>ic.o.F2.ne G e rfl)).trans ic.o.F2.fz)
          have bg:=ic.o.bas h1 h2 kk h5;rw [lf.o] at bg;have hB1:Hd (Bf G (gs ++ [gr]) A4 A5 A3 g1):=ag (HB1'.o.push2 h5 th.o.lt);have nG:NL w8 G:=by
           obtain ⟨cur,t,e1,hn⟩:=ic.o.nG;exact ⟨cur,t,(kk.block _ (Array.getElem?_eq_some_iff.1 e1).1 (fun e=>ic.o.F2.ne G e rfl)).trans e1,hn⟩
          have kG:Kp (fun a=>a=G) w8 (w8.setCell ⟨G,1,none⟩ (.slice A5 (i+1) c5)):=(Kp.refl (fun a=>a=G) w8).set (S:=fun a=>a=G) rfl _ _;have pb:=(th.o.kp kk HB1'.o.c).kp kG HB1'.o.a;have bw:=(tj.o.trans (h4.mono (Nat.le_refl _))).trans (kG.below (B:=w.heap.size) (fun a e=>by rw [e];exact u3.o) (Nat.le_trans tj.o.size h3.size))
          clear ic th tj HB1' h1 h2 h3 h4 h5 kk k0 aF nG kG k1 hbw;generalize (w8.setCell ⟨G,1,none⟩ (.slice A5 (i+1) c5))=wc at bg pb bw|-;have k1:wc.cell? ⟨G,3,none⟩=some (.slice A3 i c3):=by rw [<-br.o];exact bg.F3.cell
          have hbw:=bw.size;have b1:=qc wc (.cells #[.bool tb] 4);have bg1:=bg.below b1;have ic:=ag bg1;have th:=ag (pb.below b1);have tj:=ag (qd bw b1);clear bg pb bw b1 bg1;go_upto_region 28 with (at_builtin;refine fD _ (mk:=Value.bool) (fun _=>rfl) (fun _=>rfl) rfl _ _ 83 rfl 4 i3 (.bool false) 1 underlying83 ki ki0 ki1 ki2 rfl (by intro u hu;simp [Value.cells] at hu;subst hu;rfl) (xs:=ts) (n:=i) rfl br.o.symm ic.o.F3.gr ic.o.F3.nl _ 1 1 [tb] rfl rfl (Rd.one _ _ _) (by simp) (by simp only [maxLen];omega) (by omega) (by simp;omega) ?_;intro A6 c6 w8 h1 h2 h3 h4 h5;have kk:Kp (fun a=>A3.map (·.block)=some a) _ w8:=ci h3 (fun k e=>e);have k0:=(kk.cell (p:=⟨G,3,none⟩) ic.o.gl (fun e=>ic.o.F3.ne G e rfl)).trans ic.o.F3.cell;have aF:=(kk.frozen (p:=⟨G,3,none⟩) ic.o.gl (fun e=>ic.o.F3.ne G e rfl)).trans ic.o.F3.fz)
          have bg:=ic.o.trn h1 h2 kk h5;rw [br.o] at bg;have hB2:=hB1.out.push3 h5 th.o.lt;have kG:Kp (fun a=>a=G) w8 (w8.setCell ⟨G,3,none⟩ (.slice A6 (i+1) c6)):=(Kp.refl (fun a=>a=G) w8).set (S:=fun a=>a=G) rfl _ _;have pb:=(th.o.kp kk hB1.out.d).kp kG hB1.out.a;have bw:=(tj.o.trans (h4.mono (Nat.le_refl _))).trans (kG.below (B:=w.heap.size) (fun a e=>by rw [e];exact u3.o) (Nat.le_trans tj.o.size h3.size))
          clear ic th tj h1 h2 h3 h4 h5 kk k0 aF kG k1 hbw hB1;generalize (w8.setCell ⟨G,3,none⟩ (.slice A6 (i+1) c6))=wc at bg pb bw|-;go_wp2_with fail;go_roundw
          case rel=>exact ⟨i+1,gs ++ [gr],bs ++ [(n:Int)+(i:Int)],ts ++ [tb],A4,c4,A5,c5,A6,c6,by omega,by go_num,by rw [List.length_append,fy.o,List.length_singleton],by rw [List.length_append,lf.o,List.length_singleton],by rw [List.length_append,br.o,List.length_singleton],(fun k hk=>by
           rw [List.length_append,List.length_singleton] at hk;rcases Nat.lt_or_ge k bs.length with h1|h1
           ·rw [List.getElem_append_left h1];exact rB.o k h1
           ·have e:k=bs.length:=by omega
            subst e;rw [List.getElem_append_right (Nat.le_refl _)];simp only [Nat.sub_self,List.getElem_cons_zero];rw [lf.o,Int.natCast_add]),(fun k hk=>by
           rw [List.length_append,List.length_singleton] at hk;rcases Nat.lt_or_ge k ts.length with h1|h1
           ·rw [List.getElem_append_left h1];exact Eh.o k h1
           ·have e:k=ts.length:=by omega
            subst e;rw [List.getElem_append_right (Nat.le_refl _)];simp only [Nat.sub_self,List.getElem_cons_zero];rw [br.o];exact wX.o.symm),bg,pb,hB2,bw⟩
          case measure=>simp [intOf];omega
  ·have him:m=i:=by omega
   subst him;obtain ⟨go,rfl⟩:=ks.o.F1.gr.some_ (by rw [fy.o];exact rz.o)
   obtain ⟨gb,rfl⟩:=ks.o.F2.gr.some_ (by rw [lf.o];exact rz.o)
   obtain ⟨gt,rfl⟩:=ks.o.F3.gr.some_ (by rw [br.o];exact rz.o)
   go_wp2_with fail;go_ret;have hN:(⟨G,go,c1,gb,c2,gt,c3,n,gs,ts⟩:Lay).N=N:=by
    show n+gs.length+1=N
    rw [fy.o,cq.o]
   have bg:=ks.o;have hS:∀a,(⟨G,go,c1,gb,c2,gt,c3,n,gs,ts⟩:Lay).S a↔(a=gb\/a∈gs):=fun _=>Iff.rfl;refine ⟨⟨G,go,c1,gb,c2,gt,c3,n,gs,ts⟩,rfl,⟨⟨by rw [hN];exact bg.F1.gr.rd,by rw [hN];show Mx _ _ _ N (dG m n p.a p.b);rw [o9.o];exact bg.mx,⟨bs,bg.F2.gr,by rw [lf.o];exact fy.o.symm,fun k hk=>rB.o k hk⟩,bg.F2.nl gb rfl,fun hs=>?_,(bg.s2 gb rfl).2,(bg.F1.lt (a:=go) rfl).2⟩,
    bg.F1.cell,by have:=bg.F2.cell;rw [lf.o,<-fy.o] at this;exact this,bg.cn,by have:=bg.F3.cell;rw [br.o,<-fy.o] at this;exact this,bg.gl,bg.F3.gr.rd,by show ts.length=gs.length;rw [br.o,fy.o],fun hs=>?_,fun hs=>?_,(bg.F3.lt (a:=gt) rfl).2⟩,rfl,fy.o,fun k hk=>?_,aw.o⟩
   ·rcases (hS _).1 hs with e|e
    ·have e':go=gb:=e;exact (bg.s1 go rfl).1 (by rw [e'];rfl)
    ·exact (bg.s1 go rfl).2.2 e
   ·rcases (hS _).1 hs with e|e
    ·have e':G=gb:=e;exact bg.F2.ne gb rfl e'.symm
    ·exact bg.sG e
   ·rcases (hS _).1 hs with e|e
    ·have e':gt=gb:=e;exact (bg.s2 gb rfl).1 (by rw [<-e'];rfl)
    ·exact bg.s3 gt rfl e
   ·show ts.getD k false=_
    rw [bC _ _ _ (by rw [br.o];exact hk)]
    exact Eh.o k (by rw [br.o];exact hk)
end Go.Proofs.YtkpfbekmaafehaaGreat
