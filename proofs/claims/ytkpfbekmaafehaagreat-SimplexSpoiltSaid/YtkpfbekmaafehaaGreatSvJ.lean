/- The walk of drydocklaw16.program -/
import Derived.Test.YtkpfbekmaafehaaGreatSpB
import Derived.Test.YtkpfbekmaafehaaGreatSxA
import Derived.Test.YtkpfbekmaafehaaGreatSvF
import Derived.Test.YtkpfbekmaafehaaGreatSrD
import Derived.Test.YtkpfbekmaafehaaGreatSqL
import Derived.Test.YtkpfbekmaafehaaGreatSvC
import Derived.Test.YtkpfbekmaafehaaGreatSrI
import Derived.Test.YtkpfbekmaafehaaGreatSqN
import Derived.Lib.SmallJoins
namespace Go.Proofs.YtkpfbekmaafehaaGreat
open _root_.Go.Proofs.Tryz
set_option maxHeartbeats 8000000
set_option maxRecDepth 100000
open Go.RowKit
structure L1 (w:World) (B:Nat) (AX:Option Addr) (cX:Nat) (xs:List Int) (A1:Option Addr) (c1:Nat) (cs:List Fx):Prop where
 gx:Gr iv 3 w B AX cX xs
 nx:NLr w AX
 zr:Zr w B A1 c1 cs
 sz:B<=w.heap.size
 sep:∀g,AX.map (·.block)=some g->A1.map (·.block)≠some g
section
variable {w w':World} {S:Nat->Prop} {B cX c1 cX' c1':Nat} {AX A1 AX' A1':Option Addr} {xs:List Int} {cs cs':List Fx} {z:Int} {y:Fx}
theorem L1.kp (h:L1 w B AX cX xs A1 c1 cs) (k:Kp S w w') (nl:∀g,S g->NL w g) (hd:∀g,B<=g->¬S g):L1 w' B AX cX xs A1 c1 cs:=
 ⟨k.gr h.gx (fun ad e=>hd _ (h.gx.form.2.2 ad e).1),h.nx.kp k (fun g e=>hd g (kM h.gx e).1),h.zr.kp k nl (fun g e=>hd g (h.zr.lt e).1),Nat.le_trans h.sz k.size,h.sep⟩
theorem L1.below (h:L1 w B AX cX xs A1 c1 cs) (hb:Below w.heap.size w w'):L1 w' B AX cX xs A1 c1 cs:=h.kp (fo (fun _=>False) hb) (fun _ h=>h.elim) (fun _ _ h=>h)
theorem L1.pushX (h:L1 w B AX cX xs A1 c1 cs) (gr:Gr iv 3 w' B AX' cX' (xs ++ [z])) (nl:NLr w' AX') (k:Kp (fun a=>AX.map (·.block)=some a) w w') (hat:AX'.map (·.block)=AX.map (·.block)\/AX'.map (·.block)=some w.heap.size):L1 w' B AX' cX' (xs ++ [z]) A1 c1 cs:=
 ⟨gr,nl,h.zr.kp k h.nx (fun g e e2=>h.sep g e2 e),Nat.le_trans h.sz k.size,fun g hg e=>by
  rcases hat with h'|h'
  ·exact h.sep g (h'.symm.trans hg) e
  ·rw [h'] at hg;injection hg with hg;have:=(h.zr.lt e).2;omega⟩
theorem L1.pushC (h:L1 w B AX cX xs A1 c1 cs) (zr:Zr w' B A1' c1' cs') (k:Kp (fun a=>A1.map (·.block)=some a) w w') (hat:A1'.map (·.block)=A1.map (·.block)\/A1'.map (·.block)=some w.heap.size):L1 w' B AX cX xs A1' c1' cs':=
 ⟨k.gr h.gx (fun ad e e2=>h.sep _ (by rw [e];rfl) e2),h.nx.kp k (fun g e e2=>h.sep g e e2),zr,Nat.le_trans h.sz k.size,fun g hg e=>by
  rcases hat with h'|h'
  ·exact h.sep g hg (h'.symm.trans e)
  ·rw [h'] at e;injection e with e;have:=(kM h.gx hg).2;omega⟩
end
structure Rs (w0 w:World) (Gt c k:Nat) (A:Option Addr) (bs:List Nat) (G0 G B B2:Nat) (AX:Option Addr) (cX:Nat) (xs:List Int):Prop where
 q0:Q3 w G0 (.slice none 0 0) (.slice none 0 0) (.slice none 0 0)
 gx:Gr iv 3 w B AX cX xs
 tp:Tp w Gt A c bs k
 kp:Kp (fun a=>a=Gt\/G0<a) w0 w
 o:Gt<G0/\G0<G/\G<B/\B<=B2
 ta:0<bs.length->∀ad,A=some ad->ad.block<G0
 xa:∀g,AX.map (·.block)=some g->g<B2
section
variable {w0 w w':World} {S:Nat->Prop} {Gt c k k' G0 G B B2 cX:Nat} {A AX:Option Addr} {bs:List Nat} {xs:List Int}
theorem Rs.kk (h:Rs w0 w Gt c k A bs G0 G B B2 AX cX xs) (kk:Kp S w w') (hd:∀g,S g->g=G\/B2<=g):Rs w0 w' Gt c k A bs G0 G B B2 AX cX xs:=by
 have o:=h.o;have hs:∀g,S g->G<=g:=fun g e=>by
  have:=hd g e;omega
 exact ⟨h.q0.kp kk (fun e=>by have:=hs _ e;omega),kk.gr h.gx (fun ad e e2=>by
  have h1:=h.xa _ (show AX.map (·.block)=some ad.block by rw [e];rfl)
  have h2:=(h.gx.form.2.2 ad e).1;have:=hd _ e2;omega),h.tp.kp kk (fun e=>by have:=hs _ e;omega) (fun hn ad e e2=>by have:=hs _ e2;have:=h.ta hn ad e;omega),h.kp.trans (kk.mono (fun g e => .inr (by have:=hs g e;omega))),o,h.ta,h.xa⟩
theorem Rs.below (h:Rs w0 w Gt c k A bs G0 G B B2 AX cX xs) (hb:Below w.heap.size w w'):Rs w0 w' Gt c k A bs G0 G B B2 AX cX xs:=h.kk (fo (fun _=>False) hb) (fun _ h=>h.elim)
theorem Rs.next (h:Rs w0 w Gt c k A bs G0 G B B2 AX cX xs) (tp:Tp w' Gt A c bs k') (kk:Kp (fun a=>a=Gt) w w'):Rs w0 w' Gt c k' A bs G0 G B B2 AX cX xs:=by
 have o:=h.o;exact ⟨h.q0.kp kk (by omega),kk.gr h.gx (fun ad e e2=>by have h2:=(h.gx.form.2.2 ad e).1;omega),tp,h.kp.trans (kk.mono (fun g e => .inl e)),o,h.ta,h.xa⟩
theorem Pm.next {n c2 c3:Nat} {C:Sl} {A2 A3:Option Addr} {rows:List Sl} {rs:List Fx} (h:Pm w B2 G n C A2 c2 rows A3 c3 rs) (r:Rs w0 w Gt c k A bs G0 G B B2 AX cX xs) (kk:Kp (fun a=>a=Gt) w w'):Pm w' B2 G n C A2 c2 rows A3 c3 rs:=
 h.far kk (fun g e=>by rw [e];exact r.tp.nl) (fun g e e2=>by have:=(h.bd e).1;have:=r.o;omega)
theorem Zr.next {c5:Nat} {A5:Option Addr} {vs:List Fx} (h:Zr w B2 A5 c5 vs) (r:Rs w0 w Gt c k A bs G0 G B B2 AX cX xs) (kk:Kp (fun a=>a=Gt) w w'):Zr w' B2 A5 c5 vs:=
 h.kp kk (fun g e=>by rw [e];exact r.tp.nl) (fun g e e2=>by have:=(h.lt e).1;have:=r.o;omega)
end
theorem Kp.cut {w w':World} {Gt G0:Nat} (h:Kp (fun a=>a=Gt\/G0<=a) w w') (_:w.heap.size=G0):Kp (fun a=>a=Gt) w w':=⟨h.os,h.tape,h.output,h.size,fun k hk hn=>h.block k hk (fun e=>by
 rcases e with e|e
 ·exact hn e
 ·omega)⟩
theorem wV (w:World) (Gt c k:Nat) (A:Option Addr) (bs:List Nat) (h:Tp w Gt A c bs k) :
 Calls prog 20 #[.pointer (some ⟨Gt,0,none⟩)] w fun e w'=>∃(p:Pg) (k':Nat),e = .returned p.val/\Ip w' p/\Tp w' Gt A c bs k'/\Kp (fun a=>a=Gt) w w':=by
 obtain ⟨i1,si,si0,si1,si2⟩:=info_parts jt;obtain ⟨i2,ji,ji0,ji1,ji2⟩:=info_parts tM;have hlt:=h.lt;obtain ⟨G0,hG0⟩:∃g,w.heap.size=g:=⟨_,rfl⟩;have Eo:Hd (0<bs.length->∀ad,A=some ad->ad.block<G0):=ag (fun hn ad e=>by
  obtain ⟨ad',e',hb,_⟩:=h.rd hn;rw [e] at e';injection e' with e';rw [e',<-hG0];exact hb)
 have HT:=ag h;have IC:=ag hG0;clear h;go_enter func20,ntmps20;go_upto_region 1 with fail;have q0:=Q3.new w (.slice none 0 0) (.slice none 0 0) (.slice none 0 0) 25 rfl rfl rfl;have bb:=qb w (.cells #[.slice none 0 0, .slice none 0 0, .slice none 0 0] 25);have tp:=HT.o.below bb;have kp:=fo (fun a=>a=Gt\/G0<a) bb;have hs:(w.alloc (.cells #[.slice none 0 0, .slice none 0 0, .slice none 0 0] 25)).heap.size=G0+1:=by rw [<-hG0];simp
 rw [hG0] at q0;clear bb;rw [hG0] at hlt;generalize (w.alloc (.cells #[.slice none 0 0, .slice none 0 0, .slice none 0 0] 25))=wa at *;have m9:=ag q0;have ix:=ag tp;have aw:=ag kp;have HS:=ag hs;clear q0 tp kp hs hG0;go_wp2_with fail;refine (dy wa Gt c k 3 A bs ix.o (by omega) (by omega)).mono ?_
 rintro e wb ⟨a,k1,rfl,ha0,ha3,tp,kk⟩;obtain ⟨m,hm⟩:∃m:Nat,1+a=(m:Int):=⟨(1+a).toNat,by omega⟩
 have HM:Hd (1<=m/\m<=3):=ag (by omega)
 have hqg:¬G0=Gt:=by omega
 replace m9:=ag (m9.o.kp kk hqg);have rD:=ag kk.size;replace aw:=ag (aw.o.trans (kk.mono (S':=fun a=>a=Gt\/G0<a) (fun a e => .inl e)));replace ix:=ag tp;clear tp kk ha0 hqg;go_wp2_with fail;refine (dy wb Gt c k1 5 A bs ix.o (by omega) (by omega)).mono ?_
 rintro e wc ⟨b,k2,rfl,hb0,hb3,tp,kk⟩;obtain ⟨n,hn⟩:∃n:Nat,1+b=(n:Int):=⟨(1+b).toNat,by omega⟩
 have HN:Hd (1<=n/\n<=5):=ag (by omega)
 have hqg:¬G0=Gt:=by omega
 replace m9:=ag (m9.o.kp kk hqg);have CD:=ag kk.size;replace aw:=ag (aw.o.trans (kk.mono (S':=fun a=>a=Gt\/G0<a) (fun a e => .inl e)));replace ix:=ag tp;clear tp kk hb0 hqg;go_upto_region 3 with fail;have q:=Q3.new wc (.slice none 0 0) (.slice none 0 0) (.slice none 0 0) 25 rfl rfl rfl;have bb:=qb wc (.cells #[.slice none 0 0, .slice none 0 0, .slice none 0 0] 25);replace m9:=ag (m9.o.below bb);replace ix:=ag (ix.o.below bb);replace aw:=ag (aw.o.then bb)
 have hs:wc.heap.size<(wc.alloc (.cells #[.slice none 0 0, .slice none 0 0, .slice none 0 0] 25)).heap.size:=by simp
 have hg:G0<wc.heap.size:=by
  have h1:=HS.o;have h2:=rD.o;have h3:=CD.o;omega
 clear bb HS rD CD;generalize (wc.alloc (.cells #[.slice none 0 0, .slice none 0 0, .slice none 0 0] 25))=wd at *;generalize wc.heap.size=G at *;have HQ:=ag q;obtain ⟨B,hB⟩:∃B,wd.heap.size=B:=⟨_,rfl⟩;have CQ:Hd (Gt<G0/\G0<G/\G<B):=ag ⟨hlt,hg,by omega⟩
 have L0:L1 wd B none 0 [] none 0 []:=⟨Gr.nil _ _,NLr.nil _,Zr.nil _ _,by omega,fun g e=>by cases e⟩
 clear q hs hg hlt hm hn hB;go_wp2_with fail;go_loopw [6,7] (fun xv jv wr=>∃(j:Nat) (AX:Option Addr) (cX:Nat) (xs:List Int) (A1:Option Addr) (c1:Nat) (cs:List Fx) (k1:Nat),j<=n/\jv = .int .i64 j/\xv = .slice AX j cX/\xs.length=j/\cs.length=j/\(∀x∈xs,0<=x/\x<=3)/\L1 wr B AX cX xs A1 c1 cs/\Q3 wr G (.slice A1 j c1) (.slice none 0 0) (.slice none 0 0)/\Q3 wr G0 (.slice none 0 0) (.slice none 0 0) (.slice none 0 0)/\Tp wr Gt A c bs k1/\Kp (fun a=>a=Gt\/G0<a) w wr) (fun _ jv _=>n-(intOf jv).toNat)
 case atStart=>exact ⟨0,none,0,[],none,0,[],k2,by omega,rfl,rfl,rfl,rfl,(fun x hx=>absurd hx (by simp)),L0,HQ.o,m9.o,ix.o,aw.o⟩
 case round=>
  clear L0 HQ m9 ix aw;obtain ⟨j,AX,cX,xs,A1,c1,cs,k1,hj,rfl,rfl,hxl,hcl,hxb,l1,q,q0,tp,kp⟩:=hrel;have fc:=ag hxl;have f9:=ag hcl;have tt:=ag hxb;have lz:=ag l1;have HQ:=ag q;have m9:=ag q0;have ix:=ag tp;have aw:=ag kp;have hn5:=HN.o.2;clear hxl hcl hxb l1 q q0 tp kp;by_cases hlt:j<n
  ·go_wp2_with fail;refine (dy wr Gt c k1 4 A bs ix.o (by omega) (by omega)).mono ?_
   rintro e we ⟨z,k2,rfl,hz0,hz4,tp,kk⟩;have ho:=CQ.o;have nt:∀a,a=Gt->NL wr a:=fun a e=>by rw [e];exact ix.o.nl
   replace lz:=ag (lz.o.kp kk nt (fun g hg e=>by omega))
   replace HQ:=ag (HQ.o.kp kk (by omega))
   replace m9:=ag (m9.o.kp kk (by omega))
   replace aw:=ag (aw.o.trans (kk.mono (S':=fun a=>a=Gt\/G0<a) (fun a e => .inl e)));replace ix:=ag tp;replace tt:Hd (∀x∈xs ++ [z],0<=x/\x<=3):=ag (fun x hx=>by
    rcases List.mem_append.1 hx with h|h
    ·exact tt.o x h
    ·rw [List.mem_singleton] at h;omega)
   clear tp kk nt ho hz0 hz4;have bl:=qb we (.cells #[.int .i64 z] 3);have l2:=lz.o.below bl;replace HQ:=ag (HQ.o.below bl);replace m9:=ag (m9.o.below bl);replace aw:=ag (aw.o.then bl)
   replace ix:=ag (ix.o.below bl);replace lz:=ag l2;clear l2 bl;go_upto_region 8 with (at_builtin;refine fD _ (mk:=iv) (fun _=>rfl) (fun _=>rfl) rfl _ _ 82 rfl 3 i2 (iv 0) 8 underlying82 ji ji0 ji1 ji2 rfl (by intro u hu;simp [Value.cells] at hu;subst hu;rfl) (xs:=xs) (n:=j) rfl fc.o.symm lz.o.gx lz.o.nx _ 1 1 [z] rfl rfl (Rd.one _ _ _) (by simp) (by simp only [maxLen];omega) (by omega) lz.o.sz ?_;intro AX8 cX8 w8 h1 h2 h3 _ h5;have kk:Kp (fun a=>AX.map (·.block)=some a) _ w8:=ci h3 (fun k e=>e))
   have ho:=CQ.o;have hx:∀g,AX.map (·.block)=some g->B<=g:=fun g e=>(kM lz.o.gx e).1;have l2:=lz.o.pushX h1 h2 kk h5;replace HQ:=ag (HQ.o.kp kk (fun e=>by have:=hx _ e;omega))
   replace m9:=ag (m9.o.kp kk (fun e=>by have:=hx _ e;omega))
   replace ix:=ag (ix.o.kp kk (fun e=>by have:=hx _ e;omega) (fun h ad e e2=>by have:=hx _ e2;have:=Eo.o h ad e;omega))
   replace aw:=ag (aw.o.trans (kk.mono (S':=fun a=>a=Gt\/G0<a) (fun a e => .inr (by have:=hx _ e;omega))))
   clear lz;have lz:=ag l2;clear l2 h1 h2 h3 h5 kk hx ho;generalize k2=k1 at ix;clear wr;generalize w8=wr at *;have l1:=lz.o.below (ah wr.heap.size wr).drew;have q:=HQ.o.below (ah wr.heap.size wr).drew;have q0:=m9.o.below (ah wr.heap.size wr).drew;have tp:=ix.o.below (ah wr.heap.size wr).drew;have kp:=aw.o.then (ah wr.heap.size wr).drew
   refine qj (S:=fun w'=>w'.cell? ⟨G,0,none⟩=some (.slice A1 j c1)) 9 10 q.c0 fun Ha hH=>?_
   generalize wr.drew=wd at *;refine mY Ha 0 (.pointer (some ⟨G,0,none⟩)) rfl ?_;simp only [tz];refine mY Ha 1 (.slice A1 j c1) rfl ?_;simp only [tz];refine mY Ha 2 (.pointer (some ⟨Gt,0,none⟩)) rfl ?_;simp only [tz];refine qW Ha 3 rfl fun K hK=>?_;go_simp;go_at_call 27;refine (dy wd Gt c k1 9 A bs tp (by omega) (by omega)).mono ?_
   rintro e we ⟨v,k2,rfl,hv0,hv9,tp2,kk⟩;have nt:∀a,a=Gt->NL wd a:=fun a e=>by rw [e];exact tp.nl
   have ho:=CQ.o;replace l1:=l1.kp kk nt (fun g hg e=>by omega)
   replace q:=q.kp kk (by omega)
   replace q0:=q0.kp kk (by omega)
   replace kp:=kp.trans (kk.mono (fun a e => .inl e));have hw:IntKind.i64.wrap (v-3)=v-3:=IntWalk.i64_in _ (by omega)
   clear tp kk nt ho hH;have tp:=tp2;clear tp2;generalize we=wd at *;refine hK.out _ _ q.c0 fun hH=>?_;clear hK K;try simp only [tz]
   refine mY Ha 4 (.int .i64 (v-3)) rfl ?_;simp only [tz];refine qW Ha 5 rfl fun K hK=>?_;go_simp;go_at_call 26;refine (dS wd (v-3) (by omega) (by omega)).mono ?_
   rintro e we ⟨y,rfl,ey,bb⟩;have zy:Zl we y:=⟨v-3,by omega,ey⟩
   replace l1:=l1.below bb;replace q:=q.below bb;replace q0:=q0.below bb;replace tp:=tp.below bb;replace kp:=kp.then bb
   clear ey bb hH hw;generalize we=wd at *;refine hK.out _ _ q.c0 fun hH=>?_;clear hK K;try simp only [tz]
   refine qW Ha 6 rfl fun K hK=>?_;go_simp;have lit:=j3 zy.ok;have bb:=(au zy.ok).2;replace zy:=zy.below bb;replace l1:=l1.below bb;replace q:=q.below bb;replace q0:=q0.below bb;replace tp:=tp.below bb;replace kp:=kp.then bb
   clear bb hH;generalize wd.heap.size=g36 at lit|-;generalize (wd.alloc (.cells #[.bool y.b, .slice y.A y.xs.length y.c, .slice y.D y.ys.length y.d] 29))=wd at *;refine hK.out _ _ q.c0 fun hH=>?_;clear hK K;try simp only [tz]
   refine qW Ha 7 rfl fun K hK=>?_;refine jp wd rfl _ _ rfl rfl rfl f9.o.symm l1.zr ⟨g36,0,none⟩ 1 y rfl lit zy (by omega) l1.sz ?_
   intro A4 c4 we z4 kk hat;have nl4:=l1.zr.ni.nlr;have ho:=CQ.o;have hl:∀g,A1.map (·.block)=some g->B<=g:=fun g e=>(l1.zr.lt e).1;have l2:=l1.pushC z4 kk hat;replace q:=q.kp kk (fun e=>by have:=hl _ e;omega)
   replace q0:=q0.kp kk (fun e=>by have:=hl _ e;omega)
   replace tp:=tp.kp kk (fun e=>by have:=hl _ e;omega) (fun h ad e e2=>by have:=hl _ e2;have:=Eo.o h ad e;omega)
   replace kp:=kp.trans (kk.mono (fun a e => .inr (by have:=hl _ e;omega)))
   clear l1 kk nl4 ho hl z4 hat lit zy hH;generalize we=wd at *;refine hK.out _ _ q.c0 fun hH=>?_;clear hK K;try simp only [tz]
   refine mY Ha 8 (.pointer (some ⟨G,0,none⟩)) rfl ?_;simp only [tz];refine Bh Ha 9 rfl fun K hK=>?_;have k0:=q.c0;have ax:=q.f0;go_simp;clear k0 ax;have ho:=CQ.o;have kG:=rM wd G 0 (.slice A4 (j+1) c4);have nG:∀a,a=G->NL wd a:=fun a e=>by rw [e];exact q.nl
   replace l2:=l2.kp kG nG (fun g hg e=>by omega)
   replace q0:=q0.kp kG (by omega)
   replace tp:=tp.kp kG (by omega) (fun h ad e e2=>by have:=Eo.o h ad e;omega)
   replace kp:=kp.trans (kG.mono (fun a e => .inr (by omega)))
   have q2:=q.set0 (u := .slice A4 (j+1) c4) rfl;clear q kG nG ho hH;generalize (wd.setCell ⟨G,0,none⟩ (.slice A4 (j+1) c4))=wd at *;refine hK.out _ _ ?_;clear hK K;try simp only [tz]
   refine q5 Ha ?_
   go_wp2_with fail;go_roundw
   case rel=>exact ⟨j+1,AX8,cX8,xs ++ [z],A4,c4,cs ++ [y],k2,by omega,by go_num,rfl,by rw [List.length_append,fc.o,List.length_singleton],by rw [List.length_append,f9.o,List.length_singleton],tt.o,l2,q2,q0,tp,kp⟩
   case measure=>simp [intOf];omega
  ·have hjn:n=j:=by omega
   subst hjn;go_wp2_with fail;refine (dy wr Gt c k1 2 A bs ix.o (by omega) (by omega)).mono ?_
   rintro e we ⟨mz,k2,rfl,_,_,tp,kk⟩;have ho:=CQ.o;have nt:∀a,a=Gt->NL wr a:=fun a e=>by rw [e];exact ix.o.nl
   have l1:=lz.o.kp kk nt (fun g hg e=>by omega)
   replace HQ:=ag (HQ.o.kp kk (by omega))
   obtain ⟨B2,hB2⟩:∃B,we.heap.size=B:=⟨_,rfl⟩;have eh:Hd (Rs w we Gt c k2 A bs G0 G B B2 AX cX xs):=ag ⟨m9.o.kp kk (by omega),l1.gx,tp,aw.o.trans (kk.mono (fun a e => .inl e)),⟨ho.1,ho.2.1,ho.2.2,by have:=l1.sz;omega⟩,Eo.o,fun g e=>by have:=(kM l1.gx e).2;omega⟩
   have l5:Hd (Pm we B2 G n ⟨A1,c1,cs⟩ none 0 [] none 0 []):=ag (Pm.start we B2 G n _ l1.zr.zs HQ.o.nl (by have:=l1.sz;omega) (Nat.le_of_eq hB2.symm) (fun g e=>by have:=l1.zr.lt e;omega))
   clear l1 tp kk nt ho lz m9 ix aw hB2;clear wr;obtain ⟨md,hmd⟩:∃b,(mz == 0)=b:=⟨_,rfl⟩;go_upto_region 10 with fail;clear hmd;go_wp2_with fail;go_loopw [9] (fun iv wr=>∃(i:Nat) (A2:Option Addr) (c2:Nat) (rows:List Sl) (A3:Option Addr) (c3:Nat) (rs_:List Fx) (k1:Nat),i<=m/\iv = .int .i64 i/\rows.length=i/\rs_.length=i/\Pm wr B2 G n ⟨A1,c1,cs⟩ A2 c2 rows A3 c3 rs_/\Q3 wr G (.slice A1 n c1) (.slice A2 i c2) (.slice A3 i c3)/\Rs w wr Gt c k1 A bs G0 G B B2 AX cX xs) (fun iv _=>m-(intOf iv).toNat)
   case atStart=>exact ⟨0,none,0,[],none,0,[],k2,by omega,rfl,rfl,rfl,l5.o,HQ.o,eh.o⟩
   case round=>
    clear l5 HQ eh;obtain ⟨i,A2,c2,rows,A3,c3,rs_,k1,hi,rfl,hil,hrl,pm,q,rs⟩:=hrel;have eZ:=ag hil;have ce:=ag hrl;have l5:=ag pm;have HQ:=ag q;have eh:=ag rs;have hm3:=HM.o.2;clear hil hrl pm q rs;by_cases hlt:i<m
    ·go_wp2_with fail;go_loopw [10,11,12] (fun rv sv jv wr=>∃(j:Nat) (A5:Option Addr) (c5:Nat) (vs:List Fx) (s:Int) (k1:Nat),j<=n/\jv = .int .i64 j/\rv = .slice A5 j c5/\sv = .int .i64 s/\vs.length=j /\ -6*(j:Int)<=s/\s<=12*(j:Int)/\Zr wr B2 A5 c5 vs/\(∀g,A5.map (·.block)=some g->¬Pt G ⟨A1,c1,cs⟩ A2 rows A3 g)/\Pm wr B2 G n ⟨A1,c1,cs⟩ A2 c2 rows A3 c3 rs_/\Q3 wr G (.slice A1 n c1) (.slice A2 i c2) (.slice A3 i c3)/\Rs w wr Gt c k1 A bs G0 G B B2 AX cX xs) (fun _ _ jv _=>n-(intOf jv).toNat)
     case atStart=>exact ⟨0,none,0,[],0,k1,by omega,rfl,rfl,rfl,rfl,by omega,by omega,Zr.nil _ _,(fun g e=>by cases e),l5.o,HQ.o,eh.o⟩
     case round=>
      clear l5 HQ eh;obtain ⟨j,A5,c5,vs,s,k1,hj,rfl,rfl,rfl,hvl,hs0,hs1,z5,h5,pm,q,rs⟩:=hrel;have cw:=ag hvl;have rf:=ag z5;have H5:=ag h5;have l5:=ag pm;have HQ:=ag q;have eh:=ag rs;clear hvl z5 h5 pm q rs;by_cases hjn:j<n
      ·go_wp2_with fail;refine (dy wr Gt c k1 7 A bs eh.o.tp (by omega) (by omega)).mono ?_
       rintro e we ⟨v,k2,rfl,hv0,hv7,tp,kk⟩;replace l5:=ag (l5.o.next eh.o kk)
       replace HQ:=ag (HQ.o.kp kk (by have:=eh.o.o;omega))
       replace rf:=ag (rf.o.next eh.o kk)
       replace eh:=ag (eh.o.next tp kk)
       clear tp kk;clear wr;generalize we=wr at *;obtain ⟨gx,hgx⟩:=eh.o.gx.some_ (by rw [fc.o];omega)
       subst hgx;have xc:=eh.o.gx.cell j (by rw [fc.o];omega)
       obtain ⟨x,hx⟩:∃x,xs[j]'(by rw [fc.o];omega)=x:=⟨_,rfl⟩
       have hx3:0<=x/\x<=3:=by rw [<-hx];exact tt.o _ (List.getElem_mem _)
       rw [hx] at xc;have hp : -6<=(v-2)*x/\(v-2)*x<=12:=by
        rcases (by omega:x=0\/x=1\/x=2\/x=3) with h|h|h|h <;> rw [h] <;> omega
       clear hx;obtain ⟨t,ht⟩:∃t,(v-2)*x=t:=⟨_,rfl⟩;have hw:IntKind.i64.wrap ((v-2)*x)=(v-2)*x:=IntWalk.i64_in _ (by omega)
       have hw2:IntKind.i64.wrap (s+(v-2)*x)=s+(v-2)*x:=IntWalk.i64_in _ (by omega)
       go_wp2_with fail;refine (dS wr (v-2) (by omega) (by omega)).mono ?_
       rintro e we ⟨y,rfl,ey,bb⟩;have zy:Zl we y:=⟨v-2,by omega,ey⟩
       have bl:=(au zy.ok).2;have lit:=j3 zy.ok;have b2:=qc bb bl;have GM:=ag (zy.below bl);replace l5:=ag (l5.o.below b2);replace HQ:=ag (HQ.o.below b2);replace rf:=ag (rf.o.below b2);replace eh:=ag (eh.o.below b2);clear ey zy bb bl b2 hw hw2 xc;go_upto_region 17 with (at_builtin;refine iB _ rfl _ _ rfl rfl (n:=j) rfl cw.o.symm rf.o _ 1 y rfl lit GM.o (by omega) l5.o.sz ?_;intro A6 c6 w8 z6 kk hat)
       have hb:∀g,A5.map (·.block)=some g->B2<=g:=fun g e=>(rf.o.lt e).1;have h6:∀g,A6.map (·.block)=some g->¬Pt G ⟨A1,c1,cs⟩ A2 rows A3 g:=fun g e hp=>by
        rcases hat with h|h
        ·exact H5.o g (h.symm.trans e) hp
        ·exact absurd (Option.some.inj (h.symm.trans e)) (Nat.ne_of_gt (l5.o.bd hp).2)
       have pm:=l5.o.far kk rf.o.ni.nlr (fun g hp e=>H5.o g e hp);have q:=HQ.o.kp kk (fun e=>by have:=hb _ e;have:=l5.o.lt;omega)
       have rs:=eh.o.kk kk (fun g e => .inr (hb g e));clear l5 HQ eh rf kk hat hb lit GM;go_wp2_with fail;go_roundw
       case rel=>exact ⟨j+1,A6,c6,vs ++ [y],s+t,k2,by omega,by go_num,rfl,rfl,by rw [List.length_append,cw.o,List.length_singleton],by omega,by omega,z6,h6,pm,q,rs⟩
       case measure=>simp [intOf];omega
      ·have hjn2:n=j:=by omega
       subst hjn2;clear hj hjn
       go_upto_if 69 with fail
       go_cut [11] (fun sv wx=>∃(s2:Int) (k2:Nat),sv = .int .i64 s2 /\ -60<=s2/\s2<=60/\Zr wx B2 A5 c5 vs/\Pm wx B2 G n ⟨A1,c1,cs⟩ A2 c2 rows A3 c3 rs_/\Q3 wx G (.slice A1 n c1) (.slice A2 i c2) (.slice A3 i c3)/\Rs w wx Gt c k2 A bs G0 G B B2 AX cX xs)
       case first=>
        have hn5:=HN.o.2;cases md
        ·go_wp2_with fail;refine (dy wr Gt c k1 11 A bs eh.o.tp (by omega) (by omega)).mono ?_
         rintro e we ⟨v,k2,rfl,hv0,hv7,tp,kk⟩;go_wp2_with fail;go_meet
         case rel=>exact ⟨v-4,k2,rfl,by omega,by omega,rf.o.next eh.o kk,l5.o.next eh.o kk,HQ.o.kp kk (by have:=eh.o.o;omega),eh.o.next tp kk⟩
        ·go_wp2_with fail;go_meet
         case rel=>exact ⟨s,k1,rfl,by omega,by omega,rf.o,l5.o,HQ.o,eh.o⟩
       case rest=>
        clear rf l5 HQ eh;obtain ⟨s2,k2,rfl,hs2,hs3,z5,pm,q,rs⟩:=hcut;have rf:=ag z5;have l5:=ag pm;have HQ:=ag q;have eh:=ag rs;clear z5 pm q rs hs0 hs1;clear wr;generalize wc=wr at *;go_upto_region 23 with fail;have pm:=l5.o.below (ah wr.heap.size wr).drew;have q:=HQ.o.below (ah wr.heap.size wr).drew;have z5:=rf.o.below (ah wr.heap.size wr).drew;have rs:=eh.o.below (ah wr.heap.size wr).drew;refine qj (S:=fun w'=>w'.cell? ⟨G,1,none⟩=some (.slice A2 i c2)/\w'.cell? ⟨G,2,none⟩=some (.slice A3 i c3)) 12 15 ⟨q.c1,q.c2⟩ fun Ha hH=>?_
        generalize wr.drew=wd at *;refine mY Ha 0 (.pointer (some ⟨G,1,none⟩)) rfl ?_;simp only [tz];refine mY Ha 1 (.slice A2 i c2) rfl ?_;simp only [tz];refine mY Ha 2 (.slice A5 n c5) rfl ?_;simp only [tz];refine mY Ha 5 (.pointer (some ⟨G,2,none⟩)) rfl ?_;simp only [tz];refine mY Ha 6 (.slice A3 i c3) rfl ?_;simp only [tz];refine mY Ha 7 (.int .i64 s2) rfl ?_;simp only [tz];refine qW Ha 3 rfl fun K hK=>?_;go_simp;have lit:Rd Sl.val _ (some ⟨wd.heap.size,0,none⟩) [⟨A5,c5,vs⟩]:=Rd.one_ wd 22 _ (.slice A5 n c5) (by show Value.slice A5 n c5=Value.slice A5 vs.length c5;rw [cw.o])
        have bb:=qb wd (.cells #[.slice A5 n c5] 22);replace z5:=z5.below bb;replace pm:=pm.below bb;replace q:=q.below bb;replace rs:=rs.below bb;clear bb hH;generalize wd.heap.size=g76 at lit|-;generalize (wd.alloc (.cells #[.slice A5 n c5] 22))=wd at *;refine hK.out _ _ ⟨q.c1,q.c2⟩ fun hH=>?_;clear hK K;try simp only [tz]
        refine qW Ha 4 rfl fun K hK=>?_;refine bE wd (mk:=Sl.val) (fun _=>rfl) (fun _=>rfl) rfl _ _ 23 rfl 22 i1 (.slice none 0 0) 24 underlying23 si si0 si1 si2 rfl (by intro u hu;simp [Value.cells] at hu;subst hu;rfl) rfl eZ.o.symm pm.gr pm.n2 ⟨g76,0,none⟩ 1 1 [⟨A5,c5,vs⟩] rfl rfl lit (by simp) (by simp only [maxLen];omega) (by omega) pm.sz ?_
        intro A4 c4 we h1 h2 h3 _ h5;have kk:Kp (fun a=>A2.map (·.block)=some a) wd we:=ci h3 (fun k e=>e);have hb:∀g,A2.map (·.block)=some g->B2<=g:=fun g e=>(kM pm.gr e).1;have hG:=pm.lt;have pm2:=pm.row z5.zs cw.o (fun g e=>⟨by have:=(z5.lt e).1;omega,(z5.lt e).2⟩) H5.o h1 h2 kk h5
        replace q:=q.kp kk (fun e=>by have:=hb _ e;omega)
        replace rs:=rs.kk kk (fun g e => .inr (hb g e));clear pm z5 lit h1 h2 h3 h5 kk hb hG hH;have pm:=pm2;clear pm2;generalize we=wd at *;refine hK.out _ _ ⟨q.c1,q.c2⟩ fun hH=>?_;clear hK K;try simp only [tz]
        refine mY Ha 11 (.pointer (some ⟨G,1,none⟩)) rfl ?_;simp only [tz];refine qW Ha 8 rfl fun K hK=>?_;go_simp;go_at_call 26;refine (dS wd s2 (by omega) (by omega)).mono ?_
        rintro e we ⟨y,rfl,ey,bb⟩;have zy:Zl we y:=⟨s2,by omega,ey⟩
        replace pm:=pm.below bb;replace q:=q.below bb;replace rs:=rs.below bb;clear ey bb hH;generalize we=wd at *;refine hK.out _ _ ⟨q.c1,q.c2⟩ fun hH=>?_;clear hK K;try simp only [tz]
        refine qW Ha 9 rfl fun K hK=>?_;go_simp;have lit:=j3 zy.ok;have bb:=(au zy.ok).2;replace zy:=zy.below bb;replace pm:=pm.below bb;replace q:=q.below bb;replace rs:=rs.below bb;clear bb hH;generalize wd.heap.size=g82 at lit|-;generalize (wd.alloc (.cells #[.bool y.b, .slice y.A y.xs.length y.c, .slice y.D y.ys.length y.d] 29))=wd at *;refine hK.out _ _ ⟨q.c1,q.c2⟩ fun hH=>?_;clear hK K;try simp only [tz]
        refine qW Ha 10 rfl fun K hK=>?_;refine jp wd rfl _ _ rfl rfl rfl ce.o.symm pm.rr ⟨g82,0,none⟩ 1 y rfl lit zy (by omega) pm.sz ?_
        intro A6 c6 we z6 kk hat;have hb:∀g,A3.map (·.block)=some g->B2<=g:=fun g e=>(pm.rr.lt e).1;have hG:=pm.lt;have pm2:=pm.rgt z6 kk hat;replace q:=q.kp kk (fun e=>by have:=hb _ e;omega)
        replace rs:=rs.kk kk (fun g e => .inr (hb g e));clear pm lit zy z6 kk hat hb hG hH;have pm:=pm2;clear pm2;generalize we=wd at *;refine hK.out _ _ ⟨q.c1,q.c2⟩ fun hH=>?_;clear hK K;try simp only [tz]
        refine Bh Ha 12 rfl fun K hK=>?_;clear hH;have k0:=q.c1;have ax:=q.f1;go_simp;clear k0 ax;replace pm:=pm.set 1 (.slice A4 (i+1) c4) rfl;replace rs:=rs.kk (rM wd G 1 (.slice A4 (i+1) c4)) (fun g e => .inl e);replace q:=q.set1 (u := .slice A4 (i+1) c4) rfl;generalize (wd.setCell ⟨G,1,none⟩ (.slice A4 (i+1) c4))=wd at *;refine hK.out _ _ ?_;clear hK K;try simp only [tz]
        refine Bh Ha 13 rfl fun K hK=>?_;go_simp;refine hK.out _ _ ?_;clear hK K;try simp only [tz]
        refine Bh Ha 14 rfl fun K hK=>?_;have k0:=q.c2;have ax:=q.f2;go_simp;clear k0 ax;replace pm:=pm.set 2 (.slice A6 (i+1) c6) rfl;replace rs:=rs.kk (rM wd G 2 (.slice A6 (i+1) c6)) (fun g e => .inl e);replace q:=q.set2 (u := .slice A6 (i+1) c6) rfl;generalize (wd.setCell ⟨G,2,none⟩ (.slice A6 (i+1) c6))=wd at *;refine hK.out _ _ ?_;clear hK K;try simp only [tz]
        refine q5 Ha ?_
        go_wp2_with fail;go_roundw
        case rel=>exact ⟨i+1,A4,c4,rows ++ [⟨A5,c5,vs⟩],A6,c6,rs_ ++ [y],k2,by omega,by go_num,by rw [List.length_append,eZ.o,List.length_singleton],by rw [List.length_append,ce.o,List.length_singleton],pm,q,rs⟩
        case measure=>simp [intOf];omega
    ·have hmi:m=i:=by omega
     subst hmi;have k0:=HQ.o.c0;have kk1:=HQ.o.c1;have kk2:=HQ.o.c2;have z0:=eh.o.q0.c0;have z1:=eh.o.q0.c1;have z2:=eh.o.q0.c2;have f0:=eh.o.q0.f0;have f1:=eh.o.q0.f1;have f2:=eh.o.q0.f2;go_wp2_with fail;refine bodyPost_ret (v:=(⟨⟨A1,c1,cs⟩,A2,c2,rows,⟨A3,c3,rs_⟩⟩:Pg).val) (by simp [results,Tryz.results20,go_sem,z0,z1,z2,f9.o,eZ.o,ce.o]) rfl ?_
     clear k0 kk1 kk2 z0 z1 z2 f0 f1 f2;have ho:=eh.o.o;have ks:=(Kp.refl (fun a=>a=G0) wr).set3 (S:=fun a=>a=G0) rfl 0 1 2 (.slice A1 n c1) (.slice A2 m c2) (.slice A3 m c3);have pm:=l5.o.far ks (fun g e=>by rw [e];exact eh.o.q0.nl) (fun g e e2=>by have:=(l5.o.bd e).1;omega)
     have tp:=eh.o.tp.kp ks (by omega) (fun hn ad e e2=>by have:=Eo.o hn ad e;omega)
     have kp:=(eh.o.kp.mono (S':=fun a=>a=Gt\/G0<=a) (fun g e=>by omega)).trans (ks.mono (fun g e => .inr (Nat.le_of_eq e.symm)))
     exact ⟨_,k1,rfl,pm.ip f9.o eZ.o ce.o HN.o.1 HN.o.2 HM.o.1 HM.o.2,tp,kp.cut IC.o⟩
theorem vA.below {w w':World} {p:Pg} {s:Sn} (h:vA w p s) (hb:Below w.heap.size w w'):vA w' p s:=⟨h.ok.below hb,h.sm,h.chk⟩
theorem SolS.ge {w:World} {B m n:Nat} {a:Nat->Nat->Rat} {b c:Nat->Rat} {s:Sn} (h:SolS w B m n a b c s) (ad:Addr) (e:s.X.A=some ad\/s.Y.A=some ad\/s.R.A=some ad):B<=ad.block:=by
 have hn:∀ {sl:Sl},sl=slN->sl.A=some ad->B<=ad.block:=fun h1 h2=>by
  rw [h1] at h2;cases h2
 have ho:∀ {sl:Sl} {N:Nat} {f:Nat->Rat},Os w B sl N f->sl.A=some ad->B<=ad.block:=fun h1 h2=>(h1.qr.fr.lt _ (by rw [h2];rfl)).1
 rcases h with ⟨_,_,_,_,_,x,r,Y,_⟩|⟨_,_,_,_,_,r,X,Y,_⟩|⟨_,_,_,_,_,_,_,y,X,R,_⟩ <;> rcases e with e|e|e <;> first|exact hn x e|exact hn r e|exact hn y e|exact ho X e|exact ho Y e|exact ho R e
theorem Zs.put {w:World} {G:Nat} (h:Zs w G) (s:Sn):Sb (((((((w.setCell ⟨G,0,none⟩ (.int .i64 s.kind)).setCell ⟨G,1,none⟩ s.X.val).setCell ⟨G,2,none⟩ s.Y.val).setCell ⟨G,3,none⟩ s.R.val).setCell ⟨G,4,none⟩ (.bool s.v.b)).setCell ⟨G,5,none⟩ (.slice s.v.A s.v.xs.length s.v.c)).setCell ⟨G,6,none⟩ (.slice s.v.D s.v.ys.length s.v.d)) G s /\
 Kp (fun a=>a=G) w (((((((w.setCell ⟨G,0,none⟩ (.int .i64 s.kind)).setCell ⟨G,1,none⟩ s.X.val).setCell ⟨G,2,none⟩ s.Y.val).setCell ⟨G,3,none⟩ s.R.val).setCell ⟨G,4,none⟩ (.bool s.v.b)).setCell ⟨G,5,none⟩ (.slice s.v.A s.v.xs.length s.v.c)).setCell ⟨G,6,none⟩ (.slice s.v.D s.v.ys.length s.v.d)):=by
 obtain ⟨z0,z1,z2,z3,z4,z5,z6,zf,zl,_⟩:=h;exact ⟨⟨by simp [go_sem,z0],by simp [go_sem,z1],by simp [go_sem,z2],by simp [go_sem,z3],by simp [go_sem,z4],by simp [go_sem,z5],by simp [go_sem,z6],by simpa [World.setCell] using zl⟩,Kp.set7 (S:=fun a=>a=G) (Kp.refl _ w) rfl _ _ _ _ _ _ _⟩
theorem uA (w:World) (p:Pg) (h:p.ok w) (sm:p.sm) (vd:p.vd) :
 Calls prog 22 #[p.val] w fun e w'=>∃s:Sn,e = .returned (.tuple #[s.val, .bool true])/\vA w' p s/\Below w.heap.size w w':=by
 have HO:=ag h;have br:=ag sm;have bK:=ag vd;clear h sm vd;go_enter func22,ntmps22;go_upto_region 1 with fail;have pb:=(aY w p 25).1;have bw:=(aY w p 25).2;have hsz:=iV w p 25;generalize (w.alloc (.cells #[.slice p.cost.A p.cost.vs.length p.cost.c, .slice p.rA p.rows.length p.rc, .slice p.right.A p.right.vs.length p.right.c] 25))=wm at pb bw hsz|-;have zs:=oC wm 31;have bb:=qb wm (.cells #[.int .i64 0, .slice none 0 0, .slice none 0 0, .slice none 0 0, .bool false, .slice none 0 0, .slice none 0 0] 31);obtain ⟨g1,hg1⟩:∃g,w.heap.size=g:=⟨_,rfl⟩;rw [hsz,hg1] at zs
 rw [hg1] at pb;replace pb:=pb.below bb;replace bw:=qc bw bb;have an:=ag bw;have cK:=ag zs;have bj:=ag pb;clear bb hsz;generalize (wm.alloc (.cells #[.int .i64 0, .slice none 0 0, .slice none 0 0, .slice none 0 0, .bool false, .slice none 0 0, .slice none 0 0] 31))=wb at *;have c0:=pb.c0;have c1:=pb.c1;have c2:=pb.c2;clear pb bw zs;go_wp2_with fail;refine (pX wb p (HO.o.below an.o) br.o bK.o).mono ?_;rintro e wc ⟨s,rfl,sol,bb⟩;have Aa:Hd (g1+1<wb.heap.size/\w.heap.size<=g1):=ag ⟨cK.o.lt,Nat.le_of_eq hg1⟩;have yF:=ag bb.size;replace bj:=ag (bj.o.below bb);replace cK:=ag (cK.o.below bb)
 replace an:=ag (qc an.o bb);have cB:=ag sol;clear sol c0 c1 c2 bb;go_upto_region 2 with fail;have sb:=(cY wc s 31).1;have bb:=(cY wc s 31).2;generalize (wc.alloc (.cells #[.int .i64 s.kind, .slice s.X.A s.X.vs.length s.X.c, .slice s.Y.A s.Y.vs.length s.Y.c, .slice s.R.A s.R.vs.length s.R.c, .bool s.v.b, .slice s.v.A s.v.xs.length s.v.c, .slice s.v.D s.v.ys.length s.v.d] 31))=wr at sb bb|-;generalize wb.heap.size=B8 at *;obtain ⟨g2,hg2⟩:∃g,wc.heap.size=g:=⟨_,rfl⟩;obtain ⟨g0,hg0⟩:∃g,g1+1=g:=⟨_,rfl⟩;have zU:Hd (g1<g0/\g0<B8/\g0<g2/\w.heap.size<=g1):=ag (by have:=Aa.o;have:=yF.o;omega)
 rw [hg2] at sb;rw [hg0] at cK;replace bj:=ag (bj.o.below bb);replace cK:=ag (cK.o.below bb);replace an:=ag (qc an.o bb);replace cB:=ag (cB.o.below bb);have bX:=ag sb;clear sb bb Aa yF
 try rw [hg0]
 try rw [hg2]
 clear hg0 hg2 hg1;have pb:=bj.o.below (ah wr.heap.size wr).drew;have sb:=bX.o.below (ah wr.heap.size wr).drew;have zs:=cK.o.below (ah wr.heap.size wr).drew;have sol:=cB.o.below (ah wr.heap.size wr).drew;have bw:=ai an.o ((ah wr.heap.size wr).drew) an.o.size;refine wp_region_held_drew (S:=fun w'=>w'.cell? ⟨g1,0,none⟩=some p.cost.val/\w'.cell? ⟨g1,1,none⟩=some (.slice p.rA p.rows.length p.rc)/\w'.cell? ⟨g1,2,none⟩=some p.right.val/\w'.cell? ⟨g2,0,none⟩=some (.int .i64 s.kind)/\w'.cell? ⟨g2,1,none⟩=some s.X.val/\w'.cell? ⟨g2,2,none⟩=some s.Y.val/\w'.cell? ⟨g2,3,none⟩=some s.R.val/\w'.cell? ⟨g2,4,none⟩=some (.bool s.v.b)/\w'.cell? ⟨g2,5,none⟩=some (.slice s.v.A s.v.xs.length s.v.c)/\w'.cell? ⟨g2,6,none⟩=some (.slice s.v.D s.v.ys.length s.v.d)) (by kernel_rfl) ⟨pb.c0,pb.c1,pb.c2,sb.c0,sb.c1,sb.c2,sb.c3,sb.c4,sb.c5,sb.c6⟩ fun hH=>?_
 have bz:=(ah wr.heap.size wr).drew;generalize wr.drew=wd at *;refine qh 10 fun Ha=>?_
 refine qe Ha 0 (.agg #[.int .i64 s.kind,s.X.val,s.Y.val,s.R.val, .bool s.v.b, .slice s.v.A s.v.xs.length s.v.c, .slice s.v.D s.v.ys.length s.v.d]) rfl ?_;refine qe Ha 1 (.int .i64 0) rfl ?_;refine qe Ha 2 (.bool true) rfl ?_;refine qe Ha 3 (.bool true) rfl ?_;refine qe Ha 4 (.agg #[p.cost.val, .slice p.rA p.rows.length p.rc,p.right.val]) rfl ?_;refine tks Ha 5 (.agg #[.int .i64 s.kind,s.X.val,s.Y.val,s.R.val, .bool s.v.b, .slice s.v.A s.v.xs.length s.v.c, .slice s.v.D s.v.ys.length s.v.d]) rfl ?_;simp only [tz]
 refine tk1 Ha 6 rfl fun K hK=>?_;go_simp;go_at_call 18;have good:=sol.good bK.o;refine (rC wd p s true (HO.o.below bw) br.o good.ok good.sm (Iff.intro (fun _=>good.chk) (fun _=>rfl))).mono ?_;rintro e we ⟨rfl,bb⟩;replace pb:=pb.below bb;replace sb:=sb.below bb;replace zs:=zs.below bb;replace sol:=sol.below bb;replace bw:=qc bw bb;clear bb hH good;generalize we=wd at *;refine hK.out _ _ ⟨pb.c0,pb.c1,pb.c2,sb.c0,sb.c1,sb.c2,sb.c3,sb.c4,sb.c5,sb.c6⟩ fun hH=>?_;clear hK K;try simp only [tz]
 refine tks Ha 7 (.bool true) rfl ?_;simp only [tz];refine tk1 Ha 8 rfl fun K hK=>?_;clear hH;obtain ⟨z0,z1,z2,z3,z4,z5,z6,zf,_,_⟩:=id zs;have f0:=zf 0;have f1:=zf 1;have f2:=zf 2;have f3:=zf 3;have f4:=zf 4;have f5:=zf 5;have f6:=zf 6;go_simp;clear z0 z1 z2 z3 z4 z5 z6 f0 f1 f2 f3 f4 f5 f6 zf;have st:=zs.put s;have k7:=st.2;replace pb:=pb.kp k7 (by have:=zU.o;omega)
 replace sb:=sb.kp k7 (by have:=zU.o;omega)
 replace sol:=sol.kp k7 (fun a e=>by rw [e];exact zs.nl) (fun ad e e2=>by have:=sol.ge ad (.inl e);have:=zU.o;omega) (fun ad e e2=>by have:=sol.ge ad (.inr (.inl e));have:=zU.o;omega) (fun ad e e2=>by have:=sol.ge ad (.inr (.inr e));have:=zU.o;omega)
 replace bw:=bw.trans (k7.below (fun a e=>by rw [e];have:=zU.o;omega) bw.size)
 have zb:=st.1;clear st k7;generalize (((((((wd.setCell ⟨g0,0,none⟩ (.int .i64 s.kind)).setCell ⟨g0,1,none⟩ (.slice s.X.A s.X.vs.length s.X.c)).setCell ⟨g0,2,none⟩ (.slice s.Y.A s.Y.vs.length s.Y.c)).setCell ⟨g0,3,none⟩ (.slice s.R.A s.R.vs.length s.R.c)).setCell ⟨g0,4,none⟩ (.bool s.v.b)).setCell ⟨g0,5,none⟩ (.slice s.v.A s.v.xs.length s.v.c)).setCell ⟨g0,6,none⟩ (.slice s.v.D s.v.ys.length s.v.d))=we at *;generalize we=wd at *;refine hK.out _ _ ⟨pb.c0,pb.c1,pb.c2,sb.c0,sb.c1,sb.c2,sb.c3,sb.c4,sb.c5,sb.c6⟩ fun hH=>?_;clear hK K;try simp only [tz]
 refine tkm Ha 1 [(9,3,0,some true)] rfl ?_;simp only [exI,exD,bI,kV,rpZ,apN];refine qp Ha ?_
 go_wp2_with fail;obtain ⟨y0,y1,y2,y3,y4,y5,y6,_⟩:=zb;refine bodyPost_ret (v := .tuple #[s.val, .bool true]) (by simp [results,Tryz.results22,go_sem,y0,y1,y2,y3,y4,y5,y6]) rfl ?_
 exact ⟨s,rfl,sol.good bK.o,bw⟩
structure Gq (x:Fx):Prop where
 v:x.v
 l:x.xs.length<=10000/\x.ys.length<=10000
 g:wgB x.q<=14
theorem uq {vs:List Fx} (h:∀v∈vs,Gq v):wlF vs<=14*vs.length:=by
 induction vs with
 | nil=>simp [wlF]
 | cons v vs ih=>
   have h1:=ih (fun x hx=>h x (List.mem_cons_of_mem _ hx));have h2:=(h v (List.mem_cons_self)).g;simp only [wlF,List.map_cons,List.sum_cons,List.length_cons] at h1|-;omega
theorem CO {rows:List Sl} {n:Nat} (h:∀r∈rows,r.vs.length=n/\∀v∈r.vs,Gq v):(rows.map (fun r=>wlF r.vs)).sum<=14*n*rows.length:=by
 induction rows with
 | nil=>simp
 | cons r rows ih=>
   have h1:=ih (fun x hx=>h x (List.mem_cons_of_mem _ hx));have h2:=uq (h r (List.mem_cons_self)).2;rw [(h r (List.mem_cons_self)).1] at h2;rw [List.map_cons,List.sum_cons,List.length_cons,Nat.mul_add];omega
theorem zz {p:Pg} (r1:1<=p.rows.length) (r2:p.rows.length<=4) (c1:1<=p.cost.vs.length) (c2:p.cost.vs.length<=6) (lb:p.right.vs.length=p.rows.length) (hc:∀v∈p.cost.vs,Gq v) (hb:∀v∈p.right.vs,Gq v) (ha:∀r∈p.rows,r.vs.length=p.cost.vs.length/\∀v∈r.vs,Gq v):p.sm/\p.vd:=by
 have w1:=uq hc;have w2:=uq hb;have w3:=CO ha;have w4:14*p.cost.vs.length*p.rows.length<=14*6*4:=Nat.mul_le_mul (Nat.mul_le_mul (Nat.le_refl _) c2) r2;exact ⟨⟨by omega,by omega,by omega,fun r hr=>by have:=(ha r hr).1;omega,fun v hv=>(hc v hv).l,fun v hv=>(hb v hv).l,fun r hr v hv=>((ha r hr).2 v hv).l⟩,
  ⟨r1,by omega,c1,by omega,lb,fun r hr=>(ha r hr).1,fun v hv=>(hc v hv).v,fun v hv=>(hb v hv).v,fun r hr v hv=>((ha r hr).2 v hv).v,by omega⟩⟩
theorem Zl.gq {w:World} {x:Fx} (h:Zl w x):Gq x:=by
 obtain ⟨z,hz,e⟩:=h;have n:=e.int (z:=z) (by omega)
 exact ⟨n.v,⟨n.l,n.m⟩,Nat.le_trans (lO n.q hz) (by omega)⟩
theorem Ip.small {w:World} {p:Pg} (h:Ip w p):p.sm/\p.vd:=
 zz h.r1 (Nat.le_succ_of_le h.r2) h.c1 (Nat.le_succ_of_le h.c2) h.lb (fun v hv=>(h.cz.el v hv).gq) (fun v hv=>(h.bz.el v hv).gq) (fun r hr=>⟨(h.rz r hr).2,fun v hv=>((h.rz r hr).1.el v hv).gq⟩)
open Go.Joins Go.ChangeShapes Go.WideShapes Go.ChangeAt Go.RowKit
theorem Cz {z:Int} (h:(Lit.int .u8 z).wf=true):0<=z/\z<=255:=by
 simp [Lit.wf,IntKind.min,IntKind.max,IntKind.signed,IntKind.bits] at h;omega
structure By (w:World) (A:Option Addr) (c:Nat) (bs:List Nat):Prop where
 rd:Rd u8b w A bs
 cap:bs.length<=c
 max:c<=9223372036854775807
 by_:∀b∈bs,b<256
theorem vt {H:Type} {enc:TypeId×Value->H} {W:World} {base:Nat} {spare:Nat->Bool} {held:Bool} {t:TypeId} {a:Option Addr} {len cap:Nat} {d:DataW H} {p:List MemPlace}
 (ht:prog.underlying t=some (.slice 5)) (h:DataW.Trod enc prog W base spare held t (.slice a len cap) d p):∃bs:List Nat,bs.length=len/\By W a cap bs:=by
 obtain ⟨fuel,hf⟩:=h;rcases open_ints ht underlying5 (by kernel_rfl) hf with ⟨hcs,_⟩|⟨x,l,c,zs,hcs,_,hl,hm,hz,_,hcell,hwz⟩
 ·simp [Value.cells] at hcs;obtain ⟨rfl,rfl,rfl⟩:=hcs;exact ⟨[],rfl,fun h=>absurd h (by simp),Nat.le_refl _,by omega,fun b hb=>absurd hb (by simp)⟩
 ·simp [Value.cells] at hcs;obtain ⟨rfl,rfl,rfl⟩:=hcs;unfold maxLen at hm;have hzl:len<=zs.length:=by
   rw [hz];split <;> omega
  have hlen:((zs.take len).map Int.toNat).length=len:=by simp;omega
  refine ⟨(zs.take len).map Int.toNat,hlen,fun hn=>?_,by rw [hlen];exact hl,hm,fun b hb=>?_⟩
  ·rw [hlen] at hn;have h0:=hcell 0 (by omega)
   refine ⟨x,rfl,?_,fun k hk=>?_⟩
   ·have:=pf h0
    rwa [aM] at this
   ·rw [hlen] at hk;rw [hcell k (by omega)]
    have hw:=Cz (hwz zs[k] (List.getElem_mem _));simp only [List.getElem_map,List.getElem_take];rw [List.getD_eq_getElem?_getD,List.getElem?_eq_getElem (by omega),Option.getD_some]
    show some (Value.int .u8 zs[k])=some (.int .u8 ((zs[k].toNat:Nat):Int))
    rw [Int.toNat_of_nonneg hw.1]
  ·obtain ⟨z,hz,rfl⟩:=List.mem_map.1 hb;have:=Cz (hwz _ (List.mem_of_mem_take hz));omega
structure Pj (w:World) (p:Pg) (s:Sn) (g4 g5:Nat):Prop where
 ip:Ip w p
 gd:vA w p s
 pb:Q3 w g4 p.cost.val (.slice p.rA p.rows.length p.rc) p.right.val
 sb:Sb w g5 s
theorem Pj.below {w w':World} {p:Pg} {s:Sn} {g4 g5:Nat} (h:Pj w p s g4 g5) (hb:Below w.heap.size w w'):Pj w' p s g4 g5:=⟨h.ip.below hb,h.gd.below hb,h.pb.below hb,h.sb.below hb⟩
theorem vA.nmv {w:World} {p:Pg} {s:Sn} (h:vA w p s):Nm w s.v s.v.q:=⟨h.ok.v,(h.chk.V.v 0 (by simp)).1,rfl,h.sm.ev.1,h.sm.ev.2⟩
end Go.Proofs.YtkpfbekmaafehaaGreat
