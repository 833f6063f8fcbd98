/- The walk of drydockref16's point -/
import Derived.Test.YtkpfbekmaafehaaGreatSxA
import Derived.Test.YtkpfbekmaafehaaGreatSqG
import Derived.BigQuiet
import Derived.Deep.QuietTactic
import Derived.Test.YtkpfbekmaafehaaGreatSqK
namespace Go.Proofs.YtkpfbekmaafehaaGreat
open _root_.Go.Proofs.Tryz
set_option maxHeartbeats 40000000
set_option maxRecDepth 100000
open Go.RowKit
theorem Rtb.fresh {w0 w1 w2:World} {B0 g:Nat} {L:Ly} {x x0:St} (h0:Rtb w0 B0 L x0) (hg:w0.heap.size<=g) (h:Rtb w1 B0 L x) (k:Kp (fun a=>a=g) w1 w2) (nl:NL w1 g):Rtb w2 B0 L x:=
 h.kp k (fun a e=>by rw [e];exact nl) (by have:=h0.lt;omega) (by have:=h0.ol;omega) (fun a ha e=>by have:=h0.lts a ha;omega)
theorem r16tpoint_any (w:World) (B:Nat) (L:Ly) (x:St) (h:Rtb w B L x) (hN:L.N<=1000) (hinj:∀i,i<L.m->∀r,r<L.m->x.B i=x.B r->i=r) :
 Calls prog 64 #[.pointer (some ⟨L.G,0,none⟩)] w fun e w'=>∃g,e = .returned (.slice (some ⟨g,0,none⟩) L.n L.n)/\Ou w' w.heap.size g L.n (fun _=>True) (jk L.m x.T x.B (L.n+L.m))/\Below w.heap.size w w':=by
 have cw:Hd (L.N=L.n+L.m+1):=ag rfl;have hnl:L.n<=1000:=by have:=cw.o;omega
 have hml:L.m<=1000:=by have:=cw.o;omega
 have gq:=ag h;have HP:Hd (∀a,pvP x.T x.B (L.n+L.m) L.m a=jk L.m x.T x.B (L.n+L.m) a):=ag (fun a=>Bt _ hinj);have c0:=h.c3;obtain ⟨i1,hi,hi0,hi1,hi2⟩:=info_parts dr;obtain ⟨M,hM⟩:∃M,L.n+L.m=M:=⟨_,rfl⟩;have HM:=ag hM;obtain ⟨F,hF⟩:∃F:Nat->Rat,jk L.m x.T x.B M=F:=⟨_,rfl⟩;have ma:Hd (∀a,pvP x.T x.B M L.m a=F a):=ag (fun a=>by rw [<-hF,<-hM];exact HP.o a)
 rw [hM,hF];clear h hinj HP hM hF;go_enter func64,ntmps64;go_upto_region 2 with (refine wpList_make_full w rfl _ _ 22 rfl w.heap.size 29 i1 Fx.nil.val 3 underlying22 hi hi0 hi1 .i64 .i64 _ _ L.n rfl rfl (by omega) (by omega) (by rw [hi2];omega) (by simp only [maxLen];omega) (Nat.le_refl _) ?_;intro w2 hg2 hb2)
 have b12:Below w.heap.size w w2:=(ah _ _).grown hb2 (Nat.le_refl _) (by intro k hk;cases hk)
 have ou:Ou w2 w.heap.size w.heap.size L.n (fun a=>a<0) (fun _=>0):=by
  refine ⟨List.replicate L.n Fx.nil,⟨?_,fun v hv=>by rw [List.eq_of_mem_replicate hv];exact Fx.nil_ok _⟩,by simp,fun _ _ h=>absurd h (Nat.not_lt_zero _)⟩
  unfold Fr;rw [List.length_replicate,<-dm];exact hg2
 have gC:=ag (gq.o.below b12);have eP:Hd (w.heap.size<=w2.heap.size):=ag b12.size;have wW:Hd (∀A vs c,Cl w A vs c->Cl w2 A vs c):=ag (fun _ _ _ h=>h.below b12);have kh:Hd (NL w2 w.heap.size):=ag ou.nl;have ko:=ag b12;clear hg2 hb2 b12 hi hi0 hi1 hi2;generalize hg:w.heap.size=g at *;have dn:Hd (w.heap.size<=g):=ag (Nat.le_of_eq hg);have f9:=ag hg;clear hg;clear c0;go_wp2_with fail;go_loopw [4] (fun iv wr=>∃k:Nat,k<=L.n/\iv = .int .i64 k/\Ou wr g g L.n (fun a=>a<k) (fun _=>0)/\Kp (fun a=>a=g) w2 wr) (fun iv _=>L.n-(intOf iv).toNat)
 case atStart=>exact ⟨0,by omega,rfl,ou,Kp.refl _ _⟩
 case round=>
  clear ou;obtain ⟨k,hk,rfl,ou,kp⟩:=hrel;have aq:=ag (gq.o.fresh dn.o gC.o kp kh.o);have c3:=aq.o.c3;by_cases hlt:k<L.n
  ·have bj:=ag ou;have ax:=ag kp;clear ou kp;go_wp2_with fail;refine (iT wr).mono ?_;rintro e w5 ⟨y,rfl,el,bb⟩;obtain ⟨v,k0,k1,k2,aF,aG,aH⟩:=(bj.o.below bb).slot hlt;go_wp2_with fail;have t6:=(bj.o.below bb).put (i:=k) el;go_roundw
   case rel=>exact ⟨k+1,by omega,by go_num,t6.1.mono (fun a _ ha=>by omega) (fun a _ _=>by by_cases hak:a=k <;> simp [hak]),(ax.o.then bb).trans t6.2⟩
   case measure=>simp [intOf];omega
  ·obtain rfl:k=L.n:=by omega
   have bj:Hd (Ou wr g g L.n (fun _=>True) (pvP x.T x.B M 0)):=ou.mono (fun a ha _=>ha) (fun _ _ _=>rfl);have ax:=ag kp;clear ou kp aq;go_wp2_with fail;clear c3;go_loopw [5] (fun iv wr=>∃k:Nat,k<=L.m/\iv = .int .i64 k/\Ou wr g g L.n (fun _=>True) (pvP x.T x.B M k)/\Kp (fun a=>a=g) w2 wr) (fun iv _=>L.m-(intOf iv).toNat)
   case atStart=>exact ⟨0,by omega,rfl,bj.o,ax.o⟩
   case round=>
    clear bj ax;obtain ⟨k,hk,rfl,ou,kp⟩:=hrel;have aq:=ag (gq.o.fresh dn.o gC.o kp kh.o);have c0:=aq.o.c0;by_cases hlt:k<L.m
    ·have bj:=ag ou;have ax:=ag kp;clear ou kp;obtain ⟨bk,hbk⟩:∃b,x.B k=b:=⟨_,rfl⟩;have c2:=aq.o.c2;have c3:=aq.o.c3;have cb:=(aq.o.bas hlt).1;rw [hbk] at cb;have ff:=ag hbk;have dy:=ag hlt;clear hbk;by_cases hbn:bk<L.n
     ·go_upto_region 9 with fail;go_region;have bd:Below wr.heap.size wr wr.drew:=(ah _ _).drew;have wj:=ag (aq.o.below bd);have By:=ag (bj.o.below bd);have pm:=ag (ax.o.then bd)
      clear bd c0 c2 c3 cb aq bj ax;generalize wr.drew=wq at *;obtain ⟨gk,hgk⟩:∃a,L.g k=a:=⟨_,rfl⟩;obtain ⟨xe,ev⟩:=wj.o.elg (Nat.le_of_lt dy.o) hgk (k:=M) (by have:=cw.o;have:=HM.o;omega)
      have bf:=ag ev;have c0:=wj.o.c0;have c1:=wj.o.c1;have c2:=wj.o.c2;have cb:=(wj.o.bas dy.o).1;rw [ff.o] at cb;have cr:=wj.o.rowg dy.o hgk;have e0:=ev.c0;have e1:=ev.c1;have e2:=ev.c2;have hNM:(L.N:Int)-1=(M:Int):=by have:=cw.o;have:=HM.o;omega
      have hMN:M<L.N:=by have:=cw.o;have:=HM.o;omega
      obtain ⟨v,k0,k1,k2,aF,aG,aH⟩:=By.o.slot hbn;clear ev;go_upto_region 10 with fail;go_region;have t6:=By.o.put (i:=bk) bf.o.el;generalize hws:(((wq.setCell ⟨g,bk*3,none⟩ (.bool xe.b)).setCell ⟨g,bk*3+1,none⟩ (.slice xe.A xe.xs.length xe.c)).setCell ⟨g,bk*3+2,none⟩ (.slice xe.D xe.ys.length xe.d))=ws at t6|-;have bd:Below ws.heap.size ws ws.drew:=(ah _ _).drew;go_wp2_with fail;go_roundw
      case rel=>exact ⟨k+1,by omega,by go_num,(t6.1.mono (fun a _ ha => .inl ha) (fun a _ _=>by
       rw [pvP,ff.o];by_cases hab:a=bk
       ·rw [if_pos hab,if_pos hab.symm]
       ·rw [if_neg hab,if_neg (fun e=>hab e.symm)])).below bd,(pm.o.trans t6.2).then bd⟩
      case measure=>simp [intOf];omega
     ·go_upto_region 9 with fail;go_region;have bd:Below wr.heap.size wr wr.drew:=(ah _ _).drew;have By:=ag (bj.o.below bd);have pm:=ag (ax.o.then bd)
      clear bd c0 c2 c3 cb aq bj ax;generalize wr.drew=wq at *;go_wp2_with fail;go_roundw
      case rel=>exact ⟨k+1,by omega,by go_num,By.o.mono (fun a _ ha=>ha) (fun a ha _=>by rw [pvP,ff.o,if_neg (by omega)]),pm.o⟩
      case measure=>simp [intOf];omega
    ·obtain rfl:k=L.m:=by omega
     go_wp2_with fail;go_ret;exact ⟨g,rfl,by rw [f9.o];exact ou.mono (fun a ha _=>trivial) (fun a _ _=>ma.o a),by rw [f9.o];exact kp.up' ko.o (Nat.le_refl _) eP.o⟩
structure Q4 (w:World) (G:Nat) (v0 v1 v2 v3:Value):Prop where
 c0:w.cell? ⟨G,0,none⟩=some v0
 c1:w.cell? ⟨G,1,none⟩=some v1
 c2:w.cell? ⟨G,2,none⟩=some v2
 c3:w.cell? ⟨G,3,none⟩=some v3
 fz:∀k,w.frozen? ⟨G,k,none⟩=false
 lt:G<w.heap.size
 nl:NL w G
section
variable {w w':World} {S:Nat->Prop} {G:Nat} {v0 v1 v2 v3 u:Value}
theorem Q4.kp (h:Q4 w G v0 v1 v2 v3) (k:Kp S w w') (hG:¬S G):Q4 w' G v0 v1 v2 v3:=
 ⟨(k.cell (p:=⟨G,0,none⟩) h.lt hG).trans h.c0,(k.cell (p:=⟨G,1,none⟩) h.lt hG).trans h.c1,(k.cell (p:=⟨G,2,none⟩) h.lt hG).trans h.c2,(k.cell (p:=⟨G,3,none⟩) h.lt hG).trans h.c3,
   fun o=>(k.frozen (p:=⟨G,o,none⟩) h.lt hG).trans (h.fz o),Nat.lt_of_lt_of_le h.lt k.size,h.nl.kp k hG⟩
theorem Q4.below (h:Q4 w G v0 v1 v2 v3) (hb:Below w.heap.size w w'):Q4 w' G v0 v1 v2 v3:=h.kp (fo (fun _=>False) hb) (fun h=>h)
theorem Q4.set0 (h:Q4 w G v0 v1 v2 v3) (hu:isL u=false):Q4 (w.setCell ⟨G,0,none⟩ u) G u v1 v2 v3:=by
 have c0:=h.c0;have c1:=h.c1;have c2:=h.c2;have c3:=h.c3;exact ⟨by simp [go_sem,c0],by simp [go_sem,c1],by simp [go_sem,c2],by simp [go_sem,c3],fun o=>by have:=h.fz o;simp [go_sem,this],by simpa [World.setCell] using h.lt,h.nl.set 0 hu⟩
theorem Q4.set1 (h:Q4 w G v0 v1 v2 v3) (hu:isL u=false):Q4 (w.setCell ⟨G,1,none⟩ u) G v0 u v2 v3:=by
 have c0:=h.c0;have c1:=h.c1;have c2:=h.c2;have c3:=h.c3;exact ⟨by simp [go_sem,c0],by simp [go_sem,c1],by simp [go_sem,c2],by simp [go_sem,c3],fun o=>by have:=h.fz o;simp [go_sem,this],by simpa [World.setCell] using h.lt,h.nl.set 1 hu⟩
theorem q4_alloc (w:World) (v0 v1 v2 v3:Value) (t:TypeId) (h0:isL v0=false) (h1:isL v1=false) (h2:isL v2=false) (h3:isL v3=false):Q4 (w.alloc (.cells #[v0,v1,v2,v3] t)) w.heap.size v0 v1 v2 v3:=
 ⟨by go_simp,by go_simp,by go_simp,by go_simp,fun k=>by go_simp,by simp,⟨_,_,heap_alloc_new w _,fun u hu=>by
  simp at hu;rcases hu with rfl|rfl|rfl|rfl
  ·exact h0
  ·exact h1
  ·exact h2
  ·exact h3⟩⟩
end
abbrev rowP (N:Nat) (p:Nat×Nat):Value := .slice (some ⟨p.1,0,none⟩) N p.2
structure Rg (w:World) (B G N n m i ib it:Nat) (g c:Nat->Nat) (A1:Option Addr) (c1 gb gt:Nat) (T:Nat->Nat->Rat) (tn:Nat->Bool):Prop where
 q:Q4 w G (.slice A1 i c1) (.slice (some ⟨g m,0,none⟩) N (c m)) (.slice (some ⟨gb,0,none⟩) m m) (.int .i64 (n:Int))
 out:∃rs:List (Nat×Nat),Gr (rowP N) 22 w B A1 c1 rs/\rs.length=i/\∀k (h:k<rs.length),rs[k]=(g k,c k)
 n1:NLr w A1
 mc:Mc w B (fun r=>r<i\/r=m) g c N T
 ba:∃bs,Gr iv 3 w B (some ⟨gb,0,none⟩) m bs/\bs.length=m/\∀k (h:k<bs.length),k<ib->bs[k]=((n+k:Nat):Int)
 tu:∃ts,Gr Value.bool 4 w B (some ⟨gt,0,none⟩) m ts/\ts.length=m/\∀k (h:k<ts.length),k<it->ts[k]=tn k
 bl:NL w gb
 tl:NL w gt
 o1:gb<G/\G<gt/\gt<g m
 o2:∀k,k<i->g m<g k
 o3:∀a,A1.map (·.block)=some a->g m<a/\∀k,k<i->g k≠a
def Rgo (G m i:Nat) (g:Nat->Nat) (A1:Option Addr) (gb gt:Nat) (a:Nat):Prop:=a=G\/a=gb\/a=gt\/A1.map (·.block)=some a\/∃r,(r<i\/r=m)/\a=g r
section
variable {w w' w2:World} {S:Nat->Prop} {B G N n m i ib it c1 c' gb gt a gn cn:Nat} {g c:Nat->Nat} {A1 A':Option Addr} {T T':Nat->Nat->Rat} {tn:Nat->Bool}
theorem Rg.kp (h:Rg w B G N n m i ib it g c A1 c1 gb gt T tn) (k:Kp S w w') (nl:∀a,S a->NL w a) (hd:∀a,Rgo G m i g A1 gb gt a->¬S a):Rg w' B G N n m i ib it g c A1 c1 gb gt T tn:=by
 obtain ⟨rs,r1,r2⟩:=h.out;obtain ⟨bs,b1,b2⟩:=h.ba;obtain ⟨ts,t1,t2⟩:=h.tu;have hb:=hd gb (.inr (.inl rfl));have ht:=hd gt (.inr (.inr (.inl rfl)));have hA:∀a,A1.map (·.block)=some a->¬S a:=fun a e=>hd a (.inr (.inr (.inr (.inl e))));exact ⟨h.q.kp k (hd G (.inl rfl)),⟨rs,k.gr r1 (fun ad e=>hA _ (by rw [e];rfl)),r2⟩,h.n1.kp k hA,h.mc.kp k nl (fun r hr=>hd _ (.inr (.inr (.inr (.inr ⟨r,hr,rfl⟩))))),
  ⟨bs,k.gr b1 (fun ad e=>by injection e with e;subst e;exact hb),b2⟩,⟨ts,k.gr t1 (fun ad e=>by injection e with e;subst e;exact ht),t2⟩,h.bl.kp k hb,h.tl.kp k ht,h.o1,h.o2,h.o3⟩
theorem Rg.below (h:Rg w B G N n m i ib it g c A1 c1 gb gt T tn) (hb:Below w.heap.size w w'):Rg w' B G N n m i ib it g c A1 c1 gb gt T tn:=h.kp (fo (fun _=>False) hb) (fun _ h=>h.elim) (fun _ _ h=>h)
theorem Rg.bd (h:Rg w B G N n m i ib it g c A1 c1 gb gt T tn) (ha:Rgo G m i g A1 gb gt a):a<w.heap.size:=by
 have h1:=h.o1;have h2:=(h.mc.lt (i:=m) (.inr rfl)).2;rcases ha with rfl|rfl|rfl|ha|⟨r,hr,rfl⟩
 ·omega
 ·omega
 ·omega
 ·obtain ⟨rs,r1,_⟩:=h.out;exact (kM r1 ha).2
 ·exact (h.mc.lt hr).2
theorem Rg.turn (h:Rg w B G N n m i ib it g c A1 c1 gb gt T tn) {b:Bool} (hb:tn it=b):Rg (w.setCell ⟨gt,it,none⟩ (.bool b)) B G N n m i ib (it+1) g c A1 c1 gb gt T tn/\Kp (fun a=>a=gt) w (w.setCell ⟨gt,it,none⟩ (.bool b)):=by
 have k:=rM w gt it (.bool b);have o:=h.o1;obtain ⟨rs,r1,r2⟩:=h.out;obtain ⟨bs,b1,b2⟩:=h.ba;obtain ⟨ts,t1,t2,t3⟩:=h.tu;have hA:∀a,A1.map (·.block)=some a->¬a=gt:=fun a e e2=>by have:=(h.o3 a e).1;omega
 have hR:∀r,r<i\/r=m->¬g r=gt:=fun r hr e=>by
  rcases hr with hr|rfl
  ·have:=h.o2 r hr;omega
  ·omega
 refine ⟨⟨h.q.kp k (by omega),⟨rs,k.gr r1 (fun ad e=>hA _ (by rw [e];rfl)),r2⟩,h.n1.kp k hA,h.mc.kp k (fun a e=>by rw [e];exact h.tl) hR,
  ⟨bs,k.gr b1 (fun ad e=>by injection e with e;subst e;show ¬gb=gt;omega),b2⟩,⟨ts.set it b,t1.store it b,by rw [List.length_set];exact t2,fun r hr h2=>?_⟩,h.bl.kp k (by omega),h.tl.set it rfl,h.o1,h.o2,h.o3⟩,k⟩
 rw [List.getElem_set];rw [List.length_set] at hr;by_cases e:it=r
 ·rw [if_pos e,<-e,hb]
 ·rw [if_neg e];exact t3 r hr (by omega)
theorem Rg.bas (h:Rg w B G N n m i ib it g c A1 c1 gb gt T tn):Rg (w.setCell ⟨gb,ib,none⟩ (.int .i64 ((n+ib:Nat):Int))) B G N n m i (ib+1) it g c A1 c1 gb gt T tn/\Kp (fun a=>a=gb) w (w.setCell ⟨gb,ib,none⟩ (.int .i64 ((n+ib:Nat):Int))):=by
 have k:=rM w gb ib (.int .i64 ((n+ib:Nat):Int));have o:=h.o1;obtain ⟨rs,r1,r2⟩:=h.out;obtain ⟨bs,b1,b2,b3⟩:=h.ba;obtain ⟨ts,t1,t2⟩:=h.tu;have hA:∀a,A1.map (·.block)=some a->¬a=gb:=fun a e e2=>by have:=(h.o3 a e).1;omega
 have hR:∀r,r<i\/r=m->¬g r=gb:=fun r hr e=>by
  rcases hr with hr|rfl
  ·have:=h.o2 r hr;omega
  ·omega
 refine ⟨⟨h.q.kp k (by omega),⟨rs,k.gr r1 (fun ad e=>hA _ (by rw [e];rfl)),r2⟩,h.n1.kp k hA,h.mc.kp k (fun a e=>by rw [e];exact h.bl) hR,
  ⟨bs.set ib ((n+ib:Nat):Int),b1.store ib ((n+ib:Nat):Int),by rw [List.length_set];exact b2,fun r hr h2=>?_⟩,⟨ts,k.gr t1 (fun ad e=>by injection e with e;subst e;show ¬gt=gb;omega),t2⟩,h.bl.set ib rfl,h.tl.kp k (by omega),h.o1,h.o2,h.o3⟩,k⟩
 rw [List.getElem_set];rw [List.length_set] at hr;by_cases e:ib=r
 ·rw [if_pos e,<-e]
 ·rw [if_neg e];exact b3 r hr (by omega)
theorem Rg.cost (h:Rg w B G N n m i ib it g c A1 c1 gb gt T tn) (_:i<=m) {k:Nat} {x:Fx} {q:Rat} (hx:El w x q) :
 Rg (((w.setCell ⟨g m,k*3,none⟩ (.bool x.b)).setCell ⟨g m,k*3+1,none⟩ (.slice x.A x.xs.length x.c)).setCell ⟨g m,k*3+2,none⟩ (.slice x.D x.ys.length x.d)) B G N n m i ib it g c A1 c1 gb gt (oE T m k q) tn /\
 Kp (fun a=>a=g m) w (((w.setCell ⟨g m,k*3,none⟩ (.bool x.b)).setCell ⟨g m,k*3+1,none⟩ (.slice x.A x.xs.length x.c)).setCell ⟨g m,k*3+2,none⟩ (.slice x.D x.ys.length x.d)):=by
 have kp:Kp (fun a=>a=g m) w (((w.setCell ⟨g m,k*3,none⟩ (.bool x.b)).setCell ⟨g m,k*3+1,none⟩ (.slice x.A x.xs.length x.c)).setCell ⟨g m,k*3+2,none⟩ (.slice x.D x.ys.length x.d)):=
  (Kp.refl (fun a=>a=g m) w).set3 (S:=fun a=>a=g m) rfl _ _ _ _ _ _
 have o:=h.o1;obtain ⟨rs,r1,r2⟩:=h.out;obtain ⟨bs,b1,b2⟩:=h.ba;obtain ⟨ts,t1,t2⟩:=h.tu;have hA:∀a,A1.map (·.block)=some a->¬a=g m:=fun a e e2=>by have:=(h.o3 a e).1;omega
 exact ⟨⟨h.q.kp kp (by omega),⟨rs,kp.gr r1 (fun ad e=>hA _ (by rw [e];rfl)),r2⟩,h.n1.kp kp hA,h.mc.put (.inr rfl) hx,
  ⟨bs,kp.gr b1 (fun ad e=>by injection e with e;subst e;show ¬gb=g m;omega),b2⟩,⟨ts,kp.gr t1 (fun ad e=>by injection e with e;subst e;show ¬gt=g m;omega),t2⟩,h.bl.kp kp (by omega),h.tl.kp kp (by omega),h.o1,h.o2,h.o3⟩,kp⟩
theorem Rg.row (h:Rg w B G N n m i ib it g c A1 c1 gb gt T tn) (hi:i<m) {vs:List Fx} (hx:Xr w B (some ⟨gn,0,none⟩) cn vs) (hv:vs.length=N) (hr:∀k (hk:k<vs.length),Rp vs[k] (T' i k)) (hT:∀r,r<i\/r=m->∀k,k<N->T r k=T' r k)
 (hf:g m<gn) (hf2:¬Rgo G m i g A1 gb gt gn) {rs:List (Nat×Nat)} (hrs:rs.length=i) (hre:∀k (h:k<rs.length),rs[k]=(g k,c k))
 (gr:Gr (rowP N) 22 w2 B A' c' (rs ++ [(gn,cn)])) (nl:NLr w2 A') (k:Kp (fun a=>A1.map (·.block)=some a) w w2) (hat:A'.map (·.block)=A1.map (·.block)\/A'.map (·.block)=some w.heap.size) :
 Rg (w2.setCell ⟨G,0,none⟩ (.slice A' (i+1) c')) B G N n m (i+1) ib it (fun r=>if r=i then gn else g r) (fun r=>if r=i then cn else c r) A' c' gb gt T' tn:=by
 have o:=h.o1;have hlt:∀a,Rgo G m i g A1 gb gt a->a<w.heap.size:=fun a ha=>h.bd ha;have hgn:gn<w.heap.size:=(hx.lt rfl).2;have nl1:∀a,A1.map (·.block)=some a->NL w a:=h.n1;have hgm:(if m=i then gn else g m)=g m:=if_neg (by omega)
 have hcm:(if m=i then cn else c m)=c m:=if_neg (by omega)
 have d0:∀a,A1.map (·.block)=some a->g m<a:=fun a e=>(h.o3 a e).1;have kG:=rM w2 G 0 (.slice A' (i+1) c');have nA:∀a,a<w.heap.size->A1.map (·.block)≠some a->A'.map (·.block)≠some a:=fun a h1 h2 h3=>by
  rcases hat with h4|h4
  ·exact h2 (h4 ▸ h3)
  ·rw [h4] at h3;injection h3 with h3;omega
 have a1G:¬A1.map (·.block)=some G:=fun e=>by have:=d0 _ e;omega
 have a1b:¬A1.map (·.block)=some gb:=fun e=>by have:=d0 _ e;omega
 have a1t:¬A1.map (·.block)=some gt:=fun e=>by have:=d0 _ e;omega
 have q2:=(h.q.kp k a1G).set0 (u := .slice A' (i+1) c') rfl;have nlG:NL w2 G:=(h.q.kp k a1G).nl;obtain ⟨bs,b1,b2⟩:=h.ba;obtain ⟨ts,t1,t2⟩:=h.tu;have hA'G:∀a,A'.map (·.block)=some a->¬a=G:=fun a e e2=>by
  rw [e2] at e;exact nA G h.q.lt a1G e
 have rowNe:∀r,r<i\/r=m->¬A1.map (·.block)=some (g r):=fun r hr e=>by
  rcases hr with hr|rfl
  ·exact (h.o3 _ e).2 r hr rfl
  ·have:=d0 _ e;omega
 have rowG:∀r,r<i\/r=m->¬g r=G:=fun r hr e=>by
  rcases hr with hr|rfl
  ·have:=h.o2 r hr;omega
  ·omega
 have gnA:¬A1.map (·.block)=some gn:=fun e=>hf2 (.inr (.inr (.inr (.inl e))));have xr2:=(hx.kp k nl1 (fun a e=>by injection e with e;rw [<-e];exact gnA)).kp kG (fun a e=>by rw [e];exact nlG) (fun a e=>by injection e with e;rw [<-e];show ¬gn=G;omega)
 have mc2:=(h.mc.kp k nl1 rowNe).kp kG (fun a e=>by rw [e];exact nlG) rowG
 refine ⟨?_,⟨rs ++ [(gn,cn)],kG.gr gr (fun ad e=>hA'G _ (by rw [e];rfl)),by rw [List.length_append,hrs];rfl,fun r hr=>?_⟩,nl.kp kG hA'G,⟨fun r hr9=>?_,fun r s hr hs e=>?_⟩,
  ⟨bs,kG.gr (k.gr b1 (fun ad e=>by injection e with e;subst e;exact a1b)) (fun ad e=>by injection e with e;subst e;show ¬gb=G;omega),b2⟩,⟨ts,kG.gr (k.gr t1 (fun ad e=>by injection e with e;subst e;exact a1t)) (fun ad e=>by injection e with e;subst e;show ¬gt=G;omega),t2⟩,
  (h.bl.kp k a1b).kp kG (by omega),(h.tl.kp k a1t).kp kG (by omega),?_,fun r hr=>?_,fun a ha=>?_⟩
 ·show Q4 _ G _ (.slice (some ⟨if m=i then gn else g m,0,none⟩) N (if m=i then cn else c m)) _ _
  rw [hgm,hcm];exact q2
 ·rw [List.length_append,List.length_singleton,hrs] at hr
  show _=((if r=i then gn else g r),(if r=i then cn else c r))
  by_cases e:r=i
  ·subst e;rw [List.getElem_append_right (by omega),if_pos rfl,if_pos rfl]
   simp
  ·rw [List.getElem_append_left (by omega),if_neg e,if_neg e]
   exact hre r (by omega)
 ·show ∃vs,Xr _ B (some ⟨if r=i then gn else g r,0,none⟩) (if r=i then cn else c r) vs/\_
  by_cases e:r=i
  ·rw [if_pos e,if_pos e,e];exact ⟨vs,xr2,hv,hr⟩
  ·rw [if_neg e,if_neg e];have hr2:r<i\/r=m:=by omega
   obtain ⟨us,a,b,d⟩:=mc2.row r hr2;exact ⟨us,a,b,fun j hj=>by rw [<-hT r hr2 j (by omega)];exact d j hj⟩
 ·have e:(if r=i then gn else g r)=(if s=i then gn else g s):=e
  have hne:∀r,(r<i+1\/r=m)->¬r=i->g r=gn->False:=fun r hr h1 h2=>hf2 (.inr (.inr (.inr (.inr ⟨r,by omega,h2.symm⟩))))
  by_cases h1:r=i
  ·by_cases h2:s=i
   ·omega
   ·rw [if_pos h1,if_neg h2] at e;exact (hne s hs h2 e.symm).elim
  ·by_cases h2:s=i
   ·rw [if_neg h1,if_pos h2] at e;exact (hne r hr h1 e).elim
   ·rw [if_neg h1,if_neg h2] at e;exact h.mc.inj r s (by omega) (by omega) e
 ·show gb<G/\G<gt/\gt<(if m=i then gn else g m)
  rw [hgm];exact o
 ·show (if m=i then gn else g m)<(if r=i then gn else g r)
  rw [hgm];by_cases e:r=i
  ·rw [if_pos e];exact hf
  ·rw [if_neg e];exact h.o2 r (by omega)
 ·show (if m=i then gn else g m)<a/\∀k,k<i+1->(if k=i then gn else g k)≠a
  rw [hgm];rcases hat with h4|h4
  ·rw [h4] at ha;refine ⟨d0 a ha,fun r hr e=>?_⟩;by_cases e2:r=i
   ·rw [if_pos e2] at e;exact gnA (e ▸ ha)
   ·rw [if_neg e2] at e;exact (h.o3 a ha).2 r (by omega) e
  ·rw [h4] at ha;injection ha with ha;have hm:=hlt (g m) (.inr (.inr (.inr (.inr ⟨m, .inr rfl,rfl⟩))));refine ⟨by omega,fun r hr e=>?_⟩
   by_cases e2:r=i
   ·rw [if_pos e2] at e;omega
   ·rw [if_neg e2] at e;have:=hlt (g r) (.inr (.inr (.inr (.inr ⟨r, .inl (by omega),rfl⟩))))
    omega
end
section
variable {w:World} {B c:Nat} {A:Option Addr} {vs:List Fx}
theorem run_append_xr (w:World) (h:Xr w B A c vs) (ad:Addr) (c2:Nat) (y:Fx) (hr:RdF w (some ad) [y]) (hy:y.ok w) (hmax:vs.length+1<=1000) (hbase:B<=w.heap.size) :
 ∃A' c' w',(Builtin.append_ #[22,22] 22 #[.slice A vs.length c, .slice (some ad) 1 c2]).run prog w = .ok (.slice A' (vs.length+1) c') w'/\Xr w' B A' c' (vs ++ [y])/\Kp (fun a=>A.map (·.block)=some a) w w'/\(A'.map (·.block)=A.map (·.block)\/A'.map (·.block)=some w.heap.size):=by
 obtain ⟨A',c',w',hrun,h1,h3,h4,h5⟩:=fS w h.fr (some ad) c2 [y] hr hmax hbase;have h6:=lB w h.fr h.ni ad c2 [y] hr (by simp) hmax hrun
 have h7:NoI w' A':=fun g hg=>h6 g (by cases A' with
  | none=>cases hg
  | some a'=>simpa [Value.ownBlock] using hg)
 have kk:Kp (fun a=>A.map (·.block)=some a) w w':=ci h4 (fun k e=>e);refine ⟨A',c',w',hrun,⟨h1,h7,fun v hv=>?_⟩,kk,h5⟩;rcases List.mem_append.1 hv with hv|hv
 ·exact kk.ok (h.ok v hv) h.ni.nlr
 ·rw [List.mem_singleton] at hv;rw [hv];exact kk.ok hy h.ni.nlr
theorem wpList_append_xr (w:World) {ops:Array Oper} {rest:List Oper} {o:Oper} {a:Act} {Q:Exit->Act->World->Prop} (hgd:o.guard=none) (s x:Operand)
 (ho:o.op = .call { callee := .builtin .append,args := #[s,x],argTypes := #[22,22]}) (hty:o.type=22)
 {n:Nat} (hs:a.eval s = .slice A n c) (hn:n=vs.length) (h:Xr w B A c vs)
 (ad:Addr) (c2:Nat) (y:Fx) (hx:a.eval x = .slice (some ad) 1 c2) (hr:RdF w (some ad) [y]) (hy:y.ok w) (hmax:n+1<=1000) (hbase:B<=w.heap.size)
 (hK:∀A' c' w',Xr w' B A' c' (vs ++ [y])->Kp (fun a=>A.map (·.block)=some a) w w'->(A'.map (·.block)=A.map (·.block)\/A'.map (·.block)=some w.heap.size)->wpList prog ops Q rest (a.put o.dst (.slice A' (n+1) c')) w') :
 wpList prog ops Q (o::rest) a w:=by
 subst hn;obtain ⟨A',c',w',hrun,h1,h2,h3⟩:=run_append_xr w h ad c2 y hr hy hmax hbase;refine wpList_plain hgd fun K hK'=>?_;unfold Oper.wp execOp;simp only [ho,hty,resolve,invoke,builtin,Sem.run_bind,Sem.run_pure,Result.andThen_ok,List.map_toArray,List.map_cons,List.map_nil,hs,hx,hrun];exact hK' _ _ (hK A' c' w' h1 h2 h3)
theorem step_append_xr (w:World) {ops:Array Oper} {o:Oper} {a:Act} {K:Act->World->Prop} {Q:Exit->Act->World->Prop} {X:Prop} (hgd:o.guard=none) (s x:Operand)
 (ho:o.op = .call { callee := .builtin .append,args := #[s,x],argTypes := #[22,22]}) (hty:o.type=22)
 {n:Nat} (hs:a.eval s = .slice A n c) (hn:n=vs.length) (h:Xr w B A c vs)
 (ad:Addr) (c2:Nat) (y:Fx) (hx:a.eval x = .slice (some ad) 1 c2) (hr:RdF w (some ad) [y]) (hy:y.ok w) (hmax:n+1<=1000) (hbase:B<=w.heap.size)
 (hK:∀A' c' w',Xr w' B A' c' (vs ++ [y])->Kp (fun a=>A.map (·.block)=some a) w w'->(A'.map (·.block)=A.map (·.block)\/A'.map (·.block)=some w.heap.size)->K (a.put o.dst (.slice A' (n+1) c')) w') :
 if Region.wanted o (yielded ops a.tmps)=true then Oper.wp prog o a w K Q else X:=by
 have hw:Region.wanted o (yielded ops a.tmps)=true:=by simp [Region.wanted,hgd]
 rw [if_pos hw];subst hn;obtain ⟨A',c',w',hrun,h1,h2,h3⟩:=run_append_xr w h ad c2 y hr hy hmax hbase;unfold Oper.wp execOp;simp only [ho,hty,resolve,invoke,builtin,Sem.run_bind,Sem.run_pure,Result.andThen_ok,List.map_toArray,List.map_cons,List.map_nil,hs,hx,hrun];exact hK A' c' w' h1 h2 h3
end
theorem Kp.newer {S T:Nat->Prop} {w w' w'':World} (h:Kp S w w') (k:Kp T w' w'') (hT:∀a,T a->w.heap.size<=a):Kp S w w'':=
 ⟨k.os.trans h.os,k.tape.trans h.tape,k.output.trans h.output,Nat.le_trans h.size k.size,fun b hb hS=>(k.block b (Nat.lt_of_lt_of_le hb h.size) (fun ht=>by have:=hT b ht;omega)).trans (h.block b hb hS)⟩
theorem r2opp_el (w:World) (x:Fx) (q:Rat) (h:El w x q) (sq:Sz q 128 128):Calls prog 59 #[x.val] w fun e w'=>∃y:Fx,e = .returned y.val/\El w' y (-q)/\Below w.heap.size w w':=by
 have n:=h.nm sq;refine (rfopposite_any w x (oppF x) n.ok n.l rfl).mono ?_;rintro e w' ⟨rfl,bb⟩;refine ⟨oppF x,rfl,⟨⟨(h.ok.below bb).num,(h.ok.below bb).den⟩,⟨?_,?_,?_⟩⟩,bb⟩
 ·show (if nv x.xs=0 then x.b else !x.b)=decide ((-q).num<0)
  rw [h.rp.n,am,h.rp.b,Rat.neg_num];by_cases h0:q.num.natAbs=0
  ·have h1:q.num=0:=by omega
   rw [if_pos h0,h1];rfl
  ·rw [if_neg h0];by_cases h1:q.num<0
   ·rw [decide_eq_true h1,decide_eq_false (by omega)];rfl
   ·rw [decide_eq_false h1,decide_eq_true (by omega)];rfl
 ·show x.xs=lim (-q).num.natAbs
  rw [h.rp.n,Rat.neg_num,Int.natAbs_neg]
 ·show x.ys=lim (-q).den
  rw [h.rp.d,Rat.neg_den]
theorem r2red_el (w:World) (x:Fx) (hx:x.ok w) (hv:x.v) (l1:x.xs.length<=10000) (l2:x.ys.length<=10000):Calls prog 58 #[x.val] w fun e w'=>∃y:Fx,e = .returned (.tuple #[y.val, .int .i64 0])/\El w' y x.q/\Below w.heap.size w w':=by
 refine (iQ w x (okS x.q) hx l1 l2 (gp hv)).mono ?_;rintro e w' ⟨z,rfl,hs,ok,bb⟩;exact ⟨z,rfl,⟨ok,Rp.of hs⟩,bb⟩
theorem Fr.more {w:World} {B B' c:Nat} {A:Option Addr} {vs:List Fx} (h:Fr w B A c vs) (hB:B'<=B):Fr w B' A c vs:=by
 unfold Fr at *;obtain ⟨h1,h2⟩:=h;refine ⟨h1,?_⟩;rcases h2 with h2|⟨g',cap,cur,hv,hb,r⟩
 ·exact .inl h2
 ·exact .inr ⟨g',cap,cur,hv,by omega,r⟩
theorem Xr.more {w:World} {B B' c:Nat} {A:Option Addr} {vs:List Fx} (h:Xr w B A c vs) (hB:B'<=B):Xr w B' A c vs:=⟨h.fr.more hB,h.ni,h.ok⟩
def cstT (m n:Nat) (T:Nat->Nat->Rat) (i k:Nat):Rat:=if k<n\/k=n+m then-aj (fun r=>T r k) i else 0
def tabT (m n:Nat) (T:Nat->Nat->Rat) (i:Nat):Nat->Nat->Rat:=fun r k=>if r=m then cstT m n T i k else T r k
def Sr2 (w0 w:World) (p:Pg) (g1 g2 G N n m gb gt i:Nat) (tn:Nat->Bool) (T:Nat->Nat->Rat):Prop:=
 ∃(g c:Nat->Nat) (A1:Option Addr) (c1:Nat),Rg w w0.heap.size G N n m i i i g c A1 c1 gb gt (tabT m n T i) tn/\Zs w g2/\Pb w g1 p/\Below w0.heap.size w0 w
theorem Rg.start {w:World} {B G N n m gb gt gc cc:Nat} {T:Nat->Nat->Rat} {tn:Nat->Bool} {vs:List Fx} {bs:List Int} {ts:List Bool} (q:Q4 w G (.slice none 0 0) (.slice (some ⟨gc,0,none⟩) N cc) (.slice (some ⟨gb,0,none⟩) m m) (.int .i64 (n:Int))) (hx:Xr w B (some ⟨gc,0,none⟩) cc vs) (hv:vs.length=N) (hr:∀v∈vs,Rp v 0)
 (hb:Gr iv 3 w B (some ⟨gb,0,none⟩) m bs) (hbl:bs.length=m) (ht:Gr Value.bool 4 w B (some ⟨gt,0,none⟩) m ts) (htl:ts.length=m) (nb:NL w gb) (nt:NL w gt) (o1:gb<G/\G<gt/\gt<gc) :
 Rg w B G N n m 0 0 0 (fun _=>gc) (fun _=>cc) none 0 gb gt (tabT m n T 0) tn:=
 ⟨q,⟨[],Gr.nil _ _,rfl,fun k h=>absurd h (by simp)⟩,NLr.nil _,⟨fun i hi=>by
  obtain rfl:i=m:=by omega
  refine ⟨vs,hx,hv,fun k hk=>?_⟩;have e:tabT i n T 0 i k=0:=by
   rw [tabT,if_pos rfl,cstT]
   split
   ·show-(0:Rat)=0;grind
   ·rfl
  rw [e];exact hr _ (List.getElem_mem hk),fun i j hi hj _=>by omega⟩,⟨bs,hb,hbl,fun k _ h=>by omega⟩,⟨ts,ht,htl,fun k _ h=>by omega⟩,nb,nt,o1,fun k hk=>by omega,fun a ha=>by cases ha⟩
theorem gr_nl {α : Type} {mk : α -> Value} {e:TypeId} {w:World} {B g c:Nat} {xs:List α} (hm:∀x,isL (mk x)=false) (h:Gr mk e w B (some ⟨g,0,none⟩) c xs) (hc:c=xs.length):NL w g:=by
 obtain ⟨h1,h2⟩:=h;rcases h2 with ⟨hv,_⟩|⟨g',cap,cur,hv,_,hh,_,_,h5,h6⟩
 ·cases hv
 ·simp only [Value.slice.injEq,Option.some.injEq,Addr.mk.injEq] at hv;obtain ⟨⟨rfl,_⟩,_,rfl⟩:=hv;refine ⟨cur,e,hh,fun u hu=>?_⟩;rw [List.take_of_length_le (by rw [Array.length_toList,h5,hc];exact Nat.le_refl _)] at h6
  rw [h6] at hu;obtain ⟨x,_,rfl⟩:=List.mem_map.1 hu;exact hm x
theorem Fr.adr0 {w:World} {B c:Nat} {A:Option Addr} {vs:List Fx} (h:Fr w B A c vs) (h0:0<vs.length):∃g,A=some ⟨g,0,none⟩:=by
 rcases h.2 with ⟨_,hn⟩|⟨g,cap,cur,hv,_⟩
 ·omega
 ·simp only [Value.slice.injEq] at hv;exact ⟨g,hv.1⟩
theorem Pg.vd.sza {p:Pg} (h:p.vd) {i j:Nat} (hi:i<p.rows.length) (hj:j<p.cost.vs.length):Sz (p.a i j) 128 128:=by
 have hm:=List.getElem_mem hi;have hl:=h.la _ hm;rw [Pg.a,bC _ _ _ hi,bC _ _ _ (by omega)]
 exact (kB (h.va _ hm _ (List.getElem_mem _))).2
theorem Pg.vd.szb {p:Pg} (h:p.vd) {i:Nat} (hi:i<p.rows.length):Sz (p.b i) 128 128:=by
 have hl:=h.lb;rw [Pg.b,bC _ _ _ (by omega)]
 exact (kB (h.vb _ (List.getElem_mem _))).2
theorem sgT_neg (q:Rat):sgT true*q = -q:=by rw [sgT,if_pos rfl];grind
theorem org_one {m n:Nat} {A:Nat->Nat->Rat} {b:Nat->Rat} {i j:Nat} (hi:i<m) (h:j=n+i):dG m n A b i j=1:=by
 rw [dG,if_neg (by omega),if_pos (by omega),if_pos (by omega)]
theorem org_other {m n:Nat} {A:Nat->Nat->Rat} {b:Nat->Rat} {i j:Nat} (hj:j<=n+m) (h:¬j=n+i):dG m n A b i j=sgT (decide (b i<0))*(if j<n then A i j else if j=n+m then b i else 0):=by
 rw [dG];by_cases h1:j<n
 ·rw [if_pos h1,if_pos h1]
 ·rw [if_neg h1,if_neg h1];by_cases h2:j=n+m
  ·rw [if_neg (by omega),if_pos h2]
  ·rw [if_pos (by omega),if_neg (by omega),if_neg h2,Rat.mul_zero]
end Go.Proofs.YtkpfbekmaafehaaGreat
