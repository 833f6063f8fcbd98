/- The walk of drydocklaw16.SimplexWeights. -/
import Derived.Test.YtkpfbekmaafehaaGreatSxG
import Derived.Test.YtkpfbekmaafehaaGreatSxC
import Derived.Test.YtkpfbekmaafehaaGreatSxW
namespace Go.Proofs.YtkpfbekmaafehaaGreat
open _root_.Go.Proofs.Tryz
set_option maxHeartbeats 40000000
set_option maxRecDepth 100000
open Go.RowKit
theorem lim_pow1000 {k:Nat} (hk:k<=1000):(lim (2^k)).length<=32:=by
 have h:=(mg (q:=((2^k:Nat):Rat)) (e:=k) (k:=32) (by omega) ⟨by rw [Rat.num_natCast,Int.natAbs_natCast];exact Nat.le_refl _,by rw [Rat.den_natCast];exact Nat.one_le_two_pow⟩).1
 rwa [Rat.num_natCast,Int.natAbs_natCast] at h
theorem r2power_big (w:World) (k:Int) (L:List Nat) (hk2:0<=k) (hk3:k<=1000) (hL:lim (2^k.toNat)=L):Calls prog 31 #[.int .i64 k] w (wP w (false,[1],L)):=by
 have hsh:shiftS (nv [1]) k=(L,0):=by
  have h1:=lim_pow1000 (k:=k.toNat) (by omega)
  have h2:(lim 1).length<=2:=eM (by omega)
  rw [nv_1,show k=((k.toNat:Nat):Int) by omega,shiftS_up (by omega) (by omega) (by omega),Nat.one_mul,sizS_small (by omega),hL]
 have EY:=ag hsh;clear hL;clear hsh;go_enter func31,ntmps31;go_upto_region 1 with fail;have bw:=qc w (.cells #[.bool false, .slice none 0 0, .slice none 0 0] 29);have bk:=aK w;generalize (w.alloc (.cells #[.bool false, .slice none 0 0, .slice none 0 0] 29))=wn at bw bk|-;go_wp2_with fail;obtain ⟨no,bb⟩:=lit_1 wn;generalize (wn.alloc (.cells #[.int .u32 1] 58))=w2 at no bb|-
 try replace bx:=bx.below bb
 try replace al:=al.below bb
 try replace bk:=bk.below bb
 try replace aa:=aa.below bb
 try replace an:=an.below bb
 try replace na:=na.below bb
 try replace nb:=nb.below bb
 try replace nc:=nc.below bb
 try replace nd:=nd.below bb
 try replace ne:=ne.below bb
 replace bw:=qd bw bb;clear bb;generalize wn.heap.size=gl at no|-;refine (rshift_any w2 (some ⟨gl,0,none⟩) 1 1 k [1] L 0 no rfl (by simp) EY.o).mono ?_
 rintro e wn ⟨AP,cP,rfl,np,bb⟩
 try replace bx:=bx.below bb
 try replace al:=al.below bb
 try replace bk:=bk.below bb
 try replace aa:=aa.below bb
 try replace an:=an.below bb
 try replace na:=na.below bb
 try replace nb:=nb.below bb
 try replace nc:=nc.below bb
 try replace nd:=nd.below bb
 try replace ne:=ne.below bb
 replace bw:=qd bw bb;clear bb;clear EY no;go_upto_region 2 with fail;obtain ⟨no,bb⟩:=lit_1 wn;have bk2:=bk.below bb;have np2:=np.below bb;have bw2:=qd bw bb;have tk:=bk;obtain ⟨k0,k1,k2,aF,aG,aH,klt,kb⟩:=tk;clear kb;go_wp2_with fail;refine bodyPost_ret (v:=(⟨false,some ⟨wn.heap.size,0,none⟩,1,[1],AP,cP,L⟩:Fx).val) (by simp [results,Tryz.results31,go_sem,k0,k1,k2,klt]) rfl ?_
 have e:((((wn.setCell ⟨w.heap.size,0,none⟩ (.bool false)).setCell ⟨w.heap.size,1,none⟩ (.slice (some ⟨wn.heap.size,0,none⟩) 1 1)).setCell ⟨w.heap.size,2,none⟩ (.slice AP L.length cP)).alloc (.cells #[.int .u32 1] 58)) =
  ((((wn.alloc (.cells #[.int .u32 1] 58)).setCell ⟨w.heap.size,0,none⟩ (.bool false)).setCell ⟨w.heap.size,1,none⟩ (.slice (some ⟨wn.heap.size,0,none⟩) 1 1)).setCell ⟨w.heap.size,2,none⟩ (.slice AP L.length cP)):=by
  simp [go_sem,klt]
 rw [e];exact ⟨⟨false,some ⟨wn.heap.size,0,none⟩,1,[1],AP,cP,L⟩,rfl,⟨rfl,rfl,rfl⟩,bD (x:=⟨false,some ⟨wn.heap.size,0,none⟩,1,[1],AP,cP,L⟩) ⟨no,np2⟩ bk2 rfl rfl rfl,aR bw2 (Nat.le_refl _)⟩
theorem run_fden (w:World) (b:Bool) (A D:Option Addr) (n c m d:Nat):(Instr.field 29 (.agg #[.bool b, .slice A n c, .slice D m d]) 2).run prog w = .ok (.slice D m d) w:=by
 simp [Instr.field,part,isAgg,asAgg,run_underlying underlying29,run_underlying underlying27]
def Wg (w:World) (l:Nat):Prop:=∃p:Pg,p.ok w/\p.sm/\Pb w l p
theorem one_pg {w:World} {l la lb lr lc:Nat} {x1 x2 x3:Fx} {r:Int} (h1:El w x1 1) (h2:El w x2 (r:Rat)) (h3:x3.ok w) (hl:x3.xs.length<=10000/\x3.ys.length<=10000) (ra:RdF w (some ⟨la,0,none⟩) [x1]) (rb:RdF w (some ⟨lb,0,none⟩) [x2]) (rc:RdF w (some ⟨lc,0,none⟩) [x3])
 (lz:Lz w lr #[.slice (some ⟨lb,0,none⟩) 1 1] 22) (q:Q3 w l (.slice (some ⟨la,0,none⟩) 1 1) (.slice (some ⟨lr,0,none⟩) 1 1) (.slice (some ⟨lc,0,none⟩) 1 1)) (hr:r.natAbs<18446744073709551616:=by omega):Wg w l:=by
 have n1:=El.int (z:=1) h1 (by decide)
 have n2:=h2.int hr;have m1:∀ {P:Fx->Prop} {x:Fx},P x->∀v ∈ [x],P v:=fun hx v hv=>by
  obtain rfl:=List.mem_singleton.1 hv;exact hx
 have r1:∀ {P:Sl->Prop} {x:Sl},P x->∀v ∈ [x],P v:=fun hx v hv=>by
  obtain rfl:=List.mem_singleton.1 hv;exact hx
 have rr:Rd Sl.val w (some ⟨lr,0,none⟩) [⟨some ⟨lb,0,none⟩,1,[x2]⟩]:=Lz.rd (s:=⟨some ⟨lb,0,none⟩,1,[x2]⟩) lz;refine ⟨⟨⟨some ⟨la,0,none⟩,1,[x1]⟩,some ⟨lr,0,none⟩,1,[⟨some ⟨lb,0,none⟩,1,[x2]⟩],⟨some ⟨lc,0,none⟩,1,[x3]⟩⟩,?_,?_,⟨q.c0,q.c1,q.c2,q.lt⟩⟩
 ·exact ⟨⟨ra,m1 n1.ok,Nat.le_refl _⟩,⟨rc,m1 h3,Nat.le_refl _⟩,rr,r1 ⟨rb,m1 n2.ok,Nat.le_refl _⟩,Nat.le_refl _⟩
 ·exact ⟨(by show 1<=1000;omega),(by show 1<=1000;omega),(by show 1<=1000;omega),r1 (by show 1<=1000;omega),m1 ⟨n1.l,n1.m⟩,m1 hl,r1 (m1 ⟨n2.l,n2.m⟩)⟩
theorem weights_law (w:World) (a b:Int) (ha8:(Lit.int .u8 a).wf=true) (hb8:(Lit.int .u8 b).wf=true) :
 Calls prog 11 #[.int .u8 a, .int .u8 b] w fun e w'=>e = .returned (.bool true)/\Below w.heap.size w w':=by
 have F9:=ag (Cz ha8);have CQ:=ag (Cz hb8);clear ha8 hb8;have ha:=F9.o;go_enter func11,ntmps11;obtain ⟨k,hk⟩:∃k:Int,892+a % 10=k:=⟨_,rfl⟩;have hk1:892<=k/\k<=901:=by omega
 go_wp2_with fail
 try rw [hk]
 obtain ⟨L,hL⟩:∃L,lim (2^k.toNat)=L:=⟨_,rfl⟩;refine (r2power_big w k L (by omega) (by omega) hL).mono ?_
 have EZ:Hd (L.length<=32):=ag (by rw [<-hL];exact lim_pow1000 (by omega))
 clear hk hL hk1 ha;rintro e wa ⟨x,rfl,⟨hxb,hxn,hxd⟩,ox,bb⟩;have aw:=ag bb;have lJ:=ag ox;have E1:=ag hxd;clear hxb hxn hxd ox bb;go_wp2_with fail;have hfd:=run_fden wa x.b x.A x.D x.xs.length x.c x.ys.length x.d;simp only [Fx.val];rw [hfd];clear hfd;go_upto_region 2 with fail;obtain ⟨no,bb⟩:=lit_1 wa;have hsz:(wa.alloc (.cells #[.int .u32 1] 58)).heap.size=wa.heap.size+1:=by simp
 generalize (wa.alloc (.cells #[.int .u32 1] 58))=wl at no bb hsz|-;obtain ⟨big,hbig⟩:∃big:Fx,(⟨false,x.D,x.d,x.ys,some ⟨wa.heap.size,0,none⟩,1,[1]⟩:Fx)=big:=⟨_,rfl⟩;have okb:big.ok wl:=by rw [<-hbig];exact ⟨(lJ.o.below bb).den,no⟩
 have lf:Hd (big.xs.length<=10000/\big.ys.length<=10000):=ag (by rw [<-hbig];show x.ys.length<=10000/\1<=10000;rw [E1.o];have:=EZ.o;omega)
 have hbc:(#[.bool false, .slice x.D x.ys.length x.d, .slice (some ⟨wa.heap.size,0,none⟩) 1 1]:Array Value)=big.cells:=by rw [<-hbig];rfl
 replace aw:=ag (qd aw.o bb);rw [hbc,<-hsz];have v5:=(au okb).1;have b5:=(au okb).2;clear bb no hbc hbig lJ E1 EZ hsz;generalize (wl.alloc (.cells big.cells 29))=w5 at v5 b5|-;generalize wl.heap.size=g5 at v5|-;have cv:=ag v5;replace aw:=ag (qd aw.o b5);clear okb b5 v5;have ks:Hd (big.ok w5):=ag cv.o.ok;have hb8:=CQ.o;obtain ⟨qb,hq1⟩:∃q:Int,b % 3=q:=⟨_,rfl⟩;have hq2:b.tmod 3=qb:=by rw [<-hq1];exact Int.tmod_eq_emod_of_nonneg (by omega)
 obtain ⟨rI,hr1⟩:∃r:Int,1+qb=r:=⟨_,rfl⟩;have hrr:1<=rI/\rI<=3:=by omega
 have hw1:IntKind.i64.wrap b=b:=IntWalk.i64_in _ (by omega)
 have hw2:IntKind.i64.wrap qb=qb:=IntWalk.i64_in _ (by omega)
 have hw3:IntKind.i64.wrap rI=rI:=IntWalk.i64_in _ (by omega)
 have fn:Hd (∀w',Below w5.heap.size w5 w'->w'.cell? ⟨g5,0,none⟩=some (.bool big.b)/\w'.cell? ⟨g5,1,none⟩=some (.slice big.A big.xs.length big.c)/\w'.cell? ⟨g5,2,none⟩=some (.slice big.D big.ys.length big.d)):=ag (fun w' hb=>⟨(cv.o.below hb).c0,(cv.o.below hb).c1,(cv.o.below hb).c2⟩)
 go_cut [6] (fun v6 wx=>∃l:Nat,v6 = .pointer (some ⟨l,0,none⟩)/\Wg wx l/\Below w5.heap.size w5 wx)
 case first=>
  have bd:Below w5.heap.size w5 w5.drew:=(ah _ _).drew;refine qm (S:=fun w'=>w'.cell? ⟨g5,0,none⟩=some (.bool big.b)/\w'.cell? ⟨g5,1,none⟩=some (.slice big.A big.xs.length big.c)/\w'.cell? ⟨g5,2,none⟩=some (.slice big.D big.ys.length big.d)) 13 14 (fn.o _ bd) fun Ha hH=>?_
  refine mY Ha 2 (.int .u8 b) rfl ?_;simp only [tz];refine mY Ha 3 (.int .i64 b) rfl ?_;simp only [tz];refine mY Ha 4 (.int .i64 qb) rfl ?_;simp only [tz];refine mY Ha 5 (.int .i64 rI) rfl ?_;simp only [tz];refine mY Ha 9 big.val rfl ?_;simp only [tz];refine walkW Ha rfl rfl rfl rfl rfl rfl rfl rfl (fun b0 b1 b6 b7 b8 b10 b11 b12 v0 v1 v6 v7 v8 v10 v11 v12 w=>JW w5 big (rI:Rat) b0 b1 b6 b7 b8 b10 b11 b12 v0 v1 v6 v7 v8 v10 v11 v12 w) ?_ ?_ ?_ ?_ ?_ ?_ ?_ ?_ ?_ (v0:=undef) (v1:=undef) (v6:=undef) (v7:=undef) (v8:=undef) (v10:=undef) (v11:=undef) (v12:=undef) ?_ ⟨bd,fun h=>Bool.noConfusion h,fun h=>Bool.noConfusion h,fun h=>Bool.noConfusion h,fun h=>Bool.noConfusion h,fun h=>Bool.noConfusion h,fun h=>Bool.noConfusion h,fun h=>Bool.noConfusion h,fun h=>Bool.noConfusion h⟩
  ·intro b0 b1 b6 b7 b8 b10 b11 b12 v0 v1 v6 v7 v8 v10 v11 v12 wd hc hb hj K hK act hact;simp only [AW9,tz] at hact;subst hact;go_simp;go_at_call 26;refine (dS wd 1 (by omega) (by omega)).mono ?_
   rintro e we ⟨y,rfl,ey,bb⟩;have h2:=hj.below bb;have ho:=hK.out y.val _ (fn.o _ h2.bw) ⟨h2.bw,fun _=>⟨y,rfl,ey⟩,h2.x1,h2.x6,h2.x7,h2.x8,h2.x10,h2.x11,h2.x12⟩;simpa only [AW9,tz] using ho
  ·intro b0 b1 b6 b7 b8 b10 b11 b12 v0 v1 v6 v7 v8 v10 v11 v12 wd hc hb hd0 hj K hK act hact;simp only [AW9,tz] at hact;subst hact;obtain ⟨y,rfl,ey⟩:=hj.x0 hd0;go_simp;have bb:=qc wd (.cells y.cells 29);have h2:=hj.below bb;have ho:=hK.out (.slice (some ⟨wd.heap.size,0,none⟩) 1 1) _ (fn.o _ h2.bw) ⟨h2.bw,h2.x0,fun _=>⟨_,y,rfl,Lz.new wd _ _,ey.below bb⟩,h2.x6,h2.x7,h2.x8,h2.x10,fun e=>absurd (hc.2.2.2.2 e).1 (by rw [hb];decide),h2.x12⟩
   simpa only [AW9,tz] using ho
  ·intro b0 b1 b6 b7 b8 b10 b11 b12 v0 v1 v6 v7 v8 v10 v11 v12 wd hc hb hd0 hj K hK act hact;simp only [AW9,tz] at hact;subst hact;go_simp;go_at_call 26;refine (dS wd rI (by omega) (by omega)).mono ?_
   rintro e we ⟨y,rfl,ey,bb⟩;have h2:=hj.below bb;have ho:=hK.out y.val _ (fn.o _ h2.bw) ⟨h2.bw,h2.x0,h2.x1,fun _=>⟨y,rfl,ey⟩,h2.x7,h2.x8,h2.x10,h2.x11,h2.x12⟩;simpa only [AW9,tz] using ho
  ·intro b0 b1 b6 b7 b8 b10 b11 b12 v0 v1 v6 v7 v8 v10 v11 v12 wd hc hb hd6 hj K hK act hact;simp only [AW9,tz] at hact;subst hact;obtain ⟨y,rfl,ey⟩:=hj.x6 hd6;go_simp;have bb:=qc wd (.cells y.cells 29);have h2:=hj.below bb;have ho:=hK.out (.slice (some ⟨wd.heap.size,0,none⟩) 1 1) _ (fn.o _ h2.bw) ⟨h2.bw,h2.x0,h2.x1,h2.x6,fun _=>⟨_,y,rfl,Lz.new wd _ _,ey.below bb⟩,h2.x8,h2.x10,h2.x11,h2.x12⟩;simpa only [AW9,tz] using ho
  ·intro b0 b1 b6 b7 b8 b10 b11 b12 v0 v1 v6 v7 v8 v10 v11 v12 wd hc hb hd7 hj K hK act hact;simp only [AW9,tz] at hact;subst hact;obtain ⟨l,y,rfl,lz,ey⟩:=hj.x7 hd7;go_simp;have bb:=qc wd (.cells #[.slice (some ⟨l,0,none⟩) 1 1] 22);have h2:=hj.below bb;have ho:=hK.out (.slice (some ⟨wd.heap.size,0,none⟩) 1 1) _ (fn.o _ h2.bw) ⟨h2.bw,h2.x0,h2.x1,h2.x6,h2.x7,fun _=>⟨_,l,y,rfl,Lz.new wd _ _,lz.kp (fo (fun _=>False) bb) (fun h=>h),ey.below bb⟩,h2.x10,fun e=>absurd (hc.2.2.2.2 e).2.1 (by rw [hb];decide),h2.x12⟩
   simpa only [AW9,tz] using ho
  ·intro b0 b1 b6 b7 b8 b10 b11 b12 v0 v1 v6 v7 v8 v10 v11 v12 wd hc hb hj K hK act hact;simp only [AW9,tz] at hact;subst hact;go_simp;have bb:=qc wd (.cells big.cells 29);have h2:=hj.below bb;have ho:=hK.out (.slice (some ⟨wd.heap.size,0,none⟩) 1 1) _ (fn.o _ h2.bw) ⟨h2.bw,h2.x0,h2.x1,h2.x6,h2.x7,h2.x8,fun _=>⟨_,rfl,Lz.new wd _ _⟩,fun e=>absurd (hc.2.2.2.2 e).2.2 (by rw [hb];decide),h2.x12⟩
   simpa only [AW9,tz] using ho
  ·intro b0 b1 b6 b7 b8 b10 b11 b12 v0 v1 v6 v7 v8 v10 v11 v12 wd hc hb hd1 hd8 hd10 hj K hK act hact;simp only [AW9,tz] at hact;subst hact;obtain ⟨l1,y1,rfl,_⟩:=id hj.x1 hd1;obtain ⟨l8,k8,y8,rfl,_⟩:=id hj.x8 hd8;obtain ⟨l10,rfl,_⟩:=id hj.x10 hd10;go_simp;have h2:=hj;have ho:=hK.out (.agg #[.slice (some ⟨l1,0,none⟩) 1 1, .slice (some ⟨l8,0,none⟩) 1 1, .slice (some ⟨l10,0,none⟩) 1 1]) _ (fn.o _ h2.bw) ⟨h2.bw,h2.x0,h2.x1,h2.x6,h2.x7,h2.x8,h2.x10,fun _=>rfl,h2.x12⟩;simpa only [AW9,tz] using ho
  ·intro b0 b1 b6 b7 b8 b10 b11 b12 v0 v1 v6 v7 v8 v10 v11 v12 wd hc hb hj K hK act hact;simp only [AW9,tz] at hact;subst hact;go_simp;have bb:=qc wd (.cells #[.slice none 0 0, .slice none 0 0, .slice none 0 0] 25);have h2:=hj.below bb;have ho:=hK.out (.pointer (some ⟨wd.heap.size,0,none⟩)) _ (fn.o _ h2.bw) ⟨h2.bw,h2.x0,h2.x1,h2.x6,h2.x7,h2.x8,h2.x10,h2.x11,fun _=>⟨_,rfl,Q3.new wd _ _ _ 25 rfl rfl rfl,Lz.new wd _ _,hj.bw.size⟩⟩;simpa only [AW9,tz] using ho
  ·intro v0 v1 v6 v7 v8 v10 v11 v12 wd hj;obtain ⟨l1,y1,rfl,lz1,e1⟩:=hj.x1 rfl;obtain ⟨l8,k8,y8,rfl,lz8,lk8,e8⟩:=hj.x8 rfl;obtain ⟨l10,rfl,lz10⟩:=hj.x10 rfl;obtain rfl:=hj.x11 rfl;obtain ⟨l,rfl,q,lz,hl⟩:=hj.x12 rfl;have bw:=hj.bw;clear hj;simp only [AW9,tz];refine Bh Ha 13 rfl fun K hK=>?_;have k0:=q.c0;have k1:=q.c1;have k2:=q.c2;have aF:=q.f0;have aG:=q.f1;have aH:=q.f2;go_simp;clear k0 k1 k2 aF aG aH;have kk:=(Kp.refl (fun a=>a=l) wd).set3 (S:=fun a=>a=l) rfl 0 1 2 (.slice (some ⟨l1,0,none⟩) 1 1) (.slice (some ⟨l8,0,none⟩) 1 1) (.slice (some ⟨l10,0,none⟩) 1 1);have qn:=((q.set0 (u := .slice (some ⟨l1,0,none⟩) 1 1) rfl).set1 (u := .slice (some ⟨l8,0,none⟩) 1 1) rfl).set2 (u := .slice (some ⟨l10,0,none⟩) 1 1) rfl
   have nl:∀a,a=l->NL wd a:=fun a e=>by rw [e];exact q.nl
   have c1:=lz1.kp kk (lz_ne lz1 lz fp_ne);have c8:=lz8.kp kk (lz_ne lz8 lz sp_ne);have ck:=lk8.kp kk (lz_ne lk8 lz fp_ne);have c10:=lz10.kp kk (lz_ne lz10 lz fp_ne);have o1:El _ y1 1:=⟨kk.ok e1.ok nl,e1.rp⟩;have o8:El _ y8 (rI:Rat):=⟨kk.ok e8.ok nl,e8.rp⟩;have ob:=kk.ok (ks.o.below bw) nl;have b2:=bw.trans (kk.below (B:=w5.heap.size) (fun a e=>by rw [e];exact hl) bw.size)
   clear lz1 lz8 lk8 lz10 lz e1 e8 q bw nl kk;refine hK.out _ _ ?_;clear hK K;simp only [tz];refine q5 Ha ?_
   go_wp2_with fail;go_meet
   case rel=>exact ⟨l,rfl,one_pg o1 o8 ob lf.o c1.rdf ck.rdf c10.rdf c8 qn,b2⟩
  ·simp only [AW9,tz]
 case rest=>
  obtain ⟨l,rfl,wg,bx⟩:=hcut;obtain ⟨p,pok,psm,pb⟩:=wg;replace aw:=ag (qd aw.o bx);have bq:=ag pb;have HO:=ag pok;have bt:=ag psm;clear bx pb pok psm fn cv ks lf hb8 hq1 hq2 hr1 hrr hw1 hw2 hw3;generalize wc=w6 at *;by_cases hv:p.vd
  ·have bN:=ag hv;clear hv;have c0:=bq.o.c0;have c1:=bq.o.c1;have c2:=bq.o.c2;go_wp2_with fail;refine (pX w6 p HO.o bt.o bN.o).mono ?_;rintro e w7 ⟨s,rfl,sol,bb⟩;have nL:=ag (sol.good bN.o);replace HO:=ag (HO.o.below bb);replace bq:=ag (bq.o.below bb);replace aw:=ag (qd aw.o bb);clear sol bb c0 c1 c2;go_upto_region 4 with fail;have sb:=(cY w7 s 31).1;have bb:=(cY w7 s 31).2;generalize (w7.alloc (.cells #[.int .i64 s.kind, .slice s.X.A s.X.vs.length s.X.c, .slice s.Y.A s.Y.vs.length s.Y.c, .slice s.R.A s.R.vs.length s.R.c, .bool s.v.b, .slice s.v.A s.v.xs.length s.v.c, .slice s.v.D s.v.ys.length s.v.d] 31))=w8 at sb bb|-
   generalize w7.heap.size=g7 at sb|-;replace HO:=ag (HO.o.below bb);replace bq:=ag (bq.o.below bb);replace aw:=ag (qd aw.o bb);replace nL:=ag (nL.o.below bb);have bO:=ag sb;clear sb bb;have c0:=bq.o.c0;have c1:=bq.o.c1;have c2:=bq.o.c2;go_wp2_with fail;refine (r16solve_any w8 p HO.o bt.o bN.o).mono ?_;rintro e w9 ⟨u,rfl,sol,_,bb⟩;have B1:=ag (sol.good bN.o);replace HO:=ag (HO.o.below bb);replace bq:=ag (bq.o.below bb);replace aw:=ag (qd aw.o bb);replace nL:=ag (nL.o.below bb);replace bO:=ag (bO.o.below bb);have Ga:Hd (s.v.q=u.v.q):=ag (vo nL.o.chk.P B1.o.chk.P).2
   clear sol bb c0 c1 c2;go_upto_region 5 with fail;have sb:=(cY w9 u 31).1;have bb:=(cY w9 u 31).2;generalize (w9.alloc (.cells #[.int .i64 u.kind, .slice u.X.A u.X.vs.length u.X.c, .slice u.Y.A u.Y.vs.length u.Y.c, .slice u.R.A u.R.vs.length u.R.c, .bool u.v.b, .slice u.v.A u.v.xs.length u.v.c, .slice u.v.D u.v.ys.length u.v.d] 31))=wr at sb bb|-;generalize w9.heap.size=g9 at sb|-;replace HO:=ag (HO.o.below bb);replace bq:=ag (bq.o.below bb);replace aw:=ag (qd aw.o bb);replace nL:=ag (nL.o.below bb);replace bO:=ag (bO.o.below bb);replace B1:=ag (B1.o.below bb)
   have DV:=ag sb;clear sb bb;have a7:Hd (∀w',Below wr.heap.size wr w'->(w'.cell? ⟨l,0,none⟩=some p.cost.val/\w'.cell? ⟨l,1,none⟩=some (.slice p.rA p.rows.length p.rc)/\w'.cell? ⟨l,2,none⟩=some p.right.val/\w'.cell? ⟨g7,4,none⟩=some (.bool s.v.b)/\w'.cell? ⟨g7,5,none⟩=some (.slice s.v.A s.v.xs.length s.v.c)/\w'.cell? ⟨g7,6,none⟩=some (.slice s.v.D s.v.ys.length s.v.d)/\w'.cell? ⟨g9,4,none⟩=some (.bool u.v.b)/\w'.cell? ⟨g9,5,none⟩=some (.slice u.v.A u.v.xs.length u.v.c)/\w'.cell? ⟨g9,6,none⟩=some (.slice u.v.D u.v.ys.length u.v.d))):=ag (fun _ bz=>⟨(bq.o.below bz).c0,(bq.o.below bz).c1,(bq.o.below bz).c2,(bO.o.below bz).c4,(bO.o.below bz).c5,(bO.o.below bz).c6,(DV.o.below bz).c4,(DV.o.below bz).c5,(DV.o.below bz).c6⟩)
   refine fR a7 (by kernel_rfl) fun hH=>?_
   have bz:=(ah wr.heap.size wr).drew;generalize wr.drew=wd at *;refine qj 30 fun Ha=>?_
   refine qh Ha 0 (.int .i64 0) rfl ?_;refine qh Ha 1 (.int .i64 0) rfl ?_;refine qh Ha 2 (.bool true) rfl ?_;refine qh Ha 3 (.bool true) rfl ?_;refine qh Ha 4 (.agg #[p.cost.val, .slice p.rA p.rows.length p.rc,p.right.val]) rfl ?_;refine tks Ha 6 (.agg #[p.cost.val, .slice p.rA p.rows.length p.rc,p.right.val]) rfl ?_;simp only [tz];refine tk1 Ha 5 rfl fun K hK=>?_;go_simp;go_at_call 15;refine (fE wd p true (HO.o.below bz) bt.o (Iff.intro (fun _=>bN.o) (fun _=>rfl))).mono ?_;rintro e wd ⟨rfl,bb⟩;replace bz:=qd bz bb
   clear bb;refine hK.out _ _ (a7.o _ bz) fun hH=>?_;clear hK K;try simp only [tz]
   refine tk1 Ha 7 rfl fun K hK=>?_;go_simp;go_at_call 16;refine (kD wd p true (HO.o.below bz) bt.o (Iff.intro (fun _=>bN.o) (fun _=>rfl))).mono ?_;rintro e wd ⟨rfl,bb⟩;replace bz:=qd bz bb;clear bb;refine hK.out _ _ (a7.o _ bz) fun hH=>?_;clear hK K;try simp only [tz]
   refine tks Ha 8 (.bool true) rfl ?_;simp only [tz];refine tkm Ha 2 [(9,50,1,some true)] rfl ?_;simp only [exI,exD,bI,kV,rpS,rpZ,apC,apN];refine qh Ha 11 (.int .i64 0) rfl ?_;refine qh Ha 12 (.bool false) rfl ?_;refine qh Ha 13 (.bool false) rfl ?_;refine qh Ha 14 (.pointer (some ⟨g7,4,none⟩)) rfl ?_;refine tks Ha 15 (s.v.val) rfl ?_;simp only [tz];refine tk1 Ha 16 rfl fun K hK=>?_;go_simp;go_at_call 32;refine (bF wd s.v true (nL.o.below bz).ok.v (nL.o.nmv).l (nL.o.nmv).m (decide_eq_true (nL.o.nmv).v)).mono ?_
   rintro e wd ⟨rfl,bb⟩;replace bz:=qd bz bb;clear bb;refine hK.out _ _ (a7.o _ bz) fun hH=>?_;clear hK K;try simp only [tz]
   refine qh Ha 17 (.bool true) rfl ?_;refine qh Ha 18 (.pointer (some ⟨g7,4,none⟩)) rfl ?_;refine qh Ha 19 (s.v.val) rfl ?_;refine qh Ha 20 (.pointer (some ⟨g9,4,none⟩)) rfl ?_;refine tks Ha 21 (u.v.val) rfl ?_;simp only [tz];refine tk1 Ha 22 rfl fun K hK=>?_;go_simp;go_at_call 24;refine (gA wd s.v u.v _ _ true (nL.o.below bz).nmv (B1.o.below bz).nmv (decide_eq_true Ga.o)).mono ?_;rintro e wd ⟨rfl,bb⟩;replace bz:=qd bz bb;clear bb;refine hK.out _ _ (a7.o _ bz) fun hH=>?_;clear hK K;try simp only [tz]
   refine tkm Ha 4 [(23,64,3,some true)] rfl ?_;simp only [exI,exD,bI,kV,rpS,rpZ,apC,apN];refine tk1 Ha 27 rfl fun K hK=>?_;go_simp;go_at_call 14;refine (jH wd).mono ?_;rintro e wd ⟨rfl,bb⟩;replace bz:=qd bz bb;clear bb;refine hK.out _ _ (a7.o _ bz) fun hH=>?_;clear hK K;try simp only [tz]
   refine tks Ha 28 (.bool true) rfl ?_;simp only [tz];refine tkm Ha 1 [(29,4,0,some true)] rfl ?_;simp only [exI,exD,bI,kV,rpZ,apN];refine qp Ha ?_
   go_wp2_with fail;go_ret;exact ⟨rfl,qd aw.o bz⟩
  ·have cq:Hd (¬p.vd):=hv;clear hv;have c0:=bq.o.c0;have c1:=bq.o.c1;have c2:=bq.o.c2;go_wp2_with fail;refine (uv w6 p HO.o bt.o cq.o).mono ?_;rintro e w7 ⟨rfl,bb⟩;replace HO:=ag (HO.o.below bb);replace bq:=ag (bq.o.below bb);replace aw:=ag (qd aw.o bb);clear bb c0 c1 c2;go_upto_region 4 with fail;have bb:=qc w7 (.cells #[.int .i64 0, .slice none 0 0, .slice none 0 0, .slice none 0 0, .bool false, .slice none 0 0, .slice none 0 0] 31);generalize (w7.alloc (.cells #[.int .i64 0, .slice none 0 0, .slice none 0 0, .slice none 0 0, .bool false, .slice none 0 0, .slice none 0 0] 31))=w8 at bb|-
   replace HO:=ag (HO.o.below bb);replace bq:=ag (bq.o.below bb);replace aw:=ag (qd aw.o bb);clear bb;generalize w7.heap.size=g7 at *;have c0:=bq.o.c0;have c1:=bq.o.c1;have c2:=bq.o.c2;go_wp2_with fail;refine (r16solve_bad w8 p HO.o bt.o cq.o).mono ?_;rintro e w9 ⟨rfl,bb⟩;replace HO:=ag (HO.o.below bb);replace bq:=ag (bq.o.below bb);replace aw:=ag (qd aw.o bb);clear bb c0 c1 c2;go_upto_region 5 with fail;have bb:=qc w9 (.cells #[.int .i64 0, .slice none 0 0, .slice none 0 0, .slice none 0 0, .bool false, .slice none 0 0, .slice none 0 0] 31)
   generalize (w9.alloc (.cells #[.int .i64 0, .slice none 0 0, .slice none 0 0, .slice none 0 0, .bool false, .slice none 0 0, .slice none 0 0] 31))=wr at bb|-;replace HO:=ag (HO.o.below bb);replace bq:=ag (bq.o.below bb);replace aw:=ag (qd aw.o bb);clear bb;generalize w9.heap.size=g9 at *;have a7:Hd (∀w',Below wr.heap.size wr w'->(w'.cell? ⟨l,0,none⟩=some p.cost.val/\w'.cell? ⟨l,1,none⟩=some (.slice p.rA p.rows.length p.rc)/\w'.cell? ⟨l,2,none⟩=some p.right.val)):=ag (fun _ bz=>⟨(bq.o.below bz).c0,(bq.o.below bz).c1,(bq.o.below bz).c2⟩);refine fR a7 (by kernel_rfl) fun hH=>?_
   have bz:=(ah wr.heap.size wr).drew;generalize wr.drew=wd at *;refine qj 30 fun Ha=>?_
   refine qh Ha 0 (.int .i64 1) rfl ?_;refine qh Ha 1 (.int .i64 1) rfl ?_;refine qh Ha 2 (.bool true) rfl ?_;refine qh Ha 3 (.bool true) rfl ?_;refine qh Ha 4 (.agg #[p.cost.val, .slice p.rA p.rows.length p.rc,p.right.val]) rfl ?_;refine tks Ha 6 (.agg #[p.cost.val, .slice p.rA p.rows.length p.rc,p.right.val]) rfl ?_;simp only [tz];refine tk1 Ha 5 rfl fun K hK=>?_;go_simp;go_at_call 15;refine (fE wd p false (HO.o.below bz) bt.o (Iff.intro (fun h=>Bool.noConfusion h) (fun h=>absurd h cq.o))).mono ?_
   rintro e wd ⟨rfl,bb⟩;replace bz:=qd bz bb;clear bb;refine hK.out _ _ (a7.o _ bz) fun hH=>?_;clear hK K;try simp only [tz]
   refine tk1 Ha 7 rfl fun K hK=>?_;go_simp;go_at_call 16;refine (kD wd p false (HO.o.below bz) bt.o (Iff.intro (fun h=>Bool.noConfusion h) (fun h=>absurd h cq.o))).mono ?_;rintro e wd ⟨rfl,bb⟩;replace bz:=qd bz bb;clear bb;refine hK.out _ _ (a7.o _ bz) fun hH=>?_;clear hK K;try simp only [tz]
   refine tks Ha 8 (.bool true) rfl ?_;simp only [tz];refine tkm Ha 2 [(9,50,1,some true)] rfl ?_;simp only [exI,exD,bI,kV,rpS,rpZ,apC,apN];refine qh Ha 11 (.int .i64 1) rfl ?_;refine tks Ha 12 (.bool true) rfl ?_;simp only [tz];refine tkm Ha 14 [(13,54,0,some true),(0,0,9,none),(0,0,2,some true)] rfl ?_;simp only [exI,exD,bI,kV,rpS,rpZ,apC,apN];refine tk1 Ha 27 rfl fun K hK=>?_;go_simp;go_at_call 14;refine (jH wd).mono ?_;rintro e wd ⟨rfl,bb⟩;replace bz:=qd bz bb;clear bb;refine hK.out _ _ (a7.o _ bz) fun hH=>?_;clear hK K;try simp only [tz]
   refine tks Ha 28 (.bool true) rfl ?_;simp only [tz];refine tkm Ha 1 [(29,4,0,some true)] rfl ?_;simp only [exI,exD,bI,kV,rpZ,apN];refine qp Ha ?_
   go_wp2_with fail;go_ret;exact ⟨rfl,qd aw.o bz⟩
end Go.Proofs.YtkpfbekmaafehaaGreat
