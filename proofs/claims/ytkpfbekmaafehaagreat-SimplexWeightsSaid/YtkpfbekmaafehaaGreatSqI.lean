/- The walk of a tableau's pivot -/
import Derived.Test.YtkpfbekmaafehaaGreatSpB
import Derived.Test.YtkpfbekmaafehaaGreatSqP
import Derived.Deep.CutBlock
import Derived.Deep.DeepCutAuto
import Derived.Deep.RegionHeld3
namespace Go.Proofs.YtkpfbekmaafehaaGreat
open _root_.Go.Proofs.Tryz
set_option maxHeartbeats 8000000
set_option maxRecDepth 100000
open Go.RowKit
theorem aZ (q:Rat):bA q 0=0↔q=0:=by
 unfold bA;constructor
 ·intro h
  split at h
  ·omega
  ·split at h
   ·omega
   ·grind
 ·rintro rfl;rfl
theorem oK (w:World) (B:Nat) (L:Lay) (x:St) (i j:Nat) (h:Tw w B L x) (hi:i<L.gs.length) (hj:j<L.n+L.gs.length) (hne:x.T i j≠0) (hN:L.N<=1000)
 (s1:∀r,r<L.gs.length->∀k,k<=L.n+L.gs.length->Sz (x.T r k) 60 60) (s2:∀r,r<L.gs.length->∀k,k<=L.n+L.gs.length->Sz (bY x.T i j r k) 60 60) :
 Calls prog 94 #[.pointer (some ⟨L.G,0,none⟩), .int .i64 (i:Int), .int .i64 (j:Int)] w fun e w'=>e = .returned (.tuple #[])/\Tw w' B L ⟨bY x.T i j,cg x.B i j⟩/\Kp L.S w w':=by
 have cw:Hd (L.N=L.n+L.gs.length+1):=ag rfl;have HT:=ag h;have iD:=ag hne;have cI:=ag s1;have rf:=ag s2;have eF:=ag hi;have hjN:j<L.N:=by have:=cw.o;omega
 have hm:L.gs.length<=1000:=by have:=cw.o;omega
 have m9:Hd (L.gs.Nodup):=ag h.q.mx.nd;obtain ⟨gi,hgi⟩:∃g,L.gs[i]=g:=⟨_,rfl⟩;have cp:=ag hgi;have c0:=h.c0;have cr:=h.rowg hi hgi;obtain ⟨xf0,ev⟩:=h.elg hi hgi hjN;have rl:=ag ev;have k0:=ev.c0;have k1:=ev.c1;have k2:=ev.c2;have B4:Hd (Sz (x.T i j) 128 128):=ag (s1 i hi j (by omega)).up
 clear h hne s1 s2 hgi ev;go_enter func94,ntmps94;go_upto_region 1 with fail;have v1:Vl (w.alloc (.cells xf0.cells 29)) w.heap.size xf0 (x.T i j):=⟨(au rl.o.el.ok).1,rl.o.el.rp⟩;have bb:=(au rl.o.el.ok).2;clear k0 k1 k2 cr c0;have pp:Hd (¬L.S w.heap.size):=ag (fun hs=>absurd (HT.o.q.lts _ hs) (Nat.lt_irrefl _));have t1:=HT.o.below bb;have kp1:=fo L.S bb;clear rl bb;generalize (w.alloc (.cells #[.bool xf0.b, .slice xf0.A xf0.xs.length xf0.c, .slice xf0.D xf0.ys.length xf0.d] 29))=wm at v1 t1 kp1|-;generalize w.heap.size=gf at v1 pp|-;generalize xf0=xf at v1;have c0:=t1.c0
 have cr:=t1.rowg hi cp.o;go_wp2_with fail;clear c0 cr;go_loopw [32] (fun iv wr=>∃k:Nat,k<=L.N/\iv = .int .i64 k/\Tw wr B L ⟨pvA x.T i j k,x.B⟩/\Vl wr gf xf (x.T i j)/\Kp L.S w wr) (fun iv _=>L.N-(intOf iv).toNat)
 case atStart=>exact ⟨0,by omega,rfl,by rw [ze];exact t1,v1,kp1⟩
 case round=>
  clear v1 t1 kp1;obtain ⟨k,hk,rfl,tw,vf,kp⟩:=hrel;by_cases hlt:k<L.N
  ·--D{
   obtain ⟨xe,ev⟩:=tw.elg hi cp.o hlt;rw [show (⟨pvA x.T i j k,x.B⟩:St).T i k=x.T i k from Do] at ev;have aq:=ag tw;have dA:=ag vf;have ax:=ag kp;have bf:=ag ev;have c0:=tw.c0;have cr:=tw.rowg hi cp.o;have k0:=ev.c0;have k1:=ev.c1;have k2:=ev.c2;have eJ:Hd (Sz (x.T i k) 128 128):=ag (cI.o i eF.o k (by have:=cw.o;omega)).up
   clear tw vf kp ev;obtain ⟨z,hz⟩:∃z,bA (x.T i k) 0=z:=⟨_,rfl⟩;have HZ:=ag hz;by_cases h0:z=0
   ·subst h0;have HE:Hd (pvA x.T i j (k+1)=pvA x.T i j k):=ag (zg ((aZ _).1 hz));clear hz;go_wp2_with fail;refine (aU wr xe _ 0 bf.o.el eJ.o HZ.o).mono ?_;rintro e w5 ⟨rfl,bb⟩;go_wp2_with fail;go_roundw
    case rel=>exact ⟨k+1,by omega,by go_num,by rw [HE.o];exact aq.o.below bb,dA.o.below bb,ax.o.then bb⟩
    case measure=>simp [intOf];omega
   ·clear hz;go_wp2_with fail;refine (aU wr xe _ z bf.o.el eJ.o HZ.o).mono ?_;rintro e w5 ⟨rfl,bb⟩;replace aq:=ag (aq.o.below bb);replace dA:=ag (dA.o.below bb);replace ax:=ag (ax.o.then bb)
    replace bf:=ag (bf.o.below bb);clear HZ bb c0 cr k0 k1 k2;generalize w5=wr at *;have cK:Hd (oE (pvA x.T i j k) i k (x.T i k/x.T i j)=pvA x.T i j (k+1)):=ag zi;have c7:Hd (Sz (x.T i k/x.T i j) 128 128):=ag (by
     have:=(rf.o i eF.o k (by have:=cw.o;omega)).up
     rw [bY,if_pos rfl] at this;exact this)
    go_upto_region 5 with fail;refine wp_region_held_drew (S:=fun w'=>w'.cell? ⟨L.G,0,none⟩=some (.slice (some ⟨L.go,0,none⟩) L.gs.length L.co)/\w'.cell? ⟨L.go,i,none⟩=some (.slice (some ⟨gi,0,none⟩) L.N L.N)/\w'.cell? ⟨gf,0,none⟩=some (.bool xf.b)/\w'.cell? ⟨gf,1,none⟩=some (.slice xf.A xf.xs.length xf.c)/\w'.cell? ⟨gf,2,none⟩=some (.slice xf.D xf.ys.length xf.d)) (by kernel_rfl) ⟨(aq.o.below ((ah wr.heap.size wr).drew)).c0,(aq.o.below ((ah wr.heap.size wr).drew)).rowg eF.o cp.o,(dA.o.below ((ah wr.heap.size wr).drew)).c0,(dA.o.below ((ah wr.heap.size wr).drew)).c1,(dA.o.below ((ah wr.heap.size wr).drew)).c2⟩ fun hH=>?_
    have bz:=(ah wr.heap.size wr).drew;generalize wr.drew=wd at *;refine qj 25 fun Ha=>?_
    refine qh Ha 0 (.pointer (some ⟨L.G,0,none⟩)) rfl ?_;refine qh Ha 1 (.pointer (some ⟨L.G,0,none⟩)) rfl ?_;refine qh Ha 2 (.pointer (some ⟨L.G,0,none⟩)) rfl ?_;refine qh Ha 3 (.slice (some ⟨L.go,0,none⟩) L.gs.length L.co) rfl ?_;refine qh Ha 4 (.int .i64 (i:Int)) rfl ?_;refine qh Ha 5 (.pointer (some ⟨L.go,i,none⟩)) rfl ?_;refine qh Ha 6 (.slice (some ⟨gi,0,none⟩) L.N L.N) rfl ?_;refine qh Ha 7 (.int .i64 (k:Int)) rfl ?_;refine qh Ha 8 (.pointer (some ⟨L.G,0,none⟩)) rfl ?_
    refine qh Ha 9 (.pointer (some ⟨L.G,0,none⟩)) rfl ?_;refine qh Ha 10 (.pointer (some ⟨L.G,0,none⟩)) rfl ?_;refine qh Ha 11 (.slice (some ⟨L.go,0,none⟩) L.gs.length L.co) rfl ?_;refine qh Ha 12 (.int .i64 (i:Int)) rfl ?_;refine qh Ha 13 (.pointer (some ⟨L.go,i,none⟩)) rfl ?_;refine qh Ha 14 (.slice (some ⟨gi,0,none⟩) L.N L.N) rfl ?_;refine qh Ha 15 (.int .i64 (k:Int)) rfl ?_;refine qh Ha 16 (.pointer (some ⟨gi,k*3,none⟩)) rfl ?_;refine tks Ha 18 (xf.val) rfl ?_;simp only [tz]
    refine tk1 Ha 17 rfl fun K hK=>?_;have ev:=bf.o.below bz;have k0:=ev.c0;have k1:=ev.c1;have k2:=ev.c2;go_simp;clear ev k0 k1 k2;refine hK.out _ _ (by first|exact ⟨t5.c0,t5.rowg eF.o cp.o,v5.c0,v5.c1,v5.c2⟩|exact ⟨(aq.o.below bz).c0,(aq.o.below bz).rowg eF.o cp.o,(dA.o.below bz).c0,(dA.o.below bz).c1,(dA.o.below bz).c2⟩) fun hH=>?_;clear hK K;try simp only [tz]
    refine tk1 Ha 19 rfl fun K hK=>?_;go_simp;go_at_call 115;refine (oh wd xe xf _ _ (bf.o.below bz).el (dA.o.below bz).el eJ.o B4.o iD.o c7.o).mono ?_;rintro e wd ⟨x3,rfl,r3,ok3,bb⟩;replace bz:=qd bz bb;clear bb;refine hK.out _ _ (by first|exact ⟨t5.c0,t5.rowg eF.o cp.o,v5.c0,v5.c1,v5.c2⟩|exact ⟨(aq.o.below bz).c0,(aq.o.below bz).rowg eF.o cp.o,(dA.o.below bz).c0,(dA.o.below bz).c1,(dA.o.below bz).c2⟩) fun hH=>?_;clear hK K;try simp only [tz]
    refine qh Ha 20 (.tuple #[x3.val, .int .i64 0]) rfl ?_;refine qh Ha 21 (x3.val) rfl ?_;refine qh Ha 22 (.int .i64 0) rfl ?_;refine tks Ha 23 (.pointer (some ⟨gi,k*3,none⟩)) rfl ?_;simp only [tz];refine tk1 Ha 24 rfl fun K hK=>?_;have ev:=bf.o.below bz;have k0:=ev.c0;have k1:=ev.c1;have k2:=ev.c2;have aF:=ev.f0;have aG:=ev.f1;have aH:=ev.f2;go_simp;clear ev k0 k1 k2 aF aG aH;have t6:=(aq.o.below bz).put eF.o cp.o (k:=k) (⟨ok3,r3⟩:El wd x3 _);have v5:=(dA.o.below bz).kp t6.2 (aq.o.below bz).q.nl pp.o;have p5:=(ax.o.then bz).trans t6.2
    have t5:=t6.1;clear hH bz ok3 t6;generalize (((wd.setCell ⟨gi,k*3,none⟩ (.bool x3.b)).setCell ⟨gi,k*3+1,none⟩ (.slice x3.A x3.xs.length x3.c)).setCell ⟨gi,k*3+2,none⟩ (.slice x3.D x3.ys.length x3.d))=we at *;generalize we=wd at *;refine hK.out _ _ (by first|exact ⟨t5.c0,t5.rowg eF.o cp.o,v5.c0,v5.c1,v5.c2⟩|exact ⟨(aq.o.below bz).c0,(aq.o.below bz).rowg eF.o cp.o,(dA.o.below bz).c0,(dA.o.below bz).c1,(dA.o.below bz).c2⟩) fun hH=>?_;clear hK K;try simp only [tz]
    refine qp Ha ?_
    go_wp2_with fail;go_roundw
    case rel=>exact ⟨k+1,by omega,by go_num,by rw [<-cK.o];exact t5,v5,p5⟩
    case measure=>simp [intOf];omega
--D}
  ·obtain rfl:k=L.N:=by omega
   replace tw:Tw wr B L ⟨pvB x.T i j 0,x.B⟩:=tw.congr (fun a _ c hc=>yZ hc) (fun _ _=>rfl);clear vf;have c0:=tw.c0;go_wp2_with fail;clear c0;go_loopw [77] (fun iv wr=>∃r:Nat,r<=L.gs.length/\iv = .int .i64 r/\Tw wr B L ⟨pvB x.T i j r,x.B⟩/\Kp L.S w wr) (fun iv _=>L.gs.length-(intOf iv).toNat)
   case atStart=>exact ⟨0,by omega,rfl,tw,kp⟩
   case round=>
    clear tw kp;obtain ⟨r,hr,rfl,tw,kp⟩:=hrel;by_cases hrl:r<L.gs.length
    ·obtain ⟨gr,hgr⟩:∃g,L.gs[r]=g:=⟨_,rfl⟩;have dB:=ag hgr;have bU:=ag hrl;obtain ⟨xg,ev⟩:=tw.elg hrl hgr hjN;have aq:=ag tw;have ax:=ag kp;have bf:=ag ev;have c0:=tw.c0;have cr:=tw.rowg hrl hgr;have k0:=ev.c0;have k1:=ev.c1;have k2:=ev.c2;clear tw kp ev hgr;go_upto_region 11 with fail;have v1:Vl (wr.alloc (.cells xg.cells 29)) wr.heap.size xg (pvB x.T i j r r j):=⟨(au bf.o.el.ok).1,bf.o.el.rp⟩;have bb:=(au bf.o.el.ok).2;clear k0 k1 k2 cr c0;have ip:Hd (¬L.S wr.heap.size):=ag (fun hs=>absurd (aq.o.q.lts _ hs) (Nat.lt_irrefl _));replace aq:=ag (aq.o.below bb);replace ax:=ag (ax.o.then bb)
     clear bf bb;generalize (wr.alloc (.cells #[.bool xg.b, .slice xg.A xg.xs.length xg.c, .slice xg.D xg.ys.length xg.d] 29))=wm at v1 aq ax|-;generalize wr.heap.size=gg at v1 ip|-;by_cases hri:r=i
     ·--D{
      have hie:(r:Int)=(i:Int):=by omega
      have HE:Hd (pvB x.T i j (r+1)=pvB x.T i j r):=ag (by rw [hri];exact zd)
      clear hri v1;go_wp2_with fail;go_roundw
      case rel=>exact ⟨r+1,by omega,by go_num,by rw [HE.o];exact aq.o,ax.o⟩
      case measure=>simp [intOf];omega
--D}
     ·have hie:¬(r:Int)=(i:Int):=by omega
      have ka:Hd (r≠i):=hri;rw [uS hri] at v1;have k0:=v1.c0;have k1:=v1.c1;have k2:=v1.c2;have ce:=ag v1;have o5:Hd (Sz (x.T r j) 128 128):=ag (cI.o r bU.o j (by omega)).up
      clear v1 hri;obtain ⟨z,hz⟩:∃z,bA (x.T r j) 0=z:=⟨_,rfl⟩;have HZ:=ag hz;by_cases h0:z=0
      ·--D{
       subst h0;have HE:Hd (pvB x.T i j (r+1)=pvB x.T i j r):=ag (za ka.o ((aZ _).1 hz));clear hz;go_wp2_with fail;refine (aU wm xg _ 0 ce.o.el o5.o HZ.o).mono ?_;rintro e w5 ⟨rfl,bb⟩;go_wp2_with fail;go_roundw
       case rel=>exact ⟨r+1,by omega,by go_num,by rw [HE.o];exact aq.o.below bb,ax.o.then bb⟩
       case measure=>simp [intOf];omega
--D}
      ·clear hz;go_wp2_with fail;refine (aU wm xg _ z ce.o.el o5.o HZ.o).mono ?_;rintro e w5 ⟨rfl,bb⟩;replace aq:=ag (aq.o.below bb);replace ax:=ag (ax.o.then bb)
       replace ce:=ag (ce.o.below bb);clear HZ bb k0 k1 k2;generalize w5=wm at *;have c0:=aq.o.c0;have cr:=aq.o.rowg hi cp.o;have hb1:((r:Int) != (i:Int))=true:=by simpa using hie
       have hb2:(z != 0)=true:=by simpa using h0
       go_wp2_with fail;clear c0 cr hb1 hb2;go_loopw [106] (fun iv wr=>∃k:Nat,k<=L.N/\iv = .int .i64 k/\Tw wr B L ⟨pvC x.T i j r k,x.B⟩/\Vl wr gg xg (x.T r j)/\Kp L.S w wr) (fun iv _=>L.N-(intOf iv).toNat)
       case atStart=>exact ⟨0,by omega,rfl,by rw [yW];exact aq.o,ce.o,ax.o⟩
       case round=>
        clear aq ce ax;obtain ⟨k,hk,rfl,tw,vg,kp⟩:=hrel;by_cases hlt:k<L.N
        ·--D{
         obtain ⟨xi,ei⟩:=tw.elg hi cp.o hlt;rw [show (⟨pvC x.T i j r k,x.B⟩:St).T i k=x.T i k/x.T i j from Bu ka.o] at ei;have aq:=ag tw;have ce:=ag vg;have ax:=ag kp;have eA:=ag ei;have k0:=ei.c0;have k1:=ei.c1;have k2:=ei.c2;have pr:Hd (Sz (x.T i k/x.T i j) 60 60):=ag (by
          have:=rf.o i eF.o k (by have:=cw.o;omega)
          rw [bY,if_pos rfl] at this;exact this)
         clear tw vg kp ei;go_upto_region 15 with fail;have v1:Vl (wr.alloc (.cells xi.cells 29)) wr.heap.size xi (x.T i k/x.T i j):=⟨(au eA.o.el.ok).1,eA.o.el.rp⟩;have bb:=(au eA.o.el.ok).2;clear k0 k1 k2;replace aq:=ag (aq.o.below bb);replace ax:=ag (ax.o.then bb)
         replace ce:=ag (ce.o.below bb);clear eA bb;generalize (wr.alloc (.cells #[.bool xi.b, .slice xi.A xi.xs.length xi.c, .slice xi.D xi.ys.length xi.d] 29))=wn at v1 aq ax ce|-;generalize wr.heap.size=gx at v1|-;have rx:=ag v1;have k0:=v1.c0;have k1:=v1.c1;have k2:=v1.c2;clear v1;obtain ⟨z,hz⟩:∃z,bA (x.T i k/x.T i j) 0=z:=⟨_,rfl⟩;have HZ:=ag hz;by_cases h0:z=0
         ·subst h0;have HE:Hd (pvC x.T i j r (k+1)=pvC x.T i j r k):=ag (yX ka.o ((aZ _).1 hz));clear hz;go_wp2_with fail;refine (aU wn xi _ 0 rx.o.el pr.o.up HZ.o).mono ?_;rintro e w5 ⟨rfl,bb⟩;go_wp2_with fail;go_roundw
          case rel=>exact ⟨k+1,by omega,by go_num,by rw [HE.o];exact aq.o.below bb,ce.o.below bb,ax.o.then bb⟩
          case measure=>simp [intOf];omega
         ·clear hz;go_wp2_with fail;refine (aU wn xi _ z rx.o.el pr.o.up HZ.o).mono ?_;rintro e w5 ⟨rfl,bb⟩;replace aq:=ag (aq.o.below bb);replace ax:=ag (ax.o.then bb)
          replace ce:=ag (ce.o.below bb);replace rx:=ag (rx.o.below bb);clear HZ bb k0 k1 k2;generalize w5=wn at *;have bt:Hd (Sz (x.T r j*(x.T i k/x.T i j)) 128 128):=ag (((cI.o r bU.o j (by omega)).mul pr.o).mono (by omega) (by omega))
          have k0:=rx.o.c0;have k1:=rx.o.c1;have k2:=rx.o.c2;have e0:=ce.o.c0;have e1:=ce.o.c1;have e2:=ce.o.c2;go_wp2_with fail;refine (rS wn xg xi _ _ ce.o.el rx.o.el o5.o pr.o.up bt.o).mono ?_;rintro e w5 ⟨x4,rfl,r4,ok4,bb⟩;replace aq:=ag (aq.o.below bb);replace ax:=ag (ax.o.then bb)
          replace ce:=ag (ce.o.below bb);clear bb k0 k1 k2 e0 e1 e2 rx;go_upto_region 17 with fail;have v1:Vl (w5.alloc (.cells x4.cells 29)) w5.heap.size x4 (x.T r j*(x.T i k/x.T i j)):=⟨(au ok4).1,r4⟩;have bb:=(au ok4).2;have ps:Hd (¬L.S w5.heap.size):=ag (fun hs=>absurd (aq.o.q.lts _ hs) (Nat.lt_irrefl _));replace aq:=ag (aq.o.below bb);replace ax:=ag (ax.o.then bb)
          replace ce:=ag (ce.o.below bb);clear bb ok4 r4;generalize (w5.alloc (.cells #[.bool x4.b, .slice x4.A x4.xs.length x4.c, .slice x4.D x4.ys.length x4.d] 29))=w6 at v1 aq ax ce|-;generalize w5.heap.size=gy at v1 ps|-;generalize x4=xy at v1;generalize w6=wr at *;have cF:=ag v1;clear v1;obtain ⟨xe,ev⟩:=aq.o.elg bU.o dB.o hlt;rw [show (⟨pvC x.T i j r k,x.B⟩:St).T r k=x.T r k from Dm ka.o] at ev;have bf:=ag ev;clear ev;have eJ:Hd (Sz (x.T r k) 128 128):=ag (cI.o r bU.o k (by have:=cw.o;omega)).up
          have Fk:=bt;have l7:Hd (x.T r k-x.T r j*(x.T i k/x.T i j)=bY x.T i j r k):=ag (by rw [bY,if_neg ka.o])
          have c7:Hd (Sz (x.T r k-x.T r j*(x.T i k/x.T i j)) 128 128):=ag (by rw [l7.o];exact (rf.o r bU.o k (by have:=cw.o;omega)).up)
          have cK:Hd (oE (pvC x.T i j r k) r k (bY x.T i j r k)=pvC x.T i j r (k+1)):=ag yY;refine wp_region_held_drew (S:=fun w'=>w'.cell? ⟨L.G,0,none⟩=some (.slice (some ⟨L.go,0,none⟩) L.gs.length L.co)/\w'.cell? ⟨L.go,r,none⟩=some (.slice (some ⟨gr,0,none⟩) L.N L.N)/\w'.cell? ⟨gy,0,none⟩=some (.bool xy.b)/\w'.cell? ⟨gy,1,none⟩=some (.slice xy.A xy.xs.length xy.c)/\w'.cell? ⟨gy,2,none⟩=some (.slice xy.D xy.ys.length xy.d)) (by kernel_rfl) ⟨(aq.o.below ((ah wr.heap.size wr).drew)).c0,(aq.o.below ((ah wr.heap.size wr).drew)).rowg bU.o dB.o,(cF.o.below ((ah wr.heap.size wr).drew)).c0,(cF.o.below ((ah wr.heap.size wr).drew)).c1,(cF.o.below ((ah wr.heap.size wr).drew)).c2⟩ fun hH=>?_
          have bz:=(ah wr.heap.size wr).drew;generalize wr.drew=wd at *;refine qj 25 fun Ha=>?_
          refine qh Ha 0 (.pointer (some ⟨L.G,0,none⟩)) rfl ?_;refine qh Ha 1 (.pointer (some ⟨L.G,0,none⟩)) rfl ?_;refine qh Ha 2 (.pointer (some ⟨L.G,0,none⟩)) rfl ?_;refine qh Ha 3 (.slice (some ⟨L.go,0,none⟩) L.gs.length L.co) rfl ?_;refine qh Ha 4 (.int .i64 (r:Int)) rfl ?_;refine qh Ha 5 (.pointer (some ⟨L.go,r,none⟩)) rfl ?_;refine qh Ha 6 (.slice (some ⟨gr,0,none⟩) L.N L.N) rfl ?_;refine qh Ha 7 (.int .i64 (k:Int)) rfl ?_;refine qh Ha 8 (.pointer (some ⟨L.G,0,none⟩)) rfl ?_
          refine qh Ha 9 (.pointer (some ⟨L.G,0,none⟩)) rfl ?_;refine qh Ha 10 (.pointer (some ⟨L.G,0,none⟩)) rfl ?_;refine qh Ha 11 (.slice (some ⟨L.go,0,none⟩) L.gs.length L.co) rfl ?_;refine qh Ha 12 (.int .i64 (r:Int)) rfl ?_;refine qh Ha 13 (.pointer (some ⟨L.go,r,none⟩)) rfl ?_;refine qh Ha 14 (.slice (some ⟨gr,0,none⟩) L.N L.N) rfl ?_;refine qh Ha 15 (.int .i64 (k:Int)) rfl ?_;refine qh Ha 16 (.pointer (some ⟨gr,k*3,none⟩)) rfl ?_;refine tks Ha 18 (xy.val) rfl ?_;simp only [tz]
          refine tk1 Ha 17 rfl fun K hK=>?_;have ev:=bf.o.below bz;have k0:=ev.c0;have k1:=ev.c1;have k2:=ev.c2;go_simp;clear ev k0 k1 k2;refine hK.out _ _ (by first|exact ⟨t5.c0,t5.rowg bU.o dB.o,v5.c0,v5.c1,v5.c2⟩|exact ⟨(aq.o.below bz).c0,(aq.o.below bz).rowg bU.o dB.o,(cF.o.below bz).c0,(cF.o.below bz).c1,(cF.o.below bz).c2⟩) fun hH=>?_;clear hK K;try simp only [tz]
          refine tk1 Ha 19 rfl fun K hK=>?_;go_simp;go_at_call 89;refine (fX wd xe xy _ _ (bf.o.below bz).el (cF.o.below bz).el eJ.o Fk.o c7.o).mono ?_;rintro e wd ⟨x3,rfl,r3,ok3,bb⟩;replace bz:=qd bz bb;clear bb;refine hK.out _ _ (by first|exact ⟨t5.c0,t5.rowg bU.o dB.o,v5.c0,v5.c1,v5.c2⟩|exact ⟨(aq.o.below bz).c0,(aq.o.below bz).rowg bU.o dB.o,(cF.o.below bz).c0,(cF.o.below bz).c1,(cF.o.below bz).c2⟩) fun hH=>?_;clear hK K;try simp only [tz]
          refine qh Ha 20 (.tuple #[x3.val, .int .i64 0]) rfl ?_;refine qh Ha 21 (x3.val) rfl ?_;refine qh Ha 22 (.int .i64 0) rfl ?_;refine tks Ha 23 (.pointer (some ⟨gr,k*3,none⟩)) rfl ?_;simp only [tz];refine tk1 Ha 24 rfl fun K hK=>?_;have ev:=bf.o.below bz;have k0:=ev.c0;have k1:=ev.c1;have k2:=ev.c2;have aF:=ev.f0;have aG:=ev.f1;have aH:=ev.f2;go_simp;clear ev k0 k1 k2 aF aG aH;have t6:=(aq.o.below bz).put bU.o dB.o (k:=k) (⟨ok3,by rw [<-l7.o];exact r3⟩:El wd x3 (bY x.T i j r k))
          have v5:=(cF.o.below bz).kp t6.2 (aq.o.below bz).q.nl ps.o;have vg:=(ce.o.below bz).kp t6.2 (aq.o.below bz).q.nl ip.o;have p5:=(ax.o.then bz).trans t6.2
          have t5:=t6.1;clear hH bz ok3 t6;generalize (((wd.setCell ⟨gr,k*3,none⟩ (.bool x3.b)).setCell ⟨gr,k*3+1,none⟩ (.slice x3.A x3.xs.length x3.c)).setCell ⟨gr,k*3+2,none⟩ (.slice x3.D x3.ys.length x3.d))=we at *;generalize we=wd at *;refine hK.out _ _ (by first|exact ⟨t5.c0,t5.rowg bU.o dB.o,v5.c0,v5.c1,v5.c2⟩|exact ⟨(aq.o.below bz).c0,(aq.o.below bz).rowg bU.o dB.o,(cF.o.below bz).c0,(cF.o.below bz).c1,(cF.o.below bz).c2⟩) fun hH=>?_;clear hK K;try simp only [tz]
          refine qp Ha ?_
          go_wp2_with fail;go_roundw
          case rel=>exact ⟨k+1,by omega,by go_num,by rw [<-cK.o];exact t5,vg,p5⟩
          case measure=>simp [intOf];omega
--D}
        ·obtain rfl:k=L.N:=by omega
         replace tw:Tw wr B L ⟨pvB x.T i j (r+1),x.B⟩:=tw.congr (fun a _ c hc=>Bv hc) (fun _ _=>rfl);go_wp2_with fail;go_roundw
         case rel=>exact ⟨r+1,by omega,by go_num,tw,kp⟩
         case measure=>simp [intOf];omega
    ·obtain rfl:r=L.gs.length:=by omega
     have c1:=tw.c1;obtain ⟨cb,fb⟩:=tw.q.bas hi;have t2:=tw.putB i j;go_wp2_with fail
     go_end0
     exact ⟨rfl,t2.1.congr (fun a ha c _=>Bw ha) (fun _ _=>rfl),kp.trans t2.2⟩
structure Sl where
 A:Option Addr
 c:Nat
 vs:List Fx
abbrev Sl.val (s:Sl):Value := .slice s.A s.vs.length s.c
structure Sl.ok (s:Sl) (w:World):Prop where
 rd:RdF w s.A s.vs
 el:∀v∈s.vs,v.ok w
 cap:s.vs.length<=s.c
theorem Sl.ok.below {s:Sl} {w w':World} (h:s.ok w) (hb:Below w.heap.size w w'):s.ok w':=⟨h.rd.below hb,fun v hv=>(h.el v hv).below hb,h.cap⟩
structure Pg where
 cost:Sl
 rA:Option Addr
 rc:Nat
 rows:List Sl
 right:Sl
abbrev Pg.val (p:Pg):Value := .agg #[p.cost.val, .slice p.rA p.rows.length p.rc,p.right.val]
abbrev Pg.cells (p:Pg):Array Value := #[p.cost.val, .slice p.rA p.rows.length p.rc,p.right.val]
structure Pg.ok (p:Pg) (w:World):Prop where
 cost:p.cost.ok w
 right:p.right.ok w
 rd:Rd Sl.val w p.rA p.rows
 rows:∀r∈p.rows,r.ok w
 cap:p.rows.length<=p.rc
theorem Pg.ok.below {p:Pg} {w w':World} (h:p.ok w) (hb:Below w.heap.size w w'):p.ok w':=⟨h.cost.below hb,h.right.below hb,h.rd.below hb rfl,fun r hr=>(h.rows r hr).below hb,h.cap⟩
def Pg.a (p:Pg) (r j:Nat):Rat:=((p.rows.getD r ⟨none,0,[]⟩).vs.getD j Fx.nil).q
def Pg.b (p:Pg) (r:Nat):Rat:=(p.right.vs.getD r Fx.nil).q
def Pg.c (p:Pg) (j:Nat):Rat:=(p.cost.vs.getD j Fx.nil).q
structure Pg.sm (p:Pg):Prop where
 lc:p.cost.vs.length<=1000
 lb:p.right.vs.length<=1000
 lr:p.rows.length<=1000
 la:∀r∈p.rows,r.vs.length<=1000
 ec:∀v∈p.cost.vs,v.xs.length<=10000/\v.ys.length<=10000
 eb:∀v∈p.right.vs,v.xs.length<=10000/\v.ys.length<=10000
 ea:∀r∈p.rows,∀v∈r.vs,v.xs.length<=10000/\v.ys.length<=10000
def wlF (vs:List Fx):Nat:=(vs.map (fun v=>wgB v.q)).sum
structure Pg.vd (p:Pg):Prop where
 r1:1<=p.rows.length
 r2:p.rows.length<=32
 c1:1<=p.cost.vs.length
 c2:p.cost.vs.length<=256
 lb:p.right.vs.length=p.rows.length
 la:∀r∈p.rows,r.vs.length=p.cost.vs.length
 vc:∀v∈p.cost.vs,v.v
 vb:∀v∈p.right.vs,v.v
 va:∀r∈p.rows,∀v∈r.vs,v.v
 wt:wlF p.cost.vs+wlF p.right.vs+(p.rows.map (fun r=>wlF r.vs)).sum<=900
section
variable {w w':World} {B g c:Nat} {xs:List Fx}
theorem Fr.cut {A:Option Addr} (h:Fr w B A c xs) (k:Nat) (hk:k<=xs.length):Fr w B A c (xs.take k):=by
 have e:aS (xs.take k)=(aS xs).take (k*3):=by
  have h1:=ir (xs.take k) (xs.drop k);rw [List.take_append_drop] at h1;have h2:=dJ (xs.take k);rw [List.length_take,Nat.min_eq_left hk] at h2
  conv=>rhs;rw [h1]
  rw [List.take_append_of_le_length (by omega),List.take_of_length_le (l:=aS (xs.take k)) (by omega)]
 have hl:(xs.take k).length=k:=by rw [List.length_take];omega
 unfold Fr;rw [e,hl];rcases h.2 with ⟨hv,hn⟩|⟨g,cap,cur,hv,hb,hg,hnc,hcm,hcs,ht⟩
 ·simp only [Value.slice.injEq] at hv;obtain ⟨rfl,_,rfl⟩:=hv;have:k=0:=by omega
  subst this;exact ⟨by simp, .inl ⟨rfl,rfl⟩⟩
 ·simp only [Value.slice.injEq] at hv;obtain ⟨rfl,_,rfl⟩:=hv;refine ⟨by rw [List.length_take,dJ];omega, .inr ⟨g,c,cur,rfl,hb,hg,by omega,hcm,hcs,?_⟩⟩
  rw [<-ht,List.take_take,Nat.min_eq_left (by omega)]
theorem BX (w:World) (N:Nat) (hN:N<=1000) (hB:B<=w.heap.size):Fr (w.alloc (.cells (madeCells Fx.nil.val.cells (N*3)) 29)) B (some ⟨w.heap.size,0,none⟩) N []/\NL (w.alloc (.cells (madeCells Fx.nil.val.cells (N*3)) 29)) w.heap.size:=by
 refine ⟨World.ownsRow_made w _ N hB (by simp only [maxLen];omega) (size_madeCells _ _),_,_,heap_alloc_new w _,fun u hu=>?_⟩
 rw [dm] at hu;exact rN (dI _ u hu)
theorem mW {ops:Array Oper} {rest:List Oper} {o:Oper} {a:Act} {Q:Exit->Act->World->Prop} (w:World)
 (hgd:o.guard=none) (l c:Operand) (hop:o.op=Op.makeSlice 22 l c) (L C:Int) (m n:Nat) (hl:a.eval l = .int .i64 L) (hc:a.eval c = .int .i64 C) (hL:L=(m:Int)) (hC:C=(n:Int)) (hmn:m<=n) (hN:n<=1000)
 (h:wpList prog ops Q rest (a.put o.dst (.slice (some ⟨w.heap.size,0,none⟩) m n)) (w.alloc (.cells (madeCells Fx.nil.val.cells (n*3)) 29))):wpList prog ops Q (o::rest) a w:=by
 refine wpList_plain hgd fun K hK'=>?_;obtain ⟨i1,hi,hi0,hi1,hi2⟩:=info_parts dr;subst hL hC;have hrun:=run_makeSlice (P:=prog) (w:=w) 22 29 i1 Fx.nil.val underlying22 hi hi0 .i64 .i64 (m:Int) (n:Int) (by omega) (by omega) (by rw [hi1,Int.toNat_natCast];omega) (by rw [hi2];omega) (by omega)
 rw [hi1] at hrun;simp only [Int.toNat_natCast] at hrun;unfold Oper.wp;simp only [execOp,hop,hl,hc,hrun,Sem.run_bind,Sem.run_pure,Result.andThen];exact hK' _ _ h
theorem gj (w:World) (hown:Fr w B (some ⟨g,0,none⟩) c xs) (hno:NL w g) (ad:Addr) (c2:Nat) (ys:List Fx) (hr:RdF w (some ad) ys) (hy:0<ys.length) (hroom:xs.length+ys.length<=c) (_:c<=1000) :
 ∃w',(Builtin.append_ #[22,22] 22 #[.slice (some ⟨g,0,none⟩) xs.length c, .slice (some ad) ys.length c2]).run prog w = .ok (.slice (some ⟨g,0,none⟩) (xs.length+ys.length) c) w'/\Fr w' B (some ⟨g,0,none⟩) c (xs++ys)/\NL w' g/\w.grownBy w' (some g):=by
 obtain ⟨i1,hi,hi0,hi1,hi2⟩:=info_parts dr;have hnews:∀j u,(aS ys)[j]? = some u->w.cell? (ad.add j)=some u:=by
  intro j u hu;obtain ⟨k,hk,hcase⟩:=mL ys j u hu;obtain ⟨ad',e',_,hc⟩:=hr (by omega)
  injection e' with e';subst e';obtain ⟨h0,h1,h2⟩:=hc k hk;have hoff:(ad.add (k*3)).off=ad.off+k*3:=by
   unfold Addr.add
   split
   ·rename_i h0;rw [h0];rfl
   ·rfl
  rcases hcase with ⟨rfl,rfl⟩|⟨rfl,rfl⟩|⟨rfl,rfl⟩
  ·exact h0
  ·rw [show ad.add (k*3+1)=⟨(ad.add (k*3)).block,(ad.add (k*3)).off+1,none⟩ from by rw [aM,hoff];exact if_neg (by omega)]
   exact h1
  ·rw [show ad.add (k*3+2)=⟨(ad.add (k*3)).block,(ad.add (k*3)).off+2,none⟩ from by rw [aM,hoff];exact if_neg (by omega)]
   exact h2
 obtain ⟨w',hrun,r1,r2⟩:=run_append_fits (P:=prog) w B 22 22 29 i1 3 underlying22 hi hi1 g xs.length c (aS xs) hown ad ys.length c2 (aS ys) (dJ ys) hnews (jd ys) hroom;refine ⟨w',hrun,by unfold Fr;rw [List.length_append,ir];exact r1,?_,r2⟩
 rcases hown.2 with ⟨hv,h0⟩|⟨g',cap,cur,hv,hbg,hg,hnc,hcm,hcs,htake⟩
 ·simp at hv
 ·simp only [Value.slice.injEq,Option.some.injEq,Addr.mk.injEq] at hv;obtain ⟨⟨rfl,_⟩,_,rfl⟩:=hv;obtain ⟨cur',t',hg',hcn⟩:=hno;rw [hg] at hg';obtain ⟨rfl,rfl⟩:cur=cur'/\29=t':=by simpa using hg'
  have hl:(aS ys).length=ys.length*i1.size:=by rw [hi1];exact dJ ys
  have hfit:xs.length*i1.size+(aS ys).length<=cur.size:=by
   rw [hl,hcs,<-Nat.add_mul,hi1];exact Nat.mul_le_mul_right _ hroom
  rw [run_append_room (P:=prog) w 22 22 29 i1 underlying22 hi g xs.length c cur hg ad ys.length c2 (aS ys) hl hnews (jd ys) hroom hfit] at hrun;injection hrun with e1 e2;subst e2;refine ⟨_,_,setRow_heap w g cur _ _ _ hg,fun u hu=>?_⟩;rw [List.mem_append,List.mem_append] at hu;rcases hu with (h|h)|h
  ·exact hcn u (List.mem_of_mem_take h)
  ·exact rN (dI ys u h)
  ·exact hcn u (List.mem_of_mem_drop h)
theorem dT (w:World) {ops:Array Oper} {rest:List Oper} {o:Oper} {a:Act} {Q:Exit->Act->World->Prop} (hgd:o.guard=none) (s x:Operand)
 (ho:o.op = .call { callee := .builtin .append,args := #[s,x],argTypes := #[22,22]}) (hty:o.type=22) {n:Nat} (hs:a.eval s = .slice (some ⟨g,0,none⟩) n c) (hn:n=xs.length) (hown:Fr w B (some ⟨g,0,none⟩) c xs) (hno:NL w g)
 (ad:Addr) (m c2:Nat) (ys:List Fx) (hx:a.eval x = .slice (some ad) m c2) (hm:m=ys.length) (hr:RdF w (some ad) ys) (hy:0<ys.length) (hroom:n+m<=c) (hc:c<=1000)
 (h:∀w',Fr w' B (some ⟨g,0,none⟩) c (xs++ys)->NL w' g->Kp (fun a=>a=g) w w'->wpList prog ops Q rest (a.put o.dst (.slice (some ⟨g,0,none⟩) (n+m) c)) w'):wpList prog ops Q (o::rest) a w:=by
 subst hn hm;obtain ⟨w',hrun,h1,h2,h3⟩:=gj w hown hno ad c2 ys hr hy hroom hc;refine wpList_plain hgd fun K hK=>?_;unfold Oper.wp execOp;simp only [ho,hty,resolve,invoke,builtin,Sem.run_bind,Sem.run_pure,Result.andThen_ok,List.map_toArray,List.map_cons,List.map_nil,hs,hx,hrun];exact hK _ _ (h w' h1 h2 (ci h3 (fun k e=>by injection e with e;exact e.symm)))
theorem eH (w:World) {ops:Array Oper} {o:Oper} {a:Act} {K:Act->World->Prop} {Q:Exit->Act->World->Prop} {X:Prop} (hgd:o.guard=none) (s x:Operand)
 (ho:o.op = .call { callee := .builtin .append,args := #[s,x],argTypes := #[22,22]}) (hty:o.type=22) {n:Nat} (hs:a.eval s = .slice (some ⟨g,0,none⟩) n c) (hn:n=xs.length) (hown:Fr w B (some ⟨g,0,none⟩) c xs) (hno:NL w g)
 (ad:Addr) (m c2:Nat) (ys:List Fx) (hx:a.eval x = .slice (some ad) m c2) (hm:m=ys.length) (hr:RdF w (some ad) ys) (hy:0<ys.length) (hroom:n+m<=c) (hc:c<=1000)
 (h:∀w',Fr w' B (some ⟨g,0,none⟩) c (xs++ys)->NL w' g->Kp (fun a=>a=g) w w'->K (a.put o.dst (.slice (some ⟨g,0,none⟩) (n+m) c)) w') :
 if Region.wanted o (yielded ops a.tmps)=true then Oper.wp prog o a w K Q else X:=by
 have hw:Region.wanted o (yielded ops a.tmps)=true:=by simp [Region.wanted,hgd]
 rw [if_pos hw];subst hn hm;obtain ⟨w',hrun,h1,h2,h3⟩:=gj w hown hno ad c2 ys hr hy hroom hc;unfold Oper.wp execOp;simp only [ho,hty,resolve,invoke,builtin,Sem.run_bind,Sem.run_pure,Result.andThen_ok,List.map_toArray,List.map_cons,List.map_nil,hs,hx,hrun];exact h w' h1 h2 (ci h3 (fun k e=>by injection e with e;exact e.symm))
end
theorem bE {P:Program} (w:World) {α : Type} {mk : α -> Value} (hone:∀x,(mk x).oneCell'=true) (hml:∀x,isL (mk x)=false) {ops:Array Oper} {o:Oper} {a:Act} {K:Act->World->Prop} {Q:Exit->Act->World->Prop} {X:Prop} (hgd:o.guard=none) (s x:Operand) (t:TypeId)
 (ho:o.op = .call { callee := .builtin .append,args := #[s,x],argTypes := #[t,t]})
 (e:TypeId) (i:TypeInfo) (z:Value) (bytes:Nat) (ht:P.underlying t=some (.slice e)) (hi:P.info? e=some i) (hz:i.zero=some z)
 (hsize:i.size=1) (hby:i.bytes=bytes) (hzs:z.cells.size=1) (hzl:∀u∈z.cells.toList,isL u=false) {B c n:Nat} {A:Option Addr} {xs:List α} (hs:a.eval s = .slice A n c) (hn:n=xs.length) (hown:Gr mk e w B A c xs) (hno:NLr w A)
 (ad:Addr) (m c2:Nat) (ys:List α) (hx:a.eval x = .slice (some ad) m c2) (hm:m=ys.length) (hr:Rd mk w (some ad) ys) (hy:0<ys.length) (hmax:n+m<=maxLen) (hbytes:(n+m)*bytes<=140737488355328) (hbase:B<=w.heap.size)
 (h:∀A' c' w',Gr mk e w' B A' c' (xs++ys)->NLr w' A'->w.grownBy w' (A.map (·.block))->Below B w w'->(A'.map (·.block)=A.map (·.block)\/A'.map (·.block)=some w.heap.size)->K (a.put o.dst (.slice A' (n+m) c')) w') :
 if Region.wanted o (yielded ops a.tmps)=true then Oper.wp P o a w K Q else X:=by
 have hw:Region.wanted o (yielded ops a.tmps)=true:=by simp [Region.wanted,hgd]
 rw [if_pos hw];subst hn hm;obtain ⟨A',c',w',hrun,h1,h2,h3,h4⟩:=fJ (P:=P) w hone t o.type e i z bytes ht hi hz hsize hby hzs hown (some ad) c2 ys hr hmax hbytes hbase;have h6:=qP w hone hml t o.type e i z bytes ht hi hz hsize hby hzl hown hno ad c2 ys hr hy hmax hbytes hrun
 have h7:NLr w' A':=fun g hg=>h6 g (by cases A' with
  | none=>cases hg
  | some a'=>simpa [Value.ownBlock] using hg)
 unfold Oper.wp execOp;simp only [ho,resolve,invoke,builtin,Sem.run_bind,Sem.run_pure,Result.andThen_ok,List.map_toArray,List.map_cons,List.map_nil,hs,hx,hrun];exact h A' c' w' h1 h7 h2 h3 h4
theorem jt:(prog.info? 22).map (fun i=>(i.zero,i.size,i.bytes))=some (some (.slice none 0 0),1,24):=by kernel_rfl
theorem j3 {w:World} {x:Fx} (h:x.ok w):RdF (w.alloc (.cells x.cells 29)) (some ⟨w.heap.size,0,none⟩) [x]:=by
 have fa:=(au h).1;intro _;refine ⟨_,rfl,fa.lt,fun k hk=>?_⟩;have hk0:k=0:=by simp at hk;omega
 subst hk0;rw [Nat.zero_mul,show (⟨w.heap.size,0,none⟩:Addr).add 0=⟨w.heap.size,0,none⟩ from rfl];exact ⟨fa.c0,fa.c1,fa.c2⟩
theorem CR {q:Rat} (h:Sz q 128 128):wgB q<=8192:=by
 have h1:=(dh q.num.natAbs 128).2 h.1;have h2:=(dh q.den 128).2 h.2;unfold wgB
 split
 ·omega
 ·split <;> omega
theorem sj {vs:List Fx} {k:Nat} (h:k<vs.length):wlF (vs.take (k+1))=wlF (vs.take k)+wgB vs[k].q:=by
 rw [List.take_succ_eq_append_getElem h,wlF,List.map_append,List.sum_append,List.map_cons,List.map_nil,List.sum_cons,List.sum_nil,Nat.add_zero];rfl
theorem iM {vs:List Fx} (hv:∀v∈vs,v.v):wlF vs<=vs.length*8192:=by
 induction vs with
 | nil=>simp [wlF]
 | cons v vs ih=>
   have h1:=ih (fun u hu=>hv u (List.mem_cons_of_mem _ hu));have h2:=CR (kB (hv v (List.mem_cons_self ..))).2;simp only [wlF,List.map_cons,List.sum_cons,List.length_cons] at *;omega
theorem oG {vs:List Fx} {k:Nat} (h:k<vs.length) (ha:∀v∈vs.take k,v.v) (hk:vs[k].v):∀v∈vs.take (k+1),v.v:=by
 intro v hv;rw [List.take_succ_eq_append_getElem h] at hv;rcases List.mem_append.1 hv with h1|h1
 ·exact ha v h1
 ·obtain rfl:v=vs[k]:=by simpa using h1
  exact hk
def WlR (vs:List Fx) (n:Nat) (b:Bool):Prop:=((∀v∈vs,v.v)/\n=wlF vs/\b=true)\/(¬(∀v∈vs,v.v)/\n=0/\b=false)
theorem sB (w:World) (s:Sl) (h:s.ok w) (hl:s.vs.length<=1000) (hs:∀v∈s.vs,v.xs.length<=10000/\v.ys.length<=10000) :
 Calls prog 33 #[s.val] w fun e w'=>∃(n:Nat) (b:Bool),e = .returned (.tuple #[.int .i64 (n:Int), .bool b])/\WlR s.vs n b/\Below w.heap.size w w':=by
 have HS:=ag h;have bt:=ag hs;obtain ⟨A,c,vs⟩:=s;clear h hs;replace hl:vs.length<=1000:=hl
 show Calls prog 33 #[.slice A vs.length c] w _
 replace bt:Hd (∀v∈vs,v.xs.length<=10000/\v.ys.length<=10000):=bt;go_enter func33,ntmps33;go_wp2_with fail;go_loopw [4,12] (fun nv iv wr=>∃k:Nat,k<=vs.length/\iv = .int .i64 k/\nv = .int .i64 (wlF (vs.take k):Nat)/\(∀v∈vs.take k,v.v)/\Below w.heap.size w wr) (fun _ iv _=>vs.length-(intOf iv).toNat)
 case atStart=>exact ⟨0,by omega,rfl,rfl,(fun v hv=>by simp at hv),ah _ _⟩
 case round=>
  obtain ⟨k,hk,rfl,rfl,ha,bw⟩:=hrel;have HA:=ag ha;by_cases hlt:k<vs.length
  ·have hwl:=iM ha;rw [List.length_take] at hwl;obtain ⟨ad,rfl,ef⟩:=(HS.o.below bw).rd.at k hlt;have ok:=(HS.o.below bw).el _ (List.getElem_mem hlt);have HL:=ag (bt.o _ (List.getElem_mem hlt));have cK:=ag (sj hlt);have o9:Hd (vs[k].v->∀v∈vs.take (k+1),v.v):=ag (oG hlt ha);have de:=ag (List.getElem_mem hlt);obtain ⟨x,hx⟩:∃x,vs[k]=x:=⟨_,rfl⟩;have ef0:Ef wr (ad.add (k*3)) vs[k]:=ef;rw [hx] at ef0 ok HL cK o9 de;have d0:=ef0.c0;have d1:=ef0.c1;have d2:=ef0.c2;obtain ⟨N,hN⟩:∃N,wlF (vs.take k)=N:=⟨_,rfl⟩;rw [hN] at hwl cK|-;clear hx hN ef ef0 ha;go_upto_region 5 with fail;have a1:=(au ok).1
   have bb:=(au ok).2;clear d0 d1 d2 ok;replace bw:=qd bw bb;clear bb;generalize (wr.alloc (.cells #[.bool x.b, .slice x.A x.xs.length x.c, .slice x.D x.ys.length x.d] 29))=wm at a1 bw|-;generalize wr.heap.size=g6 at a1|-;have d0:=a1.c0;have d1:=a1.c1;have d2:=a1.c2;have OK:=ag a1.ok;clear a1;by_cases hv:x.v
   ·have kf:Hd (gz x=okS x.q):=ag (gp hv);have eP:=ag (kB hv).2;have HT:=ag (o9.o hv);clear hv;go_wp2_with fail;refine (dZ wm x _ OK.o HL.o.1 HL.o.2 kf.o).mono ?_;rintro e wn ⟨y,rfl,hs1,ok1,bb⟩;have RP:=ag (Rp.of hs1);rw [show (okS x.q).2.2.2=0 from rfl];clear hs1 d0 d1 d2;replace bw:=qd bw bb;clear bb;go_upto_region 7 with fail;have v1:Vl (wn.alloc (.cells y.cells 29)) wn.heap.size y x.q:=⟨(au ok1).1,RP.o⟩;have bb:=(au ok1).2;clear ok1;replace bw:=qd bw bb;clear bb;generalize (wn.alloc (.cells #[.bool y.b, .slice y.A y.xs.length y.c, .slice y.D y.ys.length y.d] 29))=wm at v1 bw|-
    generalize wn.heap.size=g7 at v1|-;have d0:=v1.c0;have d1:=v1.c1;have d2:=v1.c2;have HV:=ag v1;clear v1;obtain ⟨z,hz⟩:∃z,bA x.q 0=z:=⟨_,rfl⟩;have HZ:=ag hz;by_cases h0:z=0
    ·subst h0;have ia:Hd (wlF (vs.take (k+1))=N):=ag (by rw [cK.o,wgB,if_pos ((aZ _).1 hz),Nat.add_zero])
     clear hz;go_wp2_with fail;refine (aU wm y _ 0 HV.o.el eP.o HZ.o).mono ?_;rintro e w5 ⟨rfl,bb⟩;replace bw:=qd bw bb;clear bb;go_wp2_with fail;go_roundw
     case rel=>exact ⟨k+1,by omega,by go_num,by rw [ia.o],HT.o,bw⟩
     case measure=>simp [intOf];omega
    ·have ia:Hd (wlF (vs.take (k+1))=N+(aI x.q.num.natAbs+if 1<aI x.q.den then aI x.q.den else 0)):=ag (by rw [cK.o,wgB,if_neg (fun e=>h0 (by rw [<-hz];exact (aZ _).2 e))])
     have hb2:(z != 0)=true:=by simpa using h0
     have hq1:=(dh x.q.num.natAbs 128).2 eP.o.1;have hq2:=(dh x.q.den 128).2 eP.o.2;obtain ⟨p,hp⟩:∃p,aI x.q.num.natAbs=p:=⟨_,rfl⟩;obtain ⟨q,hq⟩:∃q,aI x.q.den=q:=⟨_,rfl⟩;rw [hp] at hq1 ia;rw [hq] at hq2 ia;have HP:Hd (aI (nv y.xs)=p):=ag (by rw [RP.o.n,am,hp])
     have HQ:Hd (aI (nv y.ys)=q):=ag (by rw [RP.o.d,am,hq])
     clear hz hp hq;go_wp2_with fail;refine (aU wm y _ z HV.o.el eP.o HZ.o).mono ?_;rintro e w5 ⟨rfl,bb⟩;replace bw:=qd bw bb;replace HV:=ag (HV.o.below bb);clear bb HZ d0 d1 d2;have d0:=HV.o.c0;have d1:=HV.o.c1;have d2:=HV.o.c2;have hc1:=fB w5 y.A y.c _ y.xs HV.o.fa.ok.num rfl (by have:=RP.o.l1 eP.o;omega)
     have hc2:=fB w5 y.D y.d _ y.ys HV.o.fa.ok.den rfl (by have:=RP.o.l2 eP.o;omega)
     rw [HP.o] at hc1;rw [HQ.o] at hc2;have iB:=ag hc1;have fm:=ag hc2;clear hc1 hc2;by_cases hq1:1<q
     ·have eE:Hd (wlF (vs.take (k+1))=N+p+q):=ag (by rw [ia.o,if_pos hq1];omega)
      go_wp2_with fail;refine iB.o.mono ?_;rintro e w6 ⟨rfl,rfl⟩;go_wp2_with fail;refine fm.o.mono ?_;rintro e w6 ⟨rfl,rfl⟩;go_wp2_with fail;go_roundw
      case rel=>exact ⟨k+1,by omega,by go_num,by rw [eE.o];go_num,HT.o,bw⟩
      case measure=>simp [intOf];omega
     ·have eE:Hd (wlF (vs.take (k+1))=N+p):=ag (by rw [ia.o,if_neg hq1];omega)
      go_wp2_with fail;refine iB.o.mono ?_;rintro e w6 ⟨rfl,rfl⟩;go_wp2_with fail;refine fm.o.mono ?_;rintro e w6 ⟨rfl,rfl⟩;go_wp2_with fail;go_roundw
      case rel=>exact ⟨k+1,by omega,by go_num,by rw [eE.o];go_num,HT.o,bw⟩
      case measure=>simp [intOf];omega
   ·have kf:Hd (gz x=kP 1):=ag (by rw [gz,if_neg hv])
    have cq:Hd (¬ ∀v∈vs,v.v):=fun hh=>hv (hh x de.o);clear hv;go_wp2_with fail;refine (dZ wm x _ OK.o HL.o.1 HL.o.2 kf.o).mono ?_;rintro e wn ⟨y,rfl,hs1,ok1,bb⟩;rw [show (kP 1).2.2.2=1 from rfl];replace bw:=qd bw bb;clear bb hs1 d0 d1 d2;go_wp2_with fail
    go_ret2
    exact ⟨0,false,rfl, .inr ⟨cq.o,rfl,rfl⟩,ai bw ((au ok1).2) bw.size⟩
  ·obtain rfl:k=vs.length:=by omega
   rw [List.take_length] at *;go_wp2_with fail
   go_ret2
   exact ⟨_,_,rfl, .inl ⟨HA.o,rfl,rfl⟩,bw⟩
end Go.Proofs.YtkpfbekmaafehaaGreat
