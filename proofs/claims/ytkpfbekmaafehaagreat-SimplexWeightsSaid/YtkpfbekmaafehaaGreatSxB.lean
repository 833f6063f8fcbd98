/- The walk of drydockref16's pivot. -/
import Derived.Test.YtkpfbekmaafehaaGreatSpB
import Derived.Test.YtkpfbekmaafehaaGreatSxA
import Derived.Test.YtkpfbekmaafehaaGreatSqI
import Derived.Deep.CutBlock
import Derived.Deep.DeepCutAuto
import Derived.Deep.RegionHeld3
namespace Go.Proofs.YtkpfbekmaafehaaGreat
set_option maxHeartbeats 8000000
set_option maxRecDepth 100000
open Go.RowKit
theorem pvC_self {T:Nat->Nat->Rat} {i j k:Nat}:pvC T i j i k=pvB T i j (i+1):=by
 funext a c
 simp only [pvC,pvB];by_cases h:a=i
 ·subst h;rw [if_pos (Or.inr rfl),if_pos (Or.inr rfl)]
  split <;> rfl
 ·rw [if_neg (fun h'=>h h'.1)];by_cases h2:a<i\/a=i
  ·rw [if_pos h2,if_pos (by omega)]
  ·rw [if_neg h2,if_neg (by omega)]
theorem pvC_none {T:Nat->Nat->Rat} {i j r k:Nat} (hr:r≠i) (h0:T r j=0):pvC T i j r k=pvB T i j (r+1):=by
 rw [za hr h0]
 funext a c
 rw [pvC]
 split
 ·rename_i h
  rw [h.1,uS hr,bY,if_neg hr,h0];grind
 ·rfl
theorem r16pivot_any (w:World) (B:Nat) (L:Ly) (x:St) (i j:Nat) (h:Rtb w B L x) (hi:i<L.m) (hj:j<L.N) (hne:x.T i j≠0) (hN:L.N<=1000)
 (s1:∀r,r<=L.m->∀k,k<L.N->Sz (x.T r k) 60 60) (s2:∀r,r<=L.m->∀k,k<L.N->Sz (bY x.T i j r k) 60 60) :
 Calls Tryz.prog 62 #[.pointer (some ⟨L.G,0,none⟩), .int .i64 (i:Int), .int .i64 (j:Int)] w fun e w'=>e = .returned (.tuple #[])/\Rtb w' B L ⟨bY x.T i j,cg x.B i j⟩/\Kp L.S w w':=by
 have cw:Hd (L.N=L.n+L.m+1):=ag rfl;have HT:=ag h;have iD:=ag hne;have cI:=ag s1;have rf:=ag s2;have eF:=ag hi;have pj:Hd (i<=L.m):=ag (Nat.le_of_lt hi);have hm:L.m<=1000:=by have:=cw.o;omega
 obtain ⟨gi,hgi⟩:∃g,L.g i=g:=⟨_,rfl⟩;have cp:=ag hgi;have c0:=h.c0;have cr:=h.rowg hi hgi;obtain ⟨xf0,ev⟩:=h.elg pj.o hgi hj;have rl:=ag ev;have k0:=ev.c0;have k1:=ev.c1;have k2:=ev.c2;have B4:Hd (Sz (x.T i j) 128 128):=ag (s1 i (by omega) j hj).up
 clear h hne s1 s2 hgi ev;go_enter Tryz.func62,Tryz.ntmps62;go_upto_region 1 with fail;have v1:Vl (w.alloc (.cells xf0.cells 29)) w.heap.size xf0 (x.T i j):=⟨(au rl.o.el.ok).1,rl.o.el.rp⟩;have bb:=(au rl.o.el.ok).2;clear k0 k1 k2 cr c0;have pp:Hd (¬L.S w.heap.size):=ag (fun hs=>absurd (HT.o.lts _ hs) (Nat.lt_irrefl _));have t1:=HT.o.below bb;have kp1:=fo L.S bb;clear rl bb;generalize (w.alloc (.cells #[.bool xf0.b, .slice xf0.A xf0.xs.length xf0.c, .slice xf0.D xf0.ys.length xf0.d] 29))=wm at v1 t1 kp1|-;generalize w.heap.size=gf at v1 pp|-;generalize xf0=xf at v1;have c0:=t1.c0
 have cr:=t1.rowg hi cp.o;go_wp2_with fail;clear c0 cr;go_loopw [7] (fun iv wr=>∃k:Nat,k<=L.N/\iv = .int .i64 k/\Rtb wr B L ⟨pvA x.T i j k,x.B⟩/\Vl wr gf xf (x.T i j)/\Kp L.S w wr) (fun iv _=>L.N-(intOf iv).toNat)
 case atStart=>exact ⟨0,by omega,rfl,by rw [ze];exact t1,v1,kp1⟩
 case round=>
  clear v1 t1 kp1;obtain ⟨k,hk,rfl,tw,vf,kp⟩:=hrel;by_cases hlt:k<L.N
  ·--D{
   obtain ⟨xe,ev⟩:=tw.elg pj.o cp.o hlt;rw [show (⟨pvA x.T i j k,x.B⟩:St).T i k=x.T i k from Do] at ev;have aq:=ag tw;have dA:=ag vf;have ax:=ag kp;have bf:=ag ev;have c0:=tw.c0;have cr:=tw.rowg hi cp.o;have eJ:Hd (Sz (x.T i k) 128 128):=ag (cI.o i pj.o k hlt).up;have cK:Hd (oE (pvA x.T i j k) i k (x.T i k/x.T i j)=pvA x.T i j (k+1)):=ag zi;have c7:Hd (Sz (x.T i k/x.T i j) 128 128):=ag (by
    have:=(rf.o i pj.o k hlt).up;rw [bY,if_pos rfl] at this;exact this)
   clear tw vf kp ev;go_upto_region 4 with fail;clear c0 cr;refine wp_region_held_drew (S:=fun w'=>w'.cell? ⟨L.G,0,none⟩=some (.slice (some ⟨L.go,0,none⟩) L.m L.co)/\w'.cell? ⟨L.go,i,none⟩=some (.slice (some ⟨gi,0,none⟩) L.N (L.c i))/\w'.cell? ⟨gf,0,none⟩=some (.bool xf.b)/\w'.cell? ⟨gf,1,none⟩=some (.slice xf.A xf.xs.length xf.c)/\w'.cell? ⟨gf,2,none⟩=some (.slice xf.D xf.ys.length xf.d)) (by kernel_rfl) ⟨(aq.o.below ((ah wr.heap.size wr).drew)).c0,(aq.o.below ((ah wr.heap.size wr).drew)).rowg eF.o cp.o,(dA.o.below ((ah wr.heap.size wr).drew)).c0,(dA.o.below ((ah wr.heap.size wr).drew)).c1,(dA.o.below ((ah wr.heap.size wr).drew)).c2⟩ fun hH=>?_
   have bz:=(ah wr.heap.size wr).drew;generalize wr.drew=wd at *;refine qj 25 fun Ha=>?_
   refine qh Ha 0 (.pointer (some ⟨L.G,0,none⟩)) rfl ?_;refine qh Ha 1 (.pointer (some ⟨L.G,0,none⟩)) rfl ?_;refine qh Ha 2 (.pointer (some ⟨L.G,0,none⟩)) rfl ?_;refine qh Ha 3 (.slice (some ⟨L.go,0,none⟩) L.m L.co) rfl ?_;refine qh Ha 4 (.int .i64 (i:Int)) rfl ?_;refine qh Ha 5 (.pointer (some ⟨L.go,i,none⟩)) rfl ?_;refine qh Ha 6 (.slice (some ⟨gi,0,none⟩) L.N (L.c i)) rfl ?_;refine qh Ha 7 (.int .i64 (k:Int)) rfl ?_;refine qh Ha 8 (.pointer (some ⟨L.G,0,none⟩)) rfl ?_
   refine qh Ha 9 (.pointer (some ⟨L.G,0,none⟩)) rfl ?_;refine qh Ha 10 (.pointer (some ⟨L.G,0,none⟩)) rfl ?_;refine qh Ha 11 (.slice (some ⟨L.go,0,none⟩) L.m L.co) rfl ?_;refine qh Ha 12 (.int .i64 (i:Int)) rfl ?_;refine qh Ha 13 (.pointer (some ⟨L.go,i,none⟩)) rfl ?_;refine qh Ha 14 (.slice (some ⟨gi,0,none⟩) L.N (L.c i)) rfl ?_;refine qh Ha 15 (.int .i64 (k:Int)) rfl ?_;refine qh Ha 16 (.pointer (some ⟨gi,k*3,none⟩)) rfl ?_;refine tks Ha 18 (xf.val) rfl ?_;simp only [tz]
   refine tk1 Ha 17 rfl fun K hK=>?_;have ev:=bf.o.below bz;have k0:=ev.c0;have k1:=ev.c1;have k2:=ev.c2;go_simp;clear ev k0 k1 k2;refine hK.out _ _ (by first|exact ⟨t5.c0,t5.rowg eF.o cp.o,v5.c0,v5.c1,v5.c2⟩|exact ⟨(aq.o.below bz).c0,(aq.o.below bz).rowg eF.o cp.o,(dA.o.below bz).c0,(dA.o.below bz).c1,(dA.o.below bz).c2⟩) fun hH=>?_;clear hK K;try simp only [tz]
   refine tk1 Ha 19 rfl fun K hK=>?_;go_simp;go_at_call 98;refine (r2quo_el wd xe xf _ _ (bf.o.below bz).el (dA.o.below bz).el eJ.o B4.o iD.o c7.o).mono ?_;rintro e wd ⟨x3,rfl,ok3,bb⟩;replace bz:=qd bz bb;clear bb;refine hK.out _ _ (by first|exact ⟨t5.c0,t5.rowg eF.o cp.o,v5.c0,v5.c1,v5.c2⟩|exact ⟨(aq.o.below bz).c0,(aq.o.below bz).rowg eF.o cp.o,(dA.o.below bz).c0,(dA.o.below bz).c1,(dA.o.below bz).c2⟩) fun hH=>?_;clear hK K;try simp only [tz]
   refine qh Ha 20 (.tuple #[x3.val, .int .i64 0]) rfl ?_;refine qh Ha 21 (x3.val) rfl ?_;refine qh Ha 22 (.int .i64 0) rfl ?_;refine tks Ha 23 (.pointer (some ⟨gi,k*3,none⟩)) rfl ?_;simp only [tz];refine tk1 Ha 24 rfl fun K hK=>?_;have ev:=bf.o.below bz;have k0:=ev.c0;have k1:=ev.c1;have k2:=ev.c2;have aF:=ev.f0;have aG:=ev.f1;have aH:=ev.f2;go_simp;clear ev k0 k1 k2 aF aG aH;have t6:=(aq.o.below bz).put pj.o cp.o (k:=k) ok3;have v5:=(dA.o.below bz).kp t6.2 (aq.o.below bz).nl pp.o;have p5:=(ax.o.then bz).trans t6.2
   have t5:=t6.1;clear hH bz ok3 t6;generalize (((wd.setCell ⟨gi,k*3,none⟩ (.bool x3.b)).setCell ⟨gi,k*3+1,none⟩ (.slice x3.A x3.xs.length x3.c)).setCell ⟨gi,k*3+2,none⟩ (.slice x3.D x3.ys.length x3.d))=we at *;generalize we=wd at *;refine hK.out _ _ (by first|exact ⟨t5.c0,t5.rowg eF.o cp.o,v5.c0,v5.c1,v5.c2⟩|exact ⟨(aq.o.below bz).c0,(aq.o.below bz).rowg eF.o cp.o,(dA.o.below bz).c0,(dA.o.below bz).c1,(dA.o.below bz).c2⟩) fun hH=>?_;clear hK K;try simp only [tz]
   refine qp Ha ?_
   go_wp2_with fail;go_roundw
   case rel=>exact ⟨k+1,by omega,by go_num,by rw [<-cK.o];exact t5,v5,p5⟩
   case measure=>simp [intOf];omega
--D}
  ·obtain rfl:k=L.N:=by omega
   replace tw:Rtb wr B L ⟨pvB x.T i j 0,x.B⟩:=tw.congr (fun a _ c hc=>yZ hc) (fun _ _=>rfl);clear vf;have c0:=tw.c0;have cr:=tw.rowg hi cp.o;go_wp2_with fail;clear c0 cr;go_loopw [8] (fun iv wr=>∃r:Nat,r<=L.m/\iv = .int .i64 r/\Rtb wr B L ⟨pvB x.T i j r,x.B⟩/\Kp L.S w wr) (fun iv _=>L.m-(intOf iv).toNat)
   case atStart=>exact ⟨0,by omega,rfl,tw,kp⟩
   case round=>
    clear tw kp;obtain ⟨r,hr,rfl,tw,kp⟩:=hrel;by_cases hrl:r<L.m
    ·obtain ⟨gr,hgr⟩:∃g,L.g r=g:=⟨_,rfl⟩;have dB:=ag hgr;have bU:=ag hrl;have sn:Hd (r<=L.m):=ag hr;obtain ⟨xg,ev⟩:=tw.elg hr hgr hj;have aq:=ag tw;have ax:=ag kp;have bf:=ag ev;have c0:=tw.c0;have cr:=tw.rowg hrl hgr;have k0:=ev.c0;have k1:=ev.c1;have k2:=ev.c2;clear tw kp ev hgr;go_upto_region 9 with fail;have v1:Vl (wr.alloc (.cells xg.cells 29)) wr.heap.size xg (pvB x.T i j r r j):=⟨(au bf.o.el.ok).1,bf.o.el.rp⟩;have bb:=(au bf.o.el.ok).2;clear k0 k1 k2 cr c0;have ip:Hd (¬L.S wr.heap.size):=ag (fun hs=>absurd (aq.o.lts _ hs) (Nat.lt_irrefl _));replace aq:=ag (aq.o.below bb)
     replace ax:=ag (ax.o.then bb)
     clear bf bb;generalize (wr.alloc (.cells #[.bool xg.b, .slice xg.A xg.xs.length xg.c, .slice xg.D xg.ys.length xg.d] 29))=wm at v1 aq ax|-;generalize wr.heap.size=gg at v1 ip|-;have ce:=ag v1;clear v1;go_wp2_with fail;go_loopw [10] (fun iv wr=>∃k:Nat,k<=L.N/\iv = .int .i64 k/\Rtb wr B L ⟨pvC x.T i j r k,x.B⟩/\Vl wr gg xg (pvB x.T i j r r j)/\Kp L.S w wr) (fun iv _=>L.N-(intOf iv).toNat)
     case atStart=>exact ⟨0,by omega,rfl,by rw [yW];exact aq.o,ce.o,ax.o⟩
     case round=>
      clear aq ce ax;obtain ⟨k,hk,rfl,tw,vg,kp⟩:=hrel;by_cases hlt:k<L.N
      ·by_cases hri:r=i
       ·--D{
        have hie:(r:Int)=(i:Int):=by omega
        subst hri;rw [pvC_self] at tw;have c0:=tw.c0;have cr:=tw.rowg hrl dB.o;go_wp2_with fail;go_roundw
        case rel=>exact ⟨r+1,by omega,by go_num,tw,kp⟩
        case measure=>simp [intOf];omega
--D}
       ·have hie:¬(r:Int)=(i:Int):=by omega
        have ka:Hd (r≠i):=hri;rw [uS hri] at vg;have hb1:((r:Int) != (i:Int))=true:=by simpa using hie
        obtain ⟨z,hz⟩:∃z,bA (x.T r j) 0=z:=⟨_,rfl⟩;have HZ:=ag hz;have o5:Hd (Sz (x.T r j) 128 128):=ag (cI.o r sn.o j hj).up;have aq:=ag tw;have ce:=ag vg;have ax:=ag kp;have c0:=tw.c0;have cr:=tw.rowg hrl dB.o;have k0:=vg.c0;have k1:=vg.c1;have k2:=vg.c2;clear tw vg kp hri hie;by_cases h0:z=0
        ·--D{
         subst h0;have HE:Hd (pvC x.T i j r k=pvB x.T i j (r+1)):=ag (pvC_none ka.o ((aZ _).1 hz));clear hz;go_wp2_with fail;refine (r2sign_el wr xg _ 0 ce.o.el o5.o HZ.o).mono ?_;rintro e w5 ⟨rfl,bb⟩;go_wp2_with fail;go_roundw
         case rel=>exact ⟨r+1,by omega,by go_num,by rw [<-HE.o];exact aq.o.below bb,ax.o.then bb⟩
         case measure=>simp [intOf];omega
--D}
        ·--D{
         have hb2:(z != 0)=true:=by simpa using h0
         clear hz;go_wp2_with fail;refine (r2sign_el wr xg _ z ce.o.el o5.o HZ.o).mono ?_;rintro e w5 ⟨rfl,bb⟩;replace aq:=ag (aq.o.below bb);replace ax:=ag (ax.o.then bb)
         replace ce:=ag (ce.o.below bb);clear HZ bb c0 cr k0 k1 k2;generalize w5=wr at *;obtain ⟨xi,ei⟩:=aq.o.elg pj.o cp.o hlt;rw [show (⟨pvC x.T i j r k,x.B⟩:St).T i k=x.T i k/x.T i j from Bu ka.o] at ei;have eA:=ag ei;obtain ⟨xe,ev⟩:=aq.o.elg sn.o dB.o hlt;rw [show (⟨pvC x.T i j r k,x.B⟩:St).T r k=x.T r k from Dm ka.o] at ev;have bf:=ag ev;clear ei ev;have pr:Hd (Sz (x.T i k/x.T i j) 60 60):=ag (by
          have:=rf.o i pj.o k hlt;rw [bY,if_pos rfl] at this;exact this)
         have bt:Hd (Sz (x.T r j*(x.T i k/x.T i j)) 128 128):=ag (((cI.o r sn.o j hj).mul pr.o).mono (by omega) (by omega))
         have eJ:Hd (Sz (x.T r k) 128 128):=ag (cI.o r sn.o k hlt).up;have l7:Hd (x.T r k-x.T r j*(x.T i k/x.T i j)=bY x.T i j r k):=ag (by rw [bY,if_neg ka.o])
         have c7:Hd (Sz (x.T r k-x.T r j*(x.T i k/x.T i j)) 128 128):=ag (by rw [l7.o];exact (rf.o r sn.o k hlt).up)
         have cK:Hd (oE (pvC x.T i j r k) r k (bY x.T i j r k)=pvC x.T i j r (k+1)):=ag yY;have mu:Hd (¬gr=gi):=ag (fun e=>ka.o (aq.o.mc.inj r i sn.o pj.o (dB.o.trans (e.trans cp.o.symm))));go_upto_region 12 with fail;refine wp_region_held_drew (S:=fun w'=>w'.cell? ⟨L.G,0,none⟩=some (.slice (some ⟨L.go,0,none⟩) L.m L.co)/\w'.cell? ⟨L.go,r,none⟩=some (.slice (some ⟨gr,0,none⟩) L.N (L.c r))/\w'.cell? ⟨L.go,i,none⟩=some (.slice (some ⟨gi,0,none⟩) L.N (L.c i))/\w'.cell? ⟨gg,0,none⟩=some (.bool xg.b)/\w'.cell? ⟨gg,1,none⟩=some (.slice xg.A xg.xs.length xg.c)/\w'.cell? ⟨gg,2,none⟩=some (.slice xg.D xg.ys.length xg.d)/\w'.cell? ⟨gi,k*3,none⟩=some (.bool xi.b)/\w'.cell? ⟨gi,k*3+1,none⟩=some (.slice xi.A xi.xs.length xi.c)/\w'.cell? ⟨gi,k*3+2,none⟩=some (.slice xi.D xi.ys.length xi.d)) (by kernel_rfl) ⟨(aq.o.below ((ah wr.heap.size wr).drew)).c0,(aq.o.below ((ah wr.heap.size wr).drew)).rowg bU.o dB.o,(aq.o.below ((ah wr.heap.size wr).drew)).rowg eF.o cp.o,(ce.o.below ((ah wr.heap.size wr).drew)).c0,(ce.o.below ((ah wr.heap.size wr).drew)).c1,(ce.o.below ((ah wr.heap.size wr).drew)).c2,(eA.o.below ((ah wr.heap.size wr).drew)).c0,(eA.o.below ((ah wr.heap.size wr).drew)).c1,(eA.o.below ((ah wr.heap.size wr).drew)).c2⟩ fun hH=>?_
         have bz:=(ah wr.heap.size wr).drew;generalize wr.drew=wd at *;refine qj 32 fun Ha=>?_
         refine qh Ha 0 (.pointer (some ⟨L.G,0,none⟩)) rfl ?_;refine qh Ha 1 (.pointer (some ⟨L.G,0,none⟩)) rfl ?_;refine qh Ha 2 (.pointer (some ⟨L.G,0,none⟩)) rfl ?_;refine qh Ha 3 (.slice (some ⟨L.go,0,none⟩) L.m L.co) rfl ?_;refine qh Ha 4 (.int .i64 (r:Int)) rfl ?_;refine qh Ha 5 (.pointer (some ⟨L.go,r,none⟩)) rfl ?_;refine qh Ha 6 (.slice (some ⟨gr,0,none⟩) L.N (L.c r)) rfl ?_;refine qh Ha 7 (.int .i64 (k:Int)) rfl ?_;refine qh Ha 8 (.pointer (some ⟨L.G,0,none⟩)) rfl ?_
         refine qh Ha 9 (.pointer (some ⟨L.G,0,none⟩)) rfl ?_;refine qh Ha 10 (.pointer (some ⟨L.G,0,none⟩)) rfl ?_;refine qh Ha 11 (.slice (some ⟨L.go,0,none⟩) L.m L.co) rfl ?_;refine qh Ha 12 (.int .i64 (r:Int)) rfl ?_;refine qh Ha 13 (.pointer (some ⟨L.go,r,none⟩)) rfl ?_;refine qh Ha 14 (.slice (some ⟨gr,0,none⟩) L.N (L.c r)) rfl ?_;refine qh Ha 15 (.int .i64 (k:Int)) rfl ?_;refine qh Ha 16 (.pointer (some ⟨gr,k*3,none⟩)) rfl ?_;refine qh Ha 18 (xg.val) rfl ?_
         refine qh Ha 19 (.pointer (some ⟨L.G,0,none⟩)) rfl ?_;refine qh Ha 20 (.pointer (some ⟨L.G,0,none⟩)) rfl ?_;refine qh Ha 21 (.pointer (some ⟨L.G,0,none⟩)) rfl ?_;refine qh Ha 22 (.slice (some ⟨L.go,0,none⟩) L.m L.co) rfl ?_;refine qh Ha 23 (.int .i64 (i:Int)) rfl ?_;refine qh Ha 24 (.pointer (some ⟨L.go,i,none⟩)) rfl ?_;refine qh Ha 25 (.slice (some ⟨gi,0,none⟩) L.N (L.c i)) rfl ?_;refine qh Ha 26 (.int .i64 (k:Int)) rfl ?_;refine qh Ha 27 (.pointer (some ⟨gi,k*3,none⟩)) rfl ?_
         refine tks Ha 28 (xi.val) rfl ?_;simp only [tz];refine tk1 Ha 17 rfl fun K hK=>?_;have ev:=bf.o.below bz;have k0:=ev.c0;have k1:=ev.c1;have k2:=ev.c2;go_simp;clear ev k0 k1 k2;refine hK.out _ _ (by first|exact ⟨t5.c0,t5.rowg bU.o dB.o,t5.rowg eF.o cp.o,v5.c0,v5.c1,v5.c2,e5.c0,e5.c1,e5.c2⟩|exact ⟨(aq.o.below bz).c0,(aq.o.below bz).rowg bU.o dB.o,(aq.o.below bz).rowg eF.o cp.o,(ce.o.below bz).c0,(ce.o.below bz).c1,(ce.o.below bz).c2,(eA.o.below bz).c0,(eA.o.below bz).c1,(eA.o.below bz).c2⟩) fun hH=>?_;clear hK K;try simp only [tz]
         refine tk1 Ha 29 rfl fun K hK=>?_;go_simp;go_at_call 63;refine (r16minus_any wd xe xg xi _ _ _ (bf.o.below bz).el (ce.o.below bz).el (eA.o.below bz).el eJ.o o5.o pr.o.up bt.o c7.o).mono ?_;rintro e wd ⟨x3,rfl,ok3,bb⟩;replace bz:=qd bz bb;clear bb;refine hK.out _ _ (by first|exact ⟨t5.c0,t5.rowg bU.o dB.o,t5.rowg eF.o cp.o,v5.c0,v5.c1,v5.c2,e5.c0,e5.c1,e5.c2⟩|exact ⟨(aq.o.below bz).c0,(aq.o.below bz).rowg bU.o dB.o,(aq.o.below bz).rowg eF.o cp.o,(ce.o.below bz).c0,(ce.o.below bz).c1,(ce.o.below bz).c2,(eA.o.below bz).c0,(eA.o.below bz).c1,(eA.o.below bz).c2⟩) fun hH=>?_;clear hK K;try simp only [tz]
         refine tks Ha 30 (.pointer (some ⟨gr,k*3,none⟩)) rfl ?_;simp only [tz];refine tk1 Ha 31 rfl fun K hK=>?_;have ev:=bf.o.below bz;have k0:=ev.c0;have k1:=ev.c1;have k2:=ev.c2;have aF:=ev.f0;have aG:=ev.f1;have aH:=ev.f2;go_simp;clear ev k0 k1 k2 aF aG aH;rw [l7.o] at ok3;have t6:=(aq.o.below bz).put sn.o dB.o (k:=k) ok3;have v5:=(ce.o.below bz).kp t6.2 (aq.o.below bz).nl ip.o;have p5:=(ax.o.then bz).trans t6.2
         have e5:=(eA.o.below bz).off (v0 := .bool x3.b) (v1 := .slice x3.A x3.xs.length x3.c) (v2 := .slice x3.D x3.ys.length x3.d) (i:=k*3) (j:=k*3+1) (l:=k*3+2) ((aq.o.below bz).mc_nl sn.o dB.o) mu.o;have t5:=t6.1;clear hH bz ok3 t6;generalize (((wd.setCell ⟨gr,k*3,none⟩ (.bool x3.b)).setCell ⟨gr,k*3+1,none⟩ (.slice x3.A x3.xs.length x3.c)).setCell ⟨gr,k*3+2,none⟩ (.slice x3.D x3.ys.length x3.d))=we at *;generalize we=wd at *;refine hK.out _ _ (by first|exact ⟨t5.c0,t5.rowg bU.o dB.o,t5.rowg eF.o cp.o,v5.c0,v5.c1,v5.c2,e5.c0,e5.c1,e5.c2⟩|exact ⟨(aq.o.below bz).c0,(aq.o.below bz).rowg bU.o dB.o,(aq.o.below bz).rowg eF.o cp.o,(ce.o.below bz).c0,(ce.o.below bz).c1,(ce.o.below bz).c2,(eA.o.below bz).c0,(eA.o.below bz).c1,(eA.o.below bz).c2⟩) fun hH=>?_;clear hK K;try simp only [tz]
         refine qp Ha ?_
         go_wp2_with fail;go_roundw
         case rel=>exact ⟨k+1,by omega,by go_num,by rw [<-cK.o];exact t5,by rw [uS ka.o];exact v5,p5⟩
         case measure=>simp [intOf];omega
--D}
      ·--D{
       obtain rfl:k=L.N:=by omega
       replace tw:Rtb wr B L ⟨pvB x.T i j (r+1),x.B⟩:=tw.congr (fun a _ c hc=>Bv hc) (fun _ _=>rfl);have c0:=tw.c0;have cr:=tw.rowg hrl dB.o;go_wp2_with fail;go_roundw
       case rel=>exact ⟨r+1,by omega,by go_num,tw,kp⟩
       case measure=>simp [intOf];omega
--D}
    ·obtain rfl:r=L.m:=by omega
     obtain ⟨gr,hgr⟩:∃g,L.g L.m=g:=⟨_,rfl⟩;have dB:=ag hgr;have ka:Hd (L.m≠i):=ag (by omega)
     obtain ⟨xg,ev⟩:=tw.elg (Nat.le_refl L.m) hgr hj;rw [show (⟨pvB x.T i j L.m,x.B⟩:St).T L.m j=x.T L.m j from uS ka.o] at ev;have aq:=ag tw;have ax:=ag kp;have bf:=ag ev;have c0:=tw.c0;have c1:=tw.c1;rw [hgr] at c1;have k0:=ev.c0;have k1:=ev.c1;have k2:=ev.c2;clear tw kp ev hgr;go_upto_region 14 with fail;have v1:Vl (wr.alloc (.cells xg.cells 29)) wr.heap.size xg (x.T L.m j):=⟨(au bf.o.el.ok).1,bf.o.el.rp⟩;have bb:=(au bf.o.el.ok).2;clear k0 k1 k2 c0 c1;have ip:Hd (¬L.S wr.heap.size):=ag (fun hs=>absurd (aq.o.lts _ hs) (Nat.lt_irrefl _));replace aq:=ag (aq.o.below bb)
     replace ax:=ag (ax.o.then bb)
     clear bf bb;generalize (wr.alloc (.cells #[.bool xg.b, .slice xg.A xg.xs.length xg.c, .slice xg.D xg.ys.length xg.d] 29))=wm at v1 aq ax|-;generalize wr.heap.size=gg at v1 ip|-;have ce:=ag v1;clear v1;go_wp2_with fail;go_loopw [12] (fun iv wr=>∃k:Nat,k<=L.N/\iv = .int .i64 k/\Rtb wr B L ⟨pvC x.T i j L.m k,x.B⟩/\Vl wr gg xg (x.T L.m j)/\Kp L.S w wr) (fun iv _=>L.N-(intOf iv).toNat)
     case atStart=>exact ⟨0,by omega,rfl,by rw [yW];exact aq.o,ce.o,ax.o⟩
     case round=>
      clear aq ce ax;obtain ⟨k,hk,rfl,tw,vg,kp⟩:=hrel;by_cases hlt:k<L.N
      ·obtain ⟨z,hz⟩:∃z,bA (x.T L.m j) 0=z:=⟨_,rfl⟩;have HZ:=ag hz;have o5:Hd (Sz (x.T L.m j) 128 128):=ag (cI.o L.m (Nat.le_refl _) j hj).up;have aq:=ag tw;have ce:=ag vg;have ax:=ag kp;have c1:=tw.c1;rw [dB.o] at c1;have k0:=vg.c0;have k1:=vg.c1;have k2:=vg.c2;clear tw vg kp;by_cases h0:z=0
       ·--D{
        subst h0;have HE:Hd (pvC x.T i j L.m k=pvB x.T i j (L.m+1)):=ag (pvC_none ka.o ((aZ _).1 hz));clear hz;go_wp2_with fail;refine (r2sign_el wr xg _ 0 ce.o.el o5.o HZ.o).mono ?_;rintro e w5 ⟨rfl,bb⟩;replace aq:=ag (aq.o.below bb);replace ax:=ag (ax.o.then bb)
        rw [HE.o] at aq;clear bb c1;have c2:=aq.o.c2;obtain ⟨cb,fb⟩:=aq.o.bas hi;have t2:=aq.o.putB i j;go_wp2_with fail
        go_end0
        exact ⟨rfl,t2.1.congr (fun a ha c _=>Bw (Nat.lt_succ_of_le ha)) (fun _ _=>rfl),ax.o.trans t2.2⟩
--D}
       ·--D{
        have hb2:(z != 0)=true:=by simpa using h0
        clear hz;go_wp2_with fail;refine (r2sign_el wr xg _ z ce.o.el o5.o HZ.o).mono ?_;rintro e w5 ⟨rfl,bb⟩;replace aq:=ag (aq.o.below bb);replace ax:=ag (ax.o.then bb)
        replace ce:=ag (ce.o.below bb);clear HZ bb c1 k0 k1 k2;generalize w5=wr at *;obtain ⟨xi,ei⟩:=aq.o.elg pj.o cp.o hlt;rw [show (⟨pvC x.T i j L.m k,x.B⟩:St).T i k=x.T i k/x.T i j from Bu ka.o] at ei;have eA:=ag ei;obtain ⟨xe,ev⟩:=aq.o.elg (Nat.le_refl L.m) dB.o hlt;rw [show (⟨pvC x.T i j L.m k,x.B⟩:St).T L.m k=x.T L.m k from Dm ka.o] at ev;have bf:=ag ev;clear ei ev;have pr:Hd (Sz (x.T i k/x.T i j) 60 60):=ag (by
         have:=rf.o i pj.o k hlt;rw [bY,if_pos rfl] at this;exact this)
        have bt:Hd (Sz (x.T L.m j*(x.T i k/x.T i j)) 128 128):=ag (((cI.o L.m (Nat.le_refl _) j hj).mul pr.o).mono (by omega) (by omega))
        have eJ:Hd (Sz (x.T L.m k) 128 128):=ag (cI.o L.m (Nat.le_refl _) k hlt).up;have l7:Hd (x.T L.m k-x.T L.m j*(x.T i k/x.T i j)=bY x.T i j L.m k):=ag (by rw [bY,if_neg ka.o])
        have c7:Hd (Sz (x.T L.m k-x.T L.m j*(x.T i k/x.T i j)) 128 128):=ag (by rw [l7.o];exact (rf.o L.m (Nat.le_refl _) k hlt).up)
        have cK:Hd (oE (pvC x.T i j L.m k) L.m k (bY x.T i j L.m k)=pvC x.T i j L.m (k+1)):=ag yY;have mu:Hd (¬gr=gi):=ag (fun e=>ka.o (aq.o.mc.inj L.m i (Nat.le_refl _) pj.o (dB.o.trans (e.trans cp.o.symm))));go_upto_region 17 with fail;refine wp_region_held_drew (S:=fun w'=>w'.cell? ⟨L.G,0,none⟩=some (.slice (some ⟨L.go,0,none⟩) L.m L.co)/\w'.cell? ⟨L.G,1,none⟩=some (.slice (some ⟨gr,0,none⟩) L.N (L.c L.m))/\w'.cell? ⟨L.go,i,none⟩=some (.slice (some ⟨gi,0,none⟩) L.N (L.c i))/\w'.cell? ⟨gg,0,none⟩=some (.bool xg.b)/\w'.cell? ⟨gg,1,none⟩=some (.slice xg.A xg.xs.length xg.c)/\w'.cell? ⟨gg,2,none⟩=some (.slice xg.D xg.ys.length xg.d)/\w'.cell? ⟨gi,k*3,none⟩=some (.bool xi.b)/\w'.cell? ⟨gi,k*3+1,none⟩=some (.slice xi.A xi.xs.length xi.c)/\w'.cell? ⟨gi,k*3+2,none⟩=some (.slice xi.D xi.ys.length xi.d)) (by kernel_rfl) ⟨(aq.o.below ((ah wr.heap.size wr).drew)).c0,(aq.o.below ((ah wr.heap.size wr).drew)).costg dB.o,(aq.o.below ((ah wr.heap.size wr).drew)).rowg eF.o cp.o,(ce.o.below ((ah wr.heap.size wr).drew)).c0,(ce.o.below ((ah wr.heap.size wr).drew)).c1,(ce.o.below ((ah wr.heap.size wr).drew)).c2,(eA.o.below ((ah wr.heap.size wr).drew)).c0,(eA.o.below ((ah wr.heap.size wr).drew)).c1,(eA.o.below ((ah wr.heap.size wr).drew)).c2⟩ fun hH=>?_
        have bz:=(ah wr.heap.size wr).drew;generalize wr.drew=wd at *;refine qj 26 fun Ha=>?_
        refine qh Ha 0 (.pointer (some ⟨L.G,0,none⟩)) rfl ?_;refine qh Ha 1 (.pointer (some ⟨L.G,0,none⟩)) rfl ?_;refine qh Ha 2 (.pointer (some ⟨L.G,1,none⟩)) rfl ?_;refine qh Ha 3 (.slice (some ⟨gr,0,none⟩) L.N (L.c L.m)) rfl ?_;refine qh Ha 4 (.int .i64 (k:Int)) rfl ?_;refine qh Ha 5 (.pointer (some ⟨L.G,0,none⟩)) rfl ?_;refine qh Ha 6 (.pointer (some ⟨L.G,0,none⟩)) rfl ?_;refine qh Ha 7 (.pointer (some ⟨L.G,1,none⟩)) rfl ?_;refine qh Ha 8 (.slice (some ⟨gr,0,none⟩) L.N (L.c L.m)) rfl ?_
        refine qh Ha 9 (.int .i64 (k:Int)) rfl ?_;refine qh Ha 10 (.pointer (some ⟨gr,k*3,none⟩)) rfl ?_;refine qh Ha 12 (xg.val) rfl ?_;refine qh Ha 13 (.pointer (some ⟨L.G,0,none⟩)) rfl ?_;refine qh Ha 14 (.pointer (some ⟨L.G,0,none⟩)) rfl ?_;refine qh Ha 15 (.pointer (some ⟨L.G,0,none⟩)) rfl ?_;refine qh Ha 16 (.slice (some ⟨L.go,0,none⟩) L.m L.co) rfl ?_;refine qh Ha 17 (.int .i64 (i:Int)) rfl ?_;refine qh Ha 18 (.pointer (some ⟨L.go,i,none⟩)) rfl ?_
        refine qh Ha 19 (.slice (some ⟨gi,0,none⟩) L.N (L.c i)) rfl ?_;refine qh Ha 20 (.int .i64 (k:Int)) rfl ?_;refine qh Ha 21 (.pointer (some ⟨gi,k*3,none⟩)) rfl ?_;refine tks Ha 22 (xi.val) rfl ?_;simp only [tz];refine tk1 Ha 11 rfl fun K hK=>?_;have ev:=bf.o.below bz;have k0:=ev.c0;have k1:=ev.c1;have k2:=ev.c2;go_simp;clear ev k0 k1 k2;refine hK.out _ _ (by first|exact ⟨t5.c0,t5.costg dB.o,t5.rowg eF.o cp.o,v5.c0,v5.c1,v5.c2,e5.c0,e5.c1,e5.c2⟩|exact ⟨(aq.o.below bz).c0,(aq.o.below bz).costg dB.o,(aq.o.below bz).rowg eF.o cp.o,(ce.o.below bz).c0,(ce.o.below bz).c1,(ce.o.below bz).c2,(eA.o.below bz).c0,(eA.o.below bz).c1,(eA.o.below bz).c2⟩) fun hH=>?_;clear hK K;try simp only [tz]
        refine tk1 Ha 23 rfl fun K hK=>?_;go_simp;go_at_call 63;refine (r16minus_any wd xe xg xi _ _ _ (bf.o.below bz).el (ce.o.below bz).el (eA.o.below bz).el eJ.o o5.o pr.o.up bt.o c7.o).mono ?_;rintro e wd ⟨x3,rfl,ok3,bb⟩;replace bz:=qd bz bb;clear bb;refine hK.out _ _ (by first|exact ⟨t5.c0,t5.costg dB.o,t5.rowg eF.o cp.o,v5.c0,v5.c1,v5.c2,e5.c0,e5.c1,e5.c2⟩|exact ⟨(aq.o.below bz).c0,(aq.o.below bz).costg dB.o,(aq.o.below bz).rowg eF.o cp.o,(ce.o.below bz).c0,(ce.o.below bz).c1,(ce.o.below bz).c2,(eA.o.below bz).c0,(eA.o.below bz).c1,(eA.o.below bz).c2⟩) fun hH=>?_;clear hK K;try simp only [tz]
        refine tks Ha 24 (.pointer (some ⟨gr,k*3,none⟩)) rfl ?_;simp only [tz];refine tk1 Ha 25 rfl fun K hK=>?_;have ev:=bf.o.below bz;have k0:=ev.c0;have k1:=ev.c1;have k2:=ev.c2;have aF:=ev.f0;have aG:=ev.f1;have aH:=ev.f2;go_simp;clear ev k0 k1 k2 aF aG aH;rw [l7.o] at ok3;have t6:=(aq.o.below bz).put (Nat.le_refl L.m) dB.o (k:=k) ok3;have v5:=(ce.o.below bz).kp t6.2 (aq.o.below bz).nl ip.o;have p5:=(ax.o.then bz).trans t6.2
        have e5:=(eA.o.below bz).off (v0 := .bool x3.b) (v1 := .slice x3.A x3.xs.length x3.c) (v2 := .slice x3.D x3.ys.length x3.d) (i:=k*3) (j:=k*3+1) (l:=k*3+2) ((aq.o.below bz).mc_nl (Nat.le_refl L.m) dB.o) mu.o;have t5:=t6.1;clear hH bz ok3 t6;generalize (((wd.setCell ⟨gr,k*3,none⟩ (.bool x3.b)).setCell ⟨gr,k*3+1,none⟩ (.slice x3.A x3.xs.length x3.c)).setCell ⟨gr,k*3+2,none⟩ (.slice x3.D x3.ys.length x3.d))=we at *;generalize we=wd at *;refine hK.out _ _ (by first|exact ⟨t5.c0,t5.costg dB.o,t5.rowg eF.o cp.o,v5.c0,v5.c1,v5.c2,e5.c0,e5.c1,e5.c2⟩|exact ⟨(aq.o.below bz).c0,(aq.o.below bz).costg dB.o,(aq.o.below bz).rowg eF.o cp.o,(ce.o.below bz).c0,(ce.o.below bz).c1,(ce.o.below bz).c2,(eA.o.below bz).c0,(eA.o.below bz).c1,(eA.o.below bz).c2⟩) fun hH=>?_;clear hK K;try simp only [tz]
        refine qp Ha ?_
        go_wp2_with fail;go_roundw
        case rel=>exact ⟨k+1,by omega,by go_num,by rw [<-cK.o];exact t5,v5,p5⟩
        case measure=>simp [intOf];omega
--D}
      ·--D{
       obtain rfl:k=L.N:=by omega
       replace tw:Rtb wr B L ⟨pvB x.T i j (L.m+1),x.B⟩:=tw.congr (fun a _ c hc=>Bv hc) (fun _ _=>rfl);have c1:=tw.c1;rw [dB.o] at c1;have c2:=tw.c2;obtain ⟨cb,fb⟩:=tw.bas hi;have t2:=tw.putB i j;go_wp2_with fail
       go_end0
       exact ⟨rfl,t2.1.congr (fun a ha c _=>Bw (Nat.lt_succ_of_le ha)) (fun _ _=>rfl),kp.trans t2.2⟩
--D}
end Go.Proofs.YtkpfbekmaafehaaGreat
