/- The walk of drydockref16.modest -/
import Derived.Test.YtkpfbekmaafehaaGreatSxA
import Derived.Test.YtkpfbekmaafehaaGreatRfB
import Derived.Test.YtkpfbekmaafehaaGreatSpB
namespace Go.Proofs.YtkpfbekmaafehaaGreat
open _root_.Go.Proofs.Tryz
set_option maxHeartbeats 8000000
set_option maxRecDepth 100000
open Go.RowKit
theorem rW {a b:Nat} (h0:0<a) (ha:(lim a).length<=200) (hb:(lim b).length<=200) :
 ∃g q r l:Nat,pk (nv (lim a)) (nv (lim b))=(lim g,0)/\jE (nv (lim b)) (nv (lim g))=(lim q,lim r,0)/\nh (nv (lim a)) (nv (lim q))=(lim l,0)/\Nat.lcm a b=l/\(lim g).length<=200/\(lim q).length<=200:=by
 have hg0:0<Nat.gcd a b:=Nat.gcd_pos_of_pos_left _ h0;have lg:=ao (Nat.le_of_dvd h0 (Nat.gcd_dvd_left a b));have lq:=ao (Nat.div_le_self b (Nat.gcd a b));have elc:a*(b/Nat.gcd a b)=Nat.lcm a b:=by
  rw [Nat.lcm,<-Nat.mul_div_assoc _ (Nat.gcd_dvd_right a b)]
 have lm:=aO (m:=a) (n:=b/Nat.gcd a b) (j:=200) (k:=200) ha (by omega)
 refine ⟨Nat.gcd a b,b/Nat.gcd a b,b % Nat.gcd a b,Nat.lcm a b,?_,?_,?_,rfl,by omega,by omega⟩
 ·rw [am,am];exact jb (by omega) (by omega)
 ·rw [am,am,jE,if_neg (by omega),if_neg (by omega)]
 ·rw [am,am,iY (by omega) (by omega),elc,iC,if_neg (by rw [<-elc];omega)]
theorem cJ (w:World) (s:Sl) (b:Bool) (h:s.ok w) (hl:s.vs.length<=1000) (hs:∀v∈s.vs,v.xs.length<=10000/\v.ys.length<=10000) (hb:b=true↔Md s.vs) :
 Calls prog 45 #[s.val] w fun e w'=>e = .returned (.bool b)/\Below w.heap.size w w':=by
 have HS:=ag h;have br:=ag hs;have HB:=ag hb;obtain ⟨A,c,us⟩:=s;clear h hs hb;replace hl:us.length<=1000:=hl
 show Calls prog 45 #[.slice A us.length c] w _
 replace br:Hd (∀v∈us,v.xs.length<=10000/\v.ys.length<=10000):=br;replace HB:Hd (b=true↔Md us):=HB;obtain ⟨N,hN⟩:∃N,us.length=N:=⟨_,rfl⟩;have HN:=ag hN;rw [hN] at hl|-;clear hN;go_enter func45,ntmps45;go_upto_region 2 with fail;have bw:=qb w (.cells #[.int .u32 1] 58);have gr:=Gr.lit (mk:=lmv) (e:=58) (B:=w.heap.size) w [1] #[.int .u32 1] rfl (by simp [maxLen]) (Nat.le_refl _)
 have n0:Nt (w.alloc (.cells #[.int .u32 1] 58)) (some ⟨w.heap.size,0,none⟩) 1 (lim 1):=by
  rw [show lim 1 = [1] from by rw [lim];simp [aV]]
  exact gr.nt (U32.one (by omega))
 have l0:(lim 1).length=1:=by rw [show lim 1 = [1] from by rw [lim];simp [aV]];rfl
 clear gr;generalize (w.alloc (.cells #[.int .u32 1] 58))=w2 at bw n0|-;go_wp2_with fail;go_loopw [3,4] (fun dv iv wr=>∃(k:Nat) (D:Option Addr) (d:Nat),k<=N/\iv = .int .i64 k/\dv = .slice D (lim (eV (fxV us) k)).length d/\Nt wr D d (lim (eV (fxV us) k))/\(lim (eV (fxV us) k)).length<=32/\(∀j (h:j<us.length),j<k->us[j].v/\Sz us[j].q 32 32)/\Below w.heap.size w wr) (fun _ iv _=>N-(intOf iv).toNat)
 case atStart=>exact ⟨0,some ⟨w.heap.size,0,none⟩,1,by omega,rfl,by show _=Value.slice _ (lim 1).length 1;rw [l0],n0,by show (lim 1).length<=32;omega,(fun j _ h=>absurd h (Nat.not_lt_zero _)),bw⟩
 case round=>
  clear n0 bw;obtain ⟨k,D,d,hk,rfl,rfl,nd,hd32,hgood,bw⟩:=hrel;by_cases hlt:k<N
  ·have hkl:k<us.length:=by rw [HN.o];exact hlt
   have jn:=ag nd;have lJ:=ag hgood;have hme:=List.getElem_mem hkl;obtain ⟨ad,rfl,ef⟩:=(HS.o.below bw).rd.at k hkl;have ok:=(HS.o.below bw).el _ hme;have HL:=ag (br.o _ hme);have wY:Hd (Md us->us[k].v/\Sz us[k].q 32 32):=ag (fun h=>h.v k hkl);have xj:Hd (fxV us k=us[k].q):=ag (ku hkl);have ov:Hd (us[k].v->Sz us[k].q 32 32->∀j (h:j<us.length),j<k+1->us[j].v/\Sz us[j].q 32 32):=ag (fun h1 h2 j h hj=>by
    rcases Nat.lt_or_ge j k with h3|h3
    ·exact lJ.o j h h3
    ·obtain rfl:j=k:=by omega
     exact ⟨h1,h2⟩)
   obtain ⟨x,hx⟩:∃x,us[k]=x:=⟨_,rfl⟩;have ef0:Ef wr (ad.add (k*3)) us[k]:=ef;rw [hx] at ef0 ok HL wY xj ov;have r9:Hd (eV (fxV us) (k+1)=Nat.lcm (eV (fxV us) k) x.q.den):=ag (by rw [eV,xj.o])
   have u3:Hd (Md us->(lim (eV (fxV us) (k+1))).length<=32):=ag (fun h=>Nat.le_trans (ao (wE (fxV us) (by omega))) h.d)
   have DT:=ag (jD (fxV us) k);obtain ⟨L,hL⟩:∃L,eV (fxV us) k=L:=⟨_,rfl⟩;rw [hL] at jn hd32 r9 DT|-;have d0:=ef0.c0;have d1:=ef0.c1;have d2:=ef0.c2;have OK:=ag ok;have an:=ag bw;clear hx hL ef ef0 nd hgood hme ok bw;by_cases hv:x.v
   ·have lv:Hd (gz x=okS x.q):=ag (gp hv);have HV:=ag hv;clear hv;go_wp2_with fail;refine (iQ wr x _ OK.o HL.o.1 HL.o.2 lv.o).mono ?_;rintro e wn ⟨y,rfl,hs1,ok1,bb⟩;have RP:=ag (Rp.of hs1);rw [show (okS x.q).2.2.2=0 from rfl];replace jn:=ag (jn.o.below bb);replace an:=ag (qc an.o bb);clear hs1 d0 d1 d2 bb;go_upto_region 6 with fail;have v1:Vl (wn.alloc (.cells y.cells 29)) wn.heap.size y x.q:=⟨(au ok1).1,RP.o⟩;have bb:=(au ok1).2;replace jn:=ag (jn.o.below bb);replace an:=ag (qc an.o bb);clear ok1 bb;generalize (wn.alloc (.cells #[.bool y.b, .slice y.A y.xs.length y.c, .slice y.D y.ys.length y.d] 29))=wm at v1 jn an|-
    generalize wn.heap.size=g8 at v1|-;have d0:=v1.c0;have d1:=v1.c1;have d2:=v1.c2;have ps:=ag v1;have o9:Hd (y.xs.length=(lim x.q.num.natAbs).length):=ag (by rw [RP.o.n])
    have ii:Hd (y.ys.length=(lim x.q.den).length):=ag (by rw [RP.o.d])
    clear v1;by_cases hy1:32<y.xs.length
    ·skip
     have hbf:b=false:=by
      cases b
      ·rfl
      ·exact absurd (HB.o.1 rfl) (fun f=>by have:=(wY.o f).2.1;have:=o9.o;omega)
     subst hbf;go_wp2_with fail;go_ret;exact ⟨rfl,an.o⟩
    ·by_cases hy2:32<y.ys.length
     ·skip
      have hbf:b=false:=by
       cases b
       ·rfl
       ·exact absurd (HB.o.1 rfl) (fun f=>by have:=(wY.o f).2.2;have:=ii.o;omega)
      subst hbf;go_wp2_with fail;go_ret;exact ⟨rfl,an.o⟩
     ·have DU:Hd (Sz x.q 32 32):=ag ⟨by have:=o9.o;omega,by have:=ii.o;omega⟩
      obtain ⟨g,q,r,l,f1,f2,f3,f4,f5,f6⟩:=rW (a:=L) (b:=x.q.den) DT.o (by omega) (by have:=DU.o.2;omega)
      rw [f4] at r9;rw [<-RP.o.d] at f1 f2;have H1:=ag f1;have H2:=ag f2;have H3:=ag f3;clear f1 f2 f3 f4;rw [r9.o] at u3;go_wp2_with fail;refine (sZ wm D y.D d y.d _ _ (lim L) y.ys (lim g) 0 jn.o ps.o.fa.ok.den rfl rfl (by omega) (by omega) H1.o).mono ?_
      rintro e w9 ⟨E,f,rfl,ne,bb⟩;replace jn:=ag (jn.o.below bb);replace an:=ag (qc an.o bb);replace ps:=ag (ps.o.below bb);clear bb d0 d1 d2;have d1:=ps.o.c1;have d2:=ps.o.c2;go_wp2_with fail;refine (jx w9 y.D E y.d f _ _ y.ys (lim g) (lim q) (lim r) 0 ps.o.fa.ok.den ne rfl rfl (by omega) (by omega) H2.o).mono ?_
      rintro e w8 ⟨E2,f2,E3,f3,rfl,ne2,_,bb⟩;replace jn:=ag (jn.o.below bb);replace an:=ag (qc an.o bb);clear bb d1 d2 ne;go_wp2_with fail;refine (sY w8 D E2 d f2 _ _ (lim L) (lim q) (lim l) 0 jn.o ne2 rfl rfl (by omega) (by omega) H3.o).mono ?_
      rintro e w7 ⟨E4,f4,rfl,ne4,bb⟩;have lP:=ag ne4;replace an:=ag (qc an.o bb);clear bb ne2 ne4;by_cases h10:32<(lim l).length
      ·skip
       have hbf:b=false:=by
        cases b
        ·rfl
        ·exact absurd (HB.o.1 rfl) (fun f=>by have:=u3.o f;omega)
       subst hbf;go_wp2_with fail;go_ret;exact ⟨rfl,an.o⟩
      ·go_wp2_with fail;go_roundw
       case rel=>exact ⟨k+1,E4,f4,by omega,by go_num,by rw [r9.o],by rw [r9.o];exact lP.o,by rw [r9.o];omega,ov.o HV.o DU.o,an.o⟩
       case measure=>simp [intOf];omega
   ·have lv:Hd (gz x=kP 1):=ag (by rw [gz,if_neg hv])
    have hbf:b=false:=by
     cases b
     ·rfl
     ·exact absurd (HB.o.1 rfl) (fun f=>hv (wY.o f).1)
    subst hbf;clear hv;go_wp2_with fail;refine (iQ wr x _ OK.o HL.o.1 HL.o.2 lv.o).mono ?_;rintro e wn ⟨y,rfl,hs1,ok1,bb⟩;rw [show (kP 1).2.2.2=1 from rfl];replace an:=ag (ai (qc an.o bb) (au ok1).2 (Nat.le_trans an.o.size bb.size));clear bb hs1 d0 d1 d2;go_wp2_with fail;go_ret;exact ⟨rfl,an.o⟩
  ·obtain rfl:N=k:=by omega
   have hbt:b=true:=HB.o.2 ⟨fun j h=>hgood j h (by rw [<-HN.o];exact h),by rw [HN.o];exact hd32⟩
   subst hbt;go_wp2_with fail;go_ret;exact ⟨rfl,bw⟩
structure Lo (w:World) (s:Sl) (n:Nat):Prop where
 r:Rl w s.A s.vs (fxV s.vs)
 l:s.vs.length=n
 n:n<=1000
theorem Md.lo {w:World} {s:Sl} {n:Nat} (md:Md s.vs) (h:s.ok w) (hl:s.vs.length=n) (hn:n<=1000) (hs:∀v∈s.vs,v.xs.length<=10000/\v.ys.length<=10000):Lo w s n:=
 ⟨vL h.rd h.el (fun v hv=>by
  obtain ⟨k,hk,e⟩:=List.getElem_of_mem hv;rw [<-e];exact (md.v k hk).1) hs,hl,hn⟩
theorem a_row {p:Pg} {i:Nat} (hi:i<p.rows.length):p.a i=fxV p.rows[i].vs:=by
 funext j
 rw [Pg.a,bC _ _ _ hi];rfl
theorem CM {p:Pg} {i:Nat} (hi:i<p.rows.length) {r:Sl} (e:p.rows[i]=r):p.a i=fxV r.vs:=by rw [a_row hi,e]
theorem Pg.ok.rrow {w:World} {p:Pg} (h:p.ok w) (sm:p.sm) (vd:p.vd) {i:Nat} (hi:i<p.rows.length) {r:Sl} (e:p.rows[i]=r):Rl w r.A r.vs (p.a i):=by
 have hm:r∈p.rows:=by rw [<-e];exact List.getElem_mem hi
 rw [CM hi e];exact vL (h.rows r hm).rd (h.rows r hm).el (vd.va r hm) (sm.ea r hm)
theorem Pg.ok.rrgt {w:World} {p:Pg} (h:p.ok w) (sm:p.sm) (vd:p.vd):Rl w p.right.A p.right.vs p.b:=vL h.right.rd h.right.el vd.vb sm.eb
theorem Pg.ok.rcst {w:World} {p:Pg} (h:p.ok w) (sm:p.sm) (vd:p.vd):Rl w p.cost.A p.cost.vs p.c:=vL h.cost.rd h.cost.el vd.vc sm.ec
theorem rB (w:World) (p:Pg) (s:Sl) (nx:Nat) (bo:Bool) (h:p.ok w) (sm:p.sm) (vd:p.vd) (hx:Lo w s nx) (md:Md s.vs) (hb:bo=true↔dX p.cost.vs.length p.rows.length nx p.a (fxV s.vs) p.b) :
 Calls prog 46 #[p.val, .slice s.A nx s.c] w fun e w'=>e = .returned (.bool bo)/\Below w.heap.size w w':=by
 have HO:=ag h;have br:=ag sm;have bK:=ag vd;have HX:=ag hx;have u3:=ag md;have HB:=ag hb;have hcl:=vd.c2;have hrl:=vd.r2;have hxn:=hx.n;obtain ⟨m,hm⟩:∃m,p.rows.length=m:=⟨_,rfl⟩;obtain ⟨n,hn⟩:∃n,p.cost.vs.length=n:=⟨_,rfl⟩;have HM:=ag hm;have HN:=ag hn;have HK:Hd (p.right.vs.length=m):=ag (by rw [vd.lb,hm])
 rw [hn,hm] at HB;rw [hn] at hcl;rw [hm] at hrl;clear h sm vd hx md hb hm hn;go_enter func46,ntmps46;go_upto_region 1 with fail;have pb:=(aY w p 25).1;have bw:=(aY w p 25).2;generalize (w.alloc (.cells #[.slice p.cost.A p.cost.vs.length p.cost.c, .slice p.rA p.rows.length p.rc, .slice p.right.A p.right.vs.length p.right.c] 25))=wm at pb bw|-;generalize hg1:w.heap.size=g1 at pb|-;have f8:=ag hg1;clear hg1;have bj:Hd (∀w',Below wm.heap.size wm w'->w'.cell? ⟨g1,0,none⟩=some (.slice p.cost.A n p.cost.c)/\w'.cell? ⟨g1,1,none⟩=some (.slice p.rA m p.rc)/\w'.cell? ⟨g1,2,none⟩=some (.slice p.right.A m p.right.c)):=ag (fun w' hb=>by
  rw [<-HN.o,<-HM.o];have h:=pb.below hb;have hk:p.right.vs.length=p.rows.length:=by rw [HK.o,HM.o]
  exact ⟨h.c0,h.c1,by rw [<-hk];exact h.c2⟩)
 have an:=ag bw;obtain ⟨c0,c1,c2⟩:=bj.o wm (ah _ _);clear pb;by_cases h1:nx=n
 ·subst h1;have fc:=ag HX.o.l;have kq:Hd (∀w',Below wm.heap.size wm w'->Rl w' s.A s.vs (fxV s.vs)):=ag (fun w' hb=>(HX.o.r.below bw).below hb);clear bw;go_wp2_with fail;clear c0 c1 c2;go_loopw [5] (fun iv wr=>∃j:Nat,j<=nx/\iv = .int .i64 j/\(∀k,k<j->0<=fxV s.vs k)/\Below wm.heap.size wm wr) (fun iv _=>nx-(intOf iv).toNat)
  case atStart=>exact ⟨0,by omega,rfl,(fun k h=>absurd h (Nat.not_lt_zero _)),ah _ _⟩
  case round=>
   obtain ⟨j,hj,rfl,hnn,bz⟩:=hrel;have ft:=ag hnn;have cF:=ag bz;by_cases hlt:j<nx
   ·obtain ⟨ad,hA,x,ef,nm⟩:=(kq.o wr bz).at (k:=j) (by rw [fc.o];exact hlt)
    have NM:=ag nm;have d0:=ef.c0;have d1:=ef.c1;have d2:=ef.c2;obtain ⟨z,hz⟩:∃z,bA (fxV s.vs j) 0=z:=⟨_,rfl⟩;have HZ:=ag hz;obtain ⟨sA,hsA⟩:∃a,s.A=a:=⟨_,rfl⟩;rw [hsA] at hA|-;subst hA;have zq:=ag hsA;clear ef nm bz hnn hz hsA;by_cases h0:z<0
    ·have zu:Hd (fxV s.vs j<0):=ag ((eC _).1 (by rw [HZ.o];exact h0))
     have hbf:bo=false:=by
      cases bo
      ·rfl
      ·exact absurd (HB.o.1 rfl) (fun f=>absurd zu.o (Rat.not_lt.2 (f.2.1 j hlt)))
     subst hbf;go_wp2_with fail;refine (dp wr x _ z NM.o HZ.o).mono ?_;rintro e wn ⟨rfl,bb⟩;clear d0 d1 d2;go_wp2_with fail;go_ret;exact ⟨rfl,ai an.o (qc cF.o bb) an.o.size⟩
    ·have l8:Hd (0<=fxV s.vs j):=ag (Rat.not_lt.1 (fun e=>h0 (by rw [<-HZ.o];exact (eC _).2 e)))
     go_wp2_with fail;refine (dp wr x _ z NM.o HZ.o).mono ?_;rintro e wn ⟨rfl,bb⟩;clear d0 d1 d2;go_wp2_with fail;go_roundw
     case rel=>exact ⟨j+1,by omega,by go_num,(fun k hk=>by
      rcases Nat.lt_or_ge k j with h2|h2
      ·exact ft.o k h2
      ·obtain rfl:k=j:=by omega
       exact l8.o),qc cF.o bb⟩
     case measure=>simp [intOf];omega
   ·obtain rfl:nx=j:=by omega
    clear hnn bz;go_wp2_with fail;go_loopw [6] (fun iv wr=>∃i:Nat,i<=m/\iv = .int .i64 i/\(∀k,k<i->aj (fun j=>p.a k j*fxV s.vs j) nx=p.b k)/\Below wm.heap.size wm wr) (fun iv _=>m-(intOf iv).toNat)
    case atStart=>exact ⟨0,by omega,rfl,(fun k h=>absurd h (Nat.not_lt_zero _)),cF.o⟩
    case round=>
     clear cF;obtain ⟨i,hi,rfl,heq,bz⟩:=hrel;have np:=ag heq;have cF:=ag bz;obtain ⟨c0,c1,c2⟩:=bj.o wr bz;by_cases hlt:i<m
     ·have hil:i<p.rows.length:=by rw [HM.o];exact hlt
      have hib:i<p.right.vs.length:=by rw [HK.o];exact hlt
      have eP:=ag bK.o.pw;rw [HM.o,HN.o] at eP;have th:=ag u3.o.mz;rw [fc.o] at th;have Ej:=ag (eP.o.row th.o hcl hlt);obtain ⟨r,hr⟩:∃r,p.rows[i]=r:=⟨_,rfl⟩;have ce:Hd (r.vs.length=nx):=ag (by rw [<-HN.o];exact bK.o.la r (by rw [<-hr];exact List.getElem_mem hil))
      have okm:=HO.o.below an.o;have tv:Hd (Rl wr r.A r.vs (p.a i)):=ag ((okm.rrow br.o bK.o hil hr).below bz);have l7:Hd (Rl wr s.A s.vs (fxV s.vs)):=ag (kq.o wr bz);obtain ⟨ab,hab,xb,efb,nmb⟩:=(okm.rrgt br.o bK.o).at hib;obtain ⟨ar,har,harl,hc⟩:=okm.rd (by omega)
      have hcj:=hc i hil;rw [hr] at hcj;have tt:Hd (Nm wr xb (p.b i)):=ag (nmb.below bz);obtain ⟨u,hu⟩:∃u,decide (aj (fun j=>p.a i j*fxV s.vs j) nx=p.b i)=u:=⟨_,rfl⟩;have HU:=ag hu;have fm:=ag (Ej.o.s nx (Nat.le_refl _));have kH:Hd (∀w',Below wm.heap.size wm w'->w'.cell? ⟨g1,1,none⟩=some (.slice (some ar) m p.rc)/\w'.cell? ⟨g1,2,none⟩=some (.slice (some ab) m p.right.c)/\w'.cell? (ar.add i)=some (.slice r.A nx r.c)/\w'.cell? (ab.add (i*3))=some (.bool xb.b)/\w'.cell? ⟨(ab.add (i*3)).block,(ab.add (i*3)).off+1,none⟩=some (.slice xb.A xb.xs.length xb.c)/\w'.cell? ⟨(ab.add (i*3)).block,(ab.add (i*3)).off+2,none⟩=some (.slice xb.D xb.ys.length xb.d)):=ag (fun w' hb=>by
       obtain ⟨_,k1,k2⟩:=bj.o w' hb;have k3:=efb.below hb;rw [har] at k1;rw [hab] at k2;refine ⟨k1,k2,?_,k3.c0,k3.c1,k3.c2⟩;rw [<-ce.o];exact (hb.cell (p:=ar.add i) (by rw [aM];exact harl)).trans hcj)
      rw [har] at c1;clear heq bz okm hr hab har efb nmb hc hcj hu harl c0 c2;go_upto_region 11 with fail
      go_cut [45] (fun v wx=>v = .bool (!u)/\Below wr.heap.size wr wx)
      case first=>
       refine wp_region_held_drew (S:=fun w'=>w'.cell? ⟨g1,1,none⟩=some (.slice (some ar) m p.rc)/\w'.cell? ⟨g1,2,none⟩=some (.slice (some ab) m p.right.c)/\w'.cell? (ar.add i)=some (.slice r.A nx r.c)/\w'.cell? (ab.add (i*3))=some (.bool xb.b)/\w'.cell? ⟨(ab.add (i*3)).block,(ab.add (i*3)).off+1,none⟩=some (.slice xb.A xb.xs.length xb.c)/\w'.cell? ⟨(ab.add (i*3)).block,(ab.add (i*3)).off+2,none⟩=some (.slice xb.D xb.ys.length xb.d)) (by kernel_rfl) (kH.o _ (ai cF.o ((ah wr.heap.size wr).drew) cF.o.size)) fun hH=>?_
       have bz:=(ah wr.heap.size wr).drew;generalize wr.drew=wd at *;refine qh 14 fun Ha=>?_
       refine qe Ha 0 (.pointer (some ⟨g1,1,none⟩)) rfl ?_;refine qe Ha 1 (.slice (some ar) m p.rc) rfl ?_;refine qe Ha 2 (.int .i64 (i:Int)) rfl ?_;refine qe Ha 3 (.pointer (some (ar.add i))) rfl ?_;refine qe Ha 4 (.slice r.A nx r.c) rfl ?_;refine qe Ha 5 (.slice s.A nx s.c) rfl ?_;refine qe Ha 7 (.pointer (some ⟨g1,2,none⟩)) rfl ?_;refine qe Ha 8 (.slice (some ab) m p.right.c) rfl ?_;refine qe Ha 9 (.int .i64 (i:Int)) rfl ?_;refine qe Ha 10 (.pointer (some (ab.add (i*3)))) rfl ?_
       refine tks Ha 11 (xb.val) rfl ?_;simp only [tz];refine tk1 Ha 6 rfl fun K hK=>?_;go_simp;go_at_call 48;refine (iD wd r.A s.A r.c s.c nx r.vs s.vs (p.a i) (fxV s.vs) (tv.o.below bz) (l7.o.below bz) ce.o fc.o (by omega) Ej.o).mono ?_
       rintro e wd ⟨z,rfl,ez,bb⟩;replace bz:=qc bz bb;clear bb;refine hK.out _ _ (kH.o _ (qc cF.o bz)) fun hH=>?_;clear hK K;try simp only [tz]
       refine tk1 Ha 12 rfl fun K hK=>?_;go_simp;go_at_call 24;refine (gA wd z xb _ _ u (ez.nm fm.o) (tt.o.below bz) HU.o).mono ?_;rintro e wd ⟨rfl,bb⟩;clear ez;replace bz:=qc bz bb;clear bb;refine hK.out _ _ (kH.o _ (qc cF.o bz)) fun hH=>?_;clear hK K;try simp only [tz]
       refine tks Ha 13 (.bool (!u)) rfl ?_;simp only [tz];refine qp Ha ?_
       go_wp2_with fail;go_meet
       case rel=>exact ⟨rfl,bz⟩
      case rest=>
       obtain ⟨rfl,bb⟩:=hcut;clear c1
       cases u with
       | true=>
         have HE:=ag (of_decide_eq_true HU.o);go_wp2_with fail;go_roundw
         case rel=>exact ⟨i+1,by omega,by go_num,(fun k hk=>by
          rcases Nat.lt_or_ge k i with h2|h2
          ·exact np.o k h2
          ·obtain rfl:k=i:=by omega
           exact HE.o),qc cF.o bb⟩
         case measure=>simp [intOf];omega
       | false=>
         have HE:=ag (of_decide_eq_false HU.o);have hbf:bo=false:=by
          cases bo
          ·rfl
          ·exact absurd (HB.o.1 rfl) (fun f=>HE.o (f.2.2 i hlt))
         subst hbf;go_wp2_with fail;go_ret;exact ⟨rfl,ai an.o (qc cF.o bb) an.o.size⟩
     ·obtain rfl:m=i:=by omega
      have hbt:bo=true:=HB.o.2 ⟨rfl,ft.o,np.o⟩;subst hbt;go_wp2_with fail;go_ret;exact ⟨rfl,qc an.o bz⟩
 ·have hb1:((nx:Int) != (n:Int))=true:=by simp;omega
  have hbf:bo=false:=by
   cases bo
   ·rfl
   ·exact absurd (HB.o.1 rfl) (fun f=>h1 f.1)
  subst hbf;go_wp2_with fail;go_ret;exact ⟨rfl,an.o⟩
structure Col (p:Pg) (j i:Nat) (cs:List Fx):Prop where
 l:cs.length=i
 e:∀k (h:k<cs.length) (h2:k<p.rows.length),cs[k]=p.rows[k].vs.getD j Fx.nil
theorem Col.push {p:Pg} {j i:Nat} {cs:List Fx} (h:Col p j i cs) (hi:i<p.rows.length) {x:Fx} (hx:p.rows[i].vs.getD j Fx.nil=x):Col p j (i+1) (cs ++ [x]):=by
 refine ⟨by rw [List.length_append,h.l,List.length_singleton],fun k hk h2=>?_⟩
 rw [List.length_append,List.length_singleton] at hk;rcases Nat.lt_or_ge k cs.length with h1|h1
 ·rw [List.getElem_append_left h1];exact h.e k h1 h2
 ·obtain rfl:k=cs.length:=by omega
  rw [List.getElem_append_right (Nat.le_refl _)];simp only [Nat.sub_self,List.getElem_cons_zero];rw [<-hx];have:=h.l;subst this;rfl
theorem Col.rl {w:World} {p:Pg} {j:Nat} {cs:List Fx} {A:Option Addr} (h:Col p j p.rows.length cs) (ok:p.ok w) (sm:p.sm) (vd:p.vd) (hj:j<p.cost.vs.length) (r:RdF w A cs):Rl w A cs (fun i=>p.a i j):=by
 refine ⟨r,fun k hk=>?_⟩;have h2:k<p.rows.length:=by rw [<-h.l];exact hk
 have hm:=List.getElem_mem h2;have hj2:j<p.rows[k].vs.length:=by rw [vd.la _ hm];exact hj
 have n:=(ok.rrow sm vd h2 rfl).el j hj2;rw [h.e k hk h2,bC _ _ _ hj2];exact n
theorem rE (w:World) (p:Pg) (s:Sl) (ny:Nat) (cb bo:Bool) (uc:Nat->Rat) (huc:uc=fun j=>if cb then p.c j else 0) (h:p.ok w) (sm:p.sm) (vd:p.vd) (hy:Lo w s ny) (md:Md s.vs) (hb:bo=true↔dU p.cost.vs.length p.rows.length ny p.a (fxV s.vs) uc) :
 Calls prog 47 #[p.val, .slice s.A ny s.c, .bool cb] w fun e w'=>e = .returned (.bool bo)/\Below w.heap.size w w':=by
 have HO:=ag h;have br:=ag sm;have bK:=ag vd;have HX:=ag hy;have u3:=ag md;have HB:=ag hb;have GF:=ag huc;have hcl:=vd.c2;have hrl:=vd.r2;have hxn:=hy.n;obtain ⟨m,hm⟩:∃m,p.rows.length=m:=⟨_,rfl⟩;obtain ⟨n,hn⟩:∃n,p.cost.vs.length=n:=⟨_,rfl⟩;have HM:=ag hm;have HN:=ag hn;have HK:Hd (p.right.vs.length=m):=ag (by rw [vd.lb,hm])
 rw [hn,hm] at HB;rw [hn] at hcl;rw [hm] at hrl;clear h sm vd hy md hb hm hn huc;go_enter func47,ntmps47;go_upto_region 1 with fail;have pb:=(aY w p 25).1;have bw:=(aY w p 25).2;generalize (w.alloc (.cells #[.slice p.cost.A p.cost.vs.length p.cost.c, .slice p.rA p.rows.length p.rc, .slice p.right.A p.right.vs.length p.right.c] 25))=wm at pb bw|-;generalize hg1:w.heap.size=g1 at pb|-;have f8:=ag hg1;clear hg1;have bj:Hd (∀w',Below wm.heap.size wm w'->w'.cell? ⟨g1,0,none⟩=some (.slice p.cost.A n p.cost.c)/\w'.cell? ⟨g1,1,none⟩=some (.slice p.rA m p.rc)/\w'.cell? ⟨g1,2,none⟩=some (.slice p.right.A m p.right.c)):=ag (fun w' hb=>by
  rw [<-HN.o,<-HM.o];have h:=pb.below hb;have hk:p.right.vs.length=p.rows.length:=by rw [HK.o,HM.o]
  exact ⟨h.c0,h.c1,by rw [<-hk];exact h.c2⟩)
 have an:=ag bw;obtain ⟨c0,c1,c2⟩:=bj.o wm (ah _ _);clear pb;by_cases h1:ny=m
 ·subst h1;have fc:=ag HX.o.l;have kq:Hd (∀w',Below wm.heap.size wm w'->Rl w' s.A s.vs (fxV s.vs)):=ag (fun w' hb=>(HX.o.r.below bw).below hb);have FE:Hd (p.ok wm):=ag (HO.o.below bw);clear bw;go_wp2_with fail;clear c0 c1 c2;go_loopw [7] (fun iv wr=>∃j:Nat,j<=n/\iv = .int .i64 j/\(∀k,k<j->aj (fun i=>fxV s.vs i*p.a i k) ny<=uc k)/\Below wm.heap.size wm wr) (fun iv _=>n-(intOf iv).toNat)
  case atStart=>exact ⟨0,by omega,rfl,(fun k h=>absurd h (Nat.not_lt_zero _)),ah _ _⟩
  case round=>
   obtain ⟨j,hj,rfl,hle,bz⟩:=hrel;have ja:=ag hle;have cF:=ag bz;obtain ⟨c0,c1,c2⟩:=bj.o wr bz;by_cases hlt:j<n
   ·clear hle bz;go_wp2_with fail;clear c0 c1 c2;generalize wr=wo at *;go_loopw [8,9] (fun cv iv wr=>∃(i:Nat) (A2:Option Addr) (c2:Nat) (cs:List Fx),i<=ny/\iv = .int .i64 i/\cv = .slice A2 i c2/\Col p j i cs/\Fr wr wo.heap.size A2 c2 cs/\NoI wr A2/\Below wo.heap.size wo wr) (fun _ iv _=>ny-(intOf iv).toNat)
    case atStart=>exact ⟨0,none,0,[],by omega,rfl,rfl,⟨rfl,fun k h=>absurd h (Nat.not_lt_zero _)⟩,rR _ _,NoI.nil _,ah _ _⟩
    case round=>
     obtain ⟨i,A2,c2,cs,hi,rfl,rfl,hcol,fr,ni,bq⟩:=hrel;have It:=ag hcol;have hcsl:=hcol.l;have ES:=ag bq;have hbz2:=qc cF.o bq;obtain ⟨c0,c1,c2⟩:=bj.o wr hbz2;by_cases hlt2:i<ny
     ·have hil:i<p.rows.length:=by rw [HM.o];exact hlt2
      have eZ:=ag hil;have okq:=FE.o.below hbz2;obtain ⟨ar,har,harl,hc⟩:=okq.rd (by omega)
      have hcj:=hc i hil;obtain ⟨r,hr⟩:∃r,p.rows[i]=r:=⟨_,rfl⟩;have hrl2:r.vs.length=n:=by rw [<-HN.o];exact bK.o.la r (by rw [<-hr];exact List.getElem_mem hil)
      have hjr:j<r.vs.length:=by rw [hrl2];exact hlt
      obtain ⟨ad,had,ef⟩:=(okq.rows r (by rw [<-hr];exact List.getElem_mem hil)).rd.at j hjr
      have hge:p.rows[i].vs.getD j Fx.nil=r.vs[j]:=by rw [hr,bC _ _ _ hjr]
      obtain ⟨x1,hx1⟩:∃x1,r.vs[j]=x1:=⟨_,rfl⟩;have ef0:Ef wr (ad.add (j*3)) r.vs[j]:=ef;rw [hx1] at ef0 hge;have dn:=ag hge;have hcj2:wr.cell? (ar.add i)=some (.slice (some ad) n r.c):=by rw [<-had,<-hrl2,<-hr];exact hcj
      rw [har] at c1;have d0:=ef0.c0;have d1:=ef0.c1;have d2:=ef0.c2;clear hcol bq hbz2 okq har harl hc hcj hr hrl2 hjr had ef ef0 hge hx1 c0 c2;go_wp2_with (at_builtin;refine kh _ rfl _ _ rfl rfl (A:=A2) (c:=c2) (n:=i) (xs:=cs) rfl hcsl.symm (fr.below ((ah _ _).alloc (Nat.le_refl _) _)) (ni.below ((ah _ _).alloc (Nat.le_refl _) _)) _ 1 1 [x1] rfl rfl (yP _ x1) (by simp) (by omega) (by simp;have:=ES.o.size;omega) ?_;intro A4 c4 wz fr4 ni4 bz4 gr4 hat4)
      have blit:=qb wr (.cells #[.bool x1.b, .slice x1.A x1.xs.length x1.c, .slice x1.D x1.ys.length x1.d] 29);go_roundw
      case rel=>exact ⟨i+1,A4,c4,cs ++ [x1],by omega,by go_num,by simp,It.o.push eZ.o dn.o,fr4,ni4,(ES.o.trans (blit.mono ES.o.size)).trans bz4⟩
      case measure=>simp [intOf];omega
     ·obtain rfl:ny=i:=by omega
      have GG:Hd (Rl wr A2 cs (fun i=>p.a i j)):=ag (by
       have hcol2:Col p j p.rows.length cs:=by rw [HM.o];exact hcol
       exact hcol2.rl (FE.o.below hbz2) br.o bK.o (by rw [HN.o];exact hlt) fr.rd)
      have f9:Hd (cs.length=ny):=ag hcsl;replace cF:=ag hbz2;clear hcol fr ni bq hbz2 ES c0 c2 hcsl;go_wp2_with fail;refine (iT wr).mono ?_;rintro e w5 ⟨y,rfl,ey,bb⟩;have Iu:=ag (GG.o.below bb);have GH:=ag (qc cF.o bb);clear bb c1 GG cF;go_upto_region 12 with fail;have v5:Vl (w5.alloc (.cells y.cells 29)) w5.heap.size y 0:=⟨(au ey.ok).1,ey.rp⟩;have b56:=(au ey.ok).2;clear ey;generalize (w5.alloc (.cells #[.bool y.b, .slice y.A y.xs.length y.c, .slice y.D y.ys.length y.d] 29))=w6 at v5 b56|-;obtain ⟨g10,hg10⟩:∃g,w5.heap.size=g:=⟨_,rfl⟩;rw [hg10] at v5|-;have zh:Hd (w5.heap.size<=g10):=ag (Nat.le_of_eq hg10)
      have cq:=ag v5;have Ek:=ag b56;clear hg10 v5 b56;cases cb
      case' true=>
       have Em:Hd (uc j=p.c j):=ag (by rw [GF.o];rfl)
       have b6:=qc GH.o Ek.o;obtain ⟨c0,c1,c2⟩:=bj.o w6 b6;have jc:j<p.cost.vs.length:=by rw [HN.o];exact hlt
       obtain ⟨ac,hac,xm,efm,nmm⟩:=((FE.o.rcst br.o bK.o).below b6).at jc;rw [hac] at c0;have e0:=efm.c0;have e1:=efm.c1;have e2:=efm.c2;have t:=cq.o.fa.bk;obtain ⟨k0,k1,k2,ax,aF,aG,klt,_⟩:=t;have NM:=ag nmm;clear b6 hac efm nmm jc c1 c2;go_upto_region 14 with fail;clear c0 e0 e1 e2 k0 k1 k2 ax aF aG klt;have En:Hd (Nv (((w6.setCell ⟨g10,0,none⟩ (.bool xm.b)).setCell ⟨g10,1,none⟩ (.slice xm.A xm.xs.length xm.c)).setCell ⟨g10,2,none⟩ (.slice xm.D xm.ys.length xm.d)) g10 xm (uc j)):=ag (by
        rw [Em.o];exact Nv.mk' (cq.o.fa.put NM.o.ok) NM.o)
       have FF:Hd (Below w5.heap.size w5 (((w6.setCell ⟨g10,0,none⟩ (.bool xm.b)).setCell ⟨g10,1,none⟩ (.slice xm.A xm.xs.length xm.c)).setCell ⟨g10,2,none⟩ (.slice xm.D xm.ys.length xm.d))):=ag (aR Ek.o zh.o);clear NM cq Ek Em;generalize (((w6.setCell ⟨g10,0,none⟩ (.bool xm.b)).setCell ⟨g10,1,none⟩ (.slice xm.A xm.xs.length xm.c)).setCell ⟨g10,2,none⟩ (.slice xm.D xm.ys.length xm.d))=wc at *
      case' false=>
       have Em:Hd (uc j=0):=ag (by rw [GF.o];rfl)
       go_upto_region 14 with fail;have En:Hd (Nv w6 g10 y (uc j)):=ag (by
        rw [Em.o];exact Nv.mk' cq.o.fa (cq.o.el.nm nJ))
       have FF:=Ek;clear cq Ek Em;generalize w6=wc at *;generalize y=xm at *
      all_goals
       have cF:=ag (qc GH.o FF.o);have FQ:=ag (Iu.o.below FF.o);have l7:=ag (kq.o wc cF.o);have eP:=ag bK.o.pw;rw [HM.o,HN.o] at eP;have th:=ag u3.o.mz;rw [fc.o] at th;have Ej:=ag (eP.o.col th.o (by omega) hlt)
       have fm:=ag (Ej.o.s ny (Nat.le_refl _));obtain ⟨u,hu⟩:∃u,decide (uc j<aj (fun i=>fxV s.vs i*p.a i j) ny)=u:=⟨_,rfl⟩;have HU:=ag hu;clear hu
       go_cut [53] (fun v wx=>v = .bool u/\Below wc.heap.size wc wx)
       case first=>
        have aH:Hd (∀w',Below wc.heap.size wc w'->(w'.cell? ⟨g10,0,none⟩=some (.bool xm.b)/\w'.cell? ⟨g10,1,none⟩=some (.slice xm.A xm.xs.length xm.c)/\w'.cell? ⟨g10,2,none⟩=some (.slice xm.D xm.ys.length xm.d))):=ag (fun _ bz=>⟨(En.o.below bz).c0,(En.o.below bz).c1,(En.o.below bz).c2⟩);refine fR aH (by kernel_rfl) fun hH=>?_
        have bz:=(ah wc.heap.size wc).drew;generalize wc.drew=wd at *;refine qh 5 fun Ha=>?_
        refine qe Ha 0 (xm.val) rfl ?_;refine qe Ha 1 (.slice s.A ny s.c) rfl ?_;refine tks Ha 2 (.slice A2 ny c2) rfl ?_;simp only [tz];refine tk1 Ha 3 rfl fun K hK=>?_;go_simp;go_at_call 48;refine (iD wd s.A A2 s.c c2 ny s.vs cs (fxV s.vs) (fun i=>p.a i j) (l7.o.below bz) (FQ.o.below bz) fc.o f9.o (by omega) Ej.o).mono ?_
        rintro e wd ⟨z,rfl,ez,bb⟩;replace bz:=qc bz bb;clear bb;refine hK.out _ _ (aH.o _ bz) fun hH=>?_;clear hK K;try simp only [tz]
        refine tk1 Ha 4 rfl fun K hK=>?_;go_simp;go_at_call 30;refine (oV wd xm z _ _ u (En.o.below bz).nm (ez.nm fm.o) HU.o).mono ?_;rintro e wd ⟨rfl,bb⟩;clear ez;replace bz:=qc bz bb;clear bb;refine hK.out _ _ (aH.o _ bz) fun hH=>?_;clear hK K;try simp only [tz]
        refine qp Ha ?_
        go_wp2_with fail;go_meet
        case rel=>exact ⟨rfl,bz⟩
       case rest=>
        obtain ⟨rfl,bb⟩:=hcut
        cases u with
        | true=>
          have HE:=ag (of_decide_eq_true HU.o);have hbf:bo=false:=by
           cases bo
           ·rfl
           ·exact absurd (HB.o.1 rfl) (fun f=>absurd HE.o (Rat.not_lt.2 (f.2 j hlt)))
          subst hbf;go_wp2_with fail;go_ret;exact ⟨rfl,ai an.o (qc cF.o bb) an.o.size⟩
        | false=>
          have HE:Hd (aj (fun i=>fxV s.vs i*p.a i j) ny<=uc j):=ag (Rat.not_lt.1 (of_decide_eq_false HU.o));go_wp2_with fail;go_roundw
          case rel=>exact ⟨j+1,by omega,by go_num,(fun k hk=>by
           rcases Nat.lt_or_ge k j with h2|h2
           ·exact ja.o k h2
           ·obtain rfl:k=j:=by omega
            exact HE.o),qc cF.o bb⟩
          case measure=>simp [intOf];omega
   ·obtain rfl:n=j:=by omega
    have hbt:bo=true:=HB.o.2 ⟨rfl,hle⟩;subst hbt;clear hle bz;go_wp2_with fail;go_ret;exact ⟨rfl,qc an.o cF.o⟩
 ·have hb1:((ny:Int) != (m:Int))=true:=by simp;omega
  have hbf:bo=false:=by
   cases bo
   ·rfl
   ·exact absurd (HB.o.1 rfl) (fun f=>h1 f.1)
  subst hbf;go_wp2_with fail;go_ret;exact ⟨rfl,an.o⟩
end Go.Proofs.YtkpfbekmaafehaaGreat
