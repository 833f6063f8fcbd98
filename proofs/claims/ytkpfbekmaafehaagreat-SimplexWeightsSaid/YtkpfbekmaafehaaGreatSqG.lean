/- The walks of a tableau's prices, point and ray. -/
import Derived.Test.YtkpfbekmaafehaaGreatSpB
import Derived.Test.YtkpfbekmaafehaaGreatSqB
namespace Go.Proofs.YtkpfbekmaafehaaGreat
open _root_.Go.Proofs.Tryz
set_option maxHeartbeats 8000000
set_option maxRecDepth 100000
open Go.RowKit
theorem Ev.kp {w w':World} {g k:Nat} {x:Fx} {q:Rat} {S:Nat->Prop} (h:Ev w g k x q) (kp:Kp S w w') (nl:∀g,S g->NL w g) (hg:¬S g):Ev w' g k x q:=
 ⟨⟨kp.ok h.el.ok nl,h.el.rp⟩,(kp.cell (p:=⟨g,k*3,none⟩) h.lt hg).trans h.c0,(kp.cell (p:=⟨g,k*3+1,none⟩) h.lt hg).trans h.c1,(kp.cell (p:=⟨g,k*3+2,none⟩) h.lt hg).trans h.c2,
  (kp.frozen (p:=⟨g,k*3,none⟩) h.lt hg).trans h.f0,(kp.frozen (p:=⟨g,k*3+1,none⟩) h.lt hg).trans h.f1,(kp.frozen (p:=⟨g,k*3+2,none⟩) h.lt hg).trans h.f2,Nat.lt_of_lt_of_le h.lt kp.size⟩
def pvP (T:Nat->Nat->Rat) (B:Nat->Nat) (M:Nat):Nat->Nat->Rat
 | 0,_=>0
 | k+1,j=>if B k=j then T k M else pvP T B M k j
def rvP (T:Nat->Nat->Rat) (B:Nat->Nat) (s:Nat):Nat->Nat->Rat
 | 0,j=>if j=s then 1 else 0
 | k+1,j=>if B k=j then 0-T k s else rvP T B s k j
theorem Bt {T:Nat->Nat->Rat} {B:Nat->Nat} {M j:Nat}:∀m,(∀i,i<m->∀r,r<m->B i=B r->i=r)->pvP T B M m j=aj (fun i=>if B i=j then T i M else 0) m:=by
 intro m
 induction m with
 | zero=>intro _;rfl
 | succ m ih=>
   intro h;rw [pvP,aj];by_cases e:B m=j
   ·rw [if_pos e];have h0:aj (fun i=>if B i=j then T i M else 0) m=0:=bu fun i hi=>if_neg (fun e2=>by have:=h i (by omega) m (by omega) (e2.trans e.symm);omega)
    simp only [e,if_true];rw [h0];grind
   ·rw [if_neg e,ih (fun i hi r hr=>h i (by omega) r (by omega))]
    simp only [e,if_false];grind
theorem Bn {T:Nat->Nat->Rat} {B:Nat->Nat} {s j:Nat}:∀m,(∀i,i<m->∀r,r<m->B i=B r->i=r)->(∀i,i<m->B i≠s)->rvP T B s m j=(if j=s then 1 else 0)-aj (fun i=>if B i=j then T i s else 0) m:=by
 intro m
 induction m with
 | zero=>intro _ _;rw [rvP,aj];grind
 | succ m ih=>
   intro h hs;rw [rvP,aj];by_cases e:B m=j
   ·rw [if_pos e];have h0:aj (fun i=>if B i=j then T i s else 0) m=0:=bu fun i hi=>if_neg (fun e2=>by have:=h i (by omega) m (by omega) (e2.trans e.symm);omega)
    have hjs:¬j=s:=fun e2=>hs m (by omega) (e.trans e2)
    simp only [e,if_true];rw [h0,if_neg hjs];grind
   ·rw [if_neg e,ih (fun i hi r hr=>h i (by omega) r (by omega)) (fun i hi=>hs i (by omega))]
    simp only [e,if_false];grind
theorem mP (w:World) (B:Nat) (L:Lay) (x:St) (A:Option Addr) (cc:Nat) (vs:List Fx) (c:Nat->Rat) (h:Tw w B L x) (hc:Cl w A vs c) (hl:vs.length=L.n+L.gs.length) (hB:∀i,i<L.gs.length->x.B i<L.n+L.gs.length) (hN:L.N<=1000) (hf:Fit L.gs.length L.n c x) :
 Calls prog 54 #[.pointer (some ⟨L.G,0,none⟩), .slice A vs.length cc] w fun e w'=>∃g,e = .returned (.slice (some ⟨g,0,none⟩) L.gs.length L.gs.length)/\Ou w' w.heap.size g L.gs.length (fun _=>True) (fun k=>sgT (L.ts.getD k false)*bV L.gs.length c x.T x.B (L.n+k))/\Below w.heap.size w w':=by
 have cw:Hd (L.N=L.n+L.gs.length+1):=ag rfl;have hnl:L.n<=1000:=by have:=cw.o;omega
 have hml:L.gs.length<=1000:=by have:=cw.o;omega
 have gq:=ag h;have HC:=ag hc;have HL:=ag hl;have HB:=ag hB;have HF:=ag hf;have br:Hd (L.ts.length=L.gs.length):=ag h.tl;have c0:=h.c0;obtain ⟨F,hF⟩:∃F:Nat->Rat,(fun k=>sgT (L.ts.getD k false)*bV L.gs.length c x.T x.B (L.n+k))=F:=⟨_,rfl⟩;have ma:Hd (∀k,F k=sgT (L.ts.getD k false)*bV L.gs.length c x.T x.B (L.n+k)):=ag (fun k=>by rw [<-hF])
 rw [hF];obtain ⟨i1,hi,hi0,hi1,hi2⟩:=info_parts dr;clear h hc hl hB hf hF;go_enter func54,ntmps54;go_upto_region 2 with (refine wpList_make_full w rfl _ _ 22 rfl w.heap.size 29 i1 Fx.nil.val 3 underlying22 hi hi0 hi1 .i64 .i64 _ _ L.gs.length rfl rfl (by omega) (by omega) (by rw [hi2];omega) (by simp only [maxLen];omega) (Nat.le_refl _) ?_;intro w2 hg2 hb2)
 have b12:Below w.heap.size w w2:=(ah _ _).grown hb2 (Nat.le_refl _) (by intro k hk;cases hk)
 have ou:Ou w2 w.heap.size w.heap.size L.gs.length (fun a=>a<0) F:=by
  refine ⟨List.replicate L.gs.length Fx.nil,⟨?_,fun v hv=>by rw [List.eq_of_mem_replicate hv];exact Fx.nil_ok _⟩,by simp,fun _ _ h=>absurd h (Nat.not_lt_zero _)⟩
  unfold Fr;rw [List.length_replicate,<-dm];exact hg2
 have gC:=ag (gq.o.below b12);have eP:Hd (w.heap.size<=w2.heap.size):=ag b12.size;have wW:Hd (∀A vs c,Cl w A vs c->Cl w2 A vs c):=ag (fun _ _ _ h=>h.below b12);have kh:Hd (NL w2 w.heap.size):=ag ou.nl;have ko:=ag b12;clear hg2 hb2 b12 hi hi0 hi1 hi2;generalize hg:w.heap.size=g at *;have dn:Hd (w.heap.size<=g):=ag (Nat.le_of_eq hg);have f9:=ag hg;clear hg;have fm:=ag (wW.o _ _ _ HC.o);clear c0;go_wp2_with fail;go_loopw [15] (fun iv wr=>∃k:Nat,k<=L.gs.length/\iv = .int .i64 k/\Ou wr g g L.gs.length (fun a=>a<k) F/\Kp (fun a=>a=g) w2 wr) (fun iv _=>L.gs.length-(intOf iv).toNat)
 case atStart=>exact ⟨0,by omega,rfl,ou,Kp.refl _ _⟩
 case round=>
  clear ou;obtain ⟨k,hk,rfl,ou,kp⟩:=hrel;by_cases hlt:k<L.gs.length
  ·have aq:=ag (gq.o.fresh dn.o gC.o kp kh.o);have r9:=ag (HC.o.fresh dn.o fm.o kp kh.o);have bj:=ag ou;have ax:=ag kp;have c2:=aq.o.c2;have a8:=ju wr B L x A cc vs c (L.n+k) aq.o r9.o HL.o (by omega) HB.o hN HF.o
   rw [Int.natCast_add] at a8;have bK:=ag a8;clear a8 ou kp;obtain ⟨v,k0,k1,k2,aF,aG,aH⟩:=bj.o.slot hlt;clear k0 k1 k2 aF aG aH;go_wp2_with fail;refine bK.o.mono ?_;rintro e w5 ⟨y,rfl,el,bb⟩;obtain ⟨v,k0,k1,k2,aF,aG,aH⟩:=(bj.o.below bb).slot hlt;clear c2;go_upto_region 6 with fail;clear k0 k1 k2 aF aG aH v;have t6:=(bj.o.below bb).put (i:=k) el;have Ee:=ag (gq.o.fresh dn.o (aq.o.below bb) t6.2 (bj.o.below bb).nl);replace ax:=ag ((ax.o.then bb).trans t6.2)
   have pv:Hd (Sz (bV L.gs.length c x.T x.B (L.n+k)) 60 60):=ag (HF.o.dt (L.n+k) (by omega) _ (Nat.le_refl _))
   have h6:=t6.1;clear t6 bb bj bK aq r9 el;generalize (((w5.setCell ⟨g,k*3,none⟩ (.bool y.b)).setCell ⟨g,k*3+1,none⟩ (.slice y.A y.xs.length y.c)).setCell ⟨g,k*3+2,none⟩ (.slice y.D y.ys.length y.d))=wr at *;have bj:Hd (Ou wr g g L.gs.length (fun a=>a<k\/a=k) (fun a=>if a=k then bV L.gs.length c x.T x.B (L.n+k) else F a)):=h6
   clear h6;have hkt:k<L.ts.length:=by rw [br.o];exact hlt
   have ct:=Ee.o.trn hlt;have c3:=Ee.o.c3;obtain ⟨b,hb⟩:∃b,L.ts[k]=b:=⟨_,rfl⟩;rw [hb] at ct;have uU:Hd (F k=sgT b*bV L.gs.length c x.T x.B (L.n+k)):=ag (by rw [ma.o,bC _ _ _ hkt,hb])
   clear hb;cases b
   ·have d9:Hd (F k=bV L.gs.length c x.T x.B (L.n+k)):=ag (by rw [uU.o,sgT,if_neg (by simp)];grind)
    go_wp2_with fail;go_roundw
    case rel=>exact ⟨k+1,by omega,by go_num,bj.o.mono (fun a _ ha=>by omega) (fun a _ _=>by by_cases hak:a=k <;> simp [hak,d9.o]),ax.o⟩
    case measure=>simp [intOf];omega
   ·have d9:Hd (F k=((0:Int):Rat)-bV L.gs.length c x.T x.B (L.n+k)):=ag (by rw [uU.o,sgT,if_pos rfl];grind)
    obtain ⟨xe,ev⟩:=bj.o.ev hlt (Or.inr rfl);rw [if_pos rfl] at ev;have bf:=ag ev;have ta:Hd (Sz ((0:Int):Rat) 128 128):=ag (iN (z:=0) (by omega)).up
    have eJ:=ag pv.o.up;have c7:Hd (Sz (((0:Int):Rat)-bV L.gs.length c x.T x.B (L.n+k)) 128 128):=ag (((iN (z:=0) (by omega)).sub pv.o).mono (by omega) (by omega))
    clear ev;go_upto_region 7 with fail;clear ct c3;refine wp_region_held_drew (S:=fun w'=>True) (by kernel_rfl) trivial fun hH=>?_
    have bz:=(ah wr.heap.size wr).drew;generalize wr.drew=wd at *;refine qj 13 fun Ha=>?_
    refine qh Ha 0 (.slice (some ⟨g,0,none⟩) L.gs.length L.gs.length) rfl ?_;refine qh Ha 1 (.int .i64 (k:Int)) rfl ?_;refine qh Ha 3 (.slice (some ⟨g,0,none⟩) L.gs.length L.gs.length) rfl ?_;refine qh Ha 4 (.int .i64 (k:Int)) rfl ?_;refine tks Ha 5 (.pointer (some ⟨g,k*3,none⟩)) rfl ?_;simp only [tz];refine wpAnyH_ready (rs := [2,6]) (tkn Ha (by kernel_rfl)) (by simp) ?_
    refine AllReadyH.cons rfl (fun K hK=>?_) ?_
    ·go_simp;go_at_call 43;refine (dk wd 0 (by omega) (by omega)).mono ?_
     rintro e wd ⟨x0,rfl,e0,bb⟩;replace bz:=qd bz bb;clear bb;refine hK.out _ _ trivial fun hH=>?_;clear hK K;try simp only [tz]
     refine tk1 Ha 6 rfl fun K hK=>?_;have ev:=bf.o.below bz;have k0:=ev.c0;have k1:=ev.c1;have k2:=ev.c2;go_simp;clear ev k0 k1 k2;refine hK.out _ _ trivial fun hH=>?_;clear hK K;try simp only [tz]
     refine tk1 Ha 7 rfl fun K hK=>?_;go_simp;go_at_call 89;refine (fX wd x0 xe _ _ e0 (bf.o.below bz).el ta.o eJ.o c7.o).mono ?_;rintro e wd ⟨x3,rfl,r3,ok3,bb⟩;clear e0;replace bz:=qd bz bb;clear bb;refine hK.out _ _ trivial fun hH=>?_;clear hK K;try simp only [tz]
     refine qh Ha 8 (.tuple #[x3.val, .int .i64 0]) rfl ?_;refine qh Ha 9 (x3.val) rfl ?_;refine qh Ha 10 (.int .i64 0) rfl ?_;refine tks Ha 11 (.pointer (some ⟨g,k*3,none⟩)) rfl ?_;simp only [tz];refine tk1 Ha 12 rfl fun K hK=>?_;have ev:=bf.o.below bz;have k0:=ev.c0;have k1:=ev.c1;have k2:=ev.c2;have aF:=ev.f0;have aG:=ev.f1;have aH:=ev.f2;go_simp;clear ev k0 k1 k2 aF aG aH;have t6:=(bj.o.below bz).put (i:=k) (⟨ok3,r3⟩:El wd x3 _);have p5:=(ax.o.then bz).trans t6.2
     have t5:=t6.1;clear hH bz ok3 t6;generalize (((wd.setCell ⟨g,k*3,none⟩ (.bool x3.b)).setCell ⟨g,k*3+1,none⟩ (.slice x3.A x3.xs.length x3.c)).setCell ⟨g,k*3+2,none⟩ (.slice x3.D x3.ys.length x3.d))=we at *;generalize we=wd at *;refine hK.out _ _ trivial fun hH=>?_;clear hK K;try simp only [tz]
     refine qp Ha ?_
     go_wp2_with fail;go_roundw
     case rel=>exact ⟨k+1,by omega,by go_num,t5.mono (fun a _ ha=>by show (a<k\/a=k)\/a=k;omega) (fun a _ ha=>by by_cases hak:a=k <;> simp [hak,d9.o]),p5⟩
     case measure=>simp [intOf];omega
    refine AllReadyH.cons rfl (fun K hK=>?_) ?_
    ·have ev:=bf.o.below bz;have k0:=ev.c0;have k1:=ev.c1;have k2:=ev.c2;go_simp;clear ev k0 k1 k2;refine hK.out _ _ trivial fun hH=>?_;clear hK K;try simp only [tz]
     refine tk1 Ha 2 rfl fun K hK=>?_;go_simp;go_at_call 43;refine (dk wd 0 (by omega) (by omega)).mono ?_
     rintro e wd ⟨x0,rfl,e0,bb⟩;replace bz:=qd bz bb;clear bb;refine hK.out _ _ trivial fun hH=>?_;clear hK K;try simp only [tz]
     refine tk1 Ha 7 rfl fun K hK=>?_;go_simp;go_at_call 89;refine (fX wd x0 xe _ _ e0 (bf.o.below bz).el ta.o eJ.o c7.o).mono ?_;rintro e wd ⟨x3,rfl,r3,ok3,bb⟩;clear e0;replace bz:=qd bz bb;clear bb;refine hK.out _ _ trivial fun hH=>?_;clear hK K;try simp only [tz]
     refine qh Ha 8 (.tuple #[x3.val, .int .i64 0]) rfl ?_;refine qh Ha 9 (x3.val) rfl ?_;refine qh Ha 10 (.int .i64 0) rfl ?_;refine tks Ha 11 (.pointer (some ⟨g,k*3,none⟩)) rfl ?_;simp only [tz];refine tk1 Ha 12 rfl fun K hK=>?_;have ev:=bf.o.below bz;have k0:=ev.c0;have k1:=ev.c1;have k2:=ev.c2;have aF:=ev.f0;have aG:=ev.f1;have aH:=ev.f2;go_simp;clear ev k0 k1 k2 aF aG aH;have t6:=(bj.o.below bz).put (i:=k) (⟨ok3,r3⟩:El wd x3 _);have p5:=(ax.o.then bz).trans t6.2
     have t5:=t6.1;clear hH bz ok3 t6;generalize (((wd.setCell ⟨g,k*3,none⟩ (.bool x3.b)).setCell ⟨g,k*3+1,none⟩ (.slice x3.A x3.xs.length x3.c)).setCell ⟨g,k*3+2,none⟩ (.slice x3.D x3.ys.length x3.d))=we at *;generalize we=wd at *;refine hK.out _ _ trivial fun hH=>?_;clear hK K;try simp only [tz]
     refine qp Ha ?_
     go_wp2_with fail;go_roundw
     case rel=>exact ⟨k+1,by omega,by go_num,t5.mono (fun a _ ha=>by show (a<k\/a=k)\/a=k;omega) (fun a _ ha=>by by_cases hak:a=k <;> simp [hak,d9.o]),p5⟩
     case measure=>simp [intOf];omega
    exact AllReadyH.nil
  ·obtain rfl:k=L.gs.length:=by omega
   go_wp2_with fail;go_ret;exact ⟨g,rfl,by rw [f9.o];exact ou.mono (fun a ha _=>ha) (fun _ _ _=>rfl),by rw [f9.o];exact kp.up' ko.o (Nat.le_refl _) eP.o⟩
theorem dO (w:World):Calls prog 43 #[.int .i64 0] w fun e w'=>∃x:Fx,e = .returned x.val/\El w' x 0/\Below w.heap.size w w':=dk w 0 (by omega) (by omega)
theorem mi (w:World):Calls prog 43 #[.int .i64 1] w fun e w'=>∃x:Fx,e = .returned x.val/\El w' x 1/\Below w.heap.size w w':=dk w 1 (by omega) (by omega)
theorem uz (w:World) (B:Nat) (L:Lay) (x:St) (h:Tw w B L x) (hB:∀i,i<L.gs.length->x.B i<L.n+L.gs.length) (hN:L.N<=1000) (hinj:∀i,i<L.gs.length->∀r,r<L.gs.length->x.B i=x.B r->i=r) :
 Calls prog 56 #[.pointer (some ⟨L.G,0,none⟩)] w fun e w'=>∃g,e = .returned (.slice (some ⟨g,0,none⟩) L.n L.n)/\Ou w' w.heap.size g L.n (fun _=>True) (jk L.gs.length x.T x.B (L.n+L.gs.length))/\Below w.heap.size w w':=by
 have cw:Hd (L.N=L.n+L.gs.length+1):=ag rfl;have hnl:L.n<=1000:=by have:=cw.o;omega
 have hml:L.gs.length<=1000:=by have:=cw.o;omega
 have gq:=ag h;have HB:=ag hB;have HP:Hd (∀a,pvP x.T x.B (L.n+L.gs.length) L.gs.length a=jk L.gs.length x.T x.B (L.n+L.gs.length) a):=ag (fun a=>Bt _ hinj);have c0:=h.c2;obtain ⟨i1,hi,hi0,hi1,hi2⟩:=info_parts dr;obtain ⟨M,hM⟩:∃M,L.n+L.gs.length=M:=⟨_,rfl⟩;have HM:=ag hM;obtain ⟨F,hF⟩:∃F:Nat->Rat,jk L.gs.length x.T x.B M=F:=⟨_,rfl⟩;have ma:Hd (∀a,pvP x.T x.B M L.gs.length a=F a):=ag (fun a=>by rw [<-hF,<-hM];exact HP.o a)
 rw [hM,hF];clear h hB hinj HP hM hF;go_enter func56,ntmps56;go_upto_region 2 with (refine wpList_make_full w rfl _ _ 22 rfl w.heap.size 29 i1 Fx.nil.val 3 underlying22 hi hi0 hi1 .i64 .i64 _ _ L.n rfl rfl (by omega) (by omega) (by rw [hi2];omega) (by simp only [maxLen];omega) (Nat.le_refl _) ?_;intro w2 hg2 hb2)
 have b12:Below w.heap.size w w2:=(ah _ _).grown hb2 (Nat.le_refl _) (by intro k hk;cases hk)
 have ou:Ou w2 w.heap.size w.heap.size L.n (fun a=>a<0) (fun _=>0):=by
  refine ⟨List.replicate L.n Fx.nil,⟨?_,fun v hv=>by rw [List.eq_of_mem_replicate hv];exact Fx.nil_ok _⟩,by simp,fun _ _ h=>absurd h (Nat.not_lt_zero _)⟩
  unfold Fr;rw [List.length_replicate,<-dm];exact hg2
 have gC:=ag (gq.o.below b12);have eP:Hd (w.heap.size<=w2.heap.size):=ag b12.size;have wW:Hd (∀A vs c,Cl w A vs c->Cl w2 A vs c):=ag (fun _ _ _ h=>h.below b12);have kh:Hd (NL w2 w.heap.size):=ag ou.nl;have ko:=ag b12;clear hg2 hb2 b12 hi hi0 hi1 hi2;generalize hg:w.heap.size=g at *;have dn:Hd (w.heap.size<=g):=ag (Nat.le_of_eq hg);have f9:=ag hg;clear hg;clear c0;go_wp2_with fail;go_loopw [14] (fun iv wr=>∃k:Nat,k<=L.n/\iv = .int .i64 k/\Ou wr g g L.n (fun a=>a<k) (fun _=>0)/\Kp (fun a=>a=g) w2 wr) (fun iv _=>L.n-(intOf iv).toNat)
 case atStart=>exact ⟨0,by omega,rfl,ou,Kp.refl _ _⟩
 case round=>
  clear ou;obtain ⟨k,hk,rfl,ou,kp⟩:=hrel;by_cases hlt:k<L.n
  ·have bj:=ag ou;have ax:=ag kp;clear ou kp;go_wp2_with fail;refine (dO wr).mono ?_;rintro e w5 ⟨y,rfl,el,bb⟩;obtain ⟨v,k0,k1,k2,aF,aG,aH⟩:=(bj.o.below bb).slot hlt;go_wp2_with fail;have t6:=(bj.o.below bb).put (i:=k) el;go_roundw
   case rel=>exact ⟨k+1,by omega,by go_num,t6.1.mono (fun a _ ha=>by omega) (fun a _ _=>by by_cases hak:a=k <;> simp [hak]),(ax.o.then bb).trans t6.2⟩
   case measure=>simp [intOf];omega
  ·obtain rfl:k=L.n:=by omega
   have aq:=ag (gq.o.fresh dn.o gC.o kp kh.o);have bj:Hd (Ou wr g g L.n (fun _=>True) (pvP x.T x.B M 0)):=ou.mono (fun a ha _=>ha) (fun _ _ _=>rfl);have ax:=ag kp;have c1:=aq.o.c1;clear ou kp aq;go_wp2_with fail;clear c1;go_loopw [27] (fun iv wr=>∃k:Nat,k<=L.gs.length/\iv = .int .i64 k/\Ou wr g g L.n (fun _=>True) (pvP x.T x.B M k)/\Kp (fun a=>a=g) w2 wr) (fun iv _=>L.gs.length-(intOf iv).toNat)
   case atStart=>exact ⟨0,by omega,rfl,bj.o,ax.o⟩
   case round=>
    clear bj ax;obtain ⟨k,hk,rfl,ou,kp⟩:=hrel;by_cases hlt:k<L.gs.length
    ·have aq:=ag (gq.o.fresh dn.o gC.o kp kh.o);have bj:=ag ou;have ax:=ag kp;clear ou kp;obtain ⟨bk,hbk⟩:∃b,x.B k=b:=⟨_,rfl⟩;have c2:=aq.o.c2;have cb:=(aq.o.q.bas hlt).1;rw [hbk] at cb;have ff:=ag hbk;clear hbk;by_cases hbn:bk<L.n
     ·have dy:=ag hlt;go_wp2_with fail;refine (km wr B L x k aq.o dy.o hN).mono ?_;rintro e w5 ⟨y,rfl,el,bb⟩;rw [HM.o] at el;obtain ⟨v,k0,k1,k2,aF,aG,aH⟩:=(bj.o.below bb).slot hbn;clear c2 cb;go_wp2_with fail;have t6:=(bj.o.below bb).put (i:=bk) el;go_roundw
      case rel=>exact ⟨k+1,by omega,by go_num,t6.1.mono (fun a _ ha => .inl ha) (fun a _ _=>by
       rw [pvP,ff.o];by_cases hab:a=bk
       ·rw [if_pos hab,if_pos hab.symm]
       ·rw [if_neg hab,if_neg (fun e=>hab e.symm)]),(ax.o.then bb).trans t6.2⟩
      case measure=>simp [intOf];omega
     ·go_wp2_with fail;go_roundw
      case rel=>exact ⟨k+1,by omega,by go_num,bj.o.mono (fun a _ ha=>ha) (fun a ha _=>by rw [pvP,ff.o,if_neg (by omega)]),ax.o⟩
      case measure=>simp [intOf];omega
    ·obtain rfl:k=L.gs.length:=by omega
     go_wp2_with fail;go_ret;exact ⟨g,rfl,by rw [f9.o];exact ou.mono (fun a ha _=>trivial) (fun a _ _=>ma.o a),by rw [f9.o];exact kp.up' ko.o (Nat.le_refl _) eP.o⟩
theorem yG (w:World) (B:Nat) (L:Lay) (x:St) (s:Nat) (h:Tw w B L x) (hs:s<L.n) (hB:∀i,i<L.gs.length->x.B i<L.n+L.gs.length) (hN:L.N<=1000) (hinj:∀i,i<L.gs.length->∀r,r<L.gs.length->x.B i=x.B r->i=r) (hsb:∀i,i<L.gs.length->x.B i≠s)
 (hsz:∀r,r<L.gs.length->∀k,k<=L.n+L.gs.length->Sz (x.T r k) 60 60) :
 Calls prog 57 #[.pointer (some ⟨L.G,0,none⟩), .int .i64 (s:Int)] w fun e w'=>∃g,e = .returned (.slice (some ⟨g,0,none⟩) L.n L.n)/\Ou w' w.heap.size g L.n (fun _=>True) (fT L.gs.length x.T x.B s)/\Below w.heap.size w w':=by
 have cw:Hd (L.N=L.n+L.gs.length+1):=ag rfl;have hnl:L.n<=1000:=by have:=cw.o;omega
 have hml:L.gs.length<=1000:=by have:=cw.o;omega
 have gq:=ag h;have HB:=ag hB;have Eg:=ag hsz;have sV:=ag hs;have hsN:s<L.N:=by have:=cw.o;omega
 have HP:Hd (∀a,rvP x.T x.B s L.gs.length a=fT L.gs.length x.T x.B s a):=ag (fun a=>Bn _ hinj hsb);have c0:=h.c2;obtain ⟨i1,hi,hi0,hi1,hi2⟩:=info_parts dr;obtain ⟨F,hF⟩:∃F:Nat->Rat,fT L.gs.length x.T x.B s=F:=⟨_,rfl⟩;have ma:Hd (∀a,rvP x.T x.B s L.gs.length a=F a):=ag (fun a=>by rw [<-hF];exact HP.o a)
 rw [hF];clear h hB hinj HP hF hsb hsz;go_enter func57,ntmps57;go_upto_region 2 with (refine wpList_make_full w rfl _ _ 22 rfl w.heap.size 29 i1 Fx.nil.val 3 underlying22 hi hi0 hi1 .i64 .i64 _ _ L.n rfl rfl (by omega) (by omega) (by rw [hi2];omega) (by simp only [maxLen];omega) (Nat.le_refl _) ?_;intro w2 hg2 hb2)
 have b12:Below w.heap.size w w2:=(ah _ _).grown hb2 (Nat.le_refl _) (by intro k hk;cases hk)
 have ou:Ou w2 w.heap.size w.heap.size L.n (fun a=>a<0) (fun _=>0):=by
  refine ⟨List.replicate L.n Fx.nil,⟨?_,fun v hv=>by rw [List.eq_of_mem_replicate hv];exact Fx.nil_ok _⟩,by simp,fun _ _ h=>absurd h (Nat.not_lt_zero _)⟩
  unfold Fr;rw [List.length_replicate,<-dm];exact hg2
 have gC:=ag (gq.o.below b12);have eP:Hd (w.heap.size<=w2.heap.size):=ag b12.size;have wW:Hd (∀A vs c,Cl w A vs c->Cl w2 A vs c):=ag (fun _ _ _ h=>h.below b12);have kh:Hd (NL w2 w.heap.size):=ag ou.nl;have ko:=ag b12;clear hg2 hb2 b12 hi hi0 hi1 hi2;generalize hg:w.heap.size=g at *;have dn:Hd (w.heap.size<=g):=ag (Nat.le_of_eq hg);have f9:=ag hg;clear hg;clear c0;go_wp2_with fail;go_loopw [16] (fun iv wr=>∃k:Nat,k<=L.n/\iv = .int .i64 k/\Ou wr g g L.n (fun a=>a<k) (fun _=>0)/\Kp (fun a=>a=g) w2 wr) (fun iv _=>L.n-(intOf iv).toNat)
 case atStart=>exact ⟨0,by omega,rfl,ou,Kp.refl _ _⟩
 case round=>
  clear ou;obtain ⟨k,hk,rfl,ou,kp⟩:=hrel;by_cases hlt:k<L.n
  ·have bj:=ag ou;have ax:=ag kp;clear ou kp;go_wp2_with fail;refine (dO wr).mono ?_;rintro e w5 ⟨y,rfl,el,bb⟩;obtain ⟨v,k0,k1,k2,aF,aG,aH⟩:=(bj.o.below bb).slot hlt;go_wp2_with fail;have t6:=(bj.o.below bb).put (i:=k) el;go_roundw
   case rel=>exact ⟨k+1,by omega,by go_num,t6.1.mono (fun a _ ha=>by omega) (fun a _ _=>by by_cases hak:a=k <;> simp [hak]),(ax.o.then bb).trans t6.2⟩
   case measure=>simp [intOf];omega
  ·obtain rfl:k=L.n:=by omega
   have aq:=ag (gq.o.fresh dn.o gC.o kp kh.o);have bj:=ag ou;have ax:=ag kp;clear ou kp aq;go_wp2_with fail;refine (mi wr).mono ?_;rintro e w5 ⟨y,rfl,el,bb⟩;obtain ⟨v,k0,k1,k2,aF,aG,aH⟩:=(bj.o.below bb).slot sV.o;go_upto_region 8 with fail;clear k0 k1 k2 aF aG aH v;have t6:=(bj.o.below bb).put (i:=s) el;have aq:=ag (gq.o.fresh dn.o gC.o ((ax.o.then bb).trans t6.2) kh.o)
   replace ax:=ag ((ax.o.then bb).trans t6.2)
   replace bj:Hd (Ou _ g g L.n (fun _=>True) (rvP x.T x.B s 0)):=t6.1.mono (fun a ha _ => .inl ha) (fun _ _ _=>rfl);clear t6 bb el;generalize (((w5.setCell ⟨g,s*3,none⟩ (.bool y.b)).setCell ⟨g,s*3+1,none⟩ (.slice y.A y.xs.length y.c)).setCell ⟨g,s*3+2,none⟩ (.slice y.D y.ys.length y.d))=wr at *;have c1:=aq.o.c1;clear aq;go_wp2_with fail;clear c1;go_loopw [33] (fun iv wr=>∃k:Nat,k<=L.gs.length/\iv = .int .i64 k/\Ou wr g g L.n (fun _=>True) (rvP x.T x.B s k)/\Kp (fun a=>a=g) w2 wr) (fun iv _=>L.gs.length-(intOf iv).toNat)
   case atStart=>exact ⟨0,by omega,rfl,bj.o,ax.o⟩
   case round=>
    clear bj ax;obtain ⟨k,hk,rfl,ou,kp⟩:=hrel;by_cases hlt:k<L.gs.length
    ·have aq:=ag (gq.o.fresh dn.o gC.o kp kh.o);have bj:=ag ou;have ax:=ag kp;clear ou kp;obtain ⟨bk,hbk⟩:∃b,x.B k=b:=⟨_,rfl⟩;have c2:=aq.o.c2;have cb:=(aq.o.q.bas hlt).1;rw [hbk] at cb;have ff:=ag hbk;clear hbk;by_cases hbn:bk<L.n
     ·have gW:=ag hlt;have B8:=ag hbn;obtain ⟨gk,hgk⟩:∃g,L.gs[k]=g:=⟨_,rfl⟩;have lo:=ag hgk;obtain ⟨xe,ev⟩:=aq.o.elg hlt hgk hsN;have bf:=ag ev;have ip:Hd (¬gk=g):=ag (fun e=>by
       have h1:=gq.o.q.lts gk (Or.inr (by rw [<-lo.o];exact List.getElem_mem hlt))
       have h2:=dn.o;omega)
      have ta:Hd (Sz ((0:Int):Rat) 128 128):=ag (iN (z:=0) (by omega)).up
      have eJ:Hd (Sz (x.T k s) 128 128):=ag (Eg.o k hlt s (by have:=cw.o;omega)).up
      have c7:Hd (Sz (((0:Int):Rat)-x.T k s) 128 128):=ag (((iN (z:=0) (by omega)).sub (Eg.o k hlt s (by have:=cw.o;omega))).mono (by omega) (by omega))
      have d9:Hd (∀a,(if a=bk then ((0:Int):Rat)-x.T k s else rvP x.T x.B s k a)=rvP x.T x.B s (k+1) a):=ag (fun a=>by
       rw [rvP,ff.o];by_cases hab:a=bk
       ·rw [if_pos hab,if_pos hab.symm];rfl
       ·rw [if_neg hab,if_neg (fun e=>hab e.symm)])
      clear ev hgk;go_upto_region 12 with fail;clear c2 cb;refine wp_region_held_drew (S:=fun w'=>w'.cell? ⟨L.G,0,none⟩=some (.slice (some ⟨L.go,0,none⟩) L.gs.length L.co)/\w'.cell? ⟨L.go,k,none⟩=some (.slice (some ⟨gk,0,none⟩) L.N L.N)/\w'.cell? ⟨gk,s*3,none⟩=some (.bool xe.b)/\w'.cell? ⟨gk,s*3+1,none⟩=some (.slice xe.A xe.xs.length xe.c)/\w'.cell? ⟨gk,s*3+2,none⟩=some (.slice xe.D xe.ys.length xe.d)) (by kernel_rfl) ⟨(aq.o.below ((ah wr.heap.size wr).drew)).c0,(aq.o.below ((ah wr.heap.size wr).drew)).rowg gW.o lo.o,(bf.o.below ((ah wr.heap.size wr).drew)).c0,(bf.o.below ((ah wr.heap.size wr).drew)).c1,(bf.o.below ((ah wr.heap.size wr).drew)).c2⟩ fun hH=>?_
      have bz:=(ah wr.heap.size wr).drew;generalize wr.drew=wd at *;refine qj 19 fun Ha=>?_
      refine qh Ha 0 (.slice (some ⟨g,0,none⟩) L.n L.n) rfl ?_;refine qh Ha 1 (.int .i64 (bk:Int)) rfl ?_;refine qh Ha 3 (.pointer (some ⟨L.G,0,none⟩)) rfl ?_;refine qh Ha 4 (.pointer (some ⟨L.G,0,none⟩)) rfl ?_;refine qh Ha 5 (.pointer (some ⟨L.G,0,none⟩)) rfl ?_;refine qh Ha 6 (.slice (some ⟨L.go,0,none⟩) L.gs.length L.co) rfl ?_;refine qh Ha 7 (.int .i64 (k:Int)) rfl ?_;refine qh Ha 8 (.pointer (some ⟨L.go,k,none⟩)) rfl ?_;refine qh Ha 9 (.slice (some ⟨gk,0,none⟩) L.N L.N) rfl ?_
      refine qh Ha 10 (.int .i64 (s:Int)) rfl ?_;refine qh Ha 11 (.pointer (some ⟨gk,s*3,none⟩)) rfl ?_;refine tks Ha 12 (xe.val) rfl ?_;simp only [tz];refine tk1 Ha 2 rfl fun K hK=>?_;go_simp;go_at_call 43;refine (dk wd 0 (by omega) (by omega)).mono ?_
      rintro e wd ⟨x0,rfl,e0,bb⟩;replace bz:=qd bz bb;clear bb;refine hK.out _ _ (by first|exact ⟨t7.c0,t7.rowg gW.o lo.o,e7.c0,e7.c1,e7.c2⟩|exact ⟨(aq.o.below bz).c0,(aq.o.below bz).rowg gW.o lo.o,(bf.o.below bz).c0,(bf.o.below bz).c1,(bf.o.below bz).c2⟩) fun hH=>?_;clear hK K;try simp only [tz]
      refine tk1 Ha 13 rfl fun K hK=>?_;go_simp;go_at_call 89;refine (fX wd x0 xe _ _ e0 (bf.o.below bz).el ta.o eJ.o c7.o).mono ?_;rintro e wd ⟨x3,rfl,r3,ok3,bb⟩;clear e0;replace bz:=qd bz bb;clear bb;refine hK.out _ _ (by first|exact ⟨t7.c0,t7.rowg gW.o lo.o,e7.c0,e7.c1,e7.c2⟩|exact ⟨(aq.o.below bz).c0,(aq.o.below bz).rowg gW.o lo.o,(bf.o.below bz).c0,(bf.o.below bz).c1,(bf.o.below bz).c2⟩) fun hH=>?_;clear hK K;try simp only [tz]
      refine qh Ha 14 (.tuple #[x3.val, .int .i64 0]) rfl ?_;refine qh Ha 15 (x3.val) rfl ?_;refine qh Ha 16 (.int .i64 0) rfl ?_;refine tks Ha 17 (.pointer (some ⟨g,bk*3,none⟩)) rfl ?_;simp only [tz];refine tk1 Ha 18 rfl fun K hK=>?_;obtain ⟨v,k0,k1,k2,aF,aG,aH⟩:=(bj.o.below bz).slot B8.o;go_simp;clear k0 k1 k2 aF aG aH v;have t6:=(bj.o.below bz).put (i:=bk) (⟨ok3,r3⟩:El wd x3 _);have t7:=gq.o.fresh dn.o (aq.o.below bz) t6.2 (bj.o.below bz).nl;have e7:=(bf.o.below bz).kp t6.2 (fun a e=>by rw [e];exact (bj.o.below bz).nl) ip.o
      have p5:=(ax.o.then bz).trans t6.2
      have t5:=t6.1;clear hH bz ok3 t6;generalize (((wd.setCell ⟨g,bk*3,none⟩ (.bool x3.b)).setCell ⟨g,bk*3+1,none⟩ (.slice x3.A x3.xs.length x3.c)).setCell ⟨g,bk*3+2,none⟩ (.slice x3.D x3.ys.length x3.d))=we at *;generalize we=wd at *;refine hK.out _ _ (by first|exact ⟨t7.c0,t7.rowg gW.o lo.o,e7.c0,e7.c1,e7.c2⟩|exact ⟨(aq.o.below bz).c0,(aq.o.below bz).rowg gW.o lo.o,(bf.o.below bz).c0,(bf.o.below bz).c1,(bf.o.below bz).c2⟩) fun hH=>?_;clear hK K;try simp only [tz]
      refine qp Ha ?_
      go_wp2_with fail;go_roundw
      case rel=>exact ⟨k+1,by omega,by go_num,t5.mono (fun a _ _ => .inl trivial) (fun a _ _=>by rw [d9.o a]),p5⟩
      case measure=>simp [intOf];omega
     ·go_wp2_with fail;go_roundw
      case rel=>exact ⟨k+1,by omega,by go_num,bj.o.mono (fun a _ ha=>ha) (fun a ha _=>by rw [rvP,ff.o,if_neg (by omega)]),ax.o⟩
      case measure=>simp [intOf];omega
    ·obtain rfl:k=L.gs.length:=by omega
     go_wp2_with fail;go_ret;exact ⟨g,rfl,by rw [f9.o];exact ou.mono (fun a ha _=>trivial) (fun a _ _=>ma.o a),by rw [f9.o];exact kp.up' ko.o (Nat.le_refl _) eP.o⟩
end Go.Proofs.YtkpfbekmaafehaaGreat
