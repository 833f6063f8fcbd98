/- What totals come to, and how long their numbers are -/
import Derived.Test.YtkpfbekmaafehaaGreatSsC
import Derived.Test.YtkpfbekmaafehaaGreatSpB
import Derived.Deep.CutBlock
import Derived.Deep.DeepCutAuto
import Derived.Deep.RegionHeld3
namespace Go.Proofs.YtkpfbekmaafehaaGreat
set_option maxHeartbeats 8000000
set_option maxRecDepth 100000
theorem vM (a b:Rat):a<b\/a=b\/b<a:=by
 rcases du a b with ⟨h,_⟩|⟨h,_⟩|⟨h,_⟩
 ·exact .inl h
 ·exact .inr (.inl h)
 ·exact .inr (.inr h)
def iq (u v:Nat->Rat):Nat->Tv
 | 0=>⟨0,0,1⟩
 | k+1=>ie (iq u v k) (u k) (v k)
structure vz (t:Tv) (s:Rat) (E K:Nat):Prop where
 d0:0<t.D
 val:((t.P:Rat)-(t.M:Rat))=s*(t.D:Rat)
 dv:t.D∣E
 p:t.P<=K*t.D
 m:t.M<=K*t.D
theorem vU (p:Rat):((p.num.natAbs:Nat):Rat)*(if p.num<0 then -1 else 1)=p*(p.den:Rat):=by
 have h:=dE p;have h:p*(p.den:Rat)=((p.num:Int):Rat):=by rw [Rat.mul_comm];exact h
 rw [h];by_cases h0:p.num<0
 ·rw [if_pos h0];have:((p.num.natAbs:Nat):Int) = - p.num:=by omega
  have h2:((p.num.natAbs:Nat):Rat)=((- p.num:Int):Rat):=by rw [<-this];rfl
  rw [h2,Rat.intCast_neg];grind
 ·rw [if_neg h0];have:((p.num.natAbs:Nat):Int)=p.num:=by omega
  have h2:((p.num.natAbs:Nat):Rat)=((p.num:Int):Rat):=by rw [<-this];rfl
  rw [h2];grind
theorem wN {t:Tv} {s p q:Rat} {E K C:Nat} (h:vz t s E K) (hE:p.den*q.den∣E) (hC:p.num.natAbs*q.num.natAbs<=C):vz (ie t p q) (s+p*q) E (K+C):=by
 by_cases h0:p=0\/q=0
 ·rw [ie,if_pos h0];have hm:=Nat.mul_le_mul_right t.D (show K<=K+C by omega)
  refine ⟨h.d0,?_,h.dv,Nat.le_trans h.p hm,Nat.le_trans h.m hm⟩;have e:s+p*q=s:=by rcases h0 with e|e <;> rw [e] <;> grind
  rw [e];exact h.val
 ·have hd0:=h.d0;have hden:0<p.den*q.den:=Nat.mul_pos p.den_pos q.den_pos;obtain ⟨den,hde⟩:∃z,p.den*q.den=z:=⟨_,rfl⟩;obtain ⟨num,hnu⟩:∃z,p.num.natAbs*q.num.natAbs=z:=⟨_,rfl⟩;obtain ⟨g,hg⟩:∃z,Nat.gcd t.D den=z:=⟨_,rfl⟩;have hg0:0<g:=by rw [<-hg];exact Nat.gcd_pos_of_pos_left _ hd0
  obtain ⟨a,ha⟩:g∣den:=by rw [<-hg];exact Nat.gcd_dvd_right _ _
  obtain ⟨b,hb⟩:g∣t.D:=by rw [<-hg];exact Nat.gcd_dvd_left _ _
  have ea:den/g=a:=by rw [ha];exact Nat.mul_div_cancel_left _ hg0
  have eb:t.D/g=b:=by rw [hb];exact Nat.mul_div_cancel_left _ hg0
  have hlc:t.D*a=Nat.lcm t.D den:=by
   rw [Nat.lcm,hg,Nat.mul_div_assoc _ ⟨a,ha⟩,ea]
  have hbd:t.D*a=b*den:=by rw [hb,ha];grind
  rw [hde] at hE hden;rw [hnu] at hC;have ha0:0<a:=by
   rcases Nat.eq_zero_or_pos a with e|e
   ·rw [e,Nat.mul_zero] at ha;omega
   ·exact e
  have hb0:0<b:=by
   rcases Nat.eq_zero_or_pos b with e|e
   ·rw [e,Nat.mul_zero] at hb;omega
   ·exact e
  have hD0:0<t.D*a:=Nat.mul_pos hd0 ha0;have hdv:t.D*a∣E:=by rw [hlc];exact Nat.lcm_dvd h.dv hE
  have hnb:num*b<=C*(t.D*a):=by
   rw [hbd];exact Nat.mul_le_mul hC (Nat.le_mul_of_pos_right b hden)
  have hP:t.P*a<=K*(t.D*a):=by rw [<-Nat.mul_assoc];exact Nat.mul_le_mul_right a h.p
  have hM:t.M*a<=K*(t.D*a):=by rw [<-Nat.mul_assoc];exact Nat.mul_le_mul_right a h.m
  have eK:(K+C)*(t.D*a)=K*(t.D*a)+C*(t.D*a):=Nat.add_mul _ _ _;have n1:=vU p;have n2:=vU q;have hpq:((num:Nat):Rat)*((if p.num<0 then -1 else 1)*(if q.num<0 then -1 else 1))=p*q*((den:Nat):Rat):=by
   rw [<-hnu,<-hde,Rat.natCast_mul,Rat.natCast_mul];generalize ((p.num.natAbs:Nat):Rat)=x1 at *;generalize ((q.num.natAbs:Nat):Rat)=x2 at *;generalize ((p.den:Nat):Rat)=x3 at *;generalize ((q.den:Nat):Rat)=x4 at *;generalize (if p.num<0 then (-1:Rat) else 1)=x5 at *
   generalize (if q.num<0 then (-1:Rat) else 1)=x6 at *
   grind
  have hbdq:((t.D:Nat):Rat)*((a:Nat):Rat)=((b:Nat):Rat)*((den:Nat):Rat):=by rw [<-Rat.natCast_mul,<-Rat.natCast_mul,hbd]
  have hv:=h.val;rw [ie,if_neg h0];simp only [hde,hnu,hg,ea,eb];by_cases hs:decide (p.num<0)=decide (q.num<0)
  ·rw [if_pos hs];have hs1:((num:Nat):Rat)=p*q*((den:Nat):Rat):=by
    rw [<-hpq];by_cases k1:p.num<0 <;> by_cases k2:q.num<0 <;> simp [k1,k2] at hs|- <;> grind
   refine ⟨hD0,?_,hdv,by rw [eK];exact Nat.add_le_add hP hnb,by rw [eK];exact Nat.le_trans hM (Nat.le_add_right _ _)⟩
   rw [Rat.natCast_add,Rat.natCast_mul,Rat.natCast_mul,Rat.natCast_mul,Rat.natCast_mul,hs1];generalize ((t.P:Nat):Rat)=x1 at *;generalize ((t.M:Nat):Rat)=x2 at *;generalize ((t.D:Nat):Rat)=x3 at *;generalize ((a:Nat):Rat)=x4 at *;generalize ((b:Nat):Rat)=x5 at *;generalize ((den:Nat):Rat)=x6 at *
   grind
  ·rw [if_neg hs];have hs1:((num:Nat):Rat) = - (p*q*((den:Nat):Rat)):=by
    rw [<-hpq];by_cases k1:p.num<0 <;> by_cases k2:q.num<0 <;> simp [k1,k2] at hs|- <;> grind
   refine ⟨hD0,?_,hdv,by rw [eK];exact Nat.le_trans hP (Nat.le_add_right _ _),by rw [eK];exact Nat.add_le_add hM hnb⟩
   rw [Rat.natCast_add,Rat.natCast_mul,Rat.natCast_mul,Rat.natCast_mul,Rat.natCast_mul,hs1];generalize ((t.P:Nat):Rat)=x1 at *;generalize ((t.M:Nat):Rat)=x2 at *;generalize ((t.D:Nat):Rat)=x3 at *;generalize ((a:Nat):Rat)=x4 at *;generalize ((b:Nat):Rat)=x5 at *;generalize ((den:Nat):Rat)=x6 at *
   grind
theorem qV {u v:Nat->Rat} {U V C n:Nat} (hU:∀k,k<n->(u k).den∣U) (hV:∀k,k<n->(v k).den∣V) (hC:∀k,k<n->(u k).num.natAbs*(v k).num.natAbs<=C) :
 ∀k,k<=n->vz (iq u v k) (aj (fun i=>u i*v i) k) (U*V) (k*C):=by
 intro k
 induction k with
 | zero=>intro _;exact ⟨Nat.one_pos,by show ((0:Nat):Rat)-((0:Nat):Rat)=0*_;grind,⟨U*V,(Nat.one_mul _).symm⟩,by show 0<=_;omega,by show 0<=_;omega⟩
 | succ k ih=>
   intro hk;have:=wN (ih (by omega)) (Nat.mul_dvd_mul (hU k (by omega)) (hV k (by omega))) (hC k (by omega))
   rw [<-Nat.succ_mul] at this;exact this
theorem vz.cmp {t:Tv} {s:Rat} {E K:Nat} (h:vz t s E K):i6 t.P t.M=bA s 0:=by
 have hd:(0:Rat)<(t.D:Rat):=by exact_mod_cast h.d0
 have hv:=h.val;unfold i6 bA;rcases Nat.lt_trichotomy t.P t.M with k|k|k
 ·have k':((t.P:Nat):Rat)<((t.M:Nat):Rat):=by exact_mod_cast k
  have hs:s<0:=by
   rcases vM s 0 with e|e|e
   ·exact e
   ·rw [e] at hv;grind
   ·have:=Rat.mul_pos e hd;grind
  rw [if_pos k,if_pos hs]
 ·rw [k] at hv;have hs:s=0:=by
   have h2:s*(t.D:Rat)=0:=by rw [<-hv];grind
   rcases Rat.mul_eq_zero.1 h2 with e|e
   ·exact e
   ·rw [e] at hd;exact absurd hd (Rat.lt_irrefl)
  rw [hs,k];simp
 ·have k':((t.M:Nat):Rat)<((t.P:Nat):Rat):=by exact_mod_cast k
  have hs:0<s:=by
   rcases vM s 0 with e|e|e
   ·have:=Rat.mul_pos (show 0 < -s by grind) hd;grind
   ·rw [e] at hv;grind
   ·exact e
  rw [if_neg (by omega),if_pos k,if_neg (by grind),if_pos hs]
open Go.RowKit
structure Vc (w:World) (G:Nat) (x:Fx):Prop where
 c0:w.cell? ⟨G,0,none⟩=some (.bool x.b)
 c1:w.cell? ⟨G,1,none⟩=some (.slice x.A x.xs.length x.c)
 c2:w.cell? ⟨G,2,none⟩=some (.slice x.D x.ys.length x.d)
theorem Vl.cellsKp {w w':World} {G:Nat} {x:Fx} {q:Rat} {S:Nat->Prop} (h:Vl w G x q) (k:Kp S w w') (hG:¬S G):Vc w' G x:=
 ⟨(k.cell (p:=⟨G,0,none⟩) h.lt hG).trans h.c0,(k.cell (p:=⟨G,1,none⟩) h.lt hG).trans h.c1,(k.cell (p:=⟨G,2,none⟩) h.lt hG).trans h.c2⟩
theorem CZ (w:World) (A:Option Addr) (c D:Nat) (e:TypeId) (h:Nt w A c (lim D)):Tl (w.alloc (.cells #[.slice none 0 0, .slice none 0 0, .slice A (lim D).length c] e)) w.heap.size 0 0 D:=by
 have b:=qc w (.cells #[.slice none 0 0, .slice none 0 0, .slice A (lim D).length c] e);have l0:lim 0 = []:=aV;have hb:(w.alloc (.cells #[.slice none 0 0, .slice none 0 0, .slice A (lim D).length c] e)).heap[w.heap.size]? = some (.cells #[.slice none 0 0, .slice none 0 0, .slice A (lim D).length c] e (0,0)):=heap_alloc_new w _;refine ⟨none,0,none,0,A,c,?_,by rw [l0];exact Nt.nil _ _ _ (by omega),by rw [l0];exact Nt.nil _ _ _ (by omega),h.below b⟩
 rw [l0];exact ⟨by go_simp,by go_simp,by go_simp,by go_simp,by go_simp,by go_simp,by simp,_,_,hb⟩
theorem Be {u v:Nat->Rat} {U V n:Nat} (hU:∀k,k<n->(u k).den∣U) (hV:∀k,k<n->(v k).den∣V) (su:∀k,k<n->Sz (u k) 32 32) (sv:∀k,k<n->Sz (v k) 32 32) (lU:(lim U).length<=32) (lV:(lim V).length<=32) (hU0:0<U) (hV0:0<V) (hn:n<=1000) (k:Nat) (hk:k<=n) :
 0<(iq u v k).D/\(lim (iq u v k).P).length<=130/\(lim (iq u v k).M).length<=130/\(lim (iq u v k).D).length<=100:=by
 have hC:∀k,k<n->(u k).num.natAbs*(v k).num.natAbs<=pw 64:=fun k hk=>by
  have h1:=(aA (u k).num.natAbs 32).1 (su k hk).1;have h2:=(aA (v k).num.natAbs 32).1 (sv k hk).1;have h3:=Nat.mul_le_mul (Nat.le_of_lt h1) (Nat.le_of_lt h2);rw [<-jz] at h3;exact h3
 have t:=qV hU hV hC k hk;have hD:(iq u v k).D<=U*V:=Nat.le_of_dvd (Nat.mul_pos hU0 hV0) t.dv;have lD:(lim (iq u v k).D).length<=64:=Nat.le_trans (ao hD) (aO lU lV);have lk:(lim (k*pw 64)).length<=66:=by
  rw [aA,show 66=1+65 from rfl,jz];have h1:k<pw 1:=by rw [mF];omega
  have h2:pw 64<pw 65:=pw_lt (by omega)
  exact Nat.lt_of_le_of_lt (Nat.mul_le_mul_right _ (Nat.le_of_lt h1)) (Nat.mul_lt_mul_of_pos_left h2 (gE 1))
 have lK:=aO lk lD;exact ⟨t.d0,Nat.le_trans (ao t.p) (by omega),Nat.le_trans (ao t.m) (by omega),by omega⟩
theorem jr (w:World) (A1 A2:Option Addr) (c c2:Nat) (us vs:List Fx) (x:Fx) (u v:Nat->Rat) (q:Rat) (z:Int) (U V n:Nat) (hu:Cl w A1 us u) (hv:Cl w A2 vs v) (hx:El w x q) (hul:us.length=n) (hvl:vs.length=n) (hn:n<=1000)
 (su:∀k,k<n->Sz (u k) 32 32) (sv:∀k,k<n->Sz (v k) 32 32) (sx:Sz q 60 60) (hU:∀k,k<n->(u k).den∣U) (hV:∀k,k<n->(v k).den∣V) (lU:(lim U).length<=32) (lV:(lim V).length<=32) (hU0:0<U) (hV0:0<V) (hz:bA (aj (fun i=>u i*v i) n-q) 0=z) :
 Calls Tryz.prog 41 #[.slice A1 n c, .slice A2 n c2,x.val] w fun e w'=>e = .returned (.int .i64 z)/\Below w.heap.size w w':=by
 have Et:=ag (Be hU hV su sv lU lV hU0 hV0 hn);have Fw:Hd (i6 (ie (iq u v n) ((-1:Int):Rat) q).P (ie (iq u v n) ((-1:Int):Rat) q).M=z):=ag (by
  have hC:∀k,k<n->(u k).num.natAbs*(v k).num.natAbs<=pw 64:=fun k hk=>by
   have h1:=(aA (u k).num.natAbs 32).1 (su k hk).1;have h2:=(aA (v k).num.natAbs 32).1 (sv k hk).1;have h3:=Nat.mul_le_mul (Nat.le_of_lt h1) (Nat.le_of_lt h2);rw [<-jz] at h3;exact h3
  have t:=qV hU hV hC n (Nat.le_refl n);have t1:vz (iq u v n) (aj (fun i=>u i*v i) n) (U*V*(((-1:Int):Rat).den*q.den)) (n*pw 64):=⟨t.d0,t.val,Nat.dvd_trans t.dv (Nat.dvd_mul_right _ _),t.p,t.m⟩;have t2:=wN t1 (Nat.dvd_mul_left _ _) (Nat.le_refl _);rw [t2.cmp,<-hz]
  congr 1
  have:((-1:Int):Rat) = -1:=rfl;rw [this];grind)
 have Ha:=ag su;have rW:=ag sv;have r5:=ag sx;have z8:=ag hu;have Eu:=ag hv;have lH:=ag hx;have z7:=ag hul;have cC:=ag hvl;clear hu hv hx hul hvl su sv sx hU hV lU lV hU0 hV0 hz;go_enter Tryz.func41,Tryz.ntmps41;go_upto_region 1 with fail;have v5:Vl (w.alloc (.cells x.cells 29)) w.heap.size x q:=⟨(au lH.o.ok).1,lH.o.rp⟩;have bw:=(au lH.o.ok).2;generalize (w.alloc (.cells #[.bool x.b, .slice x.A x.xs.length x.c, .slice x.D x.ys.length x.d] 29))=wm at v5 bw|-;obtain ⟨g5,hg5⟩:∃g,w.heap.size=g:=⟨_,rfl⟩;have AC:=ag hg5;rw [hg5] at v5|-;clear hg5;go_wp2_with fail;refine (jB wm 1 (by omega)).mono ?_
 rintro e wn ⟨A9,c9,rfl,n9,bb⟩;replace v5:=v5.below bb;replace bw:=qd bw bb;clear bb;go_upto_region 2 with fail;have tl:=CZ wn A9 c9 1 113 n9;have bb:=qc wn (.cells #[.slice none 0 0, .slice none 0 0, .slice A9 (lim 1).length c9] 113);have cw:Hd (NL (wn.alloc (.cells #[.slice none 0 0, .slice none 0 0, .slice A9 (lim 1).length c9] 113)) wn.heap.size):=ag ⟨_,_,heap_alloc_new wn _,fun u hu=>by
  simp only [List.mem_cons,List.not_mem_nil,or_false] at hu;rcases hu with rfl|rfl|rfl <;> rfl⟩
 have mn:Hd (¬g5=wn.heap.size):=ag (by have:=v5.lt;omega)
 have Fy:Hd (w.heap.size<=wn.heap.size):=ag bw.size;have hne:∀ {A:Option Addr} {vs:List Fx},RdF w A vs->0<vs.length->∀ad,A=some ad->¬ad.block=wn.heap.size:=fun h hn ad e=>by
  obtain ⟨ad',e',hl,_⟩:=h hn;rw [e] at e';injection e' with e';subst e';have:=bw.size;omega
 have Ew:=ag (hne z8.o.rd);have Ex:=ag (hne Eu.o.rd);have bX:=ag (v5.below bb);have aw:=ag (qd bw bb);clear v5 bw n9 bb hne;generalize (wn.alloc (.cells #[.slice none 0 0, .slice none 0 0, .slice A9 (lim 1).length c9] 113))=w5 at *;generalize wn.heap.size=G at *;have Fz:=ag (z8.o.below aw.o);have FA:=ag (Eu.o.below aw.o);have hnl:∀a,a=G->NL w5 a:=fun a e=>by rw [e];exact cw.o
 have ow:=ag hnl;clear hnl;go_wp2_with fail;go_loopw [14] (fun iv wr=>∃k:Nat,k<=n/\iv = .int .i64 k/\Tl wr G (iq u v k).P (iq u v k).M (iq u v k).D/\Kp (fun a=>a=G) w5 wr) (fun iv _=>n-(intOf iv).toNat)
 case atStart=>exact ⟨0,by omega,rfl,tl,Kp.refl _ _⟩
 case round=>
  clear tl;obtain ⟨k,hk,rfl,tl,kp⟩:=hrel;by_cases hlt:k<n
  ·have br:=ag tl;have ax:=ag kp;obtain ⟨ad1,rfl,xu,fu,eu⟩:=(Fz.o.kp kp ow.o Ew.o).at (k:=k) (by rw [z7.o];exact hlt)
   obtain ⟨ad2,rfl,xv,fv,ev⟩:=(FA.o.kp kp ow.o Ex.o).at (k:=k) (by rw [cC.o];exact hlt)
   have tP:=ag fu;have ma:=ag fv;have FB:=ag eu;have bf:=ag ev;have Ey:Hd (¬(ad1.add (k*3)).block=G/\¬(ad2.add (k*3)).block=G):=ag ⟨by rw [aM];exact Ew.o (by rw [z7.o];omega) ad1 rfl,by rw [aM];exact Ex.o (by rw [cC.o];omega) ad2 rfl⟩
   have FC:Hd (Sz (u k) 60 60):=ag ((Ha.o k hlt).mono (by omega) (by omega))
   have FD:Hd (Sz (v k) 60 60):=ag ((rW.o k hlt).mono (by omega) (by omega))
   obtain ⟨hb0,hb1,hb2,hb3⟩:=Et.o k hk;have sP:=ag hb0;have dK:=ag hb1;have jn:=ag hb2;have tR:=ag hb3;clear tl kp fu fv eu ev hb0 hb1 hb2 hb3;go_upto_region 5 with fail;refine wp_region_held_drew (S:=fun w'=>w'.cell? (ad1.add (k*3))=some (.bool xu.b)/\w'.cell? ⟨(ad1.add (k*3)).block,(ad1.add (k*3)).off+1,none⟩=some (.slice xu.A xu.xs.length xu.c)/\w'.cell? ⟨(ad1.add (k*3)).block,(ad1.add (k*3)).off+2,none⟩=some (.slice xu.D xu.ys.length xu.d)/\w'.cell? (ad2.add (k*3))=some (.bool xv.b)/\w'.cell? ⟨(ad2.add (k*3)).block,(ad2.add (k*3)).off+1,none⟩=some (.slice xv.A xv.xs.length xv.c)/\w'.cell? ⟨(ad2.add (k*3)).block,(ad2.add (k*3)).off+2,none⟩=some (.slice xv.D xv.ys.length xv.d)) (by kernel_rfl) ⟨(tP.o.below ((ah wr.heap.size wr).drew)).c0,(tP.o.below ((ah wr.heap.size wr).drew)).c1,(tP.o.below ((ah wr.heap.size wr).drew)).c2,(ma.o.below ((ah wr.heap.size wr).drew)).c0,(ma.o.below ((ah wr.heap.size wr).drew)).c1,(ma.o.below ((ah wr.heap.size wr).drew)).c2⟩ fun hH=>?_
   have bz:=(ah wr.heap.size wr).drew;generalize wr.drew=wd at *;refine qj 10 fun Ha=>?_
   refine qh Ha 0 (.pointer (some ⟨G,0,none⟩)) rfl ?_;refine qh Ha 1 (.slice (some ad1) n c) rfl ?_;refine qh Ha 2 (.int .i64 (k:Int)) rfl ?_;refine qh Ha 3 (.pointer (some (ad1.add (k*3)))) rfl ?_;refine qh Ha 4 (xu.val) rfl ?_;refine qh Ha 5 (.slice (some ad2) n c2) rfl ?_;refine qh Ha 6 (.int .i64 (k:Int)) rfl ?_;refine qh Ha 7 (.pointer (some (ad2.add (k*3)))) rfl ?_;refine tks Ha 8 (xv.val) rfl ?_;simp only [tz];refine tk1 Ha 9 rfl fun K hK=>?_;go_simp
   go_at_call 81;refine (sW wd G (iq u v k) xu xv (u k) (v k) (br.o.below bz) (FB.o.below bz) (bf.o.below bz) FC.o FD.o dK.o jn.o tR.o sP.o).mono ?_;rintro e we ⟨rfl,t9,k9⟩;have p5:=(ax.o.then bz).trans k9
   have u9:=(tP.o.below bz).kp k9 Ey.o.1;have v9:=(ma.o.below bz).kp k9 Ey.o.2;clear hH bz k9;generalize we=wd at *;refine hK.out _ _ (by first|exact ⟨u9.c0,u9.c1,u9.c2,v9.c0,v9.c1,v9.c2⟩|exact ⟨(tP.o.below bz).c0,(tP.o.below bz).c1,(tP.o.below bz).c2,(ma.o.below bz).c0,(ma.o.below bz).c1,(ma.o.below bz).c2⟩) fun hH=>?_;clear hK K;try simp only [tz]
   refine qp Ha ?_
   go_wp2_with fail;go_roundw
   case rel=>exact ⟨k+1,by omega,by go_num,t9,p5⟩
   case measure=>simp [intOf];omega
  ·obtain rfl:n=k:=by omega
   obtain ⟨hb0,hb1,hb2,hb3⟩:=Et.o n (Nat.le_refl n);have sP:=ag hb0;have dK:=ag hb1;have jn:=ag hb2;have tR:=ag hb3;have br:=ag tl;have ax:=ag kp;replace bX:=ag (bX.o.kp kp ow.o mn.o);have bt:Hd (Sz ((-1:Int):Rat) 60 60):=ag (iN (z := -1) (by omega))
   clear tl kp hb0 hb1 hb2 hb3;go_upto_region 7 with fail
   go_cut [] (fun wx=>Tl wx G (ie (iq u v n) ((-1:Int):Rat) q).P (ie (iq u v n) ((-1:Int):Rat) q).M (ie (iq u v n) ((-1:Int):Rat) q).D/\Kp (fun a=>a=G) w5 wx)
   case first=>
    refine wp_region_held_drew (S:=fun w'=>w'.cell? ⟨g5,0,none⟩=some (.bool x.b)/\w'.cell? ⟨g5,1,none⟩=some (.slice x.A x.xs.length x.c)/\w'.cell? ⟨g5,2,none⟩=some (.slice x.D x.ys.length x.d)) (by kernel_rfl) ⟨(bX.o.below ((ah wr.heap.size wr).drew)).c0,(bX.o.below ((ah wr.heap.size wr).drew)).c1,(bX.o.below ((ah wr.heap.size wr).drew)).c2⟩ fun hH=>?_
    have bz:=(ah wr.heap.size wr).drew;generalize wr.drew=wd at *;refine qj 4 fun Ha=>?_
    refine qh Ha 0 (.pointer (some ⟨G,0,none⟩)) rfl ?_;refine tks Ha 2 (x.val) rfl ?_;simp only [tz];refine tk1 Ha 1 rfl fun K hK=>?_;go_simp;go_at_call 43;refine (dk wd (-1) (by omega) (by omega)).mono ?_
    rintro e wd ⟨xm,rfl,em,bb⟩;replace bz:=qd bz bb;clear bb;refine hK.out _ _ (by first|exact ⟨v9.c0,v9.c1,v9.c2⟩|exact ⟨(bX.o.below bz).c0,(bX.o.below bz).c1,(bX.o.below bz).c2⟩) fun hH=>?_;clear hK K;try simp only [tz]
    refine tk1 Ha 3 rfl fun K hK=>?_;go_simp;go_at_call 81;refine (sW wd G (iq u v n) xm x ((-1:Int):Rat) q (br.o.below bz) em (bX.o.below bz).el bt.o r5.o dK.o jn.o tR.o sP.o).mono ?_;rintro e we ⟨rfl,t9,k9⟩;have p5:=(ax.o.then bz).trans k9
    have v9:=(bX.o.below bz).cellsKp k9 mn.o;clear hH bz k9 em;generalize we=wd at *;refine hK.out _ _ (by first|exact ⟨v9.c0,v9.c1,v9.c2⟩|exact ⟨(bX.o.below bz).c0,(bX.o.below bz).c1,(bX.o.below bz).c2⟩) fun hH=>?_;clear hK K;try simp only [tz]
    refine qp Ha ?_
    go_wp2_with fail;go_meet
    case rel=>exact ⟨t9,p5⟩
   case rest=>
    obtain ⟨tl,kp⟩:=hcut;obtain ⟨P,hP⟩:∃P,(ie (iq u v n) ((-1:Int):Rat) q).P=P:=⟨_,rfl⟩;obtain ⟨M,hM⟩:∃M,(ie (iq u v n) ((-1:Int):Rat) q).M=M:=⟨_,rfl⟩;have hf:=Fw.o;rw [hP,hM] at tl hf;have HZ:Hd (i6 (nv (lim P)) (nv (lim M))=z):=ag (by rw [am,am];exact hf)
    obtain ⟨A3,c3,A4,c4,A5,c5,bk,n1,n2,n3⟩:=tl.ex;have ff:=ag bk;have eE:=ag n1;have FE:=ag n2;have Ez:=ag kp;clear bk n1 n2 n3 tl kp hP hM hf;generalize wc=wr at *;go_upto_region 8 with fail
    go_cut [6] (fun s6 wx=>s6 = .int .i64 z/\Below wr.heap.size wr wx)
    case first=>
     have a7:Hd (∀w',Below wr.heap.size wr w'->(w'.cell? ⟨G,0,none⟩=some (.slice A3 (lim P).length c3)/\w'.cell? ⟨G,1,none⟩=some (.slice A4 (lim M).length c4))):=ag (fun _ bz=>⟨(ff.o.below bz).c0,(ff.o.below bz).c1⟩);refine fR a7 (by kernel_rfl) fun hH=>?_
     have bz:=(ah wr.heap.size wr).drew;generalize wr.drew=wd at *;refine qj 10 fun Ha=>?_
     refine qh Ha 0 (.pointer (some ⟨G,0,none⟩)) rfl ?_;refine qh Ha 1 (.pointer (some ⟨G,0,none⟩)) rfl ?_;refine qh Ha 2 (.pointer (some ⟨G,0,none⟩)) rfl ?_;refine qh Ha 3 (.slice A3 (lim P).length c3) rfl ?_;refine qh Ha 4 (.pointer (some ⟨G,0,none⟩)) rfl ?_;refine qh Ha 5 (.pointer (some ⟨G,0,none⟩)) rfl ?_;refine qh Ha 6 (.pointer (some ⟨G,1,none⟩)) rfl ?_;refine tks Ha 7 (.slice A4 (lim M).length c4) rfl ?_;simp only [tz];refine tk1 Ha 8 rfl fun K hK=>?_;go_simp;go_at_call 82
     refine (fY wd A3 A4 c3 c4 _ _ (lim P) (lim M) z (eE.o.below bz) (FE.o.below bz) rfl rfl HZ.o).mono ?_;rintro e wd ⟨rfl,qt⟩;have bb:=qt.keep;clear qt;replace bz:=qd bz bb;clear bb;refine hK.out _ _ (a7.o _ bz) fun hH=>?_;clear hK K;try simp only [tz]
     refine tk1 Ha 9 rfl fun K hK=>?_;go_simp;refine hK.out _ _ (a7.o _ bz) fun hH=>?_;clear hK K;try simp only [tz]
     refine qp Ha ?_
     go_wp2_with fail;go_meet
     case rel=>exact ⟨rfl,bz⟩
    case rest=>
     obtain ⟨rfl,bb⟩:=hcut;go_wp2_with fail;go_ret;exact ⟨rfl,(aw.o.trans (Ez.o.below (fun a e=>by rw [e];exact Fy.o) aw.o.size)).trans (bb.mono (Nat.le_trans aw.o.size Ez.o.size))⟩
end Go.Proofs.YtkpfbekmaafehaaGreat
