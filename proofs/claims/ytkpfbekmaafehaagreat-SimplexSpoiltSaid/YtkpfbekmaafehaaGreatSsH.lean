/- What totals come to, and how long their numbers are -/
import Derived.Test.YtkpfbekmaafehaaGreatSsC
import Derived.Test.YtkpfbekmaafehaaGreatSpB
import Derived.Deep.CutBlock
import Derived.Deep.DeepCutAuto
import Derived.Deep.RegionHeld3
namespace Go.Proofs.YtkpfbekmaafehaaGreat
open _root_.Go.Proofs.Tryz
set_option maxHeartbeats 8000000
set_option maxRecDepth 100000
theorem vM (a b:Rat):a<b\/a=b\/b<a:=by
 rcases du a b with ⟨h,_⟩|⟨h,_⟩|⟨h,_⟩
 ·exact .inl h
 ·exact .inr (.inl h)
 ·exact .inr (.inr h)
def iq (u v:Nat->Rat):Nat->Tv
 | 0=>⟨0,0,1⟩
 | k+1=>ie (iq u v k) (u k) (v k)
structure vz (t:Tv) (s:Rat) (E K:Nat):Prop where
 d0:0<t.D
 val:((t.P:Rat)-(t.M:Rat))=s*(t.D:Rat)
 dv:t.D∣E
 p:t.P<=K*t.D
 m:t.M<=K*t.D
theorem vU (p:Rat):((p.num.natAbs:Nat):Rat)*(if p.num<0 then -1 else 1)=p*(p.den:Rat):=by
 have h:=dE p;have h:p*(p.den:Rat)=((p.num:Int):Rat):=by rw [Rat.mul_comm];exact h
 rw [h];by_cases h0:p.num<0
 ·rw [if_pos h0];have:((p.num.natAbs:Nat):Int) = - p.num:=by omega
  have h2:((p.num.natAbs:Nat):Rat)=((- p.num:Int):Rat):=by rw [<-this];rfl
  rw [h2,Rat.intCast_neg];grind
 ·rw [if_neg h0];have:((p.num.natAbs:Nat):Int)=p.num:=by omega
  have h2:((p.num.natAbs:Nat):Rat)=((p.num:Int):Rat):=by rw [<-this];rfl
  rw [h2];grind
theorem wN {t:Tv} {s p q:Rat} {E K C:Nat} (h:vz t s E K) (hE:p.den*q.den∣E) (hC:p.num.natAbs*q.num.natAbs<=C):vz (ie t p q) (s+p*q) E (K+C):=by
 by_cases h0:p=0\/q=0
 ·rw [ie,if_pos h0];have hm:=Nat.mul_le_mul_right t.D (show K<=K+C by omega)
  refine ⟨h.d0,?_,h.dv,Nat.le_trans h.p hm,Nat.le_trans h.m hm⟩;have e:s+p*q=s:=by rcases h0 with e|e <;> rw [e] <;> grind
  rw [e];exact h.val
 ·have hd0:=h.d0;have hden:0<p.den*q.den:=Nat.mul_pos p.den_pos q.den_pos;obtain ⟨den,hde⟩:∃z,p.den*q.den=z:=⟨_,rfl⟩;obtain ⟨num,hnu⟩:∃z,p.num.natAbs*q.num.natAbs=z:=⟨_,rfl⟩;obtain ⟨g,hg⟩:∃z,Nat.gcd t.D den=z:=⟨_,rfl⟩;have hg0:0<g:=by rw [<-hg];exact Nat.gcd_pos_of_pos_left _ hd0
  obtain ⟨a,ha⟩:g∣den:=by rw [<-hg];exact Nat.gcd_dvd_right _ _
  obtain ⟨b,hb⟩:g∣t.D:=by rw [<-hg];exact Nat.gcd_dvd_left _ _
  have ea:den/g=a:=by rw [ha];exact Nat.mul_div_cancel_left _ hg0
  have eb:t.D/g=b:=by rw [hb];exact Nat.mul_div_cancel_left _ hg0
  have hlc:t.D*a=Nat.lcm t.D den:=by
   rw [Nat.lcm,hg,Nat.mul_div_assoc _ ⟨a,ha⟩,ea]
  have hbd:t.D*a=b*den:=by rw [hb,ha];grind
  rw [hde] at hE hden;rw [hnu] at hC;have ha0:0<a:=by
   rcases Nat.eq_zero_or_pos a with e|e
   ·rw [e,Nat.mul_zero] at ha;omega
   ·exact e
  have hb0:0<b:=by
   rcases Nat.eq_zero_or_pos b with e|e
   ·rw [e,Nat.mul_zero] at hb;omega
   ·exact e
  have hD0:0<t.D*a:=Nat.mul_pos hd0 ha0;have hdv:t.D*a∣E:=by rw [hlc];exact Nat.lcm_dvd h.dv hE
  have hnb:num*b<=C*(t.D*a):=by
   rw [hbd];exact Nat.mul_le_mul hC (Nat.le_mul_of_pos_right b hden)
  have hP:t.P*a<=K*(t.D*a):=by rw [<-Nat.mul_assoc];exact Nat.mul_le_mul_right a h.p
  have hM:t.M*a<=K*(t.D*a):=by rw [<-Nat.mul_assoc];exact Nat.mul_le_mul_right a h.m
  have eK:(K+C)*(t.D*a)=K*(t.D*a)+C*(t.D*a):=Nat.add_mul _ _ _;have n1:=vU p;have n2:=vU q;have hpq:((num:Nat):Rat)*((if p.num<0 then -1 else 1)*(if q.num<0 then -1 else 1))=p*q*((den:Nat):Rat):=by
   rw [<-hnu,<-hde,Rat.natCast_mul,Rat.natCast_mul];generalize ((p.num.natAbs:Nat):Rat)=x1 at *;generalize ((q.num.natAbs:Nat):Rat)=x2 at *;generalize ((p.den:Nat):Rat)=x3 at *;generalize ((q.den:Nat):Rat)=x4 at *;generalize (if p.num<0 then (-1:Rat) else 1)=x5 at *
   generalize (if q.num<0 then (-1:Rat) else 1)=x6 at *
   grind
  have hbdq:((t.D:Nat):Rat)*((a:Nat):Rat)=((b:Nat):Rat)*((den:Nat):Rat):=by rw [<-Rat.natCast_mul,<-Rat.natCast_mul,hbd]
  have hv:=h.val;rw [ie,if_neg h0];simp only [hde,hnu,hg,ea,eb];by_cases hs:decide (p.num<0)=decide (q.num<0)
  ·rw [if_pos hs];have hs1:((num:Nat):Rat)=p*q*((den:Nat):Rat):=by
    rw [<-hpq];by_cases k1:p.num<0 <;> by_cases k2:q.num<0 <;> simp [k1,k2] at hs|- <;> grind
   refine ⟨hD0,?_,hdv,by rw [eK];exact Nat.add_le_add hP hnb,by rw [eK];exact Nat.le_trans hM (Nat.le_add_right _ _)⟩
   rw [Rat.natCast_add,Rat.natCast_mul,Rat.natCast_mul,Rat.natCast_mul,Rat.natCast_mul,hs1];generalize ((t.P:Nat):Rat)=x1 at *;generalize ((t.M:Nat):Rat)=x2 at *;generalize ((t.D:Nat):Rat)=x3 at *;generalize ((a:Nat):Rat)=x4 at *;generalize ((b:Nat):Rat)=x5 at *;generalize ((den:Nat):Rat)=x6 at *
   grind
  ·rw [if_neg hs];have hs1:((num:Nat):Rat) = - (p*q*((den:Nat):Rat)):=by
    rw [<-hpq];by_cases k1:p.num<0 <;> by_cases k2:q.num<0 <;> simp [k1,k2] at hs|- <;> grind
   refine ⟨hD0,?_,hdv,by rw [eK];exact Nat.le_trans hP (Nat.le_add_right _ _),by rw [eK];exact Nat.add_le_add hM hnb⟩
   rw [Rat.natCast_add,Rat.natCast_mul,Rat.natCast_mul,Rat.natCast_mul,Rat.natCast_mul,hs1];generalize ((t.P:Nat):Rat)=x1 at *;generalize ((t.M:Nat):Rat)=x2 at *;generalize ((t.D:Nat):Rat)=x3 at *;generalize ((a:Nat):Rat)=x4 at *;generalize ((b:Nat):Rat)=x5 at *;generalize ((den:Nat):Rat)=x6 at *
   grind
theorem qV {u v:Nat->Rat} {U V C n:Nat} (hU:∀k,k<n->(u k).den∣U) (hV:∀k,k<n->(v k).den∣V) (hC:∀k,k<n->(u k).num.natAbs*(v k).num.natAbs<=C) :
 ∀k,k<=n->vz (iq u v k) (aj (fun i=>u i*v i) k) (U*V) (k*C):=by
 intro k
 induction k with
 | zero=>intro _;exact ⟨Nat.one_pos,by show ((0:Nat):Rat)-((0:Nat):Rat)=0*_;grind,⟨U*V,(Nat.one_mul _).symm⟩,by show 0<=_;omega,by show 0<=_;omega⟩
 | succ k ih=>
   intro hk;have:=wN (ih (by omega)) (Nat.mul_dvd_mul (hU k (by omega)) (hV k (by omega))) (hC k (by omega))
   rw [<-Nat.succ_mul] at this;exact this
theorem vz.cmp {t:Tv} {s:Rat} {E K:Nat} (h:vz t s E K):i6 t.P t.M=bA s 0:=by
 have hd:(0:Rat)<(t.D:Rat):=by exact_mod_cast h.d0
 have hv:=h.val;unfold i6 bA;rcases Nat.lt_trichotomy t.P t.M with k|k|k
 ·have k':((t.P:Nat):Rat)<((t.M:Nat):Rat):=by exact_mod_cast k
  have hs:s<0:=by
   rcases vM s 0 with e|e|e
   ·exact e
   ·rw [e] at hv;grind
   ·have:=Rat.mul_pos e hd;grind
  rw [if_pos k,if_pos hs]
 ·rw [k] at hv;have hs:s=0:=by
   have h2:s*(t.D:Rat)=0:=by rw [<-hv];grind
   rcases Rat.mul_eq_zero.1 h2 with e|e
   ·exact e
   ·rw [e] at hd;exact absurd hd (Rat.lt_irrefl)
  rw [hs,k];simp
 ·have k':((t.M:Nat):Rat)<((t.P:Nat):Rat):=by exact_mod_cast k
  have hs:0<s:=by
   rcases vM s 0 with e|e|e
   ·have:=Rat.mul_pos (show 0 < -s by grind) hd;grind
   ·rw [e] at hv;grind
   ·exact e
  rw [if_neg (by omega),if_pos k,if_neg (by grind),if_pos hs]
open Go.RowKit
structure Vc (w:World) (G:Nat) (x:Fx):Prop where
 c0:w.cell? ⟨G,0,none⟩=some (.bool x.b)
 c1:w.cell? ⟨G,1,none⟩=some (.slice x.A x.xs.length x.c)
 c2:w.cell? ⟨G,2,none⟩=some (.slice x.D x.ys.length x.d)
theorem Vl.cellsKp {w w':World} {G:Nat} {x:Fx} {q:Rat} {S:Nat->Prop} (h:Vl w G x q) (k:Kp S w w') (hG:¬S G):Vc w' G x:=
 ⟨(k.cell (p:=⟨G,0,none⟩) h.lt hG).trans h.c0,(k.cell (p:=⟨G,1,none⟩) h.lt hG).trans h.c1,(k.cell (p:=⟨G,2,none⟩) h.lt hG).trans h.c2⟩
theorem CZ (w:World) (A:Option Addr) (c D:Nat) (e:TypeId) (h:Nt w A c (lim D)):Tl (w.alloc (.cells #[.slice none 0 0, .slice none 0 0, .slice A (lim D).length c] e)) w.heap.size 0 0 D:=by
 have b:=qb w (.cells #[.slice none 0 0, .slice none 0 0, .slice A (lim D).length c] e);have l0:lim 0 = []:=aV;have hb:(w.alloc (.cells #[.slice none 0 0, .slice none 0 0, .slice A (lim D).length c] e)).heap[w.heap.size]? = some (.cells #[.slice none 0 0, .slice none 0 0, .slice A (lim D).length c] e (0,0)):=heap_alloc_new w _;refine ⟨none,0,none,0,A,c,?_,by rw [l0];exact Nt.nil _ _ _ (by omega),by rw [l0];exact Nt.nil _ _ _ (by omega),h.below b⟩
 rw [l0];exact ⟨by go_simp,by go_simp,by go_simp,by go_simp,by go_simp,by go_simp,by simp,_,_,hb⟩
theorem Be {u v:Nat->Rat} {U V n:Nat} (hU:∀k,k<n->(u k).den∣U) (hV:∀k,k<n->(v k).den∣V) (su:∀k,k<n->Sz (u k) 32 32) (sv:∀k,k<n->Sz (v k) 32 32) (lU:(lim U).length<=32) (lV:(lim V).length<=32) (hU0:0<U) (hV0:0<V) (hn:n<=1000) (k:Nat) (hk:k<=n) :
 0<(iq u v k).D/\(lim (iq u v k).P).length<=130/\(lim (iq u v k).M).length<=130/\(lim (iq u v k).D).length<=100:=by
 have hC:∀k,k<n->(u k).num.natAbs*(v k).num.natAbs<=pw 64:=fun k hk=>by
  have h1:=(aA (u k).num.natAbs 32).1 (su k hk).1;have h2:=(aA (v k).num.natAbs 32).1 (sv k hk).1;have h3:=Nat.mul_le_mul (Nat.le_of_lt h1) (Nat.le_of_lt h2);rw [<-jz] at h3;exact h3
 have t:=qV hU hV hC k hk;have hD:(iq u v k).D<=U*V:=Nat.le_of_dvd (Nat.mul_pos hU0 hV0) t.dv;have lD:(lim (iq u v k).D).length<=64:=Nat.le_trans (ao hD) (aO lU lV);have lk:(lim (k*pw 64)).length<=66:=by
  rw [aA,show 66=1+65 from rfl,jz];have h1:k<pw 1:=by rw [mF];omega
  have h2:pw 64<pw 65:=pw_lt (by omega)
  exact Nat.lt_of_le_of_lt (Nat.mul_le_mul_right _ (Nat.le_of_lt h1)) (Nat.mul_lt_mul_of_pos_left h2 (gE 1))
 have lK:=aO lk lD;exact ⟨t.d0,Nat.le_trans (ao t.p) (by omega),Nat.le_trans (ao t.m) (by omega),by omega⟩
theorem jr (w:World) (A1 A2:Option Addr) (c c2:Nat) (us vs:List Fx) (x:Fx) (u v:Nat->Rat) (q:Rat) (z:Int) (U V n:Nat) (hu:Cl w A1 us u) (hv:Cl w A2 vs v) (hx:El w x q) (hul:us.length=n) (hvl:vs.length=n) (hn:n<=1000)
 (su:∀k,k<n->Sz (u k) 32 32) (sv:∀k,k<n->Sz (v k) 32 32) (sx:Sz q 60 60) (hU:∀k,k<n->(u k).den∣U) (hV:∀k,k<n->(v k).den∣V) (lU:(lim U).length<=32) (lV:(lim V).length<=32) (hU0:0<U) (hV0:0<V) (hz:bA (aj (fun i=>u i*v i) n-q) 0=z) :
 Calls prog 41 #[.slice A1 n c, .slice A2 n c2,x.val] w fun e w'=>e = .returned (.int .i64 z)/\Below w.heap.size w w':=by
 have F5:=ag (Be hU hV su sv lU lV hU0 hV0 hn);have Hn:Hd (i6 (ie (iq u v n) ((-1:Int):Rat) q).P (ie (iq u v n) ((-1:Int):Rat) q).M=z):=ag (by
  have hC:∀k,k<n->(u k).num.natAbs*(v k).num.natAbs<=pw 64:=fun k hk=>by
   have h1:=(aA (u k).num.natAbs 32).1 (su k hk).1;have h2:=(aA (v k).num.natAbs 32).1 (sv k hk).1;have h3:=Nat.mul_le_mul (Nat.le_of_lt h1) (Nat.le_of_lt h2);rw [<-jz] at h3;exact h3
  have t:=qV hU hV hC n (Nat.le_refl n);have t1:vz (iq u v n) (aj (fun i=>u i*v i) n) (U*V*(((-1:Int):Rat).den*q.den)) (n*pw 64):=⟨t.d0,t.val,Nat.dvd_trans t.dv (Nat.dvd_mul_right _ _),t.p,t.m⟩;have t2:=wN t1 (Nat.dvd_mul_left _ _) (Nat.le_refl _);rw [t2.cmp,<-hz]
  congr 1
  have:((-1:Int):Rat) = -1:=rfl;rw [this];grind)
 have Ha:=ag su;have yc:=ag sv;have yq:=ag sx;have Ex:=ag hu;have F6:=ag hv;have kq:=ag hx;have BR:=ag hul;have cw:=ag hvl;clear hu hv hx hul hvl su sv sx hU hV lU lV hU0 hV0 hz;go_enter func41,ntmps41;go_upto_region 1 with fail;have v5:Vl (w.alloc (.cells x.cells 29)) w.heap.size x q:=⟨(au kq.o.ok).1,kq.o.rp⟩;have bw:=(au kq.o.ok).2;generalize (w.alloc (.cells #[.bool x.b, .slice x.A x.xs.length x.c, .slice x.D x.ys.length x.d] 29))=wm at v5 bw|-;obtain ⟨g5,hg5⟩:∃g,w.heap.size=g:=⟨_,rfl⟩;have x8:=ag hg5;rw [hg5] at v5|-;clear hg5;go_wp2_with fail;refine (jB wm 1 (by omega)).mono ?_
 rintro e wn ⟨A9,c9,rfl,n9,bb⟩;replace v5:=v5.below bb;replace bw:=qc bw bb;clear bb;go_upto_region 2 with fail;have tl:=CZ wn A9 c9 1 113 n9;have bb:=qb wn (.cells #[.slice none 0 0, .slice none 0 0, .slice A9 (lim 1).length c9] 113);have cH:Hd (NL (wn.alloc (.cells #[.slice none 0 0, .slice none 0 0, .slice A9 (lim 1).length c9] 113)) wn.heap.size):=ag ⟨_,_,heap_alloc_new wn _,fun u hu=>by
  simp only [List.mem_cons,List.not_mem_nil,or_false] at hu;rcases hu with rfl|rfl|rfl <;> rfl⟩
 have pa:Hd (¬g5=wn.heap.size):=ag (by have:=v5.lt;omega)
 have Ho:Hd (w.heap.size<=wn.heap.size):=ag bw.size;have hne:∀ {A:Option Addr} {vs:List Fx},RdF w A vs->0<vs.length->∀ad,A=some ad->¬ad.block=wn.heap.size:=fun h hn ad e=>by
  obtain ⟨ad',e',hl,_⟩:=h hn;rw [e] at e';injection e' with e';subst e';have:=bw.size;omega
 have F7:=ag (hne Ex.o.rd);have F8:=ag (hne F6.o.rd);have bO:=ag (v5.below bb);have an:=ag (qc bw bb);clear v5 bw n9 bb hne;generalize (wn.alloc (.cells #[.slice none 0 0, .slice none 0 0, .slice A9 (lim 1).length c9] 113))=w5 at *;generalize wn.heap.size=G at *;have Hp:=ag (Ex.o.below an.o);have Hq:=ag (F6.o.below an.o);have hnl:∀a,a=G->NL w5 a:=fun a e=>by rw [e];exact cH.o
 have sM:=ag hnl;clear hnl;go_wp2_with fail;go_loopw [14] (fun iv wr=>∃k:Nat,k<=n/\iv = .int .i64 k/\Tl wr G (iq u v k).P (iq u v k).M (iq u v k).D/\Kp (fun a=>a=G) w5 wr) (fun iv _=>n-(intOf iv).toNat)
 case atStart=>exact ⟨0,by omega,rfl,tl,Kp.refl _ _⟩
 case round=>
  clear tl;obtain ⟨k,hk,rfl,tl,kp⟩:=hrel;by_cases hlt:k<n
  ·have bt:=ag tl;have aw:=ag kp;obtain ⟨ad1,rfl,xu,fu,eu⟩:=(Hp.o.kp kp sM.o F7.o).at (k:=k) (by rw [BR.o];exact hlt)
   obtain ⟨ad2,rfl,xv,fv,ev⟩:=(Hq.o.kp kp sM.o F8.o).at (k:=k) (by rw [cw.o];exact hlt)
   have AU:=ag fu;have oy:=ag fv;have Hr:=ag eu;have a8:=ag ev;have F9:Hd (¬(ad1.add (k*3)).block=G/\¬(ad2.add (k*3)).block=G):=ag ⟨by rw [aM];exact F7.o (by rw [BR.o];omega) ad1 rfl,by rw [aM];exact F8.o (by rw [cw.o];omega) ad2 rfl⟩
   have Hs:Hd (Sz (u k) 60 60):=ag ((Ha.o k hlt).mono (by omega) (by omega))
   have Ht:Hd (Sz (v k) 60 60):=ag ((yc.o k hlt).mono (by omega) (by omega))
   obtain ⟨hb0,hb1,hb2,hb3⟩:=F5.o k hk;have gF:=ag hb0;have ff:=ag hb1;have ms:=ag hb2;have yA:=ag hb3;clear tl kp fu fv eu ev hb0 hb1 hb2 hb3;go_upto_region 5 with fail;refine wp_region_held_drew (S:=fun w'=>w'.cell? (ad1.add (k*3))=some (.bool xu.b)/\w'.cell? ⟨(ad1.add (k*3)).block,(ad1.add (k*3)).off+1,none⟩=some (.slice xu.A xu.xs.length xu.c)/\w'.cell? ⟨(ad1.add (k*3)).block,(ad1.add (k*3)).off+2,none⟩=some (.slice xu.D xu.ys.length xu.d)/\w'.cell? (ad2.add (k*3))=some (.bool xv.b)/\w'.cell? ⟨(ad2.add (k*3)).block,(ad2.add (k*3)).off+1,none⟩=some (.slice xv.A xv.xs.length xv.c)/\w'.cell? ⟨(ad2.add (k*3)).block,(ad2.add (k*3)).off+2,none⟩=some (.slice xv.D xv.ys.length xv.d)) (by kernel_rfl) ⟨(AU.o.below ((ah wr.heap.size wr).drew)).c0,(AU.o.below ((ah wr.heap.size wr).drew)).c1,(AU.o.below ((ah wr.heap.size wr).drew)).c2,(oy.o.below ((ah wr.heap.size wr).drew)).c0,(oy.o.below ((ah wr.heap.size wr).drew)).c1,(oy.o.below ((ah wr.heap.size wr).drew)).c2⟩ fun hH=>?_
   have bz:=(ah wr.heap.size wr).drew;generalize wr.drew=wd at *;refine qh 10 fun Ha=>?_
   refine qe Ha 0 (.pointer (some ⟨G,0,none⟩)) rfl ?_;refine qe Ha 1 (.slice (some ad1) n c) rfl ?_;refine qe Ha 2 (.int .i64 (k:Int)) rfl ?_;refine qe Ha 3 (.pointer (some (ad1.add (k*3)))) rfl ?_;refine qe Ha 4 (xu.val) rfl ?_;refine qe Ha 5 (.slice (some ad2) n c2) rfl ?_;refine qe Ha 6 (.int .i64 (k:Int)) rfl ?_;refine qe Ha 7 (.pointer (some (ad2.add (k*3)))) rfl ?_;refine tks Ha 8 (xv.val) rfl ?_;simp only [tz];refine tk1 Ha 9 rfl fun K hK=>?_;go_simp
   go_at_call 81;refine (sW wd G (iq u v k) xu xv (u k) (v k) (bt.o.below bz) (Hr.o.below bz) (a8.o.below bz) Hs.o Ht.o ff.o ms.o yA.o gF.o).mono ?_;rintro e we ⟨rfl,t9,k9⟩;have p5:=(aw.o.then bz).trans k9
   have u9:=(AU.o.below bz).kp k9 F9.o.1;have v9:=(oy.o.below bz).kp k9 F9.o.2;clear hH bz k9;generalize we=wd at *;refine hK.out _ _ (by first|exact ⟨u9.c0,u9.c1,u9.c2,v9.c0,v9.c1,v9.c2⟩|exact ⟨(AU.o.below bz).c0,(AU.o.below bz).c1,(AU.o.below bz).c2,(oy.o.below bz).c0,(oy.o.below bz).c1,(oy.o.below bz).c2⟩) fun hH=>?_;clear hK K;try simp only [tz]
   refine qp Ha ?_
   go_wp2_with fail;go_roundw
   case rel=>exact ⟨k+1,by omega,by go_num,t9,p5⟩
   case measure=>simp [intOf];omega
  ·obtain rfl:n=k:=by omega
   obtain ⟨hb0,hb1,hb2,hb3⟩:=F5.o n (Nat.le_refl n);have gF:=ag hb0;have ff:=ag hb1;have ms:=ag hb2;have yA:=ag hb3;have bt:=ag tl;have aw:=ag kp;replace bO:=ag (bO.o.kp kp sM.o pa.o);have br:Hd (Sz ((-1:Int):Rat) 60 60):=ag (iN (z := -1) (by omega))
   clear tl kp hb0 hb1 hb2 hb3;go_upto_region 7 with fail
   go_cut [] (fun wx=>Tl wx G (ie (iq u v n) ((-1:Int):Rat) q).P (ie (iq u v n) ((-1:Int):Rat) q).M (ie (iq u v n) ((-1:Int):Rat) q).D/\Kp (fun a=>a=G) w5 wx)
   case first=>
    refine wp_region_held_drew (S:=fun w'=>w'.cell? ⟨g5,0,none⟩=some (.bool x.b)/\w'.cell? ⟨g5,1,none⟩=some (.slice x.A x.xs.length x.c)/\w'.cell? ⟨g5,2,none⟩=some (.slice x.D x.ys.length x.d)) (by kernel_rfl) ⟨(bO.o.below ((ah wr.heap.size wr).drew)).c0,(bO.o.below ((ah wr.heap.size wr).drew)).c1,(bO.o.below ((ah wr.heap.size wr).drew)).c2⟩ fun hH=>?_
    have bz:=(ah wr.heap.size wr).drew;generalize wr.drew=wd at *;refine qh 4 fun Ha=>?_
    refine qe Ha 0 (.pointer (some ⟨G,0,none⟩)) rfl ?_;refine tks Ha 2 (x.val) rfl ?_;simp only [tz];refine tk1 Ha 1 rfl fun K hK=>?_;go_simp;go_at_call 43;refine (dk wd (-1) (by omega) (by omega)).mono ?_
    rintro e wd ⟨xm,rfl,em,bb⟩;replace bz:=qc bz bb;clear bb;refine hK.out _ _ (by first|exact ⟨v9.c0,v9.c1,v9.c2⟩|exact ⟨(bO.o.below bz).c0,(bO.o.below bz).c1,(bO.o.below bz).c2⟩) fun hH=>?_;clear hK K;try simp only [tz]
    refine tk1 Ha 3 rfl fun K hK=>?_;go_simp;go_at_call 81;refine (sW wd G (iq u v n) xm x ((-1:Int):Rat) q (bt.o.below bz) em (bO.o.below bz).el br.o yq.o ff.o ms.o yA.o gF.o).mono ?_;rintro e we ⟨rfl,t9,k9⟩;have p5:=(aw.o.then bz).trans k9
    have v9:=(bO.o.below bz).cellsKp k9 pa.o;clear hH bz k9 em;generalize we=wd at *;refine hK.out _ _ (by first|exact ⟨v9.c0,v9.c1,v9.c2⟩|exact ⟨(bO.o.below bz).c0,(bO.o.below bz).c1,(bO.o.below bz).c2⟩) fun hH=>?_;clear hK K;try simp only [tz]
    refine qp Ha ?_
    go_wp2_with fail;go_meet
    case rel=>exact ⟨t9,p5⟩
   case rest=>
    obtain ⟨tl,kp⟩:=hcut;obtain ⟨P,hP⟩:∃P,(ie (iq u v n) ((-1:Int):Rat) q).P=P:=⟨_,rfl⟩;obtain ⟨M,hM⟩:∃M,(ie (iq u v n) ((-1:Int):Rat) q).M=M:=⟨_,rfl⟩;have hf:=Hn.o;rw [hP,hM] at tl hf;have HZ:Hd (i6 (nv (lim P)) (nv (lim M))=z):=ag (by rw [am,am];exact hf)
    obtain ⟨A3,c3,A4,c4,A5,c5,bk,n1,n2,n3⟩:=tl.ex;have fy:=ag bk;have fn:=ag n1;have Hu:=ag n2;have Ga:=ag kp;clear bk n1 n2 n3 tl kp hP hM hf;generalize wc=wr at *;go_upto_region 8 with fail
    go_cut [6] (fun s6 wx=>s6 = .int .i64 z/\Below wr.heap.size wr wx)
    case first=>
     have aH:Hd (∀w',Below wr.heap.size wr w'->(w'.cell? ⟨G,0,none⟩=some (.slice A3 (lim P).length c3)/\w'.cell? ⟨G,1,none⟩=some (.slice A4 (lim M).length c4))):=ag (fun _ bz=>⟨(fy.o.below bz).c0,(fy.o.below bz).c1⟩);refine fR aH (by kernel_rfl) fun hH=>?_
     have bz:=(ah wr.heap.size wr).drew;generalize wr.drew=wd at *;refine qh 10 fun Ha=>?_
     refine qe Ha 0 (.pointer (some ⟨G,0,none⟩)) rfl ?_;refine qe Ha 1 (.pointer (some ⟨G,0,none⟩)) rfl ?_;refine qe Ha 2 (.pointer (some ⟨G,0,none⟩)) rfl ?_;refine qe Ha 3 (.slice A3 (lim P).length c3) rfl ?_;refine qe Ha 4 (.pointer (some ⟨G,0,none⟩)) rfl ?_;refine qe Ha 5 (.pointer (some ⟨G,0,none⟩)) rfl ?_;refine qe Ha 6 (.pointer (some ⟨G,1,none⟩)) rfl ?_;refine tks Ha 7 (.slice A4 (lim M).length c4) rfl ?_;simp only [tz];refine tk1 Ha 8 rfl fun K hK=>?_;go_simp;go_at_call 82
     refine (fY wd A3 A4 c3 c4 _ _ (lim P) (lim M) z (fn.o.below bz) (Hu.o.below bz) rfl rfl HZ.o).mono ?_;rintro e wd ⟨rfl,qt⟩;have bb:=qt.keep;clear qt;replace bz:=qc bz bb;clear bb;refine hK.out _ _ (aH.o _ bz) fun hH=>?_;clear hK K;try simp only [tz]
     refine tk1 Ha 9 rfl fun K hK=>?_;go_simp;refine hK.out _ _ (aH.o _ bz) fun hH=>?_;clear hK K;try simp only [tz]
     refine qp Ha ?_
     go_wp2_with fail;go_meet
     case rel=>exact ⟨rfl,bz⟩
    case rest=>
     obtain ⟨rfl,bb⟩:=hcut;go_wp2_with fail;go_ret;exact ⟨rfl,(an.o.trans (Ga.o.below (fun a e=>by rw [e];exact Ho.o) an.o.size)).trans (bb.mono (Nat.le_trans an.o.size Ga.o.size))⟩
theorem oH (w:World) (N:Nat) (hN:N<=1000) :
 Calls prog 42 #[.int .i64 (N:Int)] w fun e w'=>∃(g:Nat) (vs:List Fx),vs.length=N/\e = .returned (.slice (some ⟨g,0,none⟩) N N)/\Os w' w.heap.size ⟨some ⟨g,0,none⟩,N,vs⟩ N (fun _=>0)/\Below w.heap.size w w':=by
 have zc:Hd (∀w2,Below w.heap.size w w2->True):=ag (fun _ _=>trivial);obtain ⟨i1,hi,hi0,hi1,hi2⟩:=info_parts dr;go_enter func42,ntmps42;go_upto_region 2 with (refine wpList_make_full w rfl _ _ 22 rfl w.heap.size 29 i1 Fx.nil.val 3 underlying22 hi hi0 hi1 .i64 .i64 _ _ N rfl rfl (by omega) (by omega) (by rw [hi2];omega) (by simp only [maxLen];omega) (Nat.le_refl _) ?_;intro w2 hg2 hb2)
 have b12:Below w.heap.size w w2:=(ah _ _).grown hb2 (Nat.le_refl _) (by intro k hk;cases hk)
 have ou:Ou w2 w.heap.size w.heap.size N (fun a=>a<0) (fun _=>0):=by
  refine ⟨List.replicate N Fx.nil,⟨?_,fun v hv=>by rw [List.eq_of_mem_replicate hv];exact Fx.nil_ok _⟩,by simp,fun _ _ h=>absurd h (Nat.not_lt_zero _)⟩
  unfold Fr;rw [List.length_replicate,<-dm];exact hg2
 have fm:Hd (w.heap.size<=w2.heap.size):=ag b12.size;have wX:=ag (zc.o w2 b12);have mD:Hd (NL w2 w.heap.size):=ag ou.nl;have m4:=ag b12;clear hg2 hb2 b12 hi hi0 hi1 hi2;generalize hg:w.heap.size=g at *;have dn:Hd (w.heap.size<=g):=ag (Nat.le_of_eq hg);have iw:=ag hg;clear hg;go_wp2_with fail;go_loopw [9] (fun iv wr=>∃k:Nat,k<=N/\iv = .int .i64 k/\Ou wr g g N (fun a=>a<k) (fun _=>0)/\Kp (fun a=>a=g) w2 wr) (fun iv _=>N-(intOf iv).toNat)
 case atStart=>exact ⟨0,by omega,rfl,ou,Kp.refl _ _⟩
 case round=>
  clear ou;obtain ⟨k,hk,rfl,ou,kp⟩:=hrel;by_cases hlt:k<N
  ·have bf:=ag ou;have aw:=ag kp;clear ou kp;go_wp2_with fail;refine (dO wr).mono ?_;rintro e w5 ⟨y,rfl,el,bb⟩;obtain ⟨v,k0,k1,k2,ax,aF,aG⟩:=(bf.o.below bb).slot hlt;go_wp2_with fail;have t6:=(bf.o.below bb).put (i:=k) el;go_roundw
   case rel=>exact ⟨k+1,by omega,by go_num,t6.1.mono (fun a _ ha=>by omega) (fun a _ _=>by by_cases hak:a=k <;> simp [hak]),(aw.o.then bb).trans t6.2⟩
   case measure=>simp [intOf];omega
  ·obtain rfl:N=k:=by omega
   obtain ⟨vs,hvl,os⟩:=(ou.mono (D':=fun _=>True) (fun a ha _=>ha) (fun _ _ _=>rfl)).os;go_wp2_with fail;go_ret;exact ⟨g,vs,hvl,rfl,by rw [iw.o];exact os,by rw [iw.o];exact kp.up' m4.o (Nat.le_refl _) fm.o⟩
theorem dD (w:World) (s:Sl) (N:Nat) (h:s.ok w) (hN:s.vs.length=N) (hl:N<=1000) (hs:∀v∈s.vs,v.xs.length<=10000/\v.ys.length<=10000) (hv:∀v∈s.vs,v.v) :
 Calls prog 38 #[.slice s.A N s.c] w fun e w'=>∃(g:Nat) (vs:List Fx),vs.length=N/\e = .returned (.slice (some ⟨g,0,none⟩) N N)/\Os w' w.heap.size ⟨some ⟨g,0,none⟩,N,vs⟩ N (fxV s.vs)/\Below w.heap.size w w':=by
 have HS:=ag h;have br:=ag hs;have Fb:=ag hv;obtain ⟨A,c,us⟩:=s;have HN:Hd (us.length=N):=ag hN;clear h hs hv hN
 show Calls prog 38 #[.slice A N c] w _
 have zc:Hd (∀w2,Below w.heap.size w w2->RdF w2 A us/\∀v∈us,v.ok w2):=ag (fun w2 b=>⟨HS.o.rd.below b,fun v hv=>(HS.o.el v hv).below b⟩);obtain ⟨i1,hi,hi0,hi1,hi2⟩:=info_parts dr;go_enter func38,ntmps38;go_upto_region 2 with (refine wpList_make_full w rfl _ _ 22 rfl w.heap.size 29 i1 Fx.nil.val 3 underlying22 hi hi0 hi1 .i64 .i64 _ _ N rfl rfl (by omega) (by omega) (by rw [hi2];omega) (by simp only [maxLen];omega) (Nat.le_refl _) ?_;intro w2 hg2 hb2)
 have b12:Below w.heap.size w w2:=(ah _ _).grown hb2 (Nat.le_refl _) (by intro k hk;cases hk)
 have ou:Ou w2 w.heap.size w.heap.size N (fun a=>a<0) (fxV us):=by
  refine ⟨List.replicate N Fx.nil,⟨?_,fun v hv=>by rw [List.eq_of_mem_replicate hv];exact Fx.nil_ok _⟩,by simp,fun _ _ h=>absurd h (Nat.not_lt_zero _)⟩
  unfold Fr;rw [List.length_replicate,<-dm];exact hg2
 have fm:Hd (w.heap.size<=w2.heap.size):=ag b12.size;have wX:=ag (zc.o w2 b12);have mD:Hd (NL w2 w.heap.size):=ag ou.nl;have m4:=ag b12;clear hg2 hb2 b12 hi hi0 hi1 hi2;generalize hg:w.heap.size=g at *;have dn:Hd (w.heap.size<=g):=ag (Nat.le_of_eq hg);have iw:=ag hg;clear hg;have HA:Hd (0<us.length->∀ad,A=some ad->¬ad.block=g):=ag (fun hn ad e=>by
  obtain ⟨ad',e',hl,_⟩:=HS.o.rd hn;rw [show (Sl.mk A c us).A=A from rfl,e] at e';injection e' with e';subst e';have:=dn.o;omega)
 go_wp2_with fail;go_loopw [11] (fun iv wr=>∃k:Nat,k<=N/\iv = .int .i64 k/\Ou wr g g N (fun a=>a<k) (fxV us)/\Kp (fun a=>a=g) w2 wr) (fun iv _=>N-(intOf iv).toNat)
 case atStart=>exact ⟨0,by omega,rfl,ou,Kp.refl _ _⟩
 case round=>
  clear ou;obtain ⟨k,hk,rfl,ou,kp⟩:=hrel;by_cases hlt:k<N
  ·have hkl:k<us.length:=by rw [HN.o];exact hlt
   have hnl:∀a,a=g->NL w2 a:=fun a e=>by rw [e];exact mD.o
   obtain ⟨ad,rfl,ef⟩:=(kp.rdf wX.o.1 HA.o).at k hkl;have hme:=List.getElem_mem hkl;have ok:=kp.ok (wX.o.2 _ hme) hnl;have HL:=ag (br.o _ hme);have lv:Hd (gz us[k]=okS us[k].q):=ag (gp (Fb.o _ hme));have xj:Hd (fxV us k=us[k].q):=ag (ku hkl);obtain ⟨x,hx⟩:∃x,us[k]=x:=⟨_,rfl⟩;have ef0:Ef wr (ad.add (k*3)) us[k]:=ef;rw [hx] at ef0 ok HL lv xj;have d0:=ef0.c0;have d1:=ef0.c1;have d2:=ef0.c2;have bf:=ag ou;have aw:=ag kp;clear hx ef ef0 ou kp hme hnl;go_upto_region 5 with fail;have a1:=(au ok).1;have bb:=(au ok).2;replace bf:=ag (bf.o.below bb);replace aw:=ag (aw.o.then bb)
   clear d0 d1 d2 ok bb;generalize (wr.alloc (.cells #[.bool x.b, .slice x.A x.xs.length x.c, .slice x.D x.ys.length x.d] 29))=wm at a1 bf aw|-;generalize wr.heap.size=g5 at a1|-;have d0:=a1.c0;have d1:=a1.c1;have d2:=a1.c2;have OK:=ag a1.ok;clear a1;go_wp2_with fail;refine (dZ wm x _ OK.o HL.o.1 HL.o.2 lv.o).mono ?_;rintro e wn ⟨y,rfl,hs1,ok1,bb⟩;replace bf:=ag (bf.o.below bb);replace aw:=ag (aw.o.then bb)
   have ub:Hd (El wn y (fxV us k)):=ag ⟨ok1,by rw [xj.o];exact Rp.of hs1⟩
   obtain ⟨v,k0,k1,k2,ax,aF,aG⟩:=bf.o.slot hlt;clear d0 d1 d2 bb hs1 ok1;go_wp2_with fail;have t6:=bf.o.put (i:=k) ub.o;go_roundw
   case rel=>exact ⟨k+1,by omega,by go_num,t6.1.mono (fun a _ ha=>by omega) (fun a _ _=>by by_cases hak:a=k <;> simp [hak]),aw.o.trans t6.2⟩
   case measure=>simp [intOf];omega
  ·obtain rfl:N=k:=by omega
   obtain ⟨vs,hvl,os⟩:=(ou.mono (D':=fun _=>True) (fun a ha _=>ha) (fun _ _ _=>rfl)).os;go_wp2_with fail;go_ret;exact ⟨g,vs,hvl,rfl,by rw [iw.o];exact os,by rw [iw.o];exact kp.up' m4.o (Nat.le_refl _) fm.o⟩
structure Ck (w:World) (G n m:Nat) (a:Nat->Nat->Rat) (b c:Nat->Rat) (cs rs:Sl) (A:Option Addr) (ca:Nat) (rows:List Sl):Prop where
 c0:w.cell? ⟨G,0,none⟩=some (.slice cs.A n cs.c)
 c1:w.cell? ⟨G,1,none⟩=some (.slice rs.A m rs.c)
 c2:w.cell? ⟨G,2,none⟩=some (.slice A m ca)
 lt:G<w.heap.size
 cc:Cl w cs.A cs.vs c
 cb:Cl w rs.A rs.vs b
 lc:cs.vs.length=n
 lb:rs.vs.length=m
 rd:Rd Sl.val w A rows
 lr:rows.length=m
 row:∀i (h:i<rows.length),Cl w rows[i].A rows[i].vs (a i)/\rows[i].vs.length=n
theorem Ck.below {w w':World} {G n m:Nat} {a:Nat->Nat->Rat} {b c:Nat->Rat} {cs rs:Sl} {A:Option Addr} {ca:Nat} {rows:List Sl} (h:Ck w G n m a b c cs rs A ca rows) (hb:Below w.heap.size w w'):Ck w' G n m a b c cs rs A ca rows:=
 ⟨(hb.cell (p:=⟨G,0,none⟩) h.lt).trans h.c0,(hb.cell (p:=⟨G,1,none⟩) h.lt).trans h.c1,(hb.cell (p:=⟨G,2,none⟩) h.lt).trans h.c2,Nat.lt_of_lt_of_le h.lt hb.size,h.cc.below hb,h.cb.below hb,h.lc,h.lb,h.rd.below hb rfl,h.lr,fun i hi=>⟨(h.row i hi).1.below hb,(h.row i hi).2⟩⟩
theorem sT (w:World) (G n m j:Nat) (a:Nat->Nat->Rat) (b c:Nat->Rat) (cs rs:Sl) (A:Option Addr) (ca:Nat) (rows:List Sl) (h:Ck w G n m a b c cs rs A ca rows) (hj:j<n) (_:n<=1000) (hm:m<=1000) :
 Calls prog 80 #[.pointer (some ⟨G,0,none⟩), .int .i64 (j:Int)] w fun e w'=>∃(g:Nat) (vs:List Fx),vs.length=m/\e = .returned (.slice (some ⟨g,0,none⟩) m m)/\Os w' w.heap.size ⟨some ⟨g,0,none⟩,m,vs⟩ m (fun i=>a i j)/\Below w.heap.size w w':=by
 have HK:=ag h;have c2:=h.c2;have sL:=ag h.lr;have ia:=ag h.lt;clear h;have zc:Hd (∀w2,Below w.heap.size w w2->Ck w2 G n m a b c cs rs A ca rows):=ag (fun w2 b=>HK.o.below b);obtain ⟨i1,hi,hi0,hi1,hi2⟩:=info_parts dr;go_enter func80,ntmps80;go_upto_region 2 with (refine wpList_make_full w rfl _ _ 22 rfl w.heap.size 29 i1 Fx.nil.val 3 underlying22 hi hi0 hi1 .i64 .i64 _ _ m rfl rfl (by omega) (by omega) (by rw [hi2];omega) (by simp only [maxLen];omega) (Nat.le_refl _) ?_;intro w2 hg2 hb2)
 have b12:Below w.heap.size w w2:=(ah _ _).grown hb2 (Nat.le_refl _) (by intro k hk;cases hk)
 have ou:Ou w2 w.heap.size w.heap.size m (fun a=>a<0) (fun i=>a i j):=by
  refine ⟨List.replicate m Fx.nil,⟨?_,fun v hv=>by rw [List.eq_of_mem_replicate hv];exact Fx.nil_ok _⟩,by simp,fun _ _ h=>absurd h (Nat.not_lt_zero _)⟩
  unfold Fr;rw [List.length_replicate,<-dm];exact hg2
 have fm:Hd (w.heap.size<=w2.heap.size):=ag b12.size;have wX:=ag (zc.o w2 b12);have mD:Hd (NL w2 w.heap.size):=ag ou.nl;have m4:=ag b12;clear hg2 hb2 b12 hi hi0 hi1 hi2;generalize hg:w.heap.size=g at *;have dn:Hd (w.heap.size<=g):=ag (Nat.le_of_eq hg);have iw:=ag hg;clear hg;clear c2;have c2:=wX.o.c2;have i8:Hd (0<rows.length->∀ad,A=some ad->¬ad.block=g):=ag (fun hn ad e=>by
  obtain ⟨ad',e',hl,_⟩:=HK.o.rd hn;rw [e] at e';injection e' with e';subst e';have:=dn.o;omega)
 have Hv:Hd (∀i (h:i<rows.length),0<rows[i].vs.length->∀ad,rows[i].A=some ad->¬ad.block=g):=ag (fun i hi hn ad e=>by
  obtain ⟨ad',e',hl,_⟩:=(HK.o.row i hi).1.rd hn;rw [e] at e';injection e' with e';subst e';have:=dn.o;omega)
 go_wp2_with fail;clear c2;go_loopw [19] (fun iv wr=>∃k:Nat,k<=m/\iv = .int .i64 k/\Ou wr g g m (fun a=>a<k) (fun i=>a i j)/\Kp (fun a=>a=g) w2 wr) (fun iv _=>m-(intOf iv).toNat)
 case atStart=>exact ⟨0,by omega,rfl,ou,Kp.refl _ _⟩
 case round=>
  clear ou;obtain ⟨k,hk,rfl,ou,kp⟩:=hrel;by_cases hlt:k<m
  ·have hkl:k<rows.length:=by rw [sL.o];exact hlt
   have hnl:∀a,a=g->NL w2 a:=fun a e=>by rw [e];exact mD.o
   obtain ⟨ad0,rfl,_,hc⟩:=(kp.rd wX.o.rd i8.o) (by omega)
   have hcj:=hc k hkl;have hrow:=wX.o.row k hkl;have hcl:=hrow.1.kp kp hnl (Hv.o k hkl);have hlen:=hrow.2;obtain ⟨s,hs⟩:∃s,rows[k]=s:=⟨_,rfl⟩;rw [hs] at hcj hcl hlen;have hcs:wr.cell? (ad0.add k)=some (.slice s.A n s.c):=by rw [<-hlen];exact hcj
   obtain ⟨ad,hsa,x,ef,el⟩:=hcl.at (k:=j) (by rw [hlen];exact hj)
   rw [hsa] at hcs;have d0:=ef.c0;have d1:=ef.c1;have d2:=ef.c2;have ub:=ag el;have bf:=ag ou;have aw:=ag kp;obtain ⟨v,k0,k1,k2,ax,aF,aG⟩:=ou.slot hlt;clear hc hcj hrow hcl hlen hs hsa ef el ou kp hnl;go_wp2_with fail;have t6:=bf.o.put (i:=k) ub.o;go_roundw
   case rel=>exact ⟨k+1,by omega,by go_num,t6.1.mono (fun a _ ha=>by omega) (fun a _ _=>by by_cases hak:a=k <;> simp [hak]),aw.o.trans t6.2⟩
   case measure=>simp [intOf];omega
  ·obtain rfl:m=k:=by omega
   obtain ⟨vs,hvl,os⟩:=(ou.mono (D':=fun _=>True) (fun a ha _=>ha) (fun _ _ _=>rfl)).os;go_wp2_with fail;go_ret;exact ⟨g,vs,hvl,rfl,by rw [iw.o];exact os,by rw [iw.o];exact kp.up' m4.o (Nat.le_refl _) fm.o⟩
structure Pz (n m:Nat) (a:Nat->Nat->Rat) (b c:Nat->Rat) (U:Nat):Prop where
 sa:∀i,i<m->∀j,j<n->Sz (a i j) 32 32/\(a i j).den∣U
 sb:∀i,i<m->Sz (b i) 32 32/\(b i).den∣U
 sc:∀j,j<n->Sz (c j) 32 32/\(c j).den∣U
 u0:0<U
 ul:(lim U).length<=32
structure Mz (N:Nat) (f:Nat->Rat) (V:Nat):Prop where
 s:∀k,k<N->Sz (f k) 32 32/\(f k).den∣V
 v0:0<V
 vl:(lim V).length<=32
theorem Md.mz {vs:List Fx} (h:Md vs):Mz vs.length (fxV vs) (eV (fxV vs) vs.length):=
 ⟨fun k hk=>⟨by rw [ku hk];exact (h.v k hk).2,zM _ _ k hk⟩,jD _ _,h.d⟩
theorem Os.cl {w:World} {B:Nat} {s:Sl} {N:Nat} {f:Nat->Rat} (h:Os w B s N f):Cl w s.A s.vs f:=⟨h.qr.fr.rd,fun k hk=>⟨h.qr.ok _ (List.getElem_mem hk),h.rp k hk⟩⟩
theorem iI (p q:Rat):bA (p-q) 0=0↔p=q:=by
 rw [aZ];constructor
 ·intro h;have:p-q+q=q:=by rw [h];grind
  grind
 ·rintro rfl;grind
theorem kT (p q:Rat):0<bA (p-q) 0↔q<p:=by
 rcases du (p-q) 0 with ⟨h,e⟩|⟨h,e⟩|⟨h,e⟩
 ·rw [e];exact ⟨fun k=>by omega,fun k=>by exfalso;grind⟩
 ·rw [e];exact ⟨fun k=>by omega,fun k=>by exfalso;grind⟩
 ·rw [e];exact ⟨fun _=>by grind,fun _=>by omega⟩
theorem eC (p:Rat):bA p 0<0↔p<0:=by
 rcases du p 0 with ⟨h,e⟩|⟨h,e⟩|⟨h,e⟩
 ·rw [e];exact ⟨fun _=>h,fun _=>by omega⟩
 ·rw [e];exact ⟨fun k=>by omega,fun k=>by exfalso;grind⟩
 ·rw [e];exact ⟨fun k=>by omega,fun k=>by exfalso;grind⟩
def dX (n m nx:Nat) (a:Nat->Nat->Rat) (ux ur:Nat->Rat):Prop:=nx=n/\(∀j,j<n->0<=ux j)/\∀i,i<m->aj (fun j=>a i j*ux j) n=ur i
def dU (n m ny:Nat) (a:Nat->Nat->Rat) (uy uc:Nat->Rat):Prop:=ny=m/\∀j,j<n->aj (fun i=>uy i*a i j) m<=uc j
theorem ml (w:World) (G n m nx:Nat) (a:Nat->Nat->Rat) (b c:Nat->Rat) (cs rs:Sl) (A:Option Addr) (ca:Nat) (rows:List Sl) (h:Ck w G n m a b c cs rs A ca rows) (hn:n<=1000) (hm:m<=1000)
 (A1 A2:Option Addr) (c1 c2:Nat) (xs ts:List Fx) (ux ur:Nat->Rat) (U V:Nat) (bo:Bool) (hx:Cl w A1 xs ux) (hr:Cl w A2 ts ur) (hxl:xs.length=nx) (hxn:nx<=1000) (hrl:ts.length=m) (pz:Pz n m a b c U) (mz:Mz nx ux V) (sr:∀i,i<m->Sz (ur i) 60 60) (hb:bo=true↔dX n m nx a ux ur) :
 Calls prog 39 #[.pointer (some ⟨G,0,none⟩), .slice A1 nx c1, .slice A2 m c2] w fun e w'=>e = .returned (.bool bo)/\Below w.heap.size w w':=by
 have EF:=ag h;have kq:=ag hx;have yC:=ag hr;have fc:=ag hxl;have ce:=ag hrl;have eP:=ag pz;have th:=ag mz;have p9:=ag sr;have HB:=ag hb;have sL:=ag h.lr;have c0:=h.c0;have c2':=h.c2;clear h hx hr hxl hrl pz mz sr hb;go_enter func39,ntmps39;by_cases h1:nx=n
 ·subst h1;go_wp2_with fail;clear c0;go_loopw [21] (fun iv wr=>∃k:Nat,k<=nx/\iv = .int .i64 k/\(∀j,j<k->0<=ux j)/\Below w.heap.size w wr) (fun iv _=>nx-(intOf iv).toNat)
  case atStart=>exact ⟨0,by omega,rfl,(fun j h=>absurd h (Nat.not_lt_zero _)),ah _ _⟩
  case round=>
   obtain ⟨k,hk,rfl,hnn,bw⟩:=hrel;have ft:=ag hnn;have an:=ag bw;by_cases hlt:k<nx
   ·obtain ⟨ad,rfl,x,ef,el⟩:=(kq.o.below bw).at (k:=k) (by rw [fc.o];exact hlt)
    have d0:=ef.c0;have d1:=ef.c1;have d2:=ef.c2;have yq:Hd (Sz (ux k) 128 128):=ag ((th.o.s k hlt).1.mono (by omega) (by omega))
    have cH:Hd (dX nx m nx a ux ur->0<=ux k):=ag (fun f=>f.2.1 k hlt);clear ef hnn bw;go_upto_region 6 with fail;have v1:Vl (wr.alloc (.cells x.cells 29)) wr.heap.size x (ux k):=⟨(au el.ok).1,el.rp⟩;have bb:=(au el.ok).2;replace an:=ag (qc an.o bb);clear d0 d1 d2 el bb;generalize (wr.alloc (.cells #[.bool x.b, .slice x.A x.xs.length x.c, .slice x.D x.ys.length x.d] 29))=wm at v1 an|-;generalize wr.heap.size=g8 at v1|-;have d0:=v1.c0;have d1:=v1.c1;have d2:=v1.c2;have HV:=ag v1;obtain ⟨z,hz⟩:∃z,bA (ux k) 0=z:=⟨_,rfl⟩;have HZ:=ag hz;clear v1;by_cases h0:z<0
    ·have hlt0:ux k<0:=(eC _).1 (by rw [hz];exact h0)
     have hbf:bo=false:=by
      cases bo
      ·rfl
      ·exact absurd (HB.o.1 rfl) (fun f=>absurd (cH.o f) (Rat.not_le.2 hlt0))
     subst hbf;clear hz hlt0;go_wp2_with fail;refine (aU wm x _ z HV.o.el yq.o HZ.o).mono ?_;rintro e w5 ⟨rfl,bb⟩;go_wp2_with fail;go_ret;exact ⟨rfl,qc an.o bb⟩
    ·have dn:Hd (0<=ux k):=ag (Rat.not_lt.1 (fun e=>h0 (by rw [<-hz];exact (eC _).2 e)))
     clear hz;go_wp2_with fail;refine (aU wm x _ z HV.o.el yq.o HZ.o).mono ?_;rintro e w5 ⟨rfl,bb⟩;go_wp2_with fail;go_roundw
     case rel=>exact ⟨k+1,by omega,by go_num,(fun j hj=>by
      rcases Nat.lt_or_ge j k with h2|h2
      ·exact ft.o j h2
      ·obtain rfl:j=k:=by omega
       exact dn.o),qc an.o bb⟩
     case measure=>simp [intOf];omega
   ·obtain rfl:nx=k:=by omega
    replace c2':wr.cell? ⟨G,2,none⟩=some (.slice A m ca):=(EF.o.below bw).c2;clear bw hnn;go_wp2_with fail;clear c2';go_loopw [34] (fun iv wr=>∃i:Nat,i<=m/\iv = .int .i64 i/\(∀r,r<i->aj (fun j=>a r j*ux j) nx=ur r)/\Below w.heap.size w wr) (fun iv _=>m-(intOf iv).toNat)
    case atStart=>exact ⟨0,by omega,rfl,(fun j h=>absurd h (Nat.not_lt_zero _)),an.o⟩
    case round=>
     clear an;obtain ⟨i,hi,rfl,heq,bw⟩:=hrel;have np:=ag heq;have an:=ag bw;by_cases hlt:i<m
     ·have hil:i<rows.length:=by rw [sL.o];exact hlt
      have dF:=ag (EF.o.below bw);obtain ⟨ad0,rfl,_,hc⟩:=dF.o.rd (by omega)
      have hcj:=hc i hil;have hrow:=dF.o.row i hil;obtain ⟨s,hs⟩:∃s,rows[i]=s:=⟨_,rfl⟩;rw [hs] at hcj hrow;have hcs:wr.cell? (ad0.add i)=some (.slice s.A nx s.c):=by rw [<-hrow.2];exact hcj
      obtain ⟨ad2,rfl,y,ef,el⟩:=(yC.o.below bw).at (k:=i) (by rw [ce.o];exact hlt)
      have d0:=ef.c0;have d1:=ef.c1;have d2:=ef.c2;have IG:=ag el;obtain ⟨z,hz⟩:∃z,bA (aj (fun j=>a i j*ux j) nx-ur i) 0=z:=⟨_,rfl⟩;have a7:=jr wr s.A A1 s.c c1 s.vs xs y (a i) ux (ur i) z U V nx hrow.1 (kq.o.below bw) el hrow.2 fc.o hxn (fun k hk=>(eP.o.sa i hlt k hk).1) (fun k hk=>(th.o.s k hk).1) (p9.o i hlt) (fun k hk=>(eP.o.sa i hlt k hk).2) (fun k hk=>(th.o.s k hk).2) eP.o.ul th.o.vl eP.o.u0 th.o.v0 hz;have bU:=ag a7;have cH:Hd (dX nx m nx a ux ur->aj (fun j=>a i j*ux j) nx=ur i):=ag (fun f=>f.2.2 i hlt);clear hc hcj hrow hs ef el heq bw a7;by_cases h0:z=0
      ·subst h0;have Fc:=ag ((iI _ _).1 hz);clear hz;go_wp2_with fail;refine bU.o.mono ?_;rintro e w5 ⟨rfl,bb⟩;go_wp2_with fail;go_roundw
       case rel=>exact ⟨i+1,by omega,by go_num,(fun r hr=>by
        rcases Nat.lt_or_ge r i with h2|h2
        ·exact np.o r h2
        ·obtain rfl:r=i:=by omega
         exact Fc.o),qc an.o bb⟩
       case measure=>simp [intOf];omega
      ·have hne:¬aj (fun j=>a i j*ux j) nx=ur i:=fun e=>h0 (by rw [<-hz];exact (iI _ _).2 e)
       have hbf:bo=false:=by
        cases bo
        ·rfl
        ·exact absurd (HB.o.1 rfl) (fun f=>hne (cH.o f))
       subst hbf;have hb2:(z != 0)=true:=by simpa using h0
       clear hz hne;go_wp2_with fail;refine bU.o.mono ?_;rintro e w5 ⟨rfl,bb⟩;go_wp2_with fail;go_ret;exact ⟨rfl,qc an.o bb⟩
     ·obtain rfl:m=i:=by omega
      have Fe:Hd (bo=true):=ag (HB.o.2 ⟨rfl,ft.o,np.o⟩);go_wp2_with fail;go_ret;exact ⟨by rw [Fe.o];rfl,bw⟩
 ·have hb1:((nx:Int) != (n:Int))=true:=by simp;omega
  have hbf:bo=false:=by
   cases bo
   ·rfl
   ·exact absurd (HB.o.1 rfl) (fun f=>h1 f.1)
  subst hbf;go_wp2_with fail;go_ret;exact ⟨rfl,ah _ _⟩
theorem oO (w:World) (G n m ny:Nat) (a:Nat->Nat->Rat) (b c:Nat->Rat) (cs rs:Sl) (A:Option Addr) (ca:Nat) (rows:List Sl) (h:Ck w G n m a b c cs rs A ca rows) (hn:n<=1000) (hm:m<=1000)
 (A1 A2:Option Addr) (c1 c2:Nat) (ys ts:List Fx) (uy uc:Nat->Rat) (U V:Nat) (bo:Bool) (hy:Cl w A1 ys uy) (hc:Cl w A2 ts uc) (hyl:ys.length=ny) (hcl:ts.length=n) (pz:Pz n m a b c U) (mz:Mz ny uy V) (sc:∀j,j<n->Sz (uc j) 60 60) (hb:bo=true↔dU n m ny a uy uc) :
 Calls prog 40 #[.pointer (some ⟨G,0,none⟩), .slice A1 ny c1, .slice A2 n c2] w fun e w'=>e = .returned (.bool bo)/\Below w.heap.size w w':=by
 have EF:=ag h;have BW:=ag hy;have AY:=ag hc;have Gb:=ag hyl;have f9:=ag hcl;have eP:=ag pz;have Gc:=ag mz;have Hw:=ag sc;have HB:=ag hb;have sL:=ag h.lr;have c2':=h.c2;clear h hy hc hyl hcl pz mz sc hb;go_enter func40,ntmps40;by_cases h1:ny=m
 ·subst h1;have lL:=Gb;have zx:=Gc;clear Gb Gc;go_wp2_with fail;clear c2';go_loopw [18] (fun iv wr=>∃j:Nat,j<=n/\iv = .int .i64 j/\(∀k,k<j->aj (fun i=>uy i*a i k) ny<=uc k)/\Below w.heap.size w wr) (fun iv _=>n-(intOf iv).toNat)
  case atStart=>exact ⟨0,by omega,rfl,(fun j h=>absurd h (Nat.not_lt_zero _)),ah _ _⟩
  case round=>
   obtain ⟨j,hj,rfl,hle,bw⟩:=hrel;have ja:=ag hle;have an:=ag bw;by_cases hlt:j<n
   ·obtain ⟨ad2,rfl,xc,ef,el⟩:=(AY.o.below bw).at (k:=j) (by rw [f9.o];exact hlt)
    have Ff:=ag ef;have gC:=ag el;have dF:=ag (EF.o.below bw);have HY:=ag (BW.o.below bw);have m7:=ag (Hw.o j hlt);have cH:Hd (dU n ny ny a uy uc->aj (fun i=>uy i*a i j) ny<=uc j):=ag (fun f=>f.2 j hlt);obtain ⟨z,hz⟩:∃z,bA (aj (fun i=>uy i*a i j) ny-uc j) 0=z:=⟨_,rfl⟩;have HZ:=ag hz;clear ef el hle bw hz;go_upto_region 6 with fail
    go_cut [30] (fun v wx=>v = .bool (decide (0<z))/\Below wr.heap.size wr wx)
    case first=>
     have aH:Hd (∀w',Below wr.heap.size wr w'->(w'.cell? (ad2.add (j*3))=some (.bool xc.b)/\w'.cell? ⟨(ad2.add (j*3)).block,(ad2.add (j*3)).off+1,none⟩=some (.slice xc.A xc.xs.length xc.c)/\w'.cell? ⟨(ad2.add (j*3)).block,(ad2.add (j*3)).off+2,none⟩=some (.slice xc.D xc.ys.length xc.d))):=ag (fun _ bz=>⟨(Ff.o.below bz).c0,(Ff.o.below bz).c1,(Ff.o.below bz).c2⟩);refine fR aH (by kernel_rfl) fun hH=>?_
     have bz:=(ah wr.heap.size wr).drew;generalize wr.drew=wd at *;refine qh 10 fun Ha=>?_
     refine qe Ha 0 (.slice A1 ny c1) rfl ?_;refine qe Ha 1 (.pointer (some ⟨G,0,none⟩)) rfl ?_;refine qe Ha 2 (.int .i64 (j:Int)) rfl ?_;refine qe Ha 4 (.slice (some ad2) n c2) rfl ?_;refine qe Ha 5 (.int .i64 (j:Int)) rfl ?_;refine qe Ha 6 (.pointer (some (ad2.add (j*3)))) rfl ?_;refine tks Ha 7 (xc.val) rfl ?_;simp only [tz];refine tk1 Ha 3 rfl fun K hK=>?_;go_simp;go_at_call 80;refine (sT wd G n ny j a b c cs rs A ca rows (dF.o.below bz) hlt hn hm).mono ?_;rintro e wd ⟨gc,vc,hvc,rfl,oc,bb⟩
     have cc:Cl wd (some ⟨gc,0,none⟩) vc (fun i=>a i j):=oc.cl;clear oc;replace bz:=qc bz bb;clear bb;refine hK.out _ _ (aH.o _ bz) fun hH=>?_;clear hK K;try simp only [tz]
     refine tk1 Ha 8 rfl fun K hK=>?_;go_simp;go_at_call 41;refine (jr wd A1 (some ⟨gc,0,none⟩) c1 ny ys vc xc uy (fun i=>a i j) (uc j) z V U ny (HY.o.below bz) cc (gC.o.below bz) lL.o hvc hm (fun k hk=>(zx.o.s k hk).1) (fun k hk=>(eP.o.sa k hk j hlt).1) m7.o (fun k hk=>(zx.o.s k hk).2) (fun k hk=>(eP.o.sa k hk j hlt).2) zx.o.vl eP.o.ul zx.o.v0 eP.o.u0 HZ.o).mono ?_;rintro e wd ⟨rfl,bb⟩;clear cc;replace bz:=qc bz bb;clear bb;refine hK.out _ _ (aH.o _ bz) fun hH=>?_;clear hK K;try simp only [tz]
     refine tks Ha 9 (.bool (decide (0<z))) rfl ?_;simp only [tz];refine qp Ha ?_
     go_wp2_with fail;go_meet
     case rel=>exact ⟨rfl,bz⟩
    case rest=>
     obtain ⟨rfl,bb⟩:=hcut;replace an:=ag (qc an.o bb);clear bb;by_cases h0:0<z
     ·have hgt:¬aj (fun i=>uy i*a i j) ny<=uc j:=Rat.not_le.2 ((kT _ _).1 (by rw [HZ.o];exact h0))
      have hbf:bo=false:=by
       cases bo
       ·rfl
       ·exact absurd (HB.o.1 rfl) (fun f=>hgt (cH.o f))
      subst hbf;have hd:decide (0<z)=true:=by simpa using h0
      clear hgt;go_wp2_with fail;go_ret;exact ⟨rfl,an.o⟩
     ·have Fc:Hd (aj (fun i=>uy i*a i j) ny<=uc j):=ag (Rat.not_lt.1 (fun e=>h0 (by rw [<-HZ.o];exact (kT _ _).2 e)))
      have hd:decide (0<z)=false:=by simpa using h0
      go_wp2_with fail;go_roundw
      case rel=>exact ⟨j+1,by omega,by go_num,(fun k hk=>by
       rcases Nat.lt_or_ge k j with h2|h2
       ·exact ja.o k h2
       ·obtain rfl:k=j:=by omega
        exact Fc.o),an.o⟩
      case measure=>simp [intOf];omega
   ·obtain rfl:n=j:=by omega
    have Fe:Hd (bo=true):=ag (HB.o.2 ⟨rfl,ja.o⟩);go_wp2_with fail;go_ret;exact ⟨by rw [Fe.o];rfl,bw⟩
 ·have hb1:((ny:Int) != (m:Int))=true:=by simp;omega
  have hbf:bo=false:=by
   cases bo
   ·rfl
   ·exact absurd (HB.o.1 rfl) (fun f=>h1 f.1)
  subst hbf;go_wp2_with fail;go_ret;exact ⟨rfl,ah _ _⟩
end Go.Proofs.YtkpfbekmaafehaaGreat
