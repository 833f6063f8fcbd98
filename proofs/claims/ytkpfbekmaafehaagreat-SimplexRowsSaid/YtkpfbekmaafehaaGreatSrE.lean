/- How long the reference's sums of products are -/
import Derived.Test.YtkpfbekmaafehaaGreatSsJ
import Derived.Test.YtkpfbekmaafehaaGreatSpB
import Derived.Test.YtkpfbekmaafehaaGreatSvC
import Derived.Test.YtkpfbekmaafehaaGreatRefT
import Derived.Test.YtkpfbekmaafehaaGreatRfA
namespace Go.Proofs.YtkpfbekmaafehaaGreat
set_option maxRecDepth 100000
structure lH (u v:Nat→Rat) (n:Nat):Prop where
 p:∀k,k<n→Sz (u k*v k) 128 128
 s:∀k,k≤n→Sz (aj (fun i=>u i*v i) k) 128 128
theorem lH.symm {u v:Nat→Rat} {n:Nat} (h:lH u v n):lH v u n:=
 ⟨fun k hk=>by rw [Rat.mul_comm];exact h.p k hk,fun k hk=>by
  rw [show (fun i=>v i*u i)=fun i=>u i*v i from funext fun i=>Rat.mul_comm _ _];exact h.s k hk⟩
def EW:Nat:=900
theorem EW_le:EW≤900:=Nat.le_refl _
theorem tv_bd {t:Tv} {s:Rat} {E K:Nat} (h:vz t s E K) (hE:0<E):BdR s (K*E) E:=by
 have hd:((t.D:Nat):Int)≠0:=by have:=h.d0;omega
 have hv:=h.val;have e:(((t.D:Nat):Int):Rat)*s=(((t.P:Int)-(t.M:Int):Int):Rat):=by
  rw [Rat.intCast_sub];have c1:(((t.D:Nat):Int):Rat)=((t.D:Nat):Rat):=rfl;have c2:(((t.P:Nat):Int):Rat)=((t.P:Nat):Rat):=rfl;have c3:(((t.M:Nat):Int):Rat)=((t.M:Nat):Rat):=rfl;rw [c1,c2,c3,hv];exact Rat.mul_comm _ _
 have b:=kO hd e;have hD:t.D≤E:=Nat.le_of_dvd hE h.dv;have h1:=h.p;have h2:=h.m;have h3:K*t.D≤K*E:=Nat.mul_le_mul_left _ hD;exact ⟨Nat.le_trans b.1 (by omega),Nat.le_trans b.2 (by omega)⟩
theorem rT {u v:Nat→Rat} {U V n E:Nat} (hU:∀k,k<n→(u k).den∣U) (hV:∀k,k<n→(v k).den∣V) (su:∀k,k<n→(u k).num.natAbs≤2^E) (sv:∀k,k<n→Sz (v k) 32 32)
 (lU:U≤2^E) (lV:(lim V).length≤32) (hU0:0<U) (hV0:0<V) (hE:E≤900) (hn:n≤256):lH u v n:=by
 obtain ⟨F,hF⟩:∃F:Nat,32*32=F:=⟨_,rfl⟩;have eF:pw 32=2^F:=by rw [jy,hF]
 have kV:V≤2^F:=by
  have:=(aA V 32).1 lV;rw [eF] at this;omega
 have kv:∀k,k<n→(v k).num.natAbs≤2^F:=fun k hk=>by
  have:=(aA _ 32).1 (sv k hk).1;rw [eF] at this;omega
 constructor
 ·intro k hk;have hu:Sz (u k) 29 29:=⟨iG (su k hk) (by omega),iG (Nat.le_trans (Nat.le_of_dvd hU0 (hU k hk)) lU) (by omega)⟩
  exact (hu.mul (sv k hk)).mono (by omega) (by omega)
 ·intro k hk;have t:=qV hU hV (C:=2^E*2^F) (fun k hk=>Nat.mul_le_mul (su k hk) (kv k hk)) k hk;have b:=tv_bd t (Nat.mul_pos hU0 hV0);have h1:U*V≤2^E*2^F:=Nat.mul_le_mul lU kV;have h2:k*(2^E*2^F)*(U*V)≤2^8*(2^E*2^F)*(2^E*2^F):=Nat.mul_le_mul (Nat.mul_le_mul_right _ (by omega)) h1
  have h3:k*(2^E*2^F)*(U*V)≤2^(8+(E+F)+(E+F)):=by
   rw [Nat.pow_add 2 (8+(E+F)),Nat.pow_add 2 8,Nat.pow_add 2 E];exact h2
  rw [←Nat.pow_add] at h1;exact ⟨iG (Nat.le_trans b.1 h3) (by omega),iG (Nat.le_trans b.2 h1) (by omega)⟩
structure Pw (n m:Nat) (a:Nat→Nat→Rat) (b c:Nat→Rat) (U E:Nat):Prop where
 sa:∀i,i<m→∀j,j<n→(a i j).num.natAbs≤2^E∧(a i j).den∣U
 sb:∀i,i<m→(b i).num.natAbs≤2^E∧(b i).den∣U
 sc:∀j,j<n→(c j).num.natAbs≤2^E∧(c j).den∣U
 u0:0<U
 ul:U≤2^E
 e:E≤900
theorem uU (q:Rat) {W:Nat} (h:wgB q≤W):q.num.natAbs≤2^W:=by
 have h1:=lI q;unfold wtR at h1;have:=Nat.pow_le_pow_right (n:=2) (by omega) h
 omega
theorem Pg.vd.pw {p:Pg} (v:p.vd):Pw p.cost.vs.length p.rows.length p.a p.b p.c (dP p.cost.vs*dP p.right.vs*dR p.rows) EW:=by
 have w:=v.wt;have eE:=EW_le;have z:=v.pz;refine ⟨fun i hi j hj=>⟨?_,(z.sa i hi j hj).2⟩,fun i hi=>⟨?_,(z.sb i hi).2⟩,fun j hj=>⟨?_,(z.sc j hj).2⟩,z.u0,?_,eE⟩
 ·have hm:=List.getElem_mem hi;have hj2:j<p.rows[i].vs.length:=by rw [v.la _ hm];exact hj
  have hm2:=List.getElem_mem hj2;have e:p.a i j=p.rows[i].vs[j].q:=by rw [Pg.a,bC _ _ _ hi,bC _ _ _ hj2]
  rw [e];have h1:=jM hm2;have h2:=vC hm;exact uU _ (by unfold EW;omega)
 ·have hi2:i<p.right.vs.length:=by rw [v.lb];exact hi
  have hm2:=List.getElem_mem hi2;have e:p.b i=p.right.vs[i].q:=by rw [Pg.b,bC _ _ _ hi2]
  rw [e];have h1:=jM hm2;exact uU _ (by unfold EW;omega)
 ·have hm2:=List.getElem_mem hj;have e:p.c j=p.cost.vs[j].q:=by rw [Pg.c,bC _ _ _ hj]
  rw [e];have h1:=jM hm2;exact uU _ (by unfold EW;omega)
 ·have h1:=tV p.cost.vs;have h2:=tV p.right.vs;have h3:=CJ p.rows;have h4:=Nat.mul_le_mul (Nat.mul_le_mul h1 h2) h3;rw [←Nat.pow_add,←Nat.pow_add] at h4;exact Nat.le_trans h4 (Nat.pow_le_pow_right (by omega) (by unfold EW;omega))
section
variable {n m:Nat} {a:Nat→Nat→Rat} {b c:Nat→Rat} {U E V:Nat} {f:Nat→Rat}
theorem Pw.row (h:Pw n m a b c U E) (z:Mz n f V) (hn:n≤256) {i:Nat} (hi:i<m):lH (a i) f n:=
 rT (fun k hk=>(h.sa i hi k hk).2) (fun k hk=>(z.s k hk).2) (fun k hk=>(h.sa i hi k hk).1) (fun k hk=>(z.s k hk).1) h.ul z.vl h.u0 z.v0 h.e hn
theorem Pw.col (h:Pw n m a b c U E) (z:Mz m f V) (hm:m≤256) {j:Nat} (hj:j<n):lH f (fun i=>a i j) m:=
 (rT (u:=fun i=>a i j) (fun k hk=>(h.sa k hk j hj).2) (fun k hk=>(z.s k hk).2) (fun k hk=>(h.sa k hk j hj).1) (fun k hk=>(z.s k hk).1) h.ul z.vl h.u0 z.v0 h.e hm).symm
theorem Pw.cst (h:Pw n m a b c U E) (z:Mz n f V) (hn:n≤256):lH c f n:=
 rT (fun k hk=>(h.sc k hk).2) (fun k hk=>(z.s k hk).2) (fun k hk=>(h.sc k hk).1) (fun k hk=>(z.s k hk).1) h.ul z.vl h.u0 z.v0 h.e hn
theorem Pw.rgt (h:Pw n m a b c U E) (z:Mz m f V) (hm:m≤256):lH f b m:=
 (rT (fun k hk=>(h.sb k hk).2) (fun k hk=>(z.s k hk).2) (fun k hk=>(h.sb k hk).1) (fun k hk=>(z.s k hk).1) h.ul z.vl h.u0 z.v0 h.e hm).symm
end
set_option maxRecDepth 100000
open Go.RowKit
structure Rl (w:World) (A:Option Addr) (vs:List Fx) (f:Nat→Rat):Prop where
 rd:RdF w A vs
 el:∀k (h:k<vs.length),Nm w vs[k] (f k)
theorem Rl.below {w w':World} {A:Option Addr} {vs:List Fx} {f:Nat→Rat} (h:Rl w A vs f) (hb:Below w.heap.size w w'):Rl w' A vs f:=⟨h.rd.below hb,fun k hk=>(h.el k hk).below hb⟩
theorem Rl.at {w:World} {A:Option Addr} {vs:List Fx} {f:Nat→Rat} (h:Rl w A vs f) {k:Nat} (hk:k<vs.length):∃ad,A=some ad∧∃x,Ef w (ad.add (k*3)) x∧Nm w x (f k):=by
 obtain ⟨ad,e,he⟩:=h.rd.at k hk;exact ⟨ad,e,_,he,h.el k hk⟩
theorem vL {w:World} {A:Option Addr} {vs:List Fx} (r:RdF w A vs) (ok:∀v∈vs,v.ok w) (hv:∀v∈vs,v.v) (hl:∀v∈vs,v.xs.length≤10000∧v.ys.length≤10000):Rl w A vs (fxV vs):=
 ⟨r,fun _ hk=>⟨ok _ (List.getElem_mem hk),hv _ (List.getElem_mem hk),(ku hk).symm,(hl _ (List.getElem_mem hk)).1,(hl _ (List.getElem_mem hk)).2⟩⟩
set_option maxHeartbeats 1600000 in
theorem iD (w:World) (A1 A2:Option Addr) (c1 c2 n:Nat) (us vs:List Fx) (u v:Nat→Rat) (hu:Rl w A1 us u) (hv:Rl w A2 vs v) (hul:us.length=n) (hvl:vs.length=n) (hn:n≤1000) (hd:lH u v n) :
 Calls Tryz.prog 48 #[.slice A1 n c1, .slice A2 n c2] w fun e w'=>∃z:Fx,e = .returned z.val∧El w' z (aj (fun i=>u i*v i) n)∧Below w.heap.size w w':=by
 have HU:=ag hu;have HV:=ag hv;have HUL:=ag hul;have HVL:=ag hvl;have HD:=ag hd;clear hu hv hul hvl hd;go_enter Tryz.func48,Tryz.ntmps48;go_upto_region 1 with fail;have bw:=(ah w.heap.size w).alloc (Nat.le_refl _) (.cells #[.bool false, .slice none 0 0, .slice none 0 0] 29);have bk:=aK w;generalize (w.alloc (.cells #[.bool false, .slice none 0 0, .slice none 0 0] 29))=wn at bw bk⊢;go_wp2_with fail;refine (iT wn).mono ?_;rintro e wn ⟨y,rfl,ey,bb⟩;replace bk:=bk.below bb;replace bw:=ai bw bb bw.size;clear bb;go_upto_region 2 with fail;have g5l:=bk.lt;have v5:Vl (wn.alloc (.cells y.cells 29)) wn.heap.size y 0:=⟨(au ey.ok).1,ey.rp⟩
 have bb:=(au ey.ok).2;clear ey;generalize (wn.alloc (.cells #[.bool y.b, .slice y.A y.xs.length y.c, .slice y.D y.ys.length y.d] 29))=wm at v5 bb⊢;replace bk:=bk.below bb;replace bw:=ai bw bb bw.size;clear bb;generalize wn.heap.size=g5 at v5 g5l⊢;have H5L:=ag g5l;clear g5l;go_wp2_with fail;go_loopw [6] (fun i wr=>∃(k:Nat) (y:Fx),k≤n∧i = .int .i64 k∧Vl wr g5 y (aj (fun i=>u i*v i) k)∧Bk3 wr w.heap.size (.bool false) (.slice none 0 0) (.slice none 0 0)∧Below w.heap.size w wr) (fun i _=>n-(intOf i).toNat)
 case atStart=>exact ⟨0,y,by omega,rfl,v5,bk,bw⟩
 case round=>
  clear v5 bk bw;obtain ⟨k,y,hk,rfl,v5,bk,bw⟩:=hrel;by_cases hlt:k<n
  ·obtain ⟨ad1,rfl,x1,ef1,nm1⟩:=HU.out.at (k:=k) (by rw [HUL.out];exact hlt)
   obtain ⟨ad2,rfl,x2,ef2,nm2⟩:=HV.out.at (k:=k) (by rw [HVL.out];exact hlt)
   have HE1:Hid (∀w',Below w.heap.size w w'→Ef w' (ad1.add (k*3)) x1):=ag (fun w' hb=>ef1.below hb);have HE2:Hid (∀w',Below w.heap.size w w'→Ef w' (ad2.add (k*3)) x2):=ag (fun w' hb=>ef2.below hb);have HM1:Hid (∀w',Below w.heap.size w w'→Nm w' x1 (u k)):=ag (fun w' hb=>nm1.below hb);have HM2:Hid (∀w',Below w.heap.size w w'→Nm w' x2 (v k)):=ag (fun w' hb=>nm2.below hb);have HV5:=ag v5;have HBK:=ag bk;have HBW:=ag bw;have HDP:=ag (HD.out.p k hlt);have HDS:=ag (HD.out.s k hk);have HDN:Hid (Sz (aj (fun i=>u i*v i) k+u k*v k) 128 128):=ag (HD.out.s (k+1) hlt);clear ef1 ef2 nm1 nm2 v5 bk bw;go_upto_region 5 with fail
   refine wp_region_held_drew (S:=fun w'=>w'.cell? (ad1.add (k*3))=some (.bool x1.b)∧w'.cell? ⟨(ad1.add (k*3)).block,(ad1.add (k*3)).off+1,none⟩=some (.slice x1.A x1.xs.length x1.c)∧w'.cell? ⟨(ad1.add (k*3)).block,(ad1.add (k*3)).off+2,none⟩=some (.slice x1.D x1.ys.length x1.d)∧w'.cell? (ad2.add (k*3))=some (.bool x2.b)∧w'.cell? ⟨(ad2.add (k*3)).block,(ad2.add (k*3)).off+1,none⟩=some (.slice x2.A x2.xs.length x2.c)∧w'.cell? ⟨(ad2.add (k*3)).block,(ad2.add (k*3)).off+2,none⟩=some (.slice x2.D x2.ys.length x2.d)) (by kernel_rfl) ⟨(HE1.out _ (ai HBW.out ((ah wr.heap.size wr).drew) HBW.out.size)).c0,(HE1.out _ (ai HBW.out ((ah wr.heap.size wr).drew) HBW.out.size)).c1,(HE1.out _ (ai HBW.out ((ah wr.heap.size wr).drew) HBW.out.size)).c2,(HE2.out _ (ai HBW.out ((ah wr.heap.size wr).drew) HBW.out.size)).c0,(HE2.out _ (ai HBW.out ((ah wr.heap.size wr).drew) HBW.out.size)).c1,(HE2.out _ (ai HBW.out ((ah wr.heap.size wr).drew) HBW.out.size)).c2⟩ (fun hHeld=>?_)
   have bz:=(ah wr.heap.size wr).drew;generalize wr.drew=wd at *;refine tki [sE 14 [5] [],sE 15 [0] [],sE 16 [6] [],sE 17 [15,16] [1,2],sE 18 [17] [3],sE 19 [1] [],sE 20 [6] [],sE 21 [19,20] [5,6],sE 22 [21] [7],sE 23 [18,22] [4,8],sE 24 [14,23] [0,9,9],(none,[5,24],[10,10,0,1,2,3,4,5,6,7,8,9,10],none)] [false,false,false,false,false,false,false,false,false,false,false,false] (by kernel_rfl) (by kernel_rfl) (by kernel_rfl) (fun HSU=>?_)
   refine tks HSU 1 (.slice (some ad1) n c1) rfl ?_;simp only [tz];refine tks HSU 2 (.int .i64 (k:Int)) rfl ?_;simp only [tz];refine tks HSU 3 (.pointer (some (ad1.add (k*3)))) rfl ?_;simp only [tz];refine tks HSU 4 (x1.val) rfl ?_;simp only [tz];refine tks HSU 5 (.slice (some ad2) n c2) rfl ?_;simp only [tz];refine tks HSU 6 (.int .i64 (k:Int)) rfl ?_;simp only [tz];refine tks HSU 7 (.pointer (some (ad2.add (k*3)))) rfl ?_;simp only [tz];refine tks HSU 8 (x2.val) rfl ?_;simp only [tz];refine wpAnyH_ready (rs := [0,9]) (tkn HSU (by kernel_rfl)) (by simp) ?_
   refine AllReadyH.cons rfl (fun K hK=>?_) ?_
   ·have vd:=HV5.out.below bz;have k0:=vd.c0;have k1:=vd.c1;have k2:=vd.c2;go_simp;clear vd k0 k1 k2;refine hK.out _ _ ⟨(HE1.out _ (by first|exact b5|exact ai HBW.out bz HBW.out.size)).c0,(HE1.out _ (by first|exact b5|exact ai HBW.out bz HBW.out.size)).c1,(HE1.out _ (by first|exact b5|exact ai HBW.out bz HBW.out.size)).c2,(HE2.out _ (by first|exact b5|exact ai HBW.out bz HBW.out.size)).c0,(HE2.out _ (by first|exact b5|exact ai HBW.out bz HBW.out.size)).c1,(HE2.out _ (by first|exact b5|exact ai HBW.out bz HBW.out.size)).c2⟩ (fun hHeld=>?_);clear hK K;try simp only [tz]
    refine tk1 HSU 9 rfl (fun K hK=>?_);go_simp;go_at_call 88;refine (qm wd x1 x2 _ _ (HM1.out _ (ai HBW.out bz HBW.out.size)) (HM2.out _ (ai HBW.out bz HBW.out.size)) HDP.out).mono ?_;rintro e wd ⟨x3,rfl,e3,bb⟩;replace bz:=ai bz bb bz.size;clear bb;refine hK.out _ _ ⟨(HE1.out _ (by first|exact b5|exact ai HBW.out bz HBW.out.size)).c0,(HE1.out _ (by first|exact b5|exact ai HBW.out bz HBW.out.size)).c1,(HE1.out _ (by first|exact b5|exact ai HBW.out bz HBW.out.size)).c2,(HE2.out _ (by first|exact b5|exact ai HBW.out bz HBW.out.size)).c0,(HE2.out _ (by first|exact b5|exact ai HBW.out bz HBW.out.size)).c1,(HE2.out _ (by first|exact b5|exact ai HBW.out bz HBW.out.size)).c2⟩ (fun hHeld=>?_);clear hK K;try simp only [tz]
    refine tk1 HSU 10 rfl (fun K hK=>?_);go_simp;go_at_call 87;refine (qn wd y x3 _ _ ((HV5.out.below bz).el.nm HDS.out) (e3.nm HDP.out) HDN.out).mono ?_;rintro e wd ⟨x4,rfl,e4,bb⟩;clear e3;replace bz:=ai bz bb bz.size;clear bb;refine hK.out _ _ ⟨(HE1.out _ (by first|exact b5|exact ai HBW.out bz HBW.out.size)).c0,(HE1.out _ (by first|exact b5|exact ai HBW.out bz HBW.out.size)).c1,(HE1.out _ (by first|exact b5|exact ai HBW.out bz HBW.out.size)).c2,(HE2.out _ (by first|exact b5|exact ai HBW.out bz HBW.out.size)).c0,(HE2.out _ (by first|exact b5|exact ai HBW.out bz HBW.out.size)).c1,(HE2.out _ (by first|exact b5|exact ai HBW.out bz HBW.out.size)).c2⟩ (fun hHeld=>?_);clear hK K;try simp only [tz]
    refine tk1 HSU 11 rfl (fun K hK=>?_);have vd:=HV5.out.below bz;have t:=vd.fa.bk;obtain ⟨k0,k1,k2,kf0,kf1,kf2,_,_⟩:=t;go_simp;clear k0 k1 k2 kf0 kf1 kf2;have a4:Vl _ g5 x4 _:=⟨vd.fa.put e4.ok,e4.rp⟩;have kk:=(HBK.out.below bz).far (H:=g5) (a := .bool x4.b) (b := .slice x4.A x4.xs.length x4.c) (c := .slice x4.D x4.ys.length x4.d) (by have:=H5L.out;omega)
    have b5:=aR (G:=g5) (a := .bool x4.b) (b := .slice x4.A x4.xs.length x4.c) (c := .slice x4.D x4.ys.length x4.d) (ai HBW.out bz HBW.out.size) (by have:=H5L.out;omega)
    clear vd bz e4 hHeld;generalize (((wd.setCell ⟨g5,0,none⟩ (.bool x4.b)).setCell ⟨g5,1,none⟩ (.slice x4.A x4.xs.length x4.c)).setCell ⟨g5,2,none⟩ (.slice x4.D x4.ys.length x4.d))=we at *;generalize we=wd at *;refine hK.out _ _ ⟨(HE1.out _ (by first|exact b5|exact ai HBW.out bz HBW.out.size)).c0,(HE1.out _ (by first|exact b5|exact ai HBW.out bz HBW.out.size)).c1,(HE1.out _ (by first|exact b5|exact ai HBW.out bz HBW.out.size)).c2,(HE2.out _ (by first|exact b5|exact ai HBW.out bz HBW.out.size)).c0,(HE2.out _ (by first|exact b5|exact ai HBW.out bz HBW.out.size)).c1,(HE2.out _ (by first|exact b5|exact ai HBW.out bz HBW.out.size)).c2⟩ (fun hHeld=>?_);clear hK K;try simp only [tz]
    refine wpAnyH_done (tkn HSU (by kernel_rfl)) ?_ _
    go_wp2_with fail;go_roundw
    case rel=>exact ⟨k+1,x4,by omega,by go_num,a4,kk,b5⟩
    case measure=>simp [intOf];omega
   refine AllReadyH.cons rfl (fun K hK=>?_) ?_
   ·go_simp;go_at_call 88;refine (qm wd x1 x2 _ _ (HM1.out _ (ai HBW.out bz HBW.out.size)) (HM2.out _ (ai HBW.out bz HBW.out.size)) HDP.out).mono ?_;rintro e wd ⟨x3,rfl,e3,bb⟩;replace bz:=ai bz bb bz.size;clear bb;refine hK.out _ _ ⟨(HE1.out _ (by first|exact b5|exact ai HBW.out bz HBW.out.size)).c0,(HE1.out _ (by first|exact b5|exact ai HBW.out bz HBW.out.size)).c1,(HE1.out _ (by first|exact b5|exact ai HBW.out bz HBW.out.size)).c2,(HE2.out _ (by first|exact b5|exact ai HBW.out bz HBW.out.size)).c0,(HE2.out _ (by first|exact b5|exact ai HBW.out bz HBW.out.size)).c1,(HE2.out _ (by first|exact b5|exact ai HBW.out bz HBW.out.size)).c2⟩ (fun hHeld=>?_);clear hK K;try simp only [tz]
    refine tk1 HSU 0 rfl (fun K hK=>?_);have vd:=HV5.out.below bz;have k0:=vd.c0;have k1:=vd.c1;have k2:=vd.c2;go_simp;clear vd k0 k1 k2;refine hK.out _ _ ⟨(HE1.out _ (by first|exact b5|exact ai HBW.out bz HBW.out.size)).c0,(HE1.out _ (by first|exact b5|exact ai HBW.out bz HBW.out.size)).c1,(HE1.out _ (by first|exact b5|exact ai HBW.out bz HBW.out.size)).c2,(HE2.out _ (by first|exact b5|exact ai HBW.out bz HBW.out.size)).c0,(HE2.out _ (by first|exact b5|exact ai HBW.out bz HBW.out.size)).c1,(HE2.out _ (by first|exact b5|exact ai HBW.out bz HBW.out.size)).c2⟩ (fun hHeld=>?_);clear hK K;try simp only [tz]
    refine tk1 HSU 10 rfl (fun K hK=>?_);go_simp;go_at_call 87;refine (qn wd y x3 _ _ ((HV5.out.below bz).el.nm HDS.out) (e3.nm HDP.out) HDN.out).mono ?_;rintro e wd ⟨x4,rfl,e4,bb⟩;clear e3;replace bz:=ai bz bb bz.size;clear bb;refine hK.out _ _ ⟨(HE1.out _ (by first|exact b5|exact ai HBW.out bz HBW.out.size)).c0,(HE1.out _ (by first|exact b5|exact ai HBW.out bz HBW.out.size)).c1,(HE1.out _ (by first|exact b5|exact ai HBW.out bz HBW.out.size)).c2,(HE2.out _ (by first|exact b5|exact ai HBW.out bz HBW.out.size)).c0,(HE2.out _ (by first|exact b5|exact ai HBW.out bz HBW.out.size)).c1,(HE2.out _ (by first|exact b5|exact ai HBW.out bz HBW.out.size)).c2⟩ (fun hHeld=>?_);clear hK K;try simp only [tz]
    refine tk1 HSU 11 rfl (fun K hK=>?_);have vd:=HV5.out.below bz;have t:=vd.fa.bk;obtain ⟨k0,k1,k2,kf0,kf1,kf2,_,_⟩:=t;go_simp;clear k0 k1 k2 kf0 kf1 kf2;have a4:Vl _ g5 x4 _:=⟨vd.fa.put e4.ok,e4.rp⟩;have kk:=(HBK.out.below bz).far (H:=g5) (a := .bool x4.b) (b := .slice x4.A x4.xs.length x4.c) (c := .slice x4.D x4.ys.length x4.d) (by have:=H5L.out;omega)
    have b5:=aR (G:=g5) (a := .bool x4.b) (b := .slice x4.A x4.xs.length x4.c) (c := .slice x4.D x4.ys.length x4.d) (ai HBW.out bz HBW.out.size) (by have:=H5L.out;omega)
    clear vd bz e4 hHeld;generalize (((wd.setCell ⟨g5,0,none⟩ (.bool x4.b)).setCell ⟨g5,1,none⟩ (.slice x4.A x4.xs.length x4.c)).setCell ⟨g5,2,none⟩ (.slice x4.D x4.ys.length x4.d))=we at *;generalize we=wd at *;refine hK.out _ _ ⟨(HE1.out _ (by first|exact b5|exact ai HBW.out bz HBW.out.size)).c0,(HE1.out _ (by first|exact b5|exact ai HBW.out bz HBW.out.size)).c1,(HE1.out _ (by first|exact b5|exact ai HBW.out bz HBW.out.size)).c2,(HE2.out _ (by first|exact b5|exact ai HBW.out bz HBW.out.size)).c0,(HE2.out _ (by first|exact b5|exact ai HBW.out bz HBW.out.size)).c1,(HE2.out _ (by first|exact b5|exact ai HBW.out bz HBW.out.size)).c2⟩ (fun hHeld=>?_);clear hK K;try simp only [tz]
    refine wpAnyH_done (tkn HSU (by kernel_rfl)) ?_ _
    go_wp2_with fail;go_roundw
    case rel=>exact ⟨k+1,x4,by omega,by go_num,a4,kk,b5⟩
    case measure=>simp [intOf];omega
   exact AllReadyH.nil
  ·obtain rfl:n=k:=by omega
   have HBW:=ag bw;have HV5:=ag v5;have c0:=v5.c0;have c1:=v5.c1;have c2:=v5.c2;have t:=bk;obtain ⟨k0,k1,k2,kf0,kf1,kf2,klt,kb⟩:=t;clear v5 bw kb;go_wp2_with fail;refine bodyPost_ret (v:=y.val) (by simp [results,Tryz.results48,go_sem,k0,k1,k2]) rfl ?_
   exact ⟨y,rfl,⟨bD HV5.out.fa.ok bk rfl rfl rfl,HV5.out.rp⟩,aR HBW.out (Nat.le_refl _)⟩
set_option maxRecDepth 100000
open Go.RowKit
theorem Ay (n:Nat):1<aI n↔1<n:=by
 have h:=bP n 1;have e:(2:Nat)^1=2:=rfl;rw [e] at h;omega
theorem BP {n:Nat} (h:1<(lim n).length):1<n:=by
 have h1:¬(lim n).length≤1:=by omega
 rw [aA,mF] at h1;omega
theorem Dx {n:Nat} (h:(lim n).length=1):(lim n)[0]'(by omega)=n:=by
 have e:=am n;obtain ⟨z,hz⟩:=List.length_eq_one_iff.1 h;simp only [hz,aT,aW] at e⊢;simp at e⊢;exact e
set_option maxHeartbeats 4000000 in
theorem iS (w:World) (s:Sl) (h:s.ok w) (hl:s.vs.length≤1000) (hs:∀v∈s.vs,v.xs.length≤10000∧v.ys.length≤10000) (hv:∀v∈s.vs,v.v) :
 Calls Tryz.prog 35 #[s.val] w fun e w'=>e = .returned (.int .i64 (wlF s.vs:Nat))∧Below w.heap.size w w':=by
 have HS:=ag h;have HSM:=ag hs;have HVA:=ag hv;obtain ⟨A,c,vs⟩:=s;clear h hs hv;replace hl:vs.length≤1000:=hl
 show Calls Tryz.prog 35 #[.slice A vs.length c] w _
 replace HSM:Hid (∀v∈vs,v.xs.length≤10000∧v.ys.length≤10000):=HSM;replace HVA:Hid (∀v∈vs,v.v):=HVA;go_enter Tryz.func35,Tryz.ntmps35;go_wp2_with fail;go_loopw [3,4] (fun nv iv wr=>∃k:Nat,k≤vs.length∧iv = .int .i64 k∧nv = .int .i64 (wlF (vs.take k):Nat)∧Below w.heap.size w wr) (fun _ iv _=>vs.length-(intOf iv).toNat)
 case atStart=>exact ⟨0,by omega,rfl,rfl,ah _ _⟩
 case round=>
  obtain ⟨k,hk,rfl,rfl,bw⟩:=hrel;by_cases hlt:k<vs.length
  ·have hwl:wlF (vs.take k)≤(vs.take k).length*8192:=iM (fun v hv=>HVA.out v (List.mem_of_mem_take hv));rw [List.length_take] at hwl;obtain ⟨ad,rfl,ef⟩:=(HS.out.below bw).rd.at k hlt;have ok:=(HS.out.below bw).el _ (List.getElem_mem hlt);have HL:=ag (HSM.out _ (List.getElem_mem hlt));have HNX:=ag (sj hlt);have hv:=HVA.out _ (List.getElem_mem hlt);obtain ⟨x,hx⟩:∃x,vs[k]=x:=⟨_,rfl⟩;have ef0:Ef wr (ad.add (k*3)) vs[k]:=ef;rw [hx] at ef0 ok HL HNX hv;have d0:=ef0.c0;have d1:=ef0.c1;have d2:=ef0.c2;obtain ⟨N,hN⟩:∃N,wlF (vs.take k)=N:=⟨_,rfl⟩;rw [hN] at hwl HNX⊢;have HRD:Hid (gz x=okS x.q):=ag (gp hv)
   have HSZ:=ag (kB hv).2;have OK:=ag ok;clear hx hN ef ef0 hv ok;go_wp2_with fail;refine (iQ wr x _ OK.out HL.out.1 HL.out.2 HRD.out).mono ?_;rintro e wn ⟨y,rfl,hs1,ok1,bb⟩;have RP:=ag (Rp.of hs1);rw [show (okS x.q).2.2.2=0 from rfl];clear hs1 d0 d1 d2;replace bw:=ai bw bb bw.size;clear bb;go_upto_region 6 with fail;have v1:Vl (wn.alloc (.cells y.cells 29)) wn.heap.size y x.q:=⟨(au ok1).1,RP.out⟩;have bb:=(au ok1).2;clear ok1;replace bw:=ai bw bb bw.size;clear bb;generalize (wn.alloc (.cells #[.bool y.b, .slice y.A y.xs.length y.c, .slice y.D y.ys.length y.d] 29))=wm at v1 bw⊢;generalize wn.heap.size=g7 at v1⊢
   have d0:=v1.c0;have d1:=v1.c1;have d2:=v1.c2;have HV:=ag v1;clear v1;have hq1:=(dh x.q.num.natAbs 128).2 HSZ.out.1;have hq2:=(dh x.q.den 128).2 HSZ.out.2;have HZ0:Hid (y.xs.length=0↔x.q=0):=ag (by rw [RP.out.n,List.length_eq_zero_iff,iZ,Int.natAbs_eq_zero,Rat.num_eq_zero])
   have HD0:Hid (0<y.ys.length):=ag (by rw [RP.out.d];exact aX.2 (Nat.pos_iff_ne_zero.1 x.q.den_pos))
   have HB1:Hid (1<aI x.q.den↔1<x.q.den):=ag (Ay _);have HDG:Hid (1<y.ys.length→1<x.q.den):=ag (by rw [RP.out.d];exact BP)
   obtain ⟨p,hp⟩:∃p,aI x.q.num.natAbs=p:=⟨_,rfl⟩;obtain ⟨q,hq⟩:∃q,aI x.q.den=q:=⟨_,rfl⟩;have HN0:Hid (wlF (vs.take (k+1))=N+if x.q=0 then 0 else p+if 1<q then q else 0):=ag (by rw [HNX.out,wgB,hp,hq])
   rw [hp] at hq1;rw [hq] at hq2 HB1;have HP:Hid (aI (nv y.xs)=p):=ag (by rw [RP.out.n,am,hp])
   have HQ:Hid (aI (nv y.ys)=q):=ag (by rw [RP.out.d,am,hq])
   have HP0:Hid (x.q=0→p=0):=ag (fun e=>by rw [←hp,e];decide)
   clear hp hq;go_wp2_with fail;refine (jR wm y.A y.c _ y.xs HV.out.fa.ok.num rfl (by have:=RP.out.l1 HSZ.out;omega)).mono ?_
   rintro e w5 ⟨rfl,bb⟩;rw [HP.out];replace bw:=ai bw bb bw.size;replace HV:=ag (HV.out.below bb);clear bb d0 d1 d2;generalize w5=wm at *;have d0:=HV.out.c0;have d1:=HV.out.c1;have d2:=HV.out.c2;by_cases h0:0<y.xs.length
   ·have HNZ:Hid (¬x.q=0):=fun e=>by have:=HZ0.out.2 e;omega
    have h0i:(0:Int)<(y.xs.length:Int):=by omega
    by_cases h1:1<y.ys.length
    ·have h1i:(1:Int)<(y.ys.length:Int):=by omega
     have HN1:Hid (wlF (vs.take (k+1))=N+p+q):=ag (by rw [HN0.out,if_neg HNZ.out,if_pos (HB1.out.2 (HDG.out h1))];omega)
     go_wp2_with fail;refine (jR wm y.D y.d _ y.ys HV.out.fa.ok.den rfl (by have:=RP.out.l2 HSZ.out;omega)).mono ?_
     rintro e w6 ⟨rfl,bb⟩;rw [HQ.out];replace bw:=ai bw bb bw.size;go_wp2_with fail;go_roundw
     case rel=>exact ⟨k+1,by omega,by go_num,by rw [HN1.out];go_num,bw⟩
     case measure=>simp [intOf];omega
    ·have h1i:¬(1:Int)<(y.ys.length:Int):=by omega
     have hl1:(lim x.q.den).length=1:=by rw [←RP.out.d];have:=HD0.out;omega
     obtain ⟨ae,hae,had,hcell,hlt4⟩:=HV.out.fa.ok.den.at 0 HD0.out;obtain ⟨D,hD⟩:∃D,x.q.den=D:=⟨_,rfl⟩;have hGv:y.ys[0]'HD0.out=D:=by
      have e:y.ys[0]'HD0.out=(lim x.q.den)[0]'(by omega):=by simp only [RP.out.d]
      rw [e,Dx hl1,hD]
     rw [hGv,show ae.add 0=ae by unfold Addr.add;simp] at hcell
     have hpos:0<y.ys.length:=HD0.out;have HBD:Hid (1<q↔1<D):=ag (by rw [←hD];exact HB1.out)
     rw [hae] at d2;clear hlt4 hGv hl1 hD hae;by_cases h2:1<D
     ·have h2i:(1:Int)<(D:Int):=by omega
      have HN1:Hid (wlF (vs.take (k+1))=N+p+q):=ag (by rw [HN0.out,if_neg HNZ.out,if_pos (HBD.out.2 h2)];omega)
      have HDE:Hid (y.D=some ae):=ag (by have:=HV.out.c2;rw [d2] at this;simpa using this.symm)
      go_wp2_with fail;refine (jR wm (some ae) y.d _ y.ys (by rw [←HDE.out];exact HV.out.fa.ok.den) rfl (by have:=RP.out.l2 HSZ.out;omega)).mono ?_
      rintro e w6 ⟨rfl,bb⟩;rw [HQ.out];replace bw:=ai bw bb bw.size;go_wp2_with fail;go_roundw
      case rel=>exact ⟨k+1,by omega,by go_num,by rw [HN1.out];go_num,bw⟩
      case measure=>simp [intOf];omega
     ·have h2i:¬(1:Int)<(D:Int):=by omega
      have HN1:Hid (wlF (vs.take (k+1))=N+p):=ag (by rw [HN0.out,if_neg HNZ.out,if_neg (fun e=>h2 (HBD.out.1 e))];omega)
      go_wp2_with fail;go_roundw
      case rel=>exact ⟨k+1,by omega,by go_num,by rw [HN1.out];go_num,bw⟩
      case measure=>simp [intOf];omega
   ·have h0i:¬(0:Int)<(y.xs.length:Int):=by omega
    have HN1:Hid (wlF (vs.take (k+1))=N+p):=ag (by
     have e:x.q=0:=HZ0.out.1 (by omega)
     rw [HN0.out,if_pos e,HP0.out e])
    go_wp2_with fail;go_roundw
    case rel=>exact ⟨k+1,by omega,by go_num,by rw [HN1.out];go_num,bw⟩
    case measure=>simp [intOf];omega
  ·obtain rfl:k=vs.length:=by omega
   rw [List.take_length] at *;go_wp2_with fail;go_ret;exact ⟨rfl,bw⟩
set_option maxHeartbeats 1600000 in
theorem pI (w:World) (A:Option Addr) (c:Nat) (ls:List Sl) (h:Rd Sl.val w A ls) (ho:∀r∈ls,r.ok w) (hl:ls.length≤1000) (hn:∀r∈ls,r.vs.length≤1000) (hs:∀r∈ls,∀v∈r.vs,v.xs.length≤10000∧v.ys.length≤10000) (hv:∀r∈ls,∀v∈r.vs,v.v) :
 Calls Tryz.prog 36 #[.slice A ls.length c] w fun e w'=>e = .returned (.int .i64 (wsF ls:Nat))∧Below w.heap.size w w':=by
 have HR:=ag h;have HO:=ag ho;have HLN:=ag hn;have HSM:=ag hs;have HVA:=ag hv;clear h ho hn hs hv;go_enter Tryz.func36,Tryz.ntmps36;go_wp2_with fail;go_loopw [3,4] (fun nv iv wr=>∃k:Nat,k≤ls.length∧iv = .int .i64 k∧nv = .int .i64 (wsF (ls.take k):Nat)∧Below w.heap.size w wr) (fun _ iv _=>ls.length-(intOf iv).toNat)
 case atStart=>exact ⟨0,by omega,rfl,rfl,ah _ _⟩
 case round=>
  obtain ⟨k,hk,rfl,rfl,bw⟩:=hrel;have HBW:=ag bw;by_cases hlt:k<ls.length
  ·have hws:wsF (ls.take k)≤(ls.take k).length*8192000:=uj (fun r hr=>by
    have h1:=iM (HVA.out r (List.mem_of_mem_take hr));have h2:=HLN.out r (List.mem_of_mem_take hr);omega)
   rw [List.length_take] at hws;have HNX:=ag (se hlt);have hme:=List.getElem_mem hlt;have HCALL:=ag (iS wr ls[k] ((HO.out _ hme).below bw) (HLN.out _ hme) (HSM.out _ hme) (HVA.out _ hme));have h5:=iM (HVA.out _ hme);have h6:=HLN.out _ hme;obtain ⟨ad,rfl,_,hc⟩:=(HR.out.below bw rfl) (by omega)
   have hcj:=hc k hlt;obtain ⟨s,hs⟩:∃s,ls[k]=s:=⟨_,rfl⟩;rw [hs] at hcj HNX HCALL h5 h6;obtain ⟨N,hN⟩:∃N,wsF (ls.take k)=N:=⟨_,rfl⟩;rw [hN] at hws HNX⊢;obtain ⟨M,hM⟩:∃M,wlF s.vs=M:=⟨_,rfl⟩;rw [hM] at h5 HNX HCALL;clear hc hs hN hM bw hme;go_wp2_with fail;refine HCALL.out.mono ?_;rintro e w5 ⟨rfl,bb⟩;clear hcj;go_wp2_with fail;go_roundw
   case rel=>exact ⟨k+1,by omega,by go_num,by rw [HNX.out];go_num,ai HBW.out bb HBW.out.size⟩
   case measure=>simp [intOf];omega
  ·obtain rfl:k=ls.length:=by omega
   rw [List.take_length] at *;go_wp2_with fail;go_ret;exact ⟨rfl,bw⟩
set_option maxRecDepth 100000
open Go.RowKit
set_option maxHeartbeats 1600000 in
theorem dq (w:World) (s:Sl) (N n:Nat) (b:Bool) (h:s.ok w) (hN:s.vs.length=N) (hl:N≤1000) (hn:n≤1000) (hs:∀v∈s.vs,v.xs.length≤10000∧v.ys.length≤10000) (hb:b=true↔(N=n∧∀v∈s.vs,v.v)) :
 Calls Tryz.prog 34 #[.slice s.A N s.c, .int .i64 (n:Int)] w fun e w'=>e = .returned (.bool b)∧Below w.heap.size w w':=by
 have HS:=ag h;have HSM:=ag hs;have HB:=ag hb;obtain ⟨A,c,vs⟩:=s;have HN:Hid (vs.length=N):=ag hN;clear h hs hb hN
 show Calls Tryz.prog 34 #[.slice A N c, .int .i64 (n:Int)] w _
 replace HSM:Hid (∀v∈vs,v.xs.length≤10000∧v.ys.length≤10000):=HSM;replace HB:Hid (b=true↔(N=n∧∀v∈vs,v.v)):=HB;go_enter Tryz.func34,Tryz.ntmps34;by_cases h1:N=n
 ·subst h1;go_wp2_with fail;go_loopw [5] (fun iv wr=>∃k:Nat,k≤N∧iv = .int .i64 k∧(∀v∈vs.take k,v.v)∧Below w.heap.size w wr) (fun iv _=>N-(intOf iv).toNat)
  case atStart=>exact ⟨0,by omega,rfl,(fun v hv=>by simp at hv),ah _ _⟩
  case round=>
   obtain ⟨k,hk,rfl,ha,bw⟩:=hrel;have HA:=ag ha;have HBW:=ag bw;by_cases hlt:k<N
   ·have hkl:k<vs.length:=by rw [HN.out];exact hlt
    have hme:=List.getElem_mem hkl;obtain ⟨ad,rfl,ef⟩:=(HS.out.below bw).rd.at k hkl;have ok:=(HS.out.below bw).el _ hme;have HL:=ag (HSM.out _ hme);have HTV:Hid (vs[k].v→∀v∈vs.take (k+1),v.v):=ag (oG hkl ha);have HME:=ag hme;obtain ⟨x,hx⟩:∃x,vs[k]=x:=⟨_,rfl⟩;have ef0:Ef wr (ad.add (k*3)) vs[k]:=ef;rw [hx] at ef0 ok HL HTV HME;have d0:=ef0.c0;have d1:=ef0.c1;have d2:=ef0.c2;have OK:=ag ok;clear hx ef ef0 ha bw ok hme;by_cases hv:x.v
    ·have HT:=ag (HTV.out hv);have HV:=ag hv;clear hv;go_wp2_with fail;refine (bF wr x true OK.out HL.out.1 HL.out.2 (decide_eq_true HV.out)).mono ?_;rintro e wn ⟨rfl,bb⟩;clear d0 d1 d2;go_wp2_with fail;go_roundw
     case rel=>exact ⟨k+1,by omega,by go_num,HT.out,ai HBW.out bb HBW.out.size⟩
     case measure=>simp [intOf];omega
    ·have HNV:Hid (¬x.v):=hv;clear hv;have hbf:b=false:=by
      cases b
      ·rfl
      ·exact absurd (HB.out.1 rfl) (fun f=>HNV.out (f.2 x HME.out))
     subst hbf;go_wp2_with fail;refine (bF wr x false OK.out HL.out.1 HL.out.2 (decide_eq_false HNV.out)).mono ?_;rintro e wn ⟨rfl,bb⟩;clear d0 d1 d2;go_wp2_with fail;go_ret;exact ⟨rfl,ai HBW.out bb HBW.out.size⟩
   ·obtain rfl:N=k:=by omega
    have hbt:b=true:=HB.out.2 ⟨by trivial,by rw [List.take_of_length_le (by rw [HN.out];exact Nat.le_refl _)] at ha;exact ha⟩
    subst hbt;go_wp2_with fail;go_ret;exact ⟨rfl,bw⟩
 ·have hb1:((N:Int) != (n:Int))=true:=by simp;omega
  have hbf:b=false:=by
   cases b
   ·rfl
   ·exact absurd (HB.out.1 rfl) (fun f=>h1 f.1)
  subst hbf;go_wp2_with fail;go_ret;exact ⟨rfl,ah _ _⟩
set_option maxHeartbeats 4000000 in
theorem kD (w:World) (p:Pg) (b:Bool) (h:p.ok w) (sm:p.sm) (hb:b=true↔p.vd) :
 Calls Tryz.prog 16 #[p.val] w fun e w'=>e = .returned (.bool b)∧Below w.heap.size w w':=by
 have HO:=ag h;have HSM:=ag sm;have HB:=ag hb;have hlr:=sm.lr;have hlc:=sm.lc;have hlb:=sm.lb;obtain ⟨n,hn⟩:∃n,p.rows.length=n:=⟨_,rfl⟩;obtain ⟨m,hm⟩:∃m,p.cost.vs.length=m:=⟨_,rfl⟩;obtain ⟨k,hk⟩:∃k,p.right.vs.length=k:=⟨_,rfl⟩;have HN:=ag hn;have HM:=ag hm;have HK:=ag hk;rw [hn] at hlr;rw [hm] at hlc;rw [hk] at hlb;clear h sm hb hn hm hk;go_enter Tryz.func16,Tryz.ntmps16;go_upto_region 1 with fail;have pb:=(aY w p 25).1;have bw:=(aY w p 25).2;generalize (w.alloc (.cells #[.slice p.cost.A p.cost.vs.length p.cost.c, .slice p.rA p.rows.length p.rc, .slice p.right.A p.right.vs.length p.right.c] 25))=wm at pb bw⊢
 generalize hg1:w.heap.size=g1 at pb⊢;have HG1:=ag hg1;clear hg1;have HPC:Hid (∀w',Below wm.heap.size wm w'→w'.cell? ⟨g1,0,none⟩=some (.slice p.cost.A m p.cost.c)∧w'.cell? ⟨g1,1,none⟩=some (.slice p.rA n p.rc)∧w'.cell? ⟨g1,2,none⟩=some (.slice p.right.A k p.right.c)):=ag (fun w' hb=>by
  rw [←HM.out,←HN.out,←HK.out];have h:=pb.below hb;exact ⟨h.c0,h.c1,h.c2⟩)
 have HBW:=ag bw;obtain ⟨c0,c1,c2⟩:=HPC.out wm (ah _ _);clear pb;by_cases h1:n<1
 ·skip
  have hbf:b=false:=by
   cases b
   ·rfl
   ·exact absurd (HB.out.1 rfl) (fun v=>(by have:=v.r1;have:=HN.out;omega))
  subst hbf;go_wp2_with fail;go_ret;exact ⟨rfl,bw⟩
 by_cases h2:32<n
 ·skip
  have hbf:b=false:=by
   cases b
   ·rfl
   ·exact absurd (HB.out.1 rfl) (fun v=>(by have:=v.r2;have:=HN.out;omega))
  subst hbf;go_wp2_with fail;go_ret;exact ⟨rfl,bw⟩
 by_cases h3:m<1
 ·skip
  have hbf:b=false:=by
   cases b
   ·rfl
   ·exact absurd (HB.out.1 rfl) (fun v=>(by have:=v.c1;have:=HM.out;omega))
  subst hbf;go_wp2_with fail;go_ret;exact ⟨rfl,bw⟩
 by_cases h4:256<m
 ·skip
  have hbf:b=false:=by
   cases b
   ·rfl
   ·exact absurd (HB.out.1 rfl) (fun v=>(by have:=v.c2;have:=HM.out;omega))
  subst hbf;go_wp2_with fail;go_ret;exact ⟨rfl,bw⟩
 by_cases h5:∀v∈p.cost.vs,v.v
 case neg=>
  have H5:Hid (¬ ∀v∈p.cost.vs,v.v):=h5;clear h5;have hbf:b=false:=by
   cases b
   ·rfl
   ·exact absurd (HB.out.1 rfl) (fun f=>H5.out f.vc)
  subst hbf;go_wp2_with fail;refine (dq wm p.cost m m false (HO.out.cost.below HBW.out) HM.out (by omega) (by omega) HSM.out.ec (Iff.intro (fun h=>Bool.noConfusion h) (fun h=>absurd h.2 H5.out))).mono ?_
  rintro e wn ⟨rfl,bb⟩;clear c0 c1 c2;go_wp2_with fail;go_ret;exact ⟨rfl,ai HBW.out bb HBW.out.size⟩
 case pos=>
  have H5:=ag h5;clear h5;by_cases h6:k=n∧∀v∈p.right.vs,v.v
  case neg=>
   have H6:Hid (¬(k=n∧∀v∈p.right.vs,v.v)):=h6;clear h6;have hbf:b=false:=by
    cases b
    ·rfl
    ·exact absurd (HB.out.1 rfl) (fun f=>H6.out ⟨by have:=f.lb;rw [HK.out,HN.out] at this;exact this,f.vb⟩)
   subst hbf;go_wp2_with fail;refine (dq wm p.cost m m true (HO.out.cost.below HBW.out) HM.out (by omega) (by omega) HSM.out.ec (Iff.intro (fun _=>⟨rfl,H5.out⟩) (fun _=>rfl))).mono ?_
   rintro e wn ⟨rfl,bb⟩;clear c0 c1 c2;obtain ⟨c0,c1,c2⟩:=HPC.out wn bb;go_wp2_with fail;refine (dq wn p.right k n false (HO.out.right.below (ai HBW.out bb HBW.out.size)) HK.out (by omega) (by omega) HSM.out.eb (Iff.intro (fun h=>Bool.noConfusion h) (fun h=>absurd h H6.out))).mono ?_
   rintro e wr ⟨rfl,b2⟩;clear c0 c1 c2;go_wp2_with fail;go_ret;exact ⟨rfl,ai HBW.out (ai bb b2 bb.size) HBW.out.size⟩
  case pos=>
   obtain ⟨rfl,h7⟩:=h6;have H7:=ag h7;clear h7;go_wp2_with fail;refine (dq wm p.cost m m true (HO.out.cost.below HBW.out) HM.out (by omega) (by omega) HSM.out.ec (Iff.intro (fun _=>⟨rfl,H5.out⟩) (fun _=>rfl))).mono ?_
   rintro e wn ⟨rfl,bb⟩;clear c0 c1 c2;obtain ⟨c0,c1,c2⟩:=HPC.out wn bb;go_wp2_with fail;refine (dq wn p.right k k true (HO.out.right.below (ai HBW.out bb HBW.out.size)) HK.out (by omega) (by omega) HSM.out.eb (Iff.intro (fun _=>⟨rfl,H7.out⟩) (fun _=>rfl))).mono ?_
   rintro e w3 ⟨rfl,b2⟩;have b3:=ai bb b2 bb.size;clear c0 c1 c2 bb b2 bw;go_wp2_with fail;go_loopw [4] (fun iv wr=>∃j:Nat,j≤k∧iv = .int .i64 j∧(∀r∈p.rows.take j,r.vs.length=m∧∀v∈r.vs,v.v)∧Below wm.heap.size wm wr) (fun iv _=>k-(intOf iv).toNat)
   case atStart=>exact ⟨0,by omega,rfl,(fun v hv=>by simp at hv),b3⟩
   case round=>
    clear b3;obtain ⟨j,hj,rfl,ha,bz⟩:=hrel;have HA:=ag ha;have HBZ:=ag bz;obtain ⟨c0,c1,c2⟩:=HPC.out wr bz;by_cases hlt:j<k
    ·have hjl:j<p.rows.length:=by rw [HN.out];exact hlt
     have HTK:=ag (List.take_succ_eq_append_getElem hjl);have HME:=ag (List.getElem_mem hjl);obtain ⟨ad,hrA,_,hc⟩:=((HO.out.below HBW.out).rd.below bz rfl) (by omega)
     have hcj:=hc j hjl;obtain ⟨s,hs⟩:∃s,p.rows[j]=s:=⟨_,rfl⟩;rw [hs] at hcj HTK HME;rw [hrA] at c1;have hl1:=HSM.out.la s HME.out;have HLC:=ag (HSM.out.ea s HME.out);have OKR:=ag (((HO.out.rows s HME.out).below HBW.out).below bz);obtain ⟨L,hL⟩:∃L,s.vs.length=L:=⟨_,rfl⟩;have hcj2:wr.cell? (ad.add j)=some (.slice s.A L s.c):=by rw [←hL];exact hcj
     rw [hL] at hl1;have HL:=ag hL;clear hc hs ha bz hcj hL hrA;by_cases h8:L=m∧∀v∈s.vs,v.v
     ·have H8:=ag h8;clear h8;go_wp2_with fail;refine (dq wr s L m true OKR.out HL.out (by omega) (by omega) HLC.out (Iff.intro (fun _=>H8.out) (fun _=>rfl))).mono ?_
      rintro e w4 ⟨rfl,bb⟩;clear c0 c1 c2 hcj2;go_wp2_with fail;go_roundw
      case rel=>exact ⟨j+1,by omega,by go_num,(fun r hr=>by
       rw [HTK.out] at hr;rcases List.mem_append.1 hr with h|h
       ·exact HA.out r h
       ·obtain rfl:r=s:=by simpa using h
        exact ⟨HL.out.trans H8.out.1,H8.out.2⟩),ai HBZ.out bb HBZ.out.size⟩
      case measure=>simp [intOf];omega
     ·have H8:Hid (¬(L=m∧∀v∈s.vs,v.v)):=h8;clear h8;have hbf:b=false:=by
       cases b
       ·rfl
       ·exact absurd (HB.out.1 rfl) (fun f=>H8.out ⟨by have:=f.la s HME.out;rw [HL.out,HM.out] at this;exact this,f.va s HME.out⟩)
      subst hbf;go_wp2_with fail;refine (dq wr s L m false OKR.out HL.out (by omega) (by omega) HLC.out (Iff.intro (fun h=>Bool.noConfusion h) (fun h=>absurd h H8.out))).mono ?_
      rintro e w4 ⟨rfl,bb⟩;clear c0 c1 c2 hcj2;go_wp2_with fail;go_ret;exact ⟨rfl,ai HBW.out (ai HBZ.out bb HBZ.out.size) HBW.out.size⟩
    ·obtain rfl:j=k:=by omega
     rw [List.take_of_length_le (by rw [HN.out];exact Nat.le_refl _)] at ha
     have HALL:=ag ha;have q1:=iM H5.out;have q2:=iM H7.out;have q3:wsF p.rows≤p.rows.length*8192000:=uj (fun r hr=>by
      have h1:=iM (ha r hr).2;have h2:=HSM.out.la r hr;omega)
     have hbw:=ai HBW.out bz HBW.out.size;have HW1:Hid (∀wd,Below wr.heap.size wr wd→Calls Tryz.prog 35 #[.slice p.cost.A m p.cost.c] wd fun e w'=>e = .returned (.int .i64 (wlF p.cost.vs:Nat))∧Below wd.heap.size wd w'):=ag (fun wd hb=>by
      rw [←HM.out];exact iS wd p.cost ((HO.out.cost.below hbw).below (hb.mono (by have:=hbw.size;omega))) (by rw [HM.out];omega) HSM.out.ec H5.out)
     have HW3:Hid (∀wd,Below wr.heap.size wr wd→Calls Tryz.prog 35 #[.slice p.right.A j p.right.c] wd fun e w'=>e = .returned (.int .i64 (wlF p.right.vs:Nat))∧Below wd.heap.size wd w'):=ag (fun wd hb=>by
      rw [←HK.out];exact iS wd p.right ((HO.out.right.below hbw).below (hb.mono (by have:=hbw.size;omega))) (by rw [HK.out];omega) HSM.out.eb H7.out)
     have HW2:Hid (∀wd,Below wr.heap.size wr wd→Calls Tryz.prog 36 #[.slice p.rA j p.rc] wd fun e w'=>e = .returned (.int .i64 (wsF p.rows:Nat))∧Below wd.heap.size wd w'):=ag (fun wd hb=>by
      have ho:=(HO.out.below hbw).below (hb.mono (by have:=hbw.size;omega))
      rw [←HN.out];exact pI wd p.rA p.rc p.rows ho.rd ho.rows (by rw [HN.out];omega) HSM.out.la HSM.out.ea (fun r hr=>(HALL.out r hr).2))
     have hbe:decide (((wlF p.cost.vs:Nat):Int)+((wsF p.rows:Nat):Int)+((wlF p.right.vs:Nat):Int)≤900)=b:=by
      rw [Bool.eq_iff_iff,HB.out,decide_eq_true_iff];have e0:wsF p.rows=(p.rows.map (fun r=>wlF r.vs)).sum:=rfl;exact ⟨fun h=>⟨by have:=HN.out;omega,by have:=HN.out;omega,by have:=HM.out;omega,by have:=HM.out;omega,by rw [HK.out,HN.out],(fun r hr=>by rw [HM.out];exact (ha r hr).1),H5.out,H7.out,(fun r hr=>(ha r hr).2),by omega⟩,fun v=>by have:=v.wt;omega⟩
     obtain ⟨C,hC⟩:∃C,wlF p.cost.vs=C:=⟨_,rfl⟩;obtain ⟨R,hR⟩:∃R,wsF p.rows=R:=⟨_,rfl⟩;obtain ⟨B,hB⟩:∃B,wlF p.right.vs=B:=⟨_,rfl⟩;rw [hC] at q1 HW1 hbe;rw [hB] at q2 HW3 hbe;rw [hR] at q3 HW2 hbe;have HBE:=ag hbe;have HWB:Hid (C≤8192000∧B≤8192000∧R≤8192000000):=ag (by rw [HM.out] at q1;rw [HK.out] at q2;rw [HN.out] at q3;omega)
     replace HPC:Hid (∀w',Below wr.heap.size wr w'→w'.cell? ⟨g1,0,none⟩=some (.slice p.cost.A m p.cost.c)∧w'.cell? ⟨g1,1,none⟩=some (.slice p.rA j p.rc)∧w'.cell? ⟨g1,2,none⟩=some (.slice p.right.A j p.right.c)):=ag (fun w' hb=>HPC.out w' (ai HBZ.out hb HBZ.out.size));replace HBW:=ag hbw;clear hC hR hB q1 q2 q3 hbe hbw ha bz HA HALL c0 c2;go_upto_region 9 with fail;clear c1;have HSP:Hid (∀w',Below wr.heap.size wr w'→(w'.cell? ⟨g1,0,none⟩=some (.slice p.cost.A m p.cost.c)∧w'.cell? ⟨g1,1,none⟩=some (.slice p.rA j p.rc)∧w'.cell? ⟨g1,2,none⟩=some (.slice p.right.A j p.right.c))):=ag (fun _ bz=>(HPC.out _ bz))
     refine fR HSP (by kernel_rfl) (fun hHeld=>?_)
     have bz:=(ah wr.heap.size wr).drew;generalize wr.drew=wd at *;refine tki [sE 57 [1] [],sE 58 [57] [0],sE 59 [58] [1],sE 60 [1] [],sE 61 [60] [3],sE 62 [61] [4,2],sE 63 [59,62] [2,5],sE 64 [1] [],sE 65 [64] [7],sE 66 [65] [8,5],sE 67 [63,66] [6,9],sE 68 [67] [10],sE 2 [68] [11,9,0,1,2,3,4,5,6,7,8,9,10,11]] [false,false,false,false,false,false,false,false,false,false,false,false,false] (by kernel_rfl) (by kernel_rfl) (by kernel_rfl) (fun HSU=>?_)
     refine tks HSU 0 (.pointer (some ⟨g1,0,none⟩)) rfl ?_;simp only [tz];refine tks HSU 1 (.slice p.cost.A m p.cost.c) rfl ?_;simp only [tz];refine tks HSU 3 (.pointer (some ⟨g1,1,none⟩)) rfl ?_;simp only [tz];refine tks HSU 4 (.slice p.rA j p.rc) rfl ?_;simp only [tz];refine tks HSU 7 (.pointer (some ⟨g1,2,none⟩)) rfl ?_;simp only [tz];refine tks HSU 8 (.slice p.right.A j p.right.c) rfl ?_;simp only [tz];refine tk1 HSU 2 rfl (fun K hK=>?_);go_simp;go_at_call 35;refine (HW1.out wd bz).mono ?_;rintro e wd ⟨rfl,bb⟩;replace bz:=ai bz bb bz.size;clear bb;refine hK.out _ _ (HSP.out _ bz) (fun hHeld=>?_);clear hK K;try simp only [tz]
     refine tk1 HSU 5 rfl (fun K hK=>?_);go_simp;go_at_call 36;refine (HW2.out wd bz).mono ?_;rintro e wd ⟨rfl,bb⟩;replace bz:=ai bz bb bz.size;clear bb;refine hK.out _ _ (HSP.out _ bz) (fun hHeld=>?_);clear hK K;try simp only [tz]
     refine tks HSU 6 (.int .i64 ((C:Int)+(R:Int))) rfl ?_ (hr:=by intro w hSw;go_simp;(exact IntWalk.i64_in _ (by have:=HWB.out;omega)));simp only [tz]
     refine tk1 HSU 9 rfl (fun K hK=>?_);go_simp;go_at_call 35;refine (HW3.out wd bz).mono ?_;rintro e wd ⟨rfl,bb⟩;replace bz:=ai bz bb bz.size;clear bb;refine hK.out _ _ (HSP.out _ bz) (fun hHeld=>?_);clear hK K;try simp only [tz]
     refine tks HSU 10 (.int .i64 ((C:Int)+(R:Int)+(B:Int))) rfl ?_ (hr:=by intro w hSw;go_simp;(exact IntWalk.i64_in _ (by have:=HWB.out;omega)));simp only [tz]
     refine tks HSU 11 (.bool (decide ((C:Int)+(R:Int)+(B:Int)≤900))) rfl ?_;simp only [tz];refine tk1 HSU 12 rfl (fun K hK=>?_);go_simp;refine hK.out _ _ (HSP.out _ bz) (fun hHeld=>?_);clear hK K;try simp only [tz]
     refine wpAnyH_done (tkn HSU (by kernel_rfl)) ?_ _
     go_wp2_with fail;go_ret;exact ⟨dz HBE.out,ai HBW.out bz HBW.out.size⟩
end Go.Proofs.YtkpfbekmaafehaaGreat
