/- The walks of drydockref01: Trim, Make, large, plus, times -/
import Derived.Test.YtkpfbekmaafehaaGreatNatD
import Derived.Test.YtkpfbekmaafehaaGreatDivV
import Derived.Test.YtkpfbekmaafehaaGreatNatG
namespace Go.Proofs.YtkpfbekmaafehaaGreat
open _root_.Go.Proofs.Tryz
set_option maxHeartbeats 8000000
set_option maxRecDepth 100000
open Go.RowKit
theorem aL (w:World) (A:Option Addr) (c n:Nat) (xs:List Nat) (h:Nt w A c xs) (hn:n=xs.length) (hl:(lim (nv xs)).length<=1000000) :
 Calls prog 75 #[.slice A n c] w (fh w (lim (nv xs))):=by
 subst hn;have h1:=h.cap;have h2:=h.max;have hk:=h.lim;have h3:=ak h.u;have HT:=ag (jN h.u);obtain ⟨i0,hi,hz0,hz1,hz2⟩:=info_parts ch;go_enter func75,ntmps75
 go_wp2
 go_loop [3] (fun i=>∃k:Nat,k<=xs.length/\i = .int .i64 k/\tl xs k=tl xs xs.length) (fun i=>(intOf i).toNat)
 case atStart=>exact ⟨xs.length,Nat.le_refl _,rfl,rfl⟩
 case round=>
  obtain ⟨k,hk2,rfl,ht⟩:=hrel;have gC:=ag ht;clear ht;by_cases hstop:k=0\/∃j,∃hj:j<xs.length,k=j+1/\xs[j]≠0
  ·have hkl:k=(lim (nv xs)).length:=by
    rw [<-HT.o,<-gC.o];rcases hstop with rfl|⟨j,hj,rfl,hz⟩
    ·rfl
    ·rw [CB hj hz]
   have HK:=ag hkl;have h4:(lim (nv xs)).length<=xs.length:=h3;have hkb:k<=1000000:=by omega
   rcases hstop with h0|⟨j,hj,hj2,hz⟩
   ·subst h0;clear hkl;go_wp2_with (at_builtin;refine aD w (mk:=lmv) (fun _=>rfl) rfl _ _ 27 rfl 58 i0 (.int .u32 0) 4 underlying27 hi hz0 hz1 hz2 rfl (xs := []) (B:=w.heap.size) rfl rfl (Gr.nil _ _) A 0 c (lim (nv xs)) rfl HK.o hk.rd (by simp only [maxLen];omega) (by omega) (Nat.le_refl _) ?_;intro A' c' w1 hg hgr hb hat)
    go_ret;exact ⟨A',c',by rw [<-HK.o];simp,by simpa using hg,hb⟩
   ·subst hj2;obtain ⟨ad,rfl,hb,hc,hlt⟩:=h.at j hj;have hz':((xs[j]:Int) == 0)=false:=by simp;omega
    clear h hkl hz;go_wp2_with (at_builtin;refine aD w (mk:=lmv) (fun _=>rfl) rfl _ _ 27 rfl 58 i0 (.int .u32 0) 4 underlying27 hi hz0 hz1 hz2 rfl (xs := []) (B:=w.heap.size) rfl rfl (Gr.nil _ _) (some ad) (j+1) c (lim (nv xs)) rfl HK.o hk.rd (by simp only [maxLen];omega) (by omega) (Nat.le_refl _) ?_;intro A' c' w1 hg hgr hb hat)
    go_ret;exact ⟨A',c',by rw [<-HK.o];simp,by simpa using hg,hb⟩
  ·obtain ⟨j,rfl⟩:∃j,k=j+1:=⟨k-1,by omega⟩
   have hj:j<xs.length:=by omega
   have hz:xs[j]=0:=by
    by_cases hz:xs[j]=0
    ·exact hz
    ·exact absurd (.inr ⟨j,hj,rfl,hz⟩) hstop
   obtain ⟨ad,rfl,hb,hc,hlt⟩:=h.at j hj;clear h hstop;have hz':((xs[j]:Int) == 0)=true:=by simp [hz]
   have HZ:=ag hz;clear hz;go_wp2_with fail
   go_round
   case rel=>exact ⟨j,by omega,by go_num,by rw [<-gC.o,yt (by omega) HZ.o]⟩
   case measure=>simp [intOf]
theorem gh (w:World) (v:Nat) (hv:v<18446744073709551616) :
 Calls prog 67 #[.int .u64 v] w (fh w (lim v)):=by
 go_enter func67,ntmps67;go_wp2_with fail;simp only [kZ,iL];have hg:=Gr.lit (mk:=lmv) (e:=58) (B:=w.heap.size) w [v % 4294967296,v/4294967296] #[.int .u32 ((v % 4294967296:Nat):Int), .int .u32 ((v/4294967296:Nat):Int)] rfl (by simp [maxLen]) (Nat.le_refl _)
 have hb:=qc w (.cells #[.int .u32 ((v % 4294967296:Nat):Int), .int .u32 ((v/4294967296:Nat):Int)] 58)
 revert hg hb
 generalize (w.alloc (.cells #[.int .u32 ((v % 4294967296:Nat):Int), .int .u32 ((v/4294967296:Nat):Int)] 58))=w1;intro hg hb;have hn:=hg.nt (vF v hv);have hl:(lim v).length<=2:=by have:=ak hn.u;rwa [od v hv] at this
 have hc:=aL w1 _ _ _ _ hn rfl (by rw [od v hv];omega)
 rw [od v hv] at hc;refine hc.mono ?_;rintro e w2 ⟨A',c',rfl,hg2,hb2⟩;clear hc hn;go_wp2_with fail;go_ret;exact ⟨A',c',rfl,hg2.more fun ad e=>Nat.le_trans hb.size (hg2.form.2.2 ad e).1,qd hb hb2⟩
theorem aE (w:World) (A:Option Addr) (c n:Nat) (xs:List Nat) (b:Bool) (h:Nt w A c xs) (hn:n=xs.length) (hl:(lim (nv xs)).length<=1000000) (hb:decide (512<(lim (nv xs)).length)=b) :
 Calls prog 100 #[.slice A n c] w fun e w'=>e = .returned (.bool b)/\Below w.heap.size w w':=by
 have HB:=ag hb;clear hb;subst hn;go_enter func100,ntmps100;go_wp2_with fail;refine (aL w A c _ xs h rfl hl).mono ?_;rintro e w1 ⟨A',c',rfl,hg,hb⟩;clear hg;go_wp2_with fail;go_ret;exact ⟨dz (by rw [<-HB.o];apply decide_eq_decide.2;omega),hb⟩
def lat (xs:List Nat) (j:Nat):Nat:=xs.getD j 0
theorem zN {xs:List Nat} (h:U32 xs) (j:Nat):lat xs j<4294967296:=by
 unfold lat;rcases Nat.lt_or_ge j xs.length with h1|h1
 ·have:=h.at j h1;simpa [h1] using this
 ·simp [List.getElem?_eq_none h1]
theorem rL {xs:List Nat} {j:Nat} (h:j<xs.length):lat xs j=xs[j]:=by simp [lat,h]
theorem og {xs:List Nat} {j:Nat} (h:¬j<xs.length):lat xs j=0:=by simp [lat,List.getElem?_eq_none (Nat.le_of_not_lt h)]
def dM (X Y:List Nat) (j C:Nat) (O:List Nat):Prop:=C<=1/\O.length=j/\U32 O/\nv O+pw j*C=nv (X.take j)+nv (Y.take j)/\(X.length<=j->Y.length<=j->j<=max X.length Y.length+1)
theorem dM.start (X Y:List Nat):dM X Y 0 0 []:=⟨by omega,rfl,U32.nil,by simp [aW],by omega⟩
theorem dM.step {X Y:List Nat} {j C:Nat} {O:List Nat} (h:dM X Y j C O) (hX:U32 X) (hY:U32 Y) (hj:j<X.length\/j<Y.length\/(0<C/\j<=max X.length Y.length)) (s:Nat) (hs:s=C+lat X j+lat Y j) :
 dM X Y (j+1) (s/4294967296) (O ++ [s % 4294967296]):=by
 obtain ⟨h1,h2,h3,h4,h5⟩:=h;have b1:=zN hX j;have b2:=zN hY j;refine ⟨by omega,by simp [h2],h3.append (U32.one (by omega)),?_,by omega⟩
 have e1:nv (X.take (j+1))=nv (X.take j)+pw j*lat X j:=fV X j;have e2:nv (Y.take (j+1))=nv (Y.take j)+pw j*lat Y j:=fV Y j;rw [cj,e1,e2,h2,aT,aW,gM];have h5:s=4294967296*(s/4294967296)+s % 4294967296:=(Nat.div_add_mod _ _).symm;have h6:pw j*s=pw j*(4294967296*(s/4294967296)+s % 4294967296):=by rw [<-h5]
 rw [hs] at h6|-
 grind
theorem dM.last {X Y:List Nat} {j C:Nat} {O:List Nat} (h:dM X Y j C O) (hx:X.length<=j) (hy:Y.length<=j) (hC:0<C) (hX:U32 X) (hY:U32 Y):j<=max X.length Y.length:=by
 obtain ⟨h1,h2,h3,h4,h5⟩:=h;have h6:=h5 hx hy;rcases Nat.lt_or_ge (max X.length Y.length) j with h7|h7
 ·exfalso
  have hj:j=max X.length Y.length+1:=by omega
  rw [List.take_of_length_le hx,List.take_of_length_le hy] at h4;have l1:=Nat.lt_of_lt_of_le (fk hX) (mT (show X.length<=max X.length Y.length by omega))
  have l2:=Nat.lt_of_lt_of_le (fk hY) (mT (show Y.length<=max X.length Y.length by omega))
  have h8:pw j*1<=pw j*C:=Nat.mul_le_mul_left _ hC;rw [hj,gM] at h8;rw [hj,gM] at h4;omega
 ·exact h7
theorem dM.done {X Y:List Nat} {j C:Nat} {O:List Nat} (h:dM X Y j C O) (hx:X.length<=j) (hy:Y.length<=j) (hC:C=0):U32 O/\nv O=nv X+nv Y:=by
 obtain ⟨h1,h2,h3,h4,h5⟩:=h;rw [List.take_of_length_le hx,List.take_of_length_le hy,hC] at h4;exact ⟨h3,by omega⟩
theorem zt (w:World) (A D:Option Addr) (c d n m:Nat) (xs ys:List Nat) (h:Nt w A c xs) (k:Nt w D d ys) (hn:n=xs.length) (hm:m=ys.length) (hl:xs.length<=10000) (hl2:ys.length<=10000) :
 Calls prog 101 #[.slice A n c, .slice D m d] w (fh w (lim (nv xs+nv ys))):=by
 subst hn hm;obtain ⟨i0,hi,hz0,hz1,hz2⟩:=info_parts ch;go_enter func101,ntmps101;go_wp2_with fail;go_loopw [5,6,7] (fun o cy i wr=>∃(j C:Nat) (O:List Nat) (AO:Option Addr) (cO:Nat),i = .int .i64 j/\cy = .int .u64 C/\o = .slice AO O.length cO/\j<=xs.length+ys.length+1/\dM xs ys j C O/\Gr lmv 58 wr w.heap.size AO cO O/\Below w.heap.size w wr) (fun _ _ i _=>xs.length+ys.length+2-(intOf i).toNat)
 case atStart=>exact ⟨0,0,[],none,0,rfl,rfl,rfl,by omega,dM.start _ _,Gr.nil _ _,ah _ _⟩
 case round=>
  obtain ⟨j,C,O,AO,cO,rfl,rfl,rfl,hj,hinv,hgr,hbr⟩:=hrel;have HI:=ag hinv;have hC:C<=1:=hinv.1;have HO:=ag hinv.2.1;have hOl:O.length<=20001:=by rw [hinv.2.1];omega
  clear hinv;by_cases hx:j<xs.length
  ·obtain ⟨adX,rfl,hbX,hcX,hvX⟩:=(h.below hbr).at j hx;by_cases hy:j<ys.length
   ·obtain ⟨adY,rfl,hbY,hcY,hvY⟩:=(k.below hbr).at j hy;go_wp2_with (at_builtin;refine aD _ (mk:=lmv) (fun _=>rfl) rfl _ _ 27 rfl 58 i0 (.int .u32 0) 4 underlying27 hi hz0 hz1 hz2 rfl (B:=w.heap.size) rfl rfl (hgr.below ((ah _ wr).alloc (Nat.le_refl _) _)) _ 1 1 [(C+xs[j]+ys[j]) % 4294967296] rfl rfl (Rd.one_ wr _ _ _ (bL (by omega))) (by simp only [maxLen];omega) (by omega) (by have:=hbr.size;simp;omega) ?_;intro A' c' w3 hgA hgrA hbA hatA)
    go_roundw
    case rel=>exact ⟨j+1,_,_,A',c',by go_num,bL (iy _ _ _),by simp,by omega,dM.step HI.o h.u k.u (.inl hx) ((C+xs[j]+ys[j])) (by rw [rL hx,rL hy]),hgA,(hbr.alloc hbr.size _).trans hbA⟩
    case measure=>simp [intOf];omega
   ·skip
    go_wp2_with (at_builtin;refine aD _ (mk:=lmv) (fun _=>rfl) rfl _ _ 27 rfl 58 i0 (.int .u32 0) 4 underlying27 hi hz0 hz1 hz2 rfl (B:=w.heap.size) rfl rfl (hgr.below ((ah _ wr).alloc (Nat.le_refl _) _)) _ 1 1 [(C+xs[j]) % 4294967296] rfl rfl (Rd.one_ wr _ _ _ (bL (by omega))) (by simp only [maxLen];omega) (by omega) (by have:=hbr.size;simp;omega) ?_;intro A' c' w3 hgA hgrA hbA hatA)
    go_roundw
    case rel=>exact ⟨j+1,_,_,A',c',by go_num,bL (fM _ _),by simp,by omega,dM.step HI.o h.u k.u (.inl hx) ((C+xs[j])) (by rw [rL hx,og hy];rfl),hgA,(hbr.alloc hbr.size _).trans hbA⟩
    case measure=>simp [intOf];omega
  ·by_cases hy:j<ys.length
   ·obtain ⟨adY,rfl,hbY,hcY,hvY⟩:=(k.below hbr).at j hy;go_wp2_with (at_builtin;refine aD _ (mk:=lmv) (fun _=>rfl) rfl _ _ 27 rfl 58 i0 (.int .u32 0) 4 underlying27 hi hz0 hz1 hz2 rfl (B:=w.heap.size) rfl rfl (hgr.below ((ah _ wr).alloc (Nat.le_refl _) _)) _ 1 1 [(C+ys[j]) % 4294967296] rfl rfl (Rd.one_ wr _ _ _ (bL (by omega))) (by simp only [maxLen];omega) (by omega) (by have:=hbr.size;simp;omega) ?_;intro A' c' w3 hgA hgrA hbA hatA)
    go_roundw
    case rel=>exact ⟨j+1,_,_,A',c',by go_num,bL (fM _ _),by simp,by omega,dM.step HI.o h.u k.u (.inr (.inl hy)) ((C+ys[j])) (by rw [og hx,rL hy];omega),hgA,(hbr.alloc hbr.size _).trans hbA⟩
    case measure=>simp [intOf];omega
   ·by_cases hC0:0<C
    ·have hlast:=HI.o.last (by omega) (by omega) hC0 h.u k.u
     have hj2:j<=10000:=by omega
     go_wp2_with (at_builtin;refine aD _ (mk:=lmv) (fun _=>rfl) rfl _ _ 27 rfl 58 i0 (.int .u32 0) 4 underlying27 hi hz0 hz1 hz2 rfl (B:=w.heap.size) rfl rfl (hgr.below ((ah _ wr).alloc (Nat.le_refl _) _)) _ 1 1 [C % 4294967296] rfl rfl (Rd.one_ wr _ _ _ (bL (by omega))) (by simp only [maxLen];omega) (by omega) (by have:=hbr.size;simp;omega) ?_;intro A' c' w3 hgA hgrA hbA hatA)
     go_roundw
     case rel=>exact ⟨j+1,_,_,A',c',by go_num,bL (iL _),by simp,by omega,dM.step HI.o h.u k.u (.inr (.inr ⟨hC0,hlast⟩)) (C) (by rw [og hx,og hy];rfl),hgA,(hbr.alloc hbr.size _).trans hbA⟩
     case measure=>simp [intOf];omega
    ·have hfin:=HI.o.done (by omega) (by omega) (by omega)
     have hC1:decide ((0:Int)<(C:Int))=false:=decide_eq_false (by omega)
     have hnt:=hgr.nt hfin.1;have hlen:=ak hfin.1;have a8:=aL wr AO cO _ O hnt rfl (by omega)
     rw [hfin.2] at a8;have HF:=ag a8;clear a8 hlen hfin hnt;go_wp2_with fail;refine HF.o.mono ?_;rintro e w2 ⟨A',c',rfl,hg2,hb2⟩;go_wp2_with fail;go_ret;exact ⟨A',c',rfl,hg2.more fun ad e=>Nat.le_trans hbr.size (hg2.form.2.2 ad e).1,qd hbr hb2⟩
theorem qN (a x y z:Nat):((x:Int)*y+z+a)=((a+(x*y+z):Nat):Int):=by
 rw [Int.natCast_add,Int.natCast_add,Int.natCast_mul];omega
theorem pL (a x y z:Nat):((x:Int)*y+z+a) % 4294967296=(((a+(x*y+z)) % 4294967296:Nat):Int):=by rw [qN,kZ]
theorem pM (a x y z:Nat):((x:Int)*y+z+a)/4294967296=(((a+(x*y+z))/4294967296:Nat):Int):=by rw [qN,iL]
theorem Gr.drewN {α : Type} {mk : α -> Value} {e:TypeId} {w:World} {B c:Nat} {A:Option Addr} {xs:List α} (h:Gr mk e w B A c xs) (n:Nat):Gr mk e (w.drewN n) B A c xs:=h
theorem lW (w:World) (A D:Option Addr) (c d n m:Nat) (xs ys:List Nat) (h:Nt w A c xs) (k:Nt w D d ys) (hn:n=xs.length) (hm:m=ys.length) (hl:xs.length<=10000) (hl2:ys.length<=10000) :
 Calls prog 112 #[.slice A n c, .slice D m d] w (fh w (lim (nv xs*nv ys))):=by
 subst hn hm;obtain ⟨i0,hi,hz0,hz1,hz2⟩:=info_parts ch;go_enter func112,ntmps112;go_wp2_with (refine bp w (mk:=lmv) 0 rfl _ _ 27 rfl 58 i0 4 underlying27 hi hz0 hz1 hz2 rfl .i64 .i64 _ _ (xs.length+ys.length) rfl rfl (by omega) (by omega) (by omega) (by simp only [maxLen];omega) ?_;intro w1 hg1 hb1 hs1)
 go_loopw [6] (fun i wr=>∃(j:Nat) (O:List Nat),j<=xs.length/\i = .int .i64 j/\jh xs ys j O/\Gr lmv 58 wr w.heap.size (some ⟨w.heap.size,0,none⟩) (xs.length+ys.length) O/\Below w.heap.size w wr) (fun i _=>xs.length-(intOf i).toNat)
 case atStart=>exact ⟨0,_,by omega,rfl,jh.start _ _,by simpa using hg1,hb1⟩
 case round=>
  obtain ⟨j,O,hj,rfl,hinv,hgr,hbr⟩:=hrel;have HI:=ag hinv;have HO:=ag hinv.1;clear hinv hg1 hb1 hs1;have hsz:=hbr.size;have HB:=ag hbr;have HG:=ag hgr;by_cases hlt:j<xs.length
  ·clear hbr hgr;go_wp2_with fail;go_loopw [7,8] (fun cy i wr=>∃(m C:Nat) (O:List Nat),m<=ys.length/\i = .int .i64 m/\cy = .int .u64 C/\mV xs ys xs[j] j m C O/\Gr lmv 58 wr w.heap.size (some ⟨w.heap.size,0,none⟩) (xs.length+ys.length) O/\Below w.heap.size w wr) (fun _ i _=>ys.length-(intOf i).toNat)
   case atStart=>exact ⟨0,0,O,by omega,rfl,rfl,HI.o.in_ _,HG.o,HB.o⟩
   case round=>
    obtain ⟨m,C,O',hm,rfl,rfl,hinv,hgr,hbr⟩:=hrel;have ix:=ag hinv;have wv:=ag hinv.1;have hC:C<4294967296:=hinv.2.2.1;have hOu:=hinv.2.1;clear hinv;have hsz2:=hbr.size;have jn:=ag hbr;have mD:=ag hgr;by_cases hlt2:m<ys.length
    ·obtain ⟨adX,hadX,hbX,hcX,hvX⟩:=(h.below hbr).at j hlt;subst hadX;obtain ⟨adY,hadY,hbY,hcY,hvY⟩:=(k.below hbr).at m hlt2;subst hadY;have ho:j+m<O'.length:=by have:=wv.o;omega
     have hcell:=hgr.cell (j+m) ho;have hfree:=hgr.free (j+m);have hz:=hOu.at (j+m) ho;have hmul:xs[j]*ys[m]+O'[j+m]+C<18446744073709551616:=mG hvX hvY hz hC;have hm1:(0:Int)<=(j:Int)+m:=by omega
     have hm2:(j:Int)+m<(xs.length:Int)+ys.length:=by omega
     have hm3:IntKind.i64.wrap ((j:Int)+m)=(j:Int)+m:=IntWalk.i64_in _ (by omega)
     have hm4:((j:Int)+m).toNat=j+m:=by omega
     clear hbr hgr hOu;go_wp2_with fail
     go_quiet (fail)
     clear hm3 hm4;go_wp2_with fail;go_roundw
     case rel=>exact ⟨m+1,_,_,by omega,by go_num,by rw [pM],ix.o.step k.u hvX hlt2 hlt ho,by rw [pL];exact (mD.o.drewN nq).store _ _,(aJ jn.o nq).setCell (Nat.le_refl _) _⟩
     case measure=>simp [intOf];omega
    ·obtain rfl:m=ys.length:=by omega
     have ho:j+ys.length<O'.length:=by have:=wv.o;omega
     have hcell:=hgr.cell (j+ys.length) ho;have hfree:=hgr.free (j+ys.length);clear hbr hgr hOu;go_wp2_with fail;go_roundw
     case rel=>exact ⟨j+1,_,by omega,by go_num,ix.o.done hlt,mD.o.store _ _,jn.o.setCell (Nat.le_refl _) _⟩
     case measure=>simp [intOf];omega
  ·obtain rfl:j=xs.length:=by omega
   have hfin:U32 O/\nv O=nv xs*nv ys:=⟨HI.o.2.1,by rw [HI.o.2.2.1,List.take_length]⟩
   have hol:=HO.o;have hnt:=hgr.nt hfin.1;have hlen:=ak hfin.1;have a8:=aL wr _ _ _ O hnt rfl (by omega)
   rw [hfin.2,HO.o] at a8;have HF:=ag a8;clear a8 hlen hfin hnt hol hgr;go_wp2_with fail;refine HF.o.mono ?_;rintro e w2 ⟨A',c',rfl,hg2,hb2⟩;go_wp2_with fail;go_ret;exact ⟨A',c',rfl,hg2.more fun ad e=>Nat.le_trans hbr.size (hg2.form.2.2 ad e).1,qd hbr hb2⟩
theorem eI (w:World) (A D:Option Addr) (c d n m:Nat) (xs ys:List Nat) (z:Int) (h:Nt w A c xs) (k:Nt w D d ys) (hn:n=xs.length) (hm:m=ys.length) (hl:(lim (nv xs)).length<=1000000) (hl2:(lim (nv ys)).length<=1000000) (hz:i6 (nv xs) (nv ys)=z) :
 Calls prog 72 #[.slice A n c, .slice D m d] w fun e w'=>e = .returned (.int .i64 z)/\Below w.heap.size w w':=by
 have HZ:=ag hz;clear hz;subst hn hm;go_enter func72,ntmps72;go_wp2_with fail;refine (aL w A c _ xs h rfl hl).mono ?_;rintro e wa ⟨A1,c1,rfl,g1,b1⟩;have x1:=g1.nt (aC _);have k1:=k.below b1;clear g1;go_wp2_with fail;refine (aL wa D d _ ys k1 rfl hl2).mono ?_;rintro e wb ⟨A2,c2,rfl,g2,b2⟩;have hy:=g2.nt (aC _);have hx:=x1.below b2;have bw:=qd b1 b2;clear g2 x1 k1 b1 b2 h k;rcases Nat.lt_trichotomy (lim (nv xs)).length (lim (nv ys)).length with hl|hl|hl
 ·have hne:(((lim (nv xs)).length:Int) != ((lim (nv ys)).length:Int))=true:=by rw [bne_iff_ne];omega
  go_wp2_with fail;go_ret;exact ⟨dV (by rw [<-HZ.o,il (fW hl)]),bw⟩
 ·have HL:=ag hl;have hne:(((lim (nv xs)).length:Int) != ((lim (nv ys)).length:Int))=false:=by rw [hl];simp
  have hxl:=hx.len;clear hl;go_wp2_with fail;go_loopw [5] (fun i wr=>∃k:Nat,k<=(lim (nv xs)).length/\i = .int .i64 ((k:Int)-1)/\jZ (lim (nv xs)) (lim (nv ys)) k/\Qt wb wr) (fun i _=>(intOf i+1).toNat)
  case atStart=>exact ⟨(lim (nv xs)).length,Nat.le_refl _,by go_num,jZ.start _ _,Qt.refl _⟩
  case round=>
   obtain ⟨k,hk,rfl,ht,q⟩:=hrel;have HT:=ag ht;clear ht;rcases k with _|k
   ·go_wp2_with fail;go_ret;exact ⟨dV (by rw [<-HZ.o,wJ (HT.o.eq HL.o)]),qd bw q.keep⟩
   ·have hk2:k<(lim (nv ys)).length:=by have:=HL.o;omega
    obtain ⟨ad,rfl,hb,hcx,hlt⟩:=(hx.below (q.below _)).at k (by omega)
    obtain ⟨ad2,rfl,hb2,hcy,hlt2⟩:=(hy.below (q.below _)).at k hk2;have hk1:k<(lim (nv xs)).length:=by omega
    clear hx hy;rcases Nat.lt_trichotomy (lim (nv xs))[k] (lim (nv ys))[k] with he|he|he
    ·have he1:((lim (nv xs))[k]:Int)<(lim (nv ys))[k]:=by omega
     go_wp2_with fail
     go_quiet (fail)
     go_wp2_with fail;go_ret;exact ⟨dV (by rw [<-HZ.o,il (HT.o.lt HL.o hk1 hk2 he)]),ai bw (by first|exact (q.drewN _).keep|exact ((q.drewN _).drewN _).keep) bw.size⟩
    ·have HE:=ag he;have he1:¬((lim (nv xs))[k]:Int)<(lim (nv ys))[k]:=by omega
     have he2:¬((lim (nv ys))[k]:Int)<(lim (nv xs))[k]:=by omega
     clear he;go_wp2_with fail
     go_quiet (fail)
     go_wp2_with fail
     go_quiet (fail)
     go_wp2_with fail;go_roundw
     case rel=>exact ⟨k,by omega,by go_num,HT.o.step hk1 hk2 HE.o,by first|exact q.drewN _|exact (q.drewN _).drewN _⟩
     case measure=>simp [intOf]
    ·have he1:¬((lim (nv xs))[k]:Int)<(lim (nv ys))[k]:=by omega
     have he2:((lim (nv ys))[k]:Int)<(lim (nv xs))[k]:=by omega
     go_wp2_with fail
     go_quiet (fail)
     go_wp2_with fail
     go_quiet (fail)
     go_wp2_with fail;go_ret;exact ⟨dV (by rw [<-HZ.o,kU (HT.o.symm.lt HL.o.symm hk2 hk1 he)]),ai bw (by first|exact (q.drewN _).keep|exact ((q.drewN _).drewN _).keep) bw.size⟩
 ·have hne:(((lim (nv xs)).length:Int) != ((lim (nv ys)).length:Int))=true:=by rw [bne_iff_ne];omega
  go_wp2_with fail;go_ret;exact ⟨dV (by rw [<-HZ.o,kU (fW hl)]),bw⟩
theorem ti (w:World) (A D:Option Addr) (c d M N:Nat) (z:Int) (h:Nt w A c (lim M)) (k:Nt w D d (lim N)) (hl:(lim M).length<=1000000) (hl2:(lim N).length<=1000000) (hz:i6 M N=z) :
 Calls prog 72 #[.slice A (lim M).length c, .slice D (lim N).length d] w fun e w'=>e = .returned (.int .i64 z)/\Below w.heap.size w w':=
 eI w A D c d _ _ (lim M) (lim N) z h k rfl rfl (by rw [am];exact hl) (by rw [am];exact hl2) (by rw [am,am];exact hz)
theorem ru (w:World) (A D:Option Addr) (c d M N:Nat) (h:Nt w A c (lim M)) (k:Nt w D d (lim N)) (hl:(lim M).length<=1000) (hl2:(lim N).length<=1000) (hlt:M<N) :
 Calls prog 111 #[.slice A (lim M).length c, .slice D (lim N).length d] w (jK w (M/N) (M % N)):=by
 have HC:=ag (ti w A D c d M N (-1) h k (by omega) (by omega) (il hlt))
 have HQ:Hd (M/N=0):=ag (Nat.div_eq_of_lt hlt);have HR:Hd (M % N=M):=ag (Nat.mod_eq_of_lt hlt);clear hlt;go_enter func111,ntmps111;go_wp2_with fail;refine HC.o.mono ?_;rintro e w1 ⟨rfl,b1⟩;have ht:=aL w1 A c _ (lim M) (h.below b1) rfl (by rw [am];omega)
 rw [am] at ht;have HT:=ag ht;clear ht;go_wp2_with fail;refine HT.o.mono ?_;rintro e w2 ⟨A2,c2,rfl,g2,b2⟩;have n2:=g2.nt (aC _);clear g2;go_wp2_with fail
 go_ret2
 rw [HQ.o,HR.o];exact ⟨none,0,A2,c2,by rw [aV];rfl,by rw [aV];exact Nt.nil _ _ _ (by omega),n2,qd b1 b2⟩
theorem pH (w:World) (A D:Option Addr) (c d M x:Nat) (h:Nt w A c (lim M)) (k:Nt w D d [x]) (hl:(lim M).length<=1000) (hx0:0<x) (hge:x<=M) :
 Calls prog 111 #[.slice A (lim M).length c, .slice D 1 d] w (jK w (M/x) (M % x)):=by
 obtain ⟨z,hz0,hz⟩:∃z:Int,0<=z/\i6 M x=z:=⟨_,by unfold i6;rw [if_neg (by omega)];split <;> omega,rfl⟩
 have hx:=k.u.at 0 (by simp)
 simp only [List.getElem_cons_zero] at hx;have hxl:(lim x).length<=1:=by rw [aA];exact hx
 have HC:=ag (eI w A D c d _ 1 (lim M) [x] z h k rfl rfl (by rw [am];omega) (by simp only [aT,aW,Nat.mul_zero,Nat.add_zero];omega) (by rw [am];simpa [aT,aW] using hz))
 clear hz hxl;obtain ⟨xs,hxs⟩:∃xs,xs=lim M:=⟨_,rfl⟩;have hM:nv xs=M:=by rw [hxs,am]
 rw [<-hxs] at h hl HC|-;have HM:=ag hM;clear hxs hM;have h3:=h.cap;have h4:=h.max;obtain ⟨i0,hi,hz0',hz1,hz2⟩:=info_parts ch;go_enter func111,ntmps111;go_wp2_with fail;refine HC.o.mono ?_;rintro e w1 ⟨rfl,b1⟩;have hx1:=h.below b1;obtain ⟨adD,rfl,hbD,hcD,_⟩:=(k.below b1).at 0 (by simp)
 simp only [List.getElem_cons_zero] at hcD;have hcD:w1.cell? adD=some (.int .u32 (x:Int)):=hcD;go_wp2_with (at_make;refine bp w1 (mk:=lmv) 0 rfl _ _ 27 rfl 58 i0 4 underlying27 hi hz0' hz1 hz2 rfl .i64 .i64 _ _ xs.length rfl rfl (by omega) (by omega) (by omega) (by simp only [maxLen];omega) ?_;intro w2 hg1 hb1 hs1)
 go_loopw [7,8] (fun rs i wr=>∃(j r:Nat) (O:List Nat),j<=xs.length/\i = .int .i64 ((j:Int)-1)/\rs = .int .u64 r/\eg xs x j r O/\Gr lmv 58 wr w1.heap.size (some ⟨w1.heap.size,0,none⟩) xs.length (List.replicate j 0++O)/\Below w1.heap.size w1 wr/\w1.heap.size<wr.heap.size) (fun _ i _=>(intOf i+1).toNat)
 case atStart=>exact ⟨xs.length,0,[],Nat.le_refl _,rfl,rfl,eg.start xs hx0,by simpa using hg1,hb1,hs1⟩
 case round=>
  obtain ⟨j,r,O,hj,rfl,rfl,hinv,hgr,hbr,hsz⟩:=hrel;have HI:=ag hinv;have hr:r<x:=hinv.1;have hcD3:=(hbr.cell (p:=adD) hbD).trans hcD;clear hinv hg1 hs1 hb1;have HB:=ag hbr;have HG:=ag hgr;rcases j with _|j
  ·have hfin:=HI.o.done;have hnt:=hgr.nt (by simpa using hfin.1)
   simp only [List.replicate_zero,List.nil_append] at hnt;have hl2:=ak hnt.u;have ht:=aL wr _ _ _ O hnt hfin.2.2.2.symm (by omega)
   rw [hfin.2.1,HM.o] at ht;have HT:=ag ht;have HF:=ag hfin;have hr64:r<18446744073709551616:=by omega
   have E3:=ag hr64;have bwr:=qd b1 hbr;clear hgr hbr hfin hnt ht hl2 hr64;go_wp2_with fail;refine HT.o.mono ?_;rintro e w3 ⟨A3,c3,rfl,g3,b3⟩;have n3:=g3.nt (aC _);clear g3;go_wp2_with fail;refine (gh w3 r E3.o).mono ?_;rintro e w4 ⟨A4,c4,rfl,g4,b4⟩;have n4:=g4.nt (aC _);have n5:=n3.below b4;clear g4 n3;go_wp2_with fail
   go_ret2
   have er:M % x=r:=by rw [<-HM.o,<-HF.o.2.2.1]
   rw [er];exact ⟨A3,c3,A4,c4,rfl,n5,n4,ai (qd bwr b3) b4 (Nat.le_trans bwr.size b3.size)⟩
  ·have hlt:j<xs.length:=by omega
   obtain ⟨adX,hadX,hbX,hcX,hvX⟩:=(hx1.below hbr).at j hlt;subst hadX;have hfree:=hgr.free j;have hcell:wr.cell? ⟨w1.heap.size,j,none⟩=some (.int .u32 0):=by
    rw [hgr.cell j (by simp;omega),List.getElem_append_left (by simp)]
    simp
   clear hcD3;have hcD3:=(hbr.cell (p:=adD) hbD).trans hcD;have hcD4:(wr.setCell ⟨w1.heap.size,j,none⟩ (.int .u32 (((r:Int)*4294967296+xs[j])/x))).cell? adD=some (.int .u32 (x:Int)):=((hbr.setCell (p:=⟨w1.heap.size,j,none⟩) (Nat.le_refl _) _).cell (p:=adD) hbD).trans hcD;clear hbr hgr;have hor:=iE (r:=r) (x:=xs[j]) (by omega) hvX
   have hq0:0<=((r:Int)*4294967296+xs[j])/x:=Int.ediv_nonneg (by omega) (by omega)
   have hq:((r:Int)*4294967296+xs[j])/x<4294967296:=by
    have:=rm hr hvX;rw [fZ];omega
   go_wp2_with fail;go_roundw
   case rel=>exact ⟨j,_,_,by omega,rfl,by rw [lh],HI.o.step hx1.u hlt,by rw [fZ];exact HG.o.pull _,HB.o.setCell (Nat.le_refl _) _,by simpa [World.setCell] using hsz⟩
   case measure=>simp [intOf]
theorem BQ {Y:List Nat} {j:Nat} (h:j<Y.length):Y.getD j 0=Y[j]:=by simp [h]
theorem zS {Y:List Nat} {j:Nat} (h:¬j<Y.length):Y.getD j 0=0:=by simp [List.getElem?_eq_none (Nat.le_of_not_lt h)]
theorem qy (w:World) (A D:Option Addr) (c d n m:Nat) (xs ys:List Nat) (h:Nt w A c xs) (k:Nt w D d ys) (hn:n=xs.length) (hm:m=ys.length) (hl:xs.length<=10000) (hl2:ys.length<=xs.length) (hle:nv ys<=nv xs) :
 Calls prog 102 #[.slice A n c, .slice D m d] w (fh w (lim (nv xs-nv ys))):=by
 subst hn hm;have hZ:=ag hle;clear hle;obtain ⟨i0,hi,hz0,hz1,hz2⟩:=info_parts ch;go_enter func102,ntmps102;go_wp2_with fail;go_loopw [5,6,7] (fun o cy i wr=>∃(j C:Nat) (O:List Nat) (AO:Option Addr) (cO:Nat),j<=xs.length/\i = .int .i64 j/\cy = .int .u64 C/\o = .slice AO O.length cO/\fg xs ys j C O/\Gr lmv 58 wr w.heap.size AO cO O/\Below w.heap.size w wr) (fun _ _ i _=>xs.length-(intOf i).toNat)
 case atStart=>exact ⟨0,0,[],none,0,by omega,rfl,rfl,rfl,fg.start _ _,Gr.nil _ _,ah _ _⟩
 case round=>
  obtain ⟨j,C,O,AO,cO,hj,rfl,rfl,rfl,hinv,hgr,hbr⟩:=hrel;have HI:=ag hinv;have hC:C<=1:=hinv.1;have HO:=ag hinv.2.1;have hOl:O.length<=10000:=by rw [hinv.2.1];omega
  clear hinv;by_cases hx:j<xs.length
  ·obtain ⟨adX,rfl,hbX,hcX,hvX⟩:=(h.below hbr).at j hx;by_cases hy:j<ys.length
   ·obtain ⟨adY,rfl,hbY,hcY,hvY⟩:=(k.below hbr).at j hy;have hg:=BQ hy;have kH:=ag hg;clear hg;by_cases hb:xs[j]<C+ys[j]
    ·have hb1:(xs[j]:Int)<(C:Int)+ys[j]:=by omega
     skip
     go_wp2_with (at_builtin;refine aD _ (mk:=lmv) (fun _=>rfl) rfl _ _ 27 rfl 58 i0 (.int .u32 0) 4 underlying27 hi hz0 hz1 hz2 rfl (B:=w.heap.size) rfl rfl (hgr.below ((ah _ wr).alloc (Nat.le_refl _) _)) _ 1 1 [xs[j]+4294967296-(C+ys[j])] rfl rfl (Rd.one_ wr _ _ _ (bL (by omega))) (by simp only [maxLen];omega) (by omega) (by have:=hbr.size;simp;omega) ?_;intro A' c' w3 hgA hgrA hbA hatA)
     go_roundw
     case rel=>exact ⟨j+1,1,O ++ [xs[j]+4294967296-(C+ys[j])],A',c',by omega,by go_num,rfl,by simp,fg.step HI.o hx (xs[j]+4294967296-(C+ys[j])) 1 (by omega) (by omega) (by rw [kH.o];omega),hgA,(hbr.alloc hbr.size _).trans hbA⟩
     case measure=>simp [intOf];omega
    ·have hb1:¬(xs[j]:Int)<(C:Int)+ys[j]:=by omega
     have hb2:decide ((xs[j]:Int)<(C:Int)+ys[j])=false:=decide_eq_false hb1
     skip
     go_wp2_with (at_builtin;refine aD _ (mk:=lmv) (fun _=>rfl) rfl _ _ 27 rfl 58 i0 (.int .u32 0) 4 underlying27 hi hz0 hz1 hz2 rfl (B:=w.heap.size) rfl rfl (hgr.below ((ah _ wr).alloc (Nat.le_refl _) _)) _ 1 1 [xs[j]-(C+ys[j])] rfl rfl (Rd.one_ wr _ _ _ (bL (by omega))) (by simp only [maxLen];omega) (by omega) (by have:=hbr.size;simp;omega) ?_;intro A' c' w3 hgA hgrA hbA hatA)
     go_roundw
     case rel=>exact ⟨j+1,0,O ++ [xs[j]-(C+ys[j])],A',c',by omega,by go_num,rfl,by simp,fg.step HI.o hx (xs[j]-(C+ys[j])) 0 (by omega) (by omega) (by rw [kH.o];omega),hgA,(hbr.alloc hbr.size _).trans hbA⟩
     case measure=>simp [intOf];omega
   ·have kH:=ag (zS hy);by_cases hb:xs[j]<C
    ·have hb1:(xs[j]:Int)<(C:Int):=by omega
     skip
     go_wp2_with (at_builtin;refine aD _ (mk:=lmv) (fun _=>rfl) rfl _ _ 27 rfl 58 i0 (.int .u32 0) 4 underlying27 hi hz0 hz1 hz2 rfl (B:=w.heap.size) rfl rfl (hgr.below ((ah _ wr).alloc (Nat.le_refl _) _)) _ 1 1 [xs[j]+4294967296-C] rfl rfl (Rd.one_ wr _ _ _ (bL (by omega))) (by simp only [maxLen];omega) (by omega) (by have:=hbr.size;simp;omega) ?_;intro A' c' w3 hgA hgrA hbA hatA)
     go_roundw
     case rel=>exact ⟨j+1,1,O ++ [xs[j]+4294967296-C],A',c',by omega,by go_num,rfl,by simp,fg.step HI.o hx (xs[j]+4294967296-C) 1 (by omega) (by omega) (by rw [kH.o];omega),hgA,(hbr.alloc hbr.size _).trans hbA⟩
     case measure=>simp [intOf];omega
    ·have hb1:¬(xs[j]:Int)<(C:Int):=by omega
     have hb2:decide ((xs[j]:Int)<(C:Int))=false:=decide_eq_false hb1
     skip
     go_wp2_with (at_builtin;refine aD _ (mk:=lmv) (fun _=>rfl) rfl _ _ 27 rfl 58 i0 (.int .u32 0) 4 underlying27 hi hz0 hz1 hz2 rfl (B:=w.heap.size) rfl rfl (hgr.below ((ah _ wr).alloc (Nat.le_refl _) _)) _ 1 1 [xs[j]-C] rfl rfl (Rd.one_ wr _ _ _ (bL (by omega))) (by simp only [maxLen];omega) (by omega) (by have:=hbr.size;simp;omega) ?_;intro A' c' w3 hgA hgrA hbA hatA)
     go_roundw
     case rel=>exact ⟨j+1,0,O ++ [xs[j]-C],A',c',by omega,by go_num,rfl,by simp,fg.step HI.o hx (xs[j]-C) 0 (by omega) (by omega) (by rw [kH.o];omega),hgA,(hbr.alloc hbr.size _).trans hbA⟩
     case measure=>simp [intOf];omega
  ·obtain rfl:j=xs.length:=by omega
   have hfin:=HI.o.done hl2 hZ.o;have hnt:=hgr.nt hfin.1;have hlen:=ak hfin.1;have a8:=aL wr AO cO _ O hnt rfl (by omega)
   rw [hfin.2.1] at a8;have HF:=ag a8;clear a8 hlen hfin hnt;go_wp2_with fail;refine HF.o.mono ?_;rintro e w2 ⟨A',c',rfl,hg2,hb2⟩;go_wp2_with fail;go_ret;exact ⟨A',c',rfl,hg2.more fun ad e=>Nat.le_trans hbr.size (hg2.form.2.2 ad e).1,qd hbr hb2⟩
theorem pi {m n j k:Nat} (hm:(lim m).length<=j) (hn:(lim n).length<=k):(lim (m*n)).length<=j+k:=by
 rw [aA] at *;rw [jz];exact Nat.mul_lt_mul'' hm hn
theorem tL {m n k:Nat} (hm:(lim m).length<=k) (hn:(lim n).length<=k):(lim (m+n)).length<=k+1:=by
 rw [aA] at *;rw [gM];omega
theorem qa (w:World) (A D:Option Addr) (c d M N:Nat) (h:Nt w A c (lim M)) (k:Nt w D d (lim N)) (hl:(lim M).length<=10000) (hl2:(lim N).length<=10000) :
 Calls prog 101 #[.slice A (lim M).length c, .slice D (lim N).length d] w (fh w (lim (M+N))):=by
 have hc:=zt w A D c d _ _ (lim M) (lim N) h k rfl rfl hl hl2;rw [am,am] at hc;exact hc
theorem oQ (w:World) (A D:Option Addr) (c d M N:Nat) (h:Nt w A c (lim M)) (k:Nt w D d (lim N)) (hl:(lim M).length<=10000) (hl2:(lim N).length<=10000) :
 Calls prog 112 #[.slice A (lim M).length c, .slice D (lim N).length d] w (fh w (lim (M*N))):=by
 have hc:=lW w A D c d _ _ (lim M) (lim N) h k rfl rfl hl hl2;rw [am,am] at hc;exact hc
theorem uL (w:World) (A D:Option Addr) (c d M N:Nat) (h:Nt w A c (lim M)) (k:Nt w D d (lim N)) (hl:(lim M).length<=10000) (hle:N<=M) :
 Calls prog 102 #[.slice A (lim M).length c, .slice D (lim N).length d] w (fh w (lim (M-N))):=by
 have hc:=qy w A D c d _ _ (lim M) (lim N) h k rfl rfl hl (ao hle) (by rw [am,am];exact hle)
 rw [am,am] at hc;exact hc
theorem iP (w:World) (A:Option Addr) (c N:Nat) (b:Bool) (h:Nt w A c (lim N)) (hl:(lim N).length<=1000000) (hb:decide (512<(lim N).length)=b) :
 Calls prog 100 #[.slice A (lim N).length c] w fun e w'=>e = .returned (.bool b)/\Below w.heap.size w w':=
 aE w A c _ (lim N) b h rfl (by rw [am];exact hl) (by rw [am];exact hb)
theorem yS (w:World) (A D:Option Addr) (c d n m:Nat) (xs ys R:List Nat) (E:Int) (h:Nt w A c xs) (k:Nt w D d ys) (hn:n=xs.length) (hm:m=ys.length) (hl:xs.length<=10000) (hl2:ys.length<=10000) (hr:pG (nv xs) (nv ys)=(R,E)) :
 Calls prog 71 #[.slice A n c, .slice D m d] w (jJ w R E):=by
 subst hn hm;have HR:=ag hr;clear hr;have hl1:=ak h.u;have hl2:=ak k.u;have hl3:(lim (nv xs)).length<=1000000:=by omega
 have hl4:(lim (nv ys)).length<=1000000:=by omega
 have h3:=h.cap;have h4:=h.max;have k3:=k.cap;have k4:=k.max;by_cases hb:512<(lim (nv xs)).length
 ·go_enter func71,ntmps71;go_wp2_with fail;refine (aE _ A c _ xs true h rfl hl3 (by simp <;> omega)).mono ?_
  rintro e wn ⟨rfl,bb⟩;replace h:=h.below bb;replace k:=k.below bb;have bw:=bb;clear bb;go_wp2_with fail
  go_ret2
  have e:=HR.o;rw [qT hb] at e;obtain ⟨rfl,rfl⟩:=Prod.mk.inj e;exact ⟨_,_,rfl,Nt.nil _ _ _ (by omega),bw⟩
 ·by_cases hb2:512<(lim (nv ys)).length
  ·go_enter func71,ntmps71;go_wp2_with fail;refine (aE _ A c _ xs false h rfl hl3 (by simp <;> omega)).mono ?_
   rintro e wn ⟨rfl,bb⟩;replace h:=h.below bb;replace k:=k.below bb;have bw:=bb;clear bb;go_wp2_with fail;refine (aE _ D d _ ys true k rfl hl4 (by simp <;> omega)).mono ?_
   rintro e wn ⟨rfl,bb⟩;replace h:=h.below bb;replace k:=k.below bb;replace bw:=qd bw bb;clear bb;go_wp2_with fail
   go_ret2
   have e:=HR.o;rw [qS hb2] at e;obtain ⟨rfl,rfl⟩:=Prod.mk.inj e;exact ⟨_,_,rfl,Nt.nil _ _ _ (by omega),bw⟩
  ·have hlen:(lim (nv xs+nv ys)).length<=1000000:=by
    have h5:=pi (m:=nv xs) (n:=nv ys) (j:=512) (k:=512) (by omega) (by omega)
    have h6:=tL (m:=nv xs) (n:=nv ys) (k:=512) (by omega) (by omega)
    omega
   by_cases hs:512<(lim (nv xs+nv ys)).length
   ·go_enter func71,ntmps71;go_wp2_with fail;refine (aE _ A c _ xs false h rfl hl3 (by simp <;> omega)).mono ?_
    rintro e wn ⟨rfl,bb⟩;replace h:=h.below bb;replace k:=k.below bb;have bw:=bb;clear bb;go_wp2_with fail;refine (aE _ D d _ ys false k rfl hl4 (by simp <;> omega)).mono ?_
    rintro e wn ⟨rfl,bb⟩;replace h:=h.below bb;replace k:=k.below bb;replace bw:=qd bw bb;clear bb;go_wp2_with fail;refine (aL _ A c _ xs h rfl hl3).mono ?_;rintro e wn ⟨A1,c1,rfl,g1,bb⟩;have n1:=g1.nt (aC _);replace k:=k.below bb;replace bw:=qd bw bb;clear g1 bb;go_wp2_with fail;refine (aL _ D d _ ys k rfl hl4).mono ?_;rintro e wn ⟨A2,c2,rfl,g2,bb⟩;have n2:=g2.nt (aC _);replace n1:=n1.below bb;replace bw:=qd bw bb;clear g2 bb;go_wp2_with fail;refine (qa _ A1 A2 c1 c2 _ _ n1 n2 (by omega) (by omega)).mono ?_
    rintro e wn ⟨A3,c3,rfl,g3,bb⟩;have n3:=g3.nt (aC _);replace bw:=qd bw bb;clear g3 bb;go_wp2_with fail;refine (iP _ A3 c3 _ true n3 hlen (by simpa using hs)).mono ?_
    rintro e wn ⟨rfl,bb⟩;replace bw:=qd bw bb;go_wp2_with fail
    go_ret2
    have e:=HR.o;rw [oA hb hb2,iC,if_pos hs] at e;obtain ⟨rfl,rfl⟩:=Prod.mk.inj e;exact ⟨_,_,rfl,Nt.nil _ _ _ (by omega),bw⟩
   ·go_enter func71,ntmps71;go_wp2_with fail;refine (aE _ A c _ xs false h rfl hl3 (by simp <;> omega)).mono ?_
    rintro e wn ⟨rfl,bb⟩;replace h:=h.below bb;replace k:=k.below bb;have bw:=bb;clear bb;go_wp2_with fail;refine (aE _ D d _ ys false k rfl hl4 (by simp <;> omega)).mono ?_
    rintro e wn ⟨rfl,bb⟩;replace h:=h.below bb;replace k:=k.below bb;replace bw:=qd bw bb;clear bb;go_wp2_with fail;refine (aL _ A c _ xs h rfl hl3).mono ?_;rintro e wn ⟨A1,c1,rfl,g1,bb⟩;have n1:=g1.nt (aC _);replace k:=k.below bb;replace bw:=qd bw bb;clear g1 bb;go_wp2_with fail;refine (aL _ D d _ ys k rfl hl4).mono ?_;rintro e wn ⟨A2,c2,rfl,g2,bb⟩;have n2:=g2.nt (aC _);replace n1:=n1.below bb;replace bw:=qd bw bb;clear g2 bb;go_wp2_with fail;refine (qa _ A1 A2 c1 c2 _ _ n1 n2 (by omega) (by omega)).mono ?_
    rintro e wn ⟨A3,c3,rfl,g3,bb⟩;have n3:=g3.nt (aC _);replace bw:=qd bw bb;clear g3 bb;go_wp2_with fail;refine (iP _ A3 c3 _ false n3 hlen (by simpa using hs)).mono ?_
    rintro e wn ⟨rfl,bb⟩;replace n3:=n3.below bb;replace bw:=qd bw bb;clear bb;go_wp2_with fail
    go_ret2
    have e:=HR.o;rw [oA hb hb2,iC,if_neg hs] at e;obtain ⟨rfl,rfl⟩:=Prod.mk.inj e;exact ⟨_,_,rfl,n3,bw⟩
theorem sY (w:World) (A D:Option Addr) (c d n m:Nat) (xs ys R:List Nat) (E:Int) (h:Nt w A c xs) (k:Nt w D d ys) (hn:n=xs.length) (hm:m=ys.length) (hl:xs.length<=10000) (hl2:ys.length<=10000) (hr:nh (nv xs) (nv ys)=(R,E)) :
 Calls prog 86 #[.slice A n c, .slice D m d] w (jJ w R E):=by
 subst hn hm;have HR:=ag hr;clear hr;have hl1:=ak h.u;have hl2:=ak k.u;have hl3:(lim (nv xs)).length<=1000000:=by omega
 have hl4:(lim (nv ys)).length<=1000000:=by omega
 have h3:=h.cap;have h4:=h.max;have k3:=k.cap;have k4:=k.max;by_cases hb:512<(lim (nv xs)).length
 ·go_enter func86,ntmps86;go_wp2_with fail;refine (aE _ A c _ xs true h rfl hl3 (by simp <;> omega)).mono ?_
  rintro e wn ⟨rfl,bb⟩;replace h:=h.below bb;replace k:=k.below bb;have bw:=bb;clear bb;go_wp2_with fail
  go_ret2
  have e:=HR.o;rw [qx hb] at e;obtain ⟨rfl,rfl⟩:=Prod.mk.inj e;exact ⟨_,_,rfl,Nt.nil _ _ _ (by omega),bw⟩
 ·by_cases hb2:512<(lim (nv ys)).length
  ·go_enter func86,ntmps86;go_wp2_with fail;refine (aE _ A c _ xs false h rfl hl3 (by simp <;> omega)).mono ?_
   rintro e wn ⟨rfl,bb⟩;replace h:=h.below bb;replace k:=k.below bb;have bw:=bb;clear bb;go_wp2_with fail;refine (aE _ D d _ ys true k rfl hl4 (by simp <;> omega)).mono ?_
   rintro e wn ⟨rfl,bb⟩;replace h:=h.below bb;replace k:=k.below bb;replace bw:=qd bw bb;clear bb;go_wp2_with fail
   go_ret2
   have e:=HR.o;rw [qw hb2] at e;obtain ⟨rfl,rfl⟩:=Prod.mk.inj e;exact ⟨_,_,rfl,Nt.nil _ _ _ (by omega),bw⟩
  ·have hlen:(lim (nv xs*nv ys)).length<=1000000:=by
    have h5:=pi (m:=nv xs) (n:=nv ys) (j:=512) (k:=512) (by omega) (by omega)
    have h6:=tL (m:=nv xs) (n:=nv ys) (k:=512) (by omega) (by omega)
    omega
   by_cases hs:512<(lim (nv xs*nv ys)).length
   ·go_enter func86,ntmps86;go_wp2_with fail;refine (aE _ A c _ xs false h rfl hl3 (by simp <;> omega)).mono ?_
    rintro e wn ⟨rfl,bb⟩;replace h:=h.below bb;replace k:=k.below bb;have bw:=bb;clear bb;go_wp2_with fail;refine (aE _ D d _ ys false k rfl hl4 (by simp <;> omega)).mono ?_
    rintro e wn ⟨rfl,bb⟩;replace h:=h.below bb;replace k:=k.below bb;replace bw:=qd bw bb;clear bb;go_wp2_with fail;refine (aL _ A c _ xs h rfl hl3).mono ?_;rintro e wn ⟨A1,c1,rfl,g1,bb⟩;have n1:=g1.nt (aC _);replace k:=k.below bb;replace bw:=qd bw bb;clear g1 bb;go_wp2_with fail;refine (aL _ D d _ ys k rfl hl4).mono ?_;rintro e wn ⟨A2,c2,rfl,g2,bb⟩;have n2:=g2.nt (aC _);replace n1:=n1.below bb;replace bw:=qd bw bb;clear g2 bb;go_wp2_with fail;refine (oQ _ A1 A2 c1 c2 _ _ n1 n2 (by omega) (by omega)).mono ?_
    rintro e wn ⟨A3,c3,rfl,g3,bb⟩;have n3:=g3.nt (aC _);replace bw:=qd bw bb;clear g3 bb;go_wp2_with fail;refine (iP _ A3 c3 _ true n3 hlen (by simpa using hs)).mono ?_
    rintro e wn ⟨rfl,bb⟩;replace bw:=qd bw bb;go_wp2_with fail
    go_ret2
    have e:=HR.o;rw [iY hb hb2,iC,if_pos hs] at e;obtain ⟨rfl,rfl⟩:=Prod.mk.inj e;exact ⟨_,_,rfl,Nt.nil _ _ _ (by omega),bw⟩
   ·go_enter func86,ntmps86;go_wp2_with fail;refine (aE _ A c _ xs false h rfl hl3 (by simp <;> omega)).mono ?_
    rintro e wn ⟨rfl,bb⟩;replace h:=h.below bb;replace k:=k.below bb;have bw:=bb;clear bb;go_wp2_with fail;refine (aE _ D d _ ys false k rfl hl4 (by simp <;> omega)).mono ?_
    rintro e wn ⟨rfl,bb⟩;replace h:=h.below bb;replace k:=k.below bb;replace bw:=qd bw bb;clear bb;go_wp2_with fail;refine (aL _ A c _ xs h rfl hl3).mono ?_;rintro e wn ⟨A1,c1,rfl,g1,bb⟩;have n1:=g1.nt (aC _);replace k:=k.below bb;replace bw:=qd bw bb;clear g1 bb;go_wp2_with fail;refine (aL _ D d _ ys k rfl hl4).mono ?_;rintro e wn ⟨A2,c2,rfl,g2,bb⟩;have n2:=g2.nt (aC _);replace n1:=n1.below bb;replace bw:=qd bw bb;clear g2 bb;go_wp2_with fail;refine (oQ _ A1 A2 c1 c2 _ _ n1 n2 (by omega) (by omega)).mono ?_
    rintro e wn ⟨A3,c3,rfl,g3,bb⟩;have n3:=g3.nt (aC _);replace bw:=qd bw bb;clear g3 bb;go_wp2_with fail;refine (iP _ A3 c3 _ false n3 hlen (by simpa using hs)).mono ?_
    rintro e wn ⟨rfl,bb⟩;replace n3:=n3.below bb;replace bw:=qd bw bb;clear bb;go_wp2_with fail
    go_ret2
    have e:=HR.o;rw [iY hb hb2,iC,if_neg hs] at e;obtain ⟨rfl,rfl⟩:=Prod.mk.inj e;exact ⟨_,_,rfl,n3,bw⟩
theorem sX (w:World) (A D:Option Addr) (c d n m:Nat) (xs ys R:List Nat) (E:Int) (h:Nt w A c xs) (k:Nt w D d ys) (hn:n=xs.length) (hm:m=ys.length) (hl:xs.length<=10000) (hl2:ys.length<=10000) (hr:mZ (nv xs) (nv ys)=(R,E)) :
 Calls prog 73 #[.slice A n c, .slice D m d] w (jJ w R E):=by
 subst hn hm;have HR:=ag hr;clear hr;have hl1:=ak h.u;have hl2:=ak k.u;have hl3:(lim (nv xs)).length<=1000000:=by omega
 have hl4:(lim (nv ys)).length<=1000000:=by omega
 have h3:=h.cap;have h4:=h.max;have k3:=k.cap;have k4:=k.max;by_cases hb:512<(lim (nv xs)).length
 ·go_enter func73,ntmps73;go_wp2_with fail;refine (aE _ A c _ xs true h rfl hl3 (by simp <;> omega)).mono ?_
  rintro e wn ⟨rfl,bb⟩;replace h:=h.below bb;replace k:=k.below bb;have bw:=bb;clear bb;go_wp2_with fail
  go_ret2
  have e:=HR.o;rw [pU hb] at e;obtain ⟨rfl,rfl⟩:=Prod.mk.inj e;exact ⟨_,_,rfl,Nt.nil _ _ _ (by omega),bw⟩
 ·by_cases hb2:512<(lim (nv ys)).length
  ·go_enter func73,ntmps73;go_wp2_with fail;refine (aE _ A c _ xs false h rfl hl3 (by simp <;> omega)).mono ?_
   rintro e wn ⟨rfl,bb⟩;replace h:=h.below bb;replace k:=k.below bb;have bw:=bb;clear bb;go_wp2_with fail;refine (aE _ D d _ ys true k rfl hl4 (by simp <;> omega)).mono ?_
   rintro e wn ⟨rfl,bb⟩;replace h:=h.below bb;replace k:=k.below bb;replace bw:=qd bw bb;clear bb;go_wp2_with fail
   go_ret2
   have e:=HR.o;rw [pT hb2] at e;obtain ⟨rfl,rfl⟩:=Prod.mk.inj e;exact ⟨_,_,rfl,Nt.nil _ _ _ (by omega),bw⟩
  ·by_cases hlt:nv xs<nv ys
   ·have dy:=ag hlt;clear hlt;go_enter func73,ntmps73;go_wp2_with fail;refine (aE _ A c _ xs false h rfl hl3 (by simp <;> omega)).mono ?_
    rintro e wn ⟨rfl,bb⟩;replace h:=h.below bb;replace k:=k.below bb;have bw:=bb;clear bb;go_wp2_with fail;refine (aE _ D d _ ys false k rfl hl4 (by simp <;> omega)).mono ?_
    rintro e wn ⟨rfl,bb⟩;replace h:=h.below bb;replace k:=k.below bb;replace bw:=qd bw bb;clear bb;go_wp2_with fail;refine (eI _ A D c d _ _ xs ys (-1) h k rfl rfl hl3 hl4 (il dy.o)).mono ?_;rintro e wn ⟨rfl,bb⟩;replace bw:=qd bw bb;go_wp2_with fail
    go_ret2
    have e:=HR.o;rw [sO hb hb2 dy.o] at e;obtain ⟨rfl,rfl⟩:=Prod.mk.inj e;exact ⟨_,_,rfl,Nt.nil _ _ _ (by omega),bw⟩
   ·obtain ⟨z,hz0,hz⟩:∃z:Int,0<=z/\i6 (nv xs) (nv ys)=z:=⟨_,by unfold i6;rw [if_neg hlt];split <;> omega,rfl⟩
    have HZ:=ag hz;have hZ:Hd (nv ys<=nv xs):=ag (by omega)
    clear hz hlt;go_enter func73,ntmps73;go_wp2_with fail;refine (aE _ A c _ xs false h rfl hl3 (by simp <;> omega)).mono ?_
    rintro e wn ⟨rfl,bb⟩;replace h:=h.below bb;replace k:=k.below bb;have bw:=bb;clear bb;go_wp2_with fail;refine (aE _ D d _ ys false k rfl hl4 (by simp <;> omega)).mono ?_
    rintro e wn ⟨rfl,bb⟩;replace h:=h.below bb;replace k:=k.below bb;replace bw:=qd bw bb;clear bb;go_wp2_with fail;refine (eI _ A D c d _ _ xs ys z h k rfl rfl hl3 hl4 HZ.o).mono ?_;rintro e wn ⟨rfl,bb⟩;replace h:=h.below bb;replace k:=k.below bb;replace bw:=qd bw bb;clear bb;go_wp2_with fail;refine (aL _ A c _ xs h rfl hl3).mono ?_;rintro e wn ⟨A1,c1,rfl,g1,bb⟩;have n1:=g1.nt (aC _);replace k:=k.below bb;replace bw:=qd bw bb;clear g1 bb;go_wp2_with fail;refine (aL _ D d _ ys k rfl hl4).mono ?_;rintro e wn ⟨A2,c2,rfl,g2,bb⟩;have n2:=g2.nt (aC _);replace n1:=n1.below bb
    replace bw:=qd bw bb;clear g2 bb;go_wp2_with fail;refine (uL _ A1 A2 c1 c2 _ _ n1 n2 (by omega) hZ.o).mono ?_
    rintro e wn ⟨A3,c3,rfl,g3,bb⟩;have n3:=g3.nt (aC _);replace bw:=qd bw bb;clear g3 bb;go_wp2_with fail
    go_ret2
    have e:=HR.o;have h7:=ao (Nat.sub_le (nv xs) (nv ys));rw [vK hb hb2 hZ.o,iC,if_neg (by omega)] at e
    obtain ⟨rfl,rfl⟩:=Prod.mk.inj e;exact ⟨_,_,rfl,n3,bw⟩
end Go.Proofs.YtkpfbekmaafehaaGreat
