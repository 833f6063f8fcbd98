/- The walks of drydockref01: minus, Add, Sub, Mul, Bits -/
import Derived.Test.YtkpfbekmaafehaaGreatRefD
import Derived.Test.YtkpfbekmaafehaaGreatNatG
import Derived.Test.YtkpfbekmaafehaaGreatFrG
import Derived.Test.YtkpfbekmaafehaaGreatDivV
namespace Go.Proofs.YtkpfbekmaafehaaGreat
open _root_.Go.Proofs.Tryz
set_option maxHeartbeats 8000000
set_option maxRecDepth 100000
open Go.RowKit
theorem BQ {Y:List Nat} {j:Nat} (h:j<Y.length):Y.getD j 0=Y[j]:=by simp [h]
theorem zS {Y:List Nat} {j:Nat} (h:¬j<Y.length):Y.getD j 0=0:=by simp [List.getElem?_eq_none (Nat.le_of_not_lt h)]
theorem qy (w:World) (A D:Option Addr) (c d n m:Nat) (xs ys:List Nat) (h:Nt w A c xs) (k:Nt w D d ys) (hn:n=xs.length) (hm:m=ys.length) (hl:xs.length<=10000) (hl2:ys.length<=xs.length) (hle:nv ys<=nv xs) :
 Calls prog 102 #[.slice A n c, .slice D m d] w (fh w (lim (nv xs-nv ys))):=by
 subst hn hm;have ja:=ag hle;clear hle;obtain ⟨i0,hi,hz0,hz1,hz2⟩:=info_parts ch;go_enter func102,ntmps102;go_wp2_with fail;go_loopw [5,6,7] (fun o cy i wr=>∃(j C:Nat) (O:List Nat) (AO:Option Addr) (cO:Nat),j<=xs.length/\i = .int .i64 j/\cy = .int .u64 C/\o = .slice AO O.length cO/\fg xs ys j C O/\Gr lmv 58 wr w.heap.size AO cO O/\Below w.heap.size w wr) (fun _ _ i _=>xs.length-(intOf i).toNat)
 case atStart=>exact ⟨0,0,[],none,0,by omega,rfl,rfl,rfl,fg.start _ _,Gr.nil _ _,ah _ _⟩
 case round=>
  obtain ⟨j,C,O,AO,cO,hj,rfl,rfl,rfl,hinv,hgr,hbr⟩:=hrel;have HI:=ag hinv;have hC:C<=1:=hinv.1;have HO:=ag hinv.2.1;have hOl:O.length<=10000:=by rw [hinv.2.1];omega
  clear hinv;by_cases hx:j<xs.length
  ·obtain ⟨adX,rfl,hbX,hcX,hvX⟩:=(h.below hbr).at j hx;by_cases hy:j<ys.length
   ·obtain ⟨adY,rfl,hbY,hcY,hvY⟩:=(k.below hbr).at j hy;have hg:=BQ hy;have lJ:=ag hg;clear hg;by_cases hb:xs[j]<C+ys[j]
    ·have hb1:(xs[j]:Int)<(C:Int)+ys[j]:=by omega
     skip
     go_wp2_with (at_builtin;refine aD _ (mk:=lmv) (fun _=>rfl) rfl _ _ 27 rfl 58 i0 (.int .u32 0) 4 underlying27 hi hz0 hz1 hz2 rfl (B:=w.heap.size) rfl rfl (hgr.below ((ah _ wr).alloc (Nat.le_refl _) _)) _ 1 1 [xs[j]+4294967296-(C+ys[j])] rfl rfl (Rd.one_ wr _ _ _ (bL (by omega))) (by simp only [maxLen];omega) (by omega) (by have:=hbr.size;simp;omega) ?_;intro A' c' w3 hgA hgrA hbA hatA)
     go_roundw
     case rel=>exact ⟨j+1,1,O ++ [xs[j]+4294967296-(C+ys[j])],A',c',by omega,by go_num,rfl,by simp,fg.step HI.o hx (xs[j]+4294967296-(C+ys[j])) 1 (by omega) (by omega) (by rw [lJ.o];omega),hgA,(hbr.alloc hbr.size _).trans hbA⟩
     case measure=>simp [intOf];omega
    ·have hb1:¬(xs[j]:Int)<(C:Int)+ys[j]:=by omega
     have hb2:decide ((xs[j]:Int)<(C:Int)+ys[j])=false:=decide_eq_false hb1
     skip
     go_wp2_with (at_builtin;refine aD _ (mk:=lmv) (fun _=>rfl) rfl _ _ 27 rfl 58 i0 (.int .u32 0) 4 underlying27 hi hz0 hz1 hz2 rfl (B:=w.heap.size) rfl rfl (hgr.below ((ah _ wr).alloc (Nat.le_refl _) _)) _ 1 1 [xs[j]-(C+ys[j])] rfl rfl (Rd.one_ wr _ _ _ (bL (by omega))) (by simp only [maxLen];omega) (by omega) (by have:=hbr.size;simp;omega) ?_;intro A' c' w3 hgA hgrA hbA hatA)
     go_roundw
     case rel=>exact ⟨j+1,0,O ++ [xs[j]-(C+ys[j])],A',c',by omega,by go_num,rfl,by simp,fg.step HI.o hx (xs[j]-(C+ys[j])) 0 (by omega) (by omega) (by rw [lJ.o];omega),hgA,(hbr.alloc hbr.size _).trans hbA⟩
     case measure=>simp [intOf];omega
   ·have lJ:=ag (zS hy);by_cases hb:xs[j]<C
    ·have hb1:(xs[j]:Int)<(C:Int):=by omega
     skip
     go_wp2_with (at_builtin;refine aD _ (mk:=lmv) (fun _=>rfl) rfl _ _ 27 rfl 58 i0 (.int .u32 0) 4 underlying27 hi hz0 hz1 hz2 rfl (B:=w.heap.size) rfl rfl (hgr.below ((ah _ wr).alloc (Nat.le_refl _) _)) _ 1 1 [xs[j]+4294967296-C] rfl rfl (Rd.one_ wr _ _ _ (bL (by omega))) (by simp only [maxLen];omega) (by omega) (by have:=hbr.size;simp;omega) ?_;intro A' c' w3 hgA hgrA hbA hatA)
     go_roundw
     case rel=>exact ⟨j+1,1,O ++ [xs[j]+4294967296-C],A',c',by omega,by go_num,rfl,by simp,fg.step HI.o hx (xs[j]+4294967296-C) 1 (by omega) (by omega) (by rw [lJ.o];omega),hgA,(hbr.alloc hbr.size _).trans hbA⟩
     case measure=>simp [intOf];omega
    ·have hb1:¬(xs[j]:Int)<(C:Int):=by omega
     have hb2:decide ((xs[j]:Int)<(C:Int))=false:=decide_eq_false hb1
     skip
     go_wp2_with (at_builtin;refine aD _ (mk:=lmv) (fun _=>rfl) rfl _ _ 27 rfl 58 i0 (.int .u32 0) 4 underlying27 hi hz0 hz1 hz2 rfl (B:=w.heap.size) rfl rfl (hgr.below ((ah _ wr).alloc (Nat.le_refl _) _)) _ 1 1 [xs[j]-C] rfl rfl (Rd.one_ wr _ _ _ (bL (by omega))) (by simp only [maxLen];omega) (by omega) (by have:=hbr.size;simp;omega) ?_;intro A' c' w3 hgA hgrA hbA hatA)
     go_roundw
     case rel=>exact ⟨j+1,0,O ++ [xs[j]-C],A',c',by omega,by go_num,rfl,by simp,fg.step HI.o hx (xs[j]-C) 0 (by omega) (by omega) (by rw [lJ.o];omega),hgA,(hbr.alloc hbr.size _).trans hbA⟩
     case measure=>simp [intOf];omega
  ·obtain rfl:j=xs.length:=by omega
   have hfin:=HI.o.done hl2 ja.o;have hnt:=hgr.nt hfin.1;have hlen:=ak hfin.1;have a7:=aL wr AO cO _ O hnt rfl (by omega)
   rw [hfin.2.1] at a7;have HF:=ag a7;clear a7 hlen hfin hnt;go_wp2_with fail;refine HF.o.mono ?_;rintro e w2 ⟨A',c',rfl,hg2,hb2⟩;go_wp2_with fail;go_ret;exact ⟨A',c',rfl,hg2.more fun ad e=>Nat.le_trans hbr.size (hg2.form.2.2 ad e).1,qc hbr hb2⟩
theorem pi {m n j k:Nat} (hm:(lim m).length<=j) (hn:(lim n).length<=k):(lim (m*n)).length<=j+k:=by
 rw [aA] at *;rw [jz];exact Nat.mul_lt_mul'' hm hn
theorem tL {m n k:Nat} (hm:(lim m).length<=k) (hn:(lim n).length<=k):(lim (m+n)).length<=k+1:=by
 rw [aA] at *;rw [gM];omega
theorem qa (w:World) (A D:Option Addr) (c d M N:Nat) (h:Nt w A c (lim M)) (k:Nt w D d (lim N)) (hl:(lim M).length<=10000) (hl2:(lim N).length<=10000) :
 Calls prog 101 #[.slice A (lim M).length c, .slice D (lim N).length d] w (fh w (lim (M+N))):=by
 have hc:=zt w A D c d _ _ (lim M) (lim N) h k rfl rfl hl hl2;rw [am,am] at hc;exact hc
theorem oQ (w:World) (A D:Option Addr) (c d M N:Nat) (h:Nt w A c (lim M)) (k:Nt w D d (lim N)) (hl:(lim M).length<=10000) (hl2:(lim N).length<=10000) :
 Calls prog 112 #[.slice A (lim M).length c, .slice D (lim N).length d] w (fh w (lim (M*N))):=by
 have hc:=lW w A D c d _ _ (lim M) (lim N) h k rfl rfl hl hl2;rw [am,am] at hc;exact hc
theorem uL (w:World) (A D:Option Addr) (c d M N:Nat) (h:Nt w A c (lim M)) (k:Nt w D d (lim N)) (hl:(lim M).length<=10000) (hle:N<=M) :
 Calls prog 102 #[.slice A (lim M).length c, .slice D (lim N).length d] w (fh w (lim (M-N))):=by
 have hc:=qy w A D c d _ _ (lim M) (lim N) h k rfl rfl hl (ao hle) (by rw [am,am];exact hle)
 rw [am,am] at hc;exact hc
theorem iP (w:World) (A:Option Addr) (c N:Nat) (b:Bool) (h:Nt w A c (lim N)) (hl:(lim N).length<=1000000) (hb:decide (512<(lim N).length)=b) :
 Calls prog 100 #[.slice A (lim N).length c] w fun e w'=>e = .returned (.bool b)/\Below w.heap.size w w':=
 aE w A c _ (lim N) b h rfl (by rw [am];exact hl) (by rw [am];exact hb)
theorem yS (w:World) (A D:Option Addr) (c d n m:Nat) (xs ys R:List Nat) (E:Int) (h:Nt w A c xs) (k:Nt w D d ys) (hn:n=xs.length) (hm:m=ys.length) (hl:xs.length<=10000) (hl2:ys.length<=10000) (hr:pG (nv xs) (nv ys)=(R,E)) :
 Calls prog 71 #[.slice A n c, .slice D m d] w (jJ w R E):=by
 subst hn hm;have HR:=ag hr;clear hr;have hl1:=ak h.u;have hl2:=ak k.u;have hl3:(lim (nv xs)).length<=1000000:=by omega
 have hl4:(lim (nv ys)).length<=1000000:=by omega
 have h3:=h.cap;have h4:=h.max;have k3:=k.cap;have k4:=k.max;by_cases hb:512<(lim (nv xs)).length
 ·go_enter func71,ntmps71;go_wp2_with fail;refine (aE _ A c _ xs true h rfl hl3 (by simp <;> omega)).mono ?_
  rintro e wn ⟨rfl,bb⟩;replace h:=h.below bb;replace k:=k.below bb;have bw:=bb;clear bb;go_wp2_with fail
  go_ret2
  have e:=HR.o;rw [qT hb] at e;obtain ⟨rfl,rfl⟩:=Prod.mk.inj e;exact ⟨_,_,rfl,Nt.nil _ _ _ (by omega),bw⟩
 ·by_cases hb2:512<(lim (nv ys)).length
  ·go_enter func71,ntmps71;go_wp2_with fail;refine (aE _ A c _ xs false h rfl hl3 (by simp <;> omega)).mono ?_
   rintro e wn ⟨rfl,bb⟩;replace h:=h.below bb;replace k:=k.below bb;have bw:=bb;clear bb;go_wp2_with fail;refine (aE _ D d _ ys true k rfl hl4 (by simp <;> omega)).mono ?_
   rintro e wn ⟨rfl,bb⟩;replace h:=h.below bb;replace k:=k.below bb;replace bw:=qc bw bb;clear bb;go_wp2_with fail
   go_ret2
   have e:=HR.o;rw [qS hb2] at e;obtain ⟨rfl,rfl⟩:=Prod.mk.inj e;exact ⟨_,_,rfl,Nt.nil _ _ _ (by omega),bw⟩
  ·have hlen:(lim (nv xs+nv ys)).length<=1000000:=by
    have h5:=pi (m:=nv xs) (n:=nv ys) (j:=512) (k:=512) (by omega) (by omega)
    have h6:=tL (m:=nv xs) (n:=nv ys) (k:=512) (by omega) (by omega)
    omega
   by_cases hs:512<(lim (nv xs+nv ys)).length
   ·go_enter func71,ntmps71;go_wp2_with fail;refine (aE _ A c _ xs false h rfl hl3 (by simp <;> omega)).mono ?_
    rintro e wn ⟨rfl,bb⟩;replace h:=h.below bb;replace k:=k.below bb;have bw:=bb;clear bb;go_wp2_with fail;refine (aE _ D d _ ys false k rfl hl4 (by simp <;> omega)).mono ?_
    rintro e wn ⟨rfl,bb⟩;replace h:=h.below bb;replace k:=k.below bb;replace bw:=qc bw bb;clear bb;go_wp2_with fail;refine (aL _ A c _ xs h rfl hl3).mono ?_;rintro e wn ⟨A1,c1,rfl,g1,bb⟩;have n1:=g1.nt (aC _);replace k:=k.below bb;replace bw:=qc bw bb;clear g1 bb;go_wp2_with fail;refine (aL _ D d _ ys k rfl hl4).mono ?_;rintro e wn ⟨A2,c2,rfl,g2,bb⟩;have n2:=g2.nt (aC _);replace n1:=n1.below bb;replace bw:=qc bw bb;clear g2 bb;go_wp2_with fail;refine (qa _ A1 A2 c1 c2 _ _ n1 n2 (by omega) (by omega)).mono ?_
    rintro e wn ⟨A3,c3,rfl,g3,bb⟩;have n3:=g3.nt (aC _);replace bw:=qc bw bb;clear g3 bb;go_wp2_with fail;refine (iP _ A3 c3 _ true n3 hlen (by simpa using hs)).mono ?_
    rintro e wn ⟨rfl,bb⟩;replace bw:=qc bw bb;go_wp2_with fail
    go_ret2
    have e:=HR.o;rw [oA hb hb2,iC,if_pos hs] at e;obtain ⟨rfl,rfl⟩:=Prod.mk.inj e;exact ⟨_,_,rfl,Nt.nil _ _ _ (by omega),bw⟩
   ·go_enter func71,ntmps71;go_wp2_with fail;refine (aE _ A c _ xs false h rfl hl3 (by simp <;> omega)).mono ?_
    rintro e wn ⟨rfl,bb⟩;replace h:=h.below bb;replace k:=k.below bb;have bw:=bb;clear bb;go_wp2_with fail;refine (aE _ D d _ ys false k rfl hl4 (by simp <;> omega)).mono ?_
    rintro e wn ⟨rfl,bb⟩;replace h:=h.below bb;replace k:=k.below bb;replace bw:=qc bw bb;clear bb;go_wp2_with fail;refine (aL _ A c _ xs h rfl hl3).mono ?_;rintro e wn ⟨A1,c1,rfl,g1,bb⟩;have n1:=g1.nt (aC _);replace k:=k.below bb;replace bw:=qc bw bb;clear g1 bb;go_wp2_with fail;refine (aL _ D d _ ys k rfl hl4).mono ?_;rintro e wn ⟨A2,c2,rfl,g2,bb⟩;have n2:=g2.nt (aC _);replace n1:=n1.below bb;replace bw:=qc bw bb;clear g2 bb;go_wp2_with fail;refine (qa _ A1 A2 c1 c2 _ _ n1 n2 (by omega) (by omega)).mono ?_
    rintro e wn ⟨A3,c3,rfl,g3,bb⟩;have n3:=g3.nt (aC _);replace bw:=qc bw bb;clear g3 bb;go_wp2_with fail;refine (iP _ A3 c3 _ false n3 hlen (by simpa using hs)).mono ?_
    rintro e wn ⟨rfl,bb⟩;replace n3:=n3.below bb;replace bw:=qc bw bb;clear bb;go_wp2_with fail
    go_ret2
    have e:=HR.o;rw [oA hb hb2,iC,if_neg hs] at e;obtain ⟨rfl,rfl⟩:=Prod.mk.inj e;exact ⟨_,_,rfl,n3,bw⟩
theorem sY (w:World) (A D:Option Addr) (c d n m:Nat) (xs ys R:List Nat) (E:Int) (h:Nt w A c xs) (k:Nt w D d ys) (hn:n=xs.length) (hm:m=ys.length) (hl:xs.length<=10000) (hl2:ys.length<=10000) (hr:nh (nv xs) (nv ys)=(R,E)) :
 Calls prog 86 #[.slice A n c, .slice D m d] w (jJ w R E):=by
 subst hn hm;have HR:=ag hr;clear hr;have hl1:=ak h.u;have hl2:=ak k.u;have hl3:(lim (nv xs)).length<=1000000:=by omega
 have hl4:(lim (nv ys)).length<=1000000:=by omega
 have h3:=h.cap;have h4:=h.max;have k3:=k.cap;have k4:=k.max;by_cases hb:512<(lim (nv xs)).length
 ·go_enter func86,ntmps86;go_wp2_with fail;refine (aE _ A c _ xs true h rfl hl3 (by simp <;> omega)).mono ?_
  rintro e wn ⟨rfl,bb⟩;replace h:=h.below bb;replace k:=k.below bb;have bw:=bb;clear bb;go_wp2_with fail
  go_ret2
  have e:=HR.o;rw [qx hb] at e;obtain ⟨rfl,rfl⟩:=Prod.mk.inj e;exact ⟨_,_,rfl,Nt.nil _ _ _ (by omega),bw⟩
 ·by_cases hb2:512<(lim (nv ys)).length
  ·go_enter func86,ntmps86;go_wp2_with fail;refine (aE _ A c _ xs false h rfl hl3 (by simp <;> omega)).mono ?_
   rintro e wn ⟨rfl,bb⟩;replace h:=h.below bb;replace k:=k.below bb;have bw:=bb;clear bb;go_wp2_with fail;refine (aE _ D d _ ys true k rfl hl4 (by simp <;> omega)).mono ?_
   rintro e wn ⟨rfl,bb⟩;replace h:=h.below bb;replace k:=k.below bb;replace bw:=qc bw bb;clear bb;go_wp2_with fail
   go_ret2
   have e:=HR.o;rw [qw hb2] at e;obtain ⟨rfl,rfl⟩:=Prod.mk.inj e;exact ⟨_,_,rfl,Nt.nil _ _ _ (by omega),bw⟩
  ·have hlen:(lim (nv xs*nv ys)).length<=1000000:=by
    have h5:=pi (m:=nv xs) (n:=nv ys) (j:=512) (k:=512) (by omega) (by omega)
    have h6:=tL (m:=nv xs) (n:=nv ys) (k:=512) (by omega) (by omega)
    omega
   by_cases hs:512<(lim (nv xs*nv ys)).length
   ·go_enter func86,ntmps86;go_wp2_with fail;refine (aE _ A c _ xs false h rfl hl3 (by simp <;> omega)).mono ?_
    rintro e wn ⟨rfl,bb⟩;replace h:=h.below bb;replace k:=k.below bb;have bw:=bb;clear bb;go_wp2_with fail;refine (aE _ D d _ ys false k rfl hl4 (by simp <;> omega)).mono ?_
    rintro e wn ⟨rfl,bb⟩;replace h:=h.below bb;replace k:=k.below bb;replace bw:=qc bw bb;clear bb;go_wp2_with fail;refine (aL _ A c _ xs h rfl hl3).mono ?_;rintro e wn ⟨A1,c1,rfl,g1,bb⟩;have n1:=g1.nt (aC _);replace k:=k.below bb;replace bw:=qc bw bb;clear g1 bb;go_wp2_with fail;refine (aL _ D d _ ys k rfl hl4).mono ?_;rintro e wn ⟨A2,c2,rfl,g2,bb⟩;have n2:=g2.nt (aC _);replace n1:=n1.below bb;replace bw:=qc bw bb;clear g2 bb;go_wp2_with fail;refine (oQ _ A1 A2 c1 c2 _ _ n1 n2 (by omega) (by omega)).mono ?_
    rintro e wn ⟨A3,c3,rfl,g3,bb⟩;have n3:=g3.nt (aC _);replace bw:=qc bw bb;clear g3 bb;go_wp2_with fail;refine (iP _ A3 c3 _ true n3 hlen (by simpa using hs)).mono ?_
    rintro e wn ⟨rfl,bb⟩;replace bw:=qc bw bb;go_wp2_with fail
    go_ret2
    have e:=HR.o;rw [iY hb hb2,iC,if_pos hs] at e;obtain ⟨rfl,rfl⟩:=Prod.mk.inj e;exact ⟨_,_,rfl,Nt.nil _ _ _ (by omega),bw⟩
   ·go_enter func86,ntmps86;go_wp2_with fail;refine (aE _ A c _ xs false h rfl hl3 (by simp <;> omega)).mono ?_
    rintro e wn ⟨rfl,bb⟩;replace h:=h.below bb;replace k:=k.below bb;have bw:=bb;clear bb;go_wp2_with fail;refine (aE _ D d _ ys false k rfl hl4 (by simp <;> omega)).mono ?_
    rintro e wn ⟨rfl,bb⟩;replace h:=h.below bb;replace k:=k.below bb;replace bw:=qc bw bb;clear bb;go_wp2_with fail;refine (aL _ A c _ xs h rfl hl3).mono ?_;rintro e wn ⟨A1,c1,rfl,g1,bb⟩;have n1:=g1.nt (aC _);replace k:=k.below bb;replace bw:=qc bw bb;clear g1 bb;go_wp2_with fail;refine (aL _ D d _ ys k rfl hl4).mono ?_;rintro e wn ⟨A2,c2,rfl,g2,bb⟩;have n2:=g2.nt (aC _);replace n1:=n1.below bb;replace bw:=qc bw bb;clear g2 bb;go_wp2_with fail;refine (oQ _ A1 A2 c1 c2 _ _ n1 n2 (by omega) (by omega)).mono ?_
    rintro e wn ⟨A3,c3,rfl,g3,bb⟩;have n3:=g3.nt (aC _);replace bw:=qc bw bb;clear g3 bb;go_wp2_with fail;refine (iP _ A3 c3 _ false n3 hlen (by simpa using hs)).mono ?_
    rintro e wn ⟨rfl,bb⟩;replace n3:=n3.below bb;replace bw:=qc bw bb;clear bb;go_wp2_with fail
    go_ret2
    have e:=HR.o;rw [iY hb hb2,iC,if_neg hs] at e;obtain ⟨rfl,rfl⟩:=Prod.mk.inj e;exact ⟨_,_,rfl,n3,bw⟩
theorem sX (w:World) (A D:Option Addr) (c d n m:Nat) (xs ys R:List Nat) (E:Int) (h:Nt w A c xs) (k:Nt w D d ys) (hn:n=xs.length) (hm:m=ys.length) (hl:xs.length<=10000) (hl2:ys.length<=10000) (hr:mZ (nv xs) (nv ys)=(R,E)) :
 Calls prog 73 #[.slice A n c, .slice D m d] w (jJ w R E):=by
 subst hn hm;have HR:=ag hr;clear hr;have hl1:=ak h.u;have hl2:=ak k.u;have hl3:(lim (nv xs)).length<=1000000:=by omega
 have hl4:(lim (nv ys)).length<=1000000:=by omega
 have h3:=h.cap;have h4:=h.max;have k3:=k.cap;have k4:=k.max;by_cases hb:512<(lim (nv xs)).length
 ·go_enter func73,ntmps73;go_wp2_with fail;refine (aE _ A c _ xs true h rfl hl3 (by simp <;> omega)).mono ?_
  rintro e wn ⟨rfl,bb⟩;replace h:=h.below bb;replace k:=k.below bb;have bw:=bb;clear bb;go_wp2_with fail
  go_ret2
  have e:=HR.o;rw [pU hb] at e;obtain ⟨rfl,rfl⟩:=Prod.mk.inj e;exact ⟨_,_,rfl,Nt.nil _ _ _ (by omega),bw⟩
 ·by_cases hb2:512<(lim (nv ys)).length
  ·go_enter func73,ntmps73;go_wp2_with fail;refine (aE _ A c _ xs false h rfl hl3 (by simp <;> omega)).mono ?_
   rintro e wn ⟨rfl,bb⟩;replace h:=h.below bb;replace k:=k.below bb;have bw:=bb;clear bb;go_wp2_with fail;refine (aE _ D d _ ys true k rfl hl4 (by simp <;> omega)).mono ?_
   rintro e wn ⟨rfl,bb⟩;replace h:=h.below bb;replace k:=k.below bb;replace bw:=qc bw bb;clear bb;go_wp2_with fail
   go_ret2
   have e:=HR.o;rw [pT hb2] at e;obtain ⟨rfl,rfl⟩:=Prod.mk.inj e;exact ⟨_,_,rfl,Nt.nil _ _ _ (by omega),bw⟩
  ·by_cases hlt:nv xs<nv ys
   ·have eA:=ag hlt;clear hlt;go_enter func73,ntmps73;go_wp2_with fail;refine (aE _ A c _ xs false h rfl hl3 (by simp <;> omega)).mono ?_
    rintro e wn ⟨rfl,bb⟩;replace h:=h.below bb;replace k:=k.below bb;have bw:=bb;clear bb;go_wp2_with fail;refine (aE _ D d _ ys false k rfl hl4 (by simp <;> omega)).mono ?_
    rintro e wn ⟨rfl,bb⟩;replace h:=h.below bb;replace k:=k.below bb;replace bw:=qc bw bb;clear bb;go_wp2_with fail;refine (eI _ A D c d _ _ xs ys (-1) h k rfl rfl hl3 hl4 (il eA.o)).mono ?_;rintro e wn ⟨rfl,bb⟩;replace bw:=qc bw bb;go_wp2_with fail
    go_ret2
    have e:=HR.o;rw [sO hb hb2 eA.o] at e;obtain ⟨rfl,rfl⟩:=Prod.mk.inj e;exact ⟨_,_,rfl,Nt.nil _ _ _ (by omega),bw⟩
   ·obtain ⟨z,hz0,hz⟩:∃z:Int,0<=z/\i6 (nv xs) (nv ys)=z:=⟨_,by unfold i6;rw [if_neg hlt];split <;> omega,rfl⟩
    have HZ:=ag hz;have ja:Hd (nv ys<=nv xs):=ag (by omega)
    clear hz hlt;go_enter func73,ntmps73;go_wp2_with fail;refine (aE _ A c _ xs false h rfl hl3 (by simp <;> omega)).mono ?_
    rintro e wn ⟨rfl,bb⟩;replace h:=h.below bb;replace k:=k.below bb;have bw:=bb;clear bb;go_wp2_with fail;refine (aE _ D d _ ys false k rfl hl4 (by simp <;> omega)).mono ?_
    rintro e wn ⟨rfl,bb⟩;replace h:=h.below bb;replace k:=k.below bb;replace bw:=qc bw bb;clear bb;go_wp2_with fail;refine (eI _ A D c d _ _ xs ys z h k rfl rfl hl3 hl4 HZ.o).mono ?_;rintro e wn ⟨rfl,bb⟩;replace h:=h.below bb;replace k:=k.below bb;replace bw:=qc bw bb;clear bb;go_wp2_with fail;refine (aL _ A c _ xs h rfl hl3).mono ?_;rintro e wn ⟨A1,c1,rfl,g1,bb⟩;have n1:=g1.nt (aC _);replace k:=k.below bb;replace bw:=qc bw bb;clear g1 bb;go_wp2_with fail;refine (aL _ D d _ ys k rfl hl4).mono ?_;rintro e wn ⟨A2,c2,rfl,g2,bb⟩;have n2:=g2.nt (aC _);replace n1:=n1.below bb
    replace bw:=qc bw bb;clear g2 bb;go_wp2_with fail;refine (uL _ A1 A2 c1 c2 _ _ n1 n2 (by omega) ja.o).mono ?_
    rintro e wn ⟨A3,c3,rfl,g3,bb⟩;have n3:=g3.nt (aC _);replace bw:=qc bw bb;clear g3 bb;go_wp2_with fail
    go_ret2
    have e:=HR.o;have h7:=ao (Nat.sub_le (nv xs) (nv ys));rw [vK hb hb2 ja.o,iC,if_neg (by omega)] at e
    obtain ⟨rfl,rfl⟩:=Prod.mk.inj e;exact ⟨_,_,rfl,n3,bw⟩
theorem jR (w:World) (A:Option Addr) (c n:Nat) (xs:List Nat) (h:Nt w A c xs) (hn:n=xs.length) (hl:xs.length<=1000000) :
 Calls prog 77 #[.slice A n c] w fun e w'=>e = .returned (.int .i64 (aI (nv xs)))/\Below w.heap.size w w':=by
 subst hn;have h3:=ak h.u;go_enter func77,ntmps77;go_wp2_with fail;refine (aL w A c _ xs h rfl (by omega)).mono ?_
 rintro e w1 ⟨A1,c1,rfl,g1,b1⟩;have n1:=g1.nt (aC _);clear g1;by_cases h0:nv xs=0
 ·have hz1:(((lim (nv xs)).length:Int) == 0)=true:=by rw [h0,aV];rfl
  have H0:=ag h0;clear h0;go_wp2_with fail;go_ret;exact ⟨dV (by rw [H0.o];rfl),b1⟩
 ·have hp:=aX.2 h0;obtain ⟨k,hk1⟩:∃k,(lim (nv xs)).length=k+1:=⟨(lim (nv xs)).length-1,by omega⟩
  have htop:=qO (aC (nv xs)) k hk1.symm (ph _ k hk1.symm);rw [am] at htop;have hz1:(((k+1:Nat):Int) == 0)=false:=beq_eq_false_iff_ne.2 (by omega)
  have hz2:((k:Int)+1 == 0)=false:=beq_eq_false_iff_ne.2 (by omega)
  obtain ⟨ad,rfl,hb,hc,hlt⟩:=n1.at k (by omega)
  obtain ⟨x,hx⟩:∃x,x=(lim (nv xs))[k]'(by omega):=⟨_,rfl⟩
  rw [<-hx] at hc hlt htop;have HT:=ag htop;have hk2:k<=1000000:=by omega
  rw [hk1];clear hx h h0 hp h3 n1 htop hk1;go_wp2_with fail
  go_loop [3,4] (fun kk v=>∃(m V:Nat),kk = .int .i64 m/\v = .int .u32 V/\V<4294967296/\m+aI V=32*k+aI x/\m<=32*k+32) (fun _ v=>(intOf v).toNat)
  case atStart=>exact ⟨32*k,x,bL (by omega),rfl,hlt,by omega,by omega⟩
  case round=>
   obtain ⟨m,V,rfl,rfl,hV,hm,hm2⟩:=hrel;have HM:=ag hm;clear hm;by_cases hV0:V=0
   ·subst hV0;go_wp2_with fail;go_ret;exact ⟨dV (by rw [HT.o];have:=HM.o;rw [pE] at this;omega),b1⟩
   ·have hV1:(0:Int)<V:=by omega
    have hbv:=pF hV0;have hbx:aI x<=32:=by rw [bP];simpa using hlt
    have hmm:m+1<=32*k+32:=by have:=HM.o;omega
    have HB:=ag hbv;clear hbv hV0 hbx hm2;go_wp2_with fail
    go_round
    case rel=>exact ⟨m+1,V/2,by go_num,bL (by omega),by omega,by have:=HM.o;have:=HB.o;omega,by omega⟩
    case measure=>simp [intOf];omega
theorem Dr {C x s:Nat} (hC:C<2^s) (hx:x<4294967296) (hs:s<32):bits .or .u64 ((x:Int)*2^s) (C:Int)=((C+x*2^s:Nat):Int):=by
 have hp:=fj hs;have hb:=vE hC hx hp;have h:=u64_or_nat (x*2^s) C (by omega) (by omega)
 rw [nat_join s (x*2^s) C (by simp) hC] at h
 have e1:(((x*2^s:Nat)):Int)=(x:Int)*2^s:=(dL x s).symm;rw [e1] at h;rw [h,Int.natCast_add,e1];omega
theorem Bp (w:World) (A:Option Addr) (c n k:Nat) (kI:Int) (xs:List Nat) (h:Nt w A c xs) (hn:n=xs.length) (hk:kI=k) (hl:xs.length<=10000) (hkl:k<=100000) :
 Calls prog 104 #[.slice A n c, .int .i64 kI] w (fh w (lim (nv xs*2^k))):=by
 subst hn hk;have h3:=h.cap;have h4:=h.max;by_cases h0:xs = []
 ·subst h0;go_enter func104,ntmps104;go_wp2_with fail;go_ret;rw [aW,Nat.zero_mul,aV];exact ⟨none,0,rfl,Gr.nil _ _,ah _ _⟩
 ·have hpos:0<xs.length:=List.length_pos_iff.2 h0;have hz:((xs.length:Int) == 0)=false:=beq_eq_false_iff_ne.2 (by omega)
  clear h0;obtain ⟨wh,hwh⟩:∃wh,wh=k/32:=⟨_,rfl⟩;obtain ⟨s,hs⟩:∃s,s=k % 32:=⟨_,rfl⟩;have hwl:wh<=10000:=by omega
  have hs32:s<32:=by omega
  have e1:(k:Int)/32=(wh:Int):=by omega
  have e2:(k:Int) % 32=(s:Int):=by omega
  have e3:(k:Int).tmod 32=(s:Int):=by rw [Int.tmod_eq_emod_of_nonneg (by omega)];omega
  have e4:(k:Int).tdiv 32=(wh:Int):=by rw [Int.tdiv_eq_ediv_of_nonneg (by omega)];omega
  have BV:=ag hwh;have HS:=ag hs;clear hwh hs;obtain ⟨i0,hi,hz0,hz1,hz2⟩:=info_parts ch;go_enter func104,ntmps104;go_wp2_with (at_make;refine bp w (mk:=lmv) 0 rfl _ _ 27 rfl 58 i0 4 underlying27 hi hz0 hz1 hz2 rfl .i64 .i64 _ _ wh rfl rfl (by omega) (by omega) (by omega) (by simp only [maxLen];omega) ?_;intro w1 hg1 hb1 hs1)
  go_loopw [5,6,7] (fun o cy i wr=>∃(j C:Nat) (O:List Nat) (AO:Option Addr) (cO:Nat),j<=xs.length/\i = .int .i64 j/\cy = .int .u64 C/\o = .slice AO (wh+j) cO/\jI xs s j C O/\Gr lmv 58 wr w.heap.size AO cO (List.replicate wh 0++O)/\Below w.heap.size w wr) (fun _ _ i _=>xs.length-(intOf i).toNat)
  case atStart=>exact ⟨0,0,[],_,_,by omega,rfl,rfl,rfl,jI.start _ _,by simpa using hg1,hb1⟩
  case round=>
   obtain ⟨j,C,O,AO,cO,hj,rfl,rfl,rfl,hinv,hgr,hbr⟩:=hrel;have HI:=ag hinv;have hO:=hinv.2.1;have hlenO:wh+j=(List.replicate wh 0++O).length:=by simp [hO]
   have FI:=ag hlenO;have HC:=ag hinv.1;have hC:C<4294967296:=by have:=fj hs32;have:=hinv.1;omega
   clear hinv hg1 hb1 hs1 hO hlenO;by_cases hlt:j<xs.length
   ·obtain ⟨adX,rfl,hbX,hcX,hvX⟩:=(h.below hbr).at j hlt;have hwr:=vB hvX hs32;obtain ⟨T,hT⟩:∃T,T=C+xs[j]*2^s:=⟨_,rfl⟩;have hor:bits .or .u64 ((xs[j]:Int)*2^s) (C:Int)=(T:Int):=by rw [Dr HC.o hvX hs32,hT]
    have hT64:T<9223372036854775808:=by rw [hT];exact vE HC.o hvX (fj hs32)
    have HT:=ag hT;clear hT;go_wp2_with (at_builtin;refine aD _ (mk:=lmv) (fun _=>rfl) rfl _ _ 27 rfl 58 i0 (.int .u32 0) 4 underlying27 hi hz0 hz1 hz2 rfl (B:=w.heap.size) (xs:=(List.replicate wh 0++O)) rfl FI.o (hgr.below ((ah _ wr).alloc (Nat.le_refl _) _)) _ 1 1 [T % 4294967296] rfl rfl (Rd.one_ wr _ _ _ (bL (by omega))) (by simp only [maxLen];omega) (by omega) (by have:=hbr.size;simp;omega) ?_;intro A' c' w3 hgA hgrA hbA hatA)
    go_roundw
    case rel=>exact ⟨j+1,T/4294967296,O ++ [T % 4294967296],A',c',by omega,by go_num,bL (by omega),rfl,by rw [HT.o];exact HI.o.step h.u hlt,by rw [<-List.append_assoc];exact hgA,(hbr.alloc hbr.size _).trans hbA⟩
    case measure=>simp [intOf];omega
   ·obtain rfl:j=xs.length:=by omega
    have hfin:=HI.o.done hs32;have HF:=ag hfin;clear hfin;go_wp2_with (at_builtin;refine aD _ (mk:=lmv) (fun _=>rfl) rfl _ _ 27 rfl 58 i0 (.int .u32 0) 4 underlying27 hi hz0 hz1 hz2 rfl (B:=w.heap.size) (xs:=(List.replicate wh 0++O)) rfl FI.o (hgr.below ((ah _ wr).alloc (Nat.le_refl _) _)) _ 1 1 [C] rfl rfl (Rd.one_ wr _ _ _ (bL (by omega))) (by simp only [maxLen];omega) (by omega) (by have:=hbr.size;simp;omega) ?_;intro A' c' w3 hgA hgrA hbA hatA)
    have hu:U32 (List.replicate wh 0++O ++ [C]):=by rw [List.append_assoc];exact (U32.replicate _).append HF.o.2.2
    have hv:nv (List.replicate wh 0++O ++ [C])=nv xs*2^k:=by
     rw [List.append_assoc,BV.o];exact tH (by rw [HF.o.2.1,HS.o])
    have hnt:=hgA.nt hu;have hll:=ak hu;have hl5:(List.replicate wh 0++O ++ [C]).length=wh+xs.length+1:=by have:=HF.o.1;simp at this|-;omega
    have a7:=aL w3 A' c' (wh+xs.length+1) _ hnt hl5.symm (by omega)
    rw [hv] at a7;have f9:=ag a7;have bw:=(hbr.alloc hbr.size _).trans hbA;clear a7 hnt hll hv hl5 hgA hgr hbA hatA hgrA;go_wp2_with fail;refine f9.o.mono ?_;rintro e w2 ⟨A2,c2,rfl,hg2,hb2⟩;go_wp2_with fail;go_ret;exact ⟨A2,c2,rfl,hg2.more fun ad e=>Nat.le_trans bw.size (hg2.form.2.2 ad e).1,qc bw hb2⟩
theorem xF (w:World) (A:Option Addr) (c n k:Nat) (kI:Int) (xs:List Nat) (h:Nt w A c xs) (hn:n=xs.length) (hk:kI=k) (hl:xs.length<=10000) (hkl:k<=100000) :
 Calls prog 103 #[.slice A n c, .int .i64 kI] w (fh w (lim (nv xs/2^k))):=by
 subst hn hk;have h3:=h.cap;have h4:=h.max;obtain ⟨wh,hwh⟩:∃wh,wh=k/32:=⟨_,rfl⟩;obtain ⟨s,hs⟩:∃s,s=k % 32:=⟨_,rfl⟩;have hwl:wh<=10000:=by omega
 have hs32:s<32:=by omega
 have e1:(k:Int)/32=(wh:Int):=by omega
 have e2:(k:Int) % 32=(s:Int):=by omega
 have e3:(k:Int).tmod 32=(s:Int):=by rw [Int.tmod_eq_emod_of_nonneg (by omega)];omega
 have e4:(k:Int).tdiv 32=(wh:Int):=by rw [Int.tdiv_eq_ediv_of_nonneg (by omega)];omega
 have BV:=ag hwh;have HS:=ag hs;clear hwh hs;obtain ⟨i0,hi,hz0,hz1,hz2⟩:=info_parts ch;by_cases hge:xs.length<=wh
 ·have hge1:(xs.length:Int)<=wh:=by omega
  have dn:=ag hge;go_enter func103,ntmps103;go_wp2_with fail;go_ret;rw [oM h.u (by rw [<-BV.o];exact dn.o),aV]
  exact ⟨none,0,rfl,Gr.nil _ _,ah _ _⟩
 ·have hge1:decide ((xs.length:Int)<=wh)=false:=decide_eq_false (by omega)
  have hge2:decide (xs.length<=wh)=false:=decide_eq_false (by omega)
  have hgt:wh<xs.length:=by omega
  clear hge;have XU:=ag h.u;go_enter func103,ntmps103;go_wp2_with fail;go_loopw [5,6] (fun o iv wr=>∃(j:Nat) (O:List Nat) (AO:Option Addr) (cO:Nat),wh+j<=xs.length/\iv = .int .i64 ((wh:Int)+j)/\o = .slice AO O.length cO/\O.length=j/\(∀t (ht:t<O.length),O[t]=nv xs/(pw wh*2^s)/pw t % 4294967296)/\Gr lmv 58 wr w.heap.size AO cO O/\Below w.heap.size w wr) (fun _ iv _=>xs.length-(intOf iv).toNat)
  case atStart=>exact ⟨0,[],none,0,by omega,bL (by omega),rfl,rfl,fun t ht=>absurd ht (by simp),Gr.nil _ _,ah _ _⟩
  case round=>
   obtain ⟨j,O,AO,cO,hj,rfl,rfl,hO,hOv,hgr,hbr⟩:=hrel;have HO:=ag hO;have HV:=ag hOv;have hOl:O.length<=10000:=by omega
   clear hO hOv;by_cases hlt:wh+j<xs.length
   ·obtain ⟨ad,hA,hbX,hcX,hvX⟩:=(h.below hbr).at (wh+j) hlt;subst hA;have hlt1:(wh:Int)+j<xs.length:=by omega
    obtain ⟨x,hx⟩:∃x,x=xs[wh+j]:=⟨_,rfl⟩;rw [<-hx] at hcX hvX;have BM:=ag hx;have hw5:IntKind.u64.wrap (x:Int)=x:=by rw [IntKind.wrap_u64];omega
    clear hx;by_cases hnx:wh+j+1<xs.length
    ·obtain ⟨ad2,hA,_,hcX2,hvX2⟩:=(h.below hbr).at (wh+j+1) hnx;injection hA with hA;subst hA;obtain ⟨y,hy⟩:∃y,y=xs[wh+j+1]:=⟨_,rfl⟩;rw [<-hy] at hcX2 hvX2;have hcX3:=kW hcX2;have hw6:IntKind.u64.wrap (y:Int)=y:=by rw [IntKind.wrap_u64];omega
     have hnx1:(wh:Int)+j+1<xs.length:=by omega
     obtain ⟨hd,hhd⟩:∃t,t=y*4294967296+x:=⟨_,rfl⟩;have hor:bits .or .u64 (x:Int) ((y:Int)*4294967296)=(hd:Int):=by rw [zD hvX hvX2,hhd]
     have pj:=ag hhd;have GW:=ag hy;clear hhd hy hcX2;go_wp2_with (at_builtin;refine aD _ (mk:=lmv) (fun _=>rfl) rfl _ _ 27 rfl 58 i0 (.int .u32 0) 4 underlying27 hi hz0 hz1 hz2 rfl (B:=w.heap.size) (xs:=O) rfl rfl (hgr.below ((ah _ wr).alloc (Nat.le_refl _) _)) _ 1 1 [hd/2^s % 4294967296] rfl rfl (Rd.one_ wr _ _ _ (bL (jg hd s))) (by simp only [maxLen];omega) (by omega) (by have:=hbr.size;simp;omega) ?_;intro A' c' w3 hgA hgrA hbA hatA)
     go_roundw
     case rel=>
      refine ⟨j+1,O ++ [hd/2^s % 4294967296],A',c',by omega,bL (by omega),by simp,by have:=HO.o;simp;omega,?_,hgA,(hbr.alloc hbr.size _).trans hbA⟩
      intro t ht;rcases Nat.lt_or_ge t O.length with h1|h1
      ·rw [List.getElem_append_left h1];exact HV.o t h1
      ·have ht1:t=j:=by have:=HO.o;simp at ht;omega
       subst ht1;rw [List.getElem_append_right h1];simp only [List.getElem_singleton];rw [pj.o];have:=qI XU.o hs32 (wh:=wh) (i:=t) (by omega)
       rw [<-this]
       (rw [BM.o,GW.o,List.getD_eq_getElem?_getD,List.getElem?_eq_getElem hnx,Option.getD_some])
     case measure=>simp [intOf];omega
    ·have hnx1:decide ((wh:Int)+j+1<xs.length)=false:=decide_eq_false (by omega)
     have hnx2:decide (wh+j+1<xs.length)=false:=decide_eq_false hnx;obtain ⟨hd,hhd⟩:∃t,t=x:=⟨_,rfl⟩;have pj:=ag hhd;rw [<-hhd] at hcX hw5 hvX BM;clear hhd;go_wp2_with (at_builtin;refine aD _ (mk:=lmv) (fun _=>rfl) rfl _ _ 27 rfl 58 i0 (.int .u32 0) 4 underlying27 hi hz0 hz1 hz2 rfl (B:=w.heap.size) (xs:=O) rfl rfl (hgr.below ((ah _ wr).alloc (Nat.le_refl _) _)) _ 1 1 [hd/2^s % 4294967296] rfl rfl (Rd.one_ wr _ _ _ (bL (jg hd s))) (by simp only [maxLen];omega) (by omega) (by have:=hbr.size;simp;omega) ?_;intro A' c' w3 hgA hgrA hbA hatA)
     go_roundw
     case rel=>
      refine ⟨j+1,O ++ [hd/2^s % 4294967296],A',c',by omega,bL (by omega),by simp,by have:=HO.o;simp;omega,?_,hgA,(hbr.alloc hbr.size _).trans hbA⟩
      intro t ht;rcases Nat.lt_or_ge t O.length with h1|h1
      ·rw [List.getElem_append_left h1];exact HV.o t h1
      ·have ht1:t=j:=by have:=HO.o;simp at ht;omega
       subst ht1;rw [List.getElem_append_right h1];simp only [List.getElem_singleton];rw [pj.o];have:=qI XU.o hs32 (wh:=wh) (i:=t) (by omega)
       rw [<-this]
       (rw [<-pj.o,BM.o,List.getD_eq_getElem?_getD,List.getElem?_eq_none (by omega),Option.getD_none,Nat.zero_mul,Nat.zero_add])
     case measure=>simp [intOf];omega
   ·have hj2:j=xs.length-wh:=by omega
    have hlt1:decide ((wh:Int)+j<xs.length)=false:=decide_eq_false (by omega)
    have hRu:U32 O:=pR fun t ht=>by rw [HV.o t ht];exact Nat.mod_lt _ (by omega)
    have hval:nv O=nv xs/2^k:=
     pJ h.u (k:=k) (R:=O) (by rw [<-BV.o];exact hgt) (by rw [<-BV.o,HO.o];exact hj2) (by rw [<-BV.o,<-HS.o];exact HV.o)
    have hll:=ak hRu;have a7:=aL wr AO cO _ O (hgr.nt hRu) rfl (by omega)
    rw [hval] at a7;have HC:=ag a7;clear a7 hgr hval hj2 hll;go_wp2_with fail;refine HC.o.mono ?_;rintro e w2 ⟨A2,c2,rfl,hg2,hb2⟩;go_wp2_with fail;go_ret;exact ⟨A2,c2,rfl,hg2.more fun ad e=>Nat.le_trans hbr.size (hg2.form.2.2 ad e).1,qc hbr hb2⟩
theorem xE (w:World) (A:Option Addr) (c N k:Nat) (kI:Int) (h:Nt w A c (lim N)) (hk:kI=k) (hl:(lim N).length<=10000) (hkl:k<=100000) :
 Calls prog 103 #[.slice A (lim N).length c, .int .i64 kI] w (fh w (lim (N/2^k))):=by
 have:=xF w A c _ k kI (lim N) h rfl hk hl hkl
 rwa [am] at this
theorem Bo (w:World) (A:Option Addr) (c N k:Nat) (kI:Int) (h:Nt w A c (lim N)) (hk:kI=k) (hl:(lim N).length<=10000) (hkl:k<=100000) :
 Calls prog 104 #[.slice A (lim N).length c, .int .i64 kI] w (fh w (lim (N*2^k))):=by
 have:=Bp w A c _ k kI (lim N) h rfl hk hl hkl
 rwa [am] at this
theorem xJ {N n k:Nat} (hn:(lim N).length=n+2) (hk:k+aI N=32*(n+2)) :
 k<32/\(lim (N*2^k)).length=n+2/\2147483648*pw (n+1)<=N*2^k/\∀h:n+1<(lim (N*2^k)).length,2147483648<=(lim (N*2^k))[n+1]:=by
 have hN:N≠0:=by intro h;rw [h,aV] at hn;simp at hn
 have h1:pw (n+1)<=N:=(fL N (n+1)).1 (by omega)
 have h2:¬aI N<=32*(n+1):=by rw [bP,<-jy];omega
 have hb:aI (N*2^k)=32*(n+2):=by rw [yk _ _ hN];omega
 have h3:N*2^k<2^(32*(n+2)):=(bP _ _).1 (by omega)
 have h4:¬N*2^k<2^(32*(n+1)+31):=fun h=>by have:=(bP _ _).2 h;omega
 have h5:2^(32*(n+1)+31)=pw (n+1)*2147483648:=by rw [Nat.pow_add,<-jy]
 rw [<-jy] at h3;have h6:2147483648*pw (n+1)<=N*2^k:=by rw [h5] at h4;omega
 have hl:(lim (N*2^k)).length=n+2:=by
  have a:=(aA (N*2^k) (n+2)).2 h3;have b:=(fL (N*2^k) (n+1)).2 (by omega)
  omega
 refine ⟨by omega,hl,h6,fun h=>?_⟩
 have h7:=jT (lim (N*2^k)) (aC _) (n+1) (by omega) h
 rw [am] at h7;have h8:2147483648*pw (n+1)<((lim (N*2^k))[n+1]+1)*pw (n+1):=by omega
 have h9:=Nat.lt_of_mul_lt_mul_right h8;omega
theorem uP {M N n k K L:Nat} (hL:(lim (M*2^k)).length=L) (hK:L+1=n+2+K) (hV:pw (n+1)<=N*2^k):df (M*2^k) (lim (N*2^k)) (n+2) (L+1) K (lim (M*2^k) ++ [0]) []:=by
 have h:=df.start (V:=lim (N*2^k)) (U:=lim (M*2^k) ++ [0]) (M:=M*2^k) (n:=n) (m:=L) (K:=K) (s:=0) (by simp [hL]) ((aC _).append (U32.one (by omega))) hK (by rw [cj,am];simp [aT,aW]) ((aA _ _).1 (by omega)) (by rw [am];simpa using hV)
 simpa using h
def fC (nS nV g:Nat):Prop:=g<4294967296/\nS<(g+1)*nV
theorem fC.start {nS nV p top next u2 hd:Nat} (hp:0<p) (ht:0<top) (ht2:top<4294967296) (hv1:(top*4294967296+next)*p<=nV) (hS2:nS<(hd*4294967296+u2+1)*p) (h2:u2<4294967296) (hb:hd/top<4294967296):fC nS nV (hd/top):=by
 have h:=(bW.start hp ht ht2 hv1 hS2 h2).2.2.2.1;refine ⟨hb,?_⟩;rw [show (hd:Int)/top=((hd/top:Nat):Int) from (Int.natCast_ediv _ _).symm] at h
 exact_mod_cast h
theorem fC.most {nS nV:Nat} (h:nS<4294967296*nV):fC nS nV 4294967295:=⟨by omega,by simpa using h⟩
theorem fC.less {nS nV g:Nat} (h:fC nS nV g) (hgt:nS<nV*g):1<=g/\fC nS nV (g-1):=by
 have h0:1<=g:=by
  rcases Nat.eq_zero_or_pos g with h0|h0
  ·subst h0;simp at hgt
  ·exact h0
 exact ⟨h0,by have:=h.1;omega,by rw [show g-1+1=g from by omega,Nat.mul_comm];exact hgt⟩
theorem fC.done {nS nV g:Nat} (h:fC nS nV g) (hle:nV*g<=nS):g=nS/nV/\nS-nV*g=nS % nV:=by
 have hV:0<nV:=by
  rcases Nat.eq_zero_or_pos nV with h0|h0
  ·have:=h.2;rw [h0] at this;simp at this
  ·exact h0
 have hg:nS/nV=g:=by
  apply Nat.div_eq_of_lt_le
  ·rw [Nat.mul_comm];exact hle
  ·exact h.2
 refine ⟨hg.symm,?_⟩;have:=Nat.div_add_mod nS nV;rw [hg] at this;omega
def kE (l:List Nat) (n:Nat):List Nat:=l++List.replicate (n-l.length) 0
theorem tD {l:List Nat} {n:Nat} (h:l.length<=n):(kE l n).length=n:=by simp [kE];omega
theorem BF (l:List Nat) (n:Nat):nv (kE l n)=nv l:=by rw [kE,cj,iX];simp
theorem zA {l:List Nat} (h:U32 l) (n:Nat):U32 (kE l n):=h.append (U32.replicate _)
theorem BG {l:List Nat} {n t:Nat} (h:t<l.length) (h2:t<(kE l n).length):(kE l n)[t]=l[t]:=by simp only [kE];rw [List.getElem_append_left h]
theorem zB {l:List Nat} {n t:Nat} (h:¬t<l.length) (h2:t<(kE l n).length):(kE l n)[t]=0:=by simp only [kE];rw [List.getElem_append_right (by omega)];simp
theorem vZ {A B:List Nat} {t:Nat} (hA:t<A.length) (hAB:A.length=B.length) (v:Nat) (hv:v=A[t]):(A.take t++B.drop t).set t v=A.take (t+1)++B.drop (t+1):=by
 have ht:(A.take t).length=t:=by simp;omega
 rw [List.set_append_right _ _ (by omega),ht,Nat.sub_self,List.drop_eq_getElem_cons (show t<B.length by omega),List.set_cons_zero,List.take_succ_eq_append_getElem hA,hv,List.append_assoc]
 rfl
end Go.Proofs.YtkpfbekmaafehaaGreat
