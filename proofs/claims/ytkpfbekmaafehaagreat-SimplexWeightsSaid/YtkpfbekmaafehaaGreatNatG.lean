/- The walks of package natural: sized, Make, Trim, Add, Sub -/
import Derived.Test.YtkpfbekmaafehaaGreatNatA
namespace Go.Proofs.YtkpfbekmaafehaaGreat
open _root_.Go.Proofs.Tryz
set_option maxHeartbeats 8000000
set_option maxRecDepth 100000
open Go.RowKit
def iC (n:Nat):List Nat×Int:=if 512<(lim n).length then ([],2) else (lim n,0)
def pG (m n:Nat):List Nat×Int:=if 512<(lim m).length\/512<(lim n).length then ([],2) else iC (m+n)
def jJ (w:World) (R:List Nat) (E:Int) (e:Ending) (w':World):Prop:=
 ∃A c,e = .returned (.tuple #[.slice A R.length c, .int .i64 E])/\Nt w' A c R/\Below w.heap.size w w'
theorem jO (w:World) (A:Option Addr) (c n:Nat) (xs R:List Nat) (E:Int) (h:Nt w A c xs) (hn:n=xs.length) (hr:iC (nv xs)=(R,E)) :
 Calls prog 121 #[.slice A n c] w fun e w'=>(∃A c,e = .returned (.tuple #[.slice A R.length c, .int .i64 E])/\Nt w A c R)/\w=w':=by
 subst hn;have HR:=ag hr;clear hr;have h1:=h.lim;have h2:=ak h.u;have h3:=h.cap;have h4:=h.max;go_enter func121,ntmps121;go_wp2_with fail;refine (bT w A c _ xs h rfl).mono ?_;rintro e w' ⟨rfl,rfl⟩;by_cases hl:512<(lim (nv xs)).length
 ·go_wp2_with fail;have e:=HR.o;rw [iC,if_pos hl] at e;obtain ⟨rfl,rfl⟩:=Prod.mk.inj e
  go_ret2
  exact ⟨⟨_,_,rfl,Nt.nil _ _ _ (by omega)⟩,rfl⟩
 ·go_wp2_with fail;have e:=HR.o;rw [iC,if_neg hl] at e;obtain ⟨rfl,rfl⟩:=Prod.mk.inj e
  go_ret2
  exact ⟨⟨_,_,rfl,⟨Nat.le_refl _,by omega,h1.u,h1.rd⟩⟩,rfl⟩
theorem ch:(prog.info? 58).map (fun i=>(i.zero,i.size,i.bytes))=some (some (.int .u32 0),1,4):=by kernel_rfl
theorem od (v:Nat) (_:v<18446744073709551616):nv [v % 4294967296,v/4294967296]=v:=by
 simp only [aT,aW];omega
theorem vF (v:Nat) (hv:v<18446744073709551616):U32 [v % 4294967296,v/4294967296]:=
 U32.cons (by omega) (U32.one (by omega))
theorem kZ (v:Nat):((v:Int) % 4294967296)=((v % 4294967296:Nat):Int):=by omega
theorem iL (v:Nat):((v:Int)/4294967296)=((v/4294967296:Nat):Int):=by omega
def fh (w:World) (R:List Nat) (e:Ending) (w':World):Prop:=
 ∃A c,e = .returned (.slice A R.length c)/\Gr lmv 58 w' w.heap.size A c R/\Below w.heap.size w w'
theorem jB (w:World) (v:Nat) (hv:v<18446744073709551616) :
 Calls prog 78 #[.int .u64 v] w fun e w'=>∃A c,e = .returned (.slice A (lim v).length c)/\Nt w' A c (lim v)/\Below w.heap.size w w':=by
 go_enter func78,ntmps78;go_wp2_with fail;simp only [kZ,iL];have hg:=Gr.lit (mk:=lmv) (e:=58) (B:=w.heap.size) w [v % 4294967296,v/4294967296] #[.int .u32 ((v % 4294967296:Nat):Int), .int .u32 ((v/4294967296:Nat):Int)] rfl (by simp [maxLen]) (Nat.le_refl _)
 have hb:=qc w (.cells #[.int .u32 ((v % 4294967296:Nat):Int), .int .u32 ((v/4294967296:Nat):Int)] 58)
 revert hg hb
 generalize (w.alloc (.cells #[.int .u32 ((v % 4294967296:Nat):Int), .int .u32 ((v/4294967296:Nat):Int)] 58))=w1;intro hg hb;have hn:=hg.nt (vF v hv);refine (bT w1 _ _ _ _ hn rfl).mono ?_;rintro e w' ⟨rfl,rfl⟩;have hl:=ak hn.u;have hl2:=hn.lim;rw [od v hv] at hl hl2|-;have hl3:(lim v).length<=2:=hl;clear hn hg hl;go_wp2_with fail;go_ret;exact ⟨_,_,rfl,hl2,hb⟩
theorem jm (w:World) (A:Option Addr) (c n:Nat) (xs:List Nat) (h:Nt w A c xs) (hn:n=xs.length) (hl:(lim (nv xs)).length<=1000000) :
 Calls prog 114 #[.slice A n c] w (fh w (lim (nv xs))):=by
 subst hn;have h1:=h.lim;have h2:=ak h.u;have h3:=h.cap;have h4:=h.max;obtain ⟨i0,hi,hz0,hz1,hz2⟩:=info_parts ch;go_enter func114,ntmps114;go_wp2_with fail;refine (bT w A c _ xs h rfl).mono ?_;rintro e w' ⟨rfl,rfl⟩;go_wp2_with (at_builtin;refine aD w (mk:=lmv) (fun _=>rfl) rfl _ _ 27 rfl 58 i0 (.int .u32 0) 4 underlying27 hi hz0 hz1 hz2 rfl (xs := []) (B:=w.heap.size) rfl rfl (Gr.nil _ _) A (lim (nv xs)).length c (lim (nv xs)) rfl rfl h1.rd (by simp only [maxLen];omega) (by omega) (Nat.le_refl _) ?_;intro A' c' w1 hg hgr hb hat)
 go_ret;exact ⟨A',c',by simp,by simpa using hg,hb⟩
theorem fA {w:World} {A:Option Addr} {c:Nat} {xs:List Nat} (h:Nt w A c xs) {q:Nat} :
 Calls prog 105 #[.slice A xs.length c] (w.drewN q) fun e w''=>e = .returned (.int .i64 (lim (nv xs)).length)/\∃m,w''=w.drewN m:=
 (bT _ A c _ xs (h.below (aJ (ah _ _) _)) rfl).mono fun _ _ ⟨he,hw⟩=>⟨he,q,hw.symm⟩
theorem qT {m n:Nat} (h:512<(lim m).length):pG m n=([],2):=by simp [pG,h]
theorem qS {m n:Nat} (h:512<(lim n).length):pG m n=([],2):=by simp [pG,h]
theorem oA {m n:Nat} (h:¬ 512<(lim m).length) (h2:¬ 512<(lim n).length):pG m n=iC (m+n):=by simp [pG,h,h2]
def gP (X Y:List Nat) (j C:Nat) (O:List Nat):Prop:=C<=1/\O.length=j/\U32 O/\nv O+pw j*C=nv (X.take j)+nv (Y.take j)
theorem gP.start (X Y:List Nat):gP X Y 0 0 []:=⟨by omega,rfl,U32.nil,by simp [aW]⟩
theorem fV (Y:List Nat) (j:Nat):nv (Y.take (j+1))=nv (Y.take j)+pw j*Y.getD j 0:=by
 rcases Nat.lt_or_ge j Y.length with h|h
 ·rw [bB Y j h];simp [h]
 ·rw [List.take_of_length_le (by omega),List.take_of_length_le (by omega)];simp [List.getElem?_eq_none h]
theorem gP.step {X Y:List Nat} {j C:Nat} {O:List Nat} (h:gP X Y j C O) (hX:U32 X) (hY:U32 Y) (hj:j<X.length) (s:Nat) (hs:s=C+X[j]+Y.getD j 0) :
 gP X Y (j+1) (s/4294967296) (O ++ [s % 4294967296]):=by
 obtain ⟨h1,h2,h3,h4⟩:=h;have b1:=hX.at j hj;have b2:Y.getD j 0<4294967296:=by
  rcases Nat.lt_or_ge j Y.length with h|h
  ·have:=hY.at j h;simpa [h] using this
  ·simp [List.getElem?_eq_none h]
 refine ⟨by omega,by simp [h2],h3.append (U32.one (by omega)),?_⟩
 rw [cj,bB X j hj,fV,h2,aT,aW,gM];have h5:s=4294967296*(s/4294967296)+s % 4294967296:=(Nat.div_add_mod _ _).symm;have h6:pw j*s=pw j*(4294967296*(s/4294967296)+s % 4294967296):=by rw [<-h5]
 rw [hs] at h6|-
 grind
theorem gP.done {X Y:List Nat} {C:Nat} {O:List Nat} (h:gP X Y X.length C O) (hl:Y.length<=X.length):U32 (O ++ [C])/\nv (O ++ [C])=nv X+nv Y/\(O ++ [C]).length=X.length+1:=by
 obtain ⟨h1,h2,h3,h4⟩:=h;rw [List.take_of_length_le (Nat.le_refl _),List.take_of_length_le hl] at h4;exact ⟨h3.append (U32.one (by omega)),by rw [cj,aT,aW,h2,<-h4];simp,by simp [h2]⟩
theorem kg (a b c:Nat):((a:Int)+b+c) % 4294967296=(((a+b+c) % 4294967296:Nat):Int):=by omega
theorem iy (a b c:Nat):((a:Int)+b+c)/4294967296=(((a+b+c)/4294967296:Nat):Int):=by omega
theorem iz (a b:Nat):((a:Int)+b) % 4294967296=(((a+b) % 4294967296:Nat):Int):=by omega
theorem fM (a b:Nat):((a:Int)+b)/4294967296=(((a+b)/4294967296:Nat):Int):=by omega
theorem wM (w:World) (A D:Option Addr) (c d n m:Nat) (xs ys R:List Nat) (E:Int) (h:Nt w A c xs) (k:Nt w D d ys) (hn:n=xs.length) (hm:m=ys.length) (hr:pG (nv xs) (nv ys)=(R,E)) :
 Calls prog 109 #[.slice A n c, .slice D m d] w (jJ w R E):=by
 subst hn hm;have HR:=ag hr;clear hr;have h1:=h.lim;have h2:=ak h.u;have h3:=h.cap;have h4:=h.max;have k1:=k.lim;have k2:=ak k.u;have k3:=k.cap;have k4:=k.max;obtain ⟨i0,hi,hz0,hz1,hz2⟩:=info_parts ch;by_cases hl:512<(lim (nv xs)).length
 ·go_enter func109,ntmps109;go_wp2_with fail;refine (aN w A c _ xs true h rfl (by simpa using hl)).mono ?_
  rintro e w' ⟨rfl,rfl⟩;go_wp2_with fail
  go_ret2
  have e:=HR.o;rw [qT hl] at e;obtain ⟨rfl,rfl⟩:=Prod.mk.inj e;exact ⟨_,_,rfl,Nt.nil _ _ _ (by omega),ah _ _⟩
 ·by_cases hl2:512<(lim (nv ys)).length
  ·go_enter func109,ntmps109;go_wp2_with fail;refine (aN w A c _ xs false h rfl (by simpa using hl)).mono ?_
   rintro e w' ⟨rfl,rfl⟩;go_wp2_with fail;refine (aN w D d _ ys true k rfl (by simpa using hl2)).mono ?_
   rintro e w' ⟨rfl,rfl⟩;go_wp2_with fail
   go_ret2
   have e:=HR.o;rw [qS hl2] at e;obtain ⟨rfl,rfl⟩:=Prod.mk.inj e;exact ⟨_,_,rfl,Nt.nil _ _ _ (by omega),ah _ _⟩
  ·by_cases hsw:(lim (nv xs)).length<(lim (nv ys)).length
   ·go_enter func109,ntmps109;go_wp2_with fail;refine (aN w A c _ xs false h rfl (by simpa using hl)).mono ?_
    rintro e w' ⟨rfl,rfl⟩;go_wp2_with fail;refine (aN w D d _ ys false k rfl (by simpa using hl2)).mono ?_
    rintro e w' ⟨rfl,rfl⟩;go_wp2_with fail
    go_quiet ((first|with_reducible exact fA h|with_reducible exact fA k))
    have hsw1:decide ((lim (nv xs)).length<(lim (nv ys)).length)=true:=by simpa using hsw
    have hX:=k1.below (aJ (ah w.heap.size w) nq);have hY:=h1.below (aJ (ah w.heap.size w) nq);have hb0:=aJ (ah w.heap.size w) nq
    revert hX hY hb0
    generalize w.drewN nq=w0;intro hX hY hb0;have hs0:=hb0.size;go_wp2_with (refine bp w0 (mk:=lmv) 0 rfl _ _ 27 rfl 58 i0 4 underlying27 hi hz0 hz1 hz2 rfl .i64 .i64 _ _ ((lim (nv ys)).length+1) rfl rfl (by omega) (by omega) (by omega) (by simp only [maxLen];omega) ?_;intro w1 hg1 hb1 hs1)
    go_loopw [7,36] (fun cy i wr=>∃(j C:Nat) (O:List Nat),j<=(lim (nv ys)).length/\i = .int .i64 j/\cy = .int .u64 C/\gP (lim (nv ys)) (lim (nv xs)) j C O/\Gr lmv 58 wr w0.heap.size (some ⟨w0.heap.size,0,none⟩) ((lim (nv ys)).length+1) (O++List.replicate ((lim (nv ys)).length+1-j) 0)/\Below w0.heap.size w0 wr) (fun _ i _=>(lim (nv ys)).length-(intOf i).toNat)
    case atStart=>exact ⟨0,0,[],by omega,rfl,rfl,gP.start _ _,by simpa using hg1,hb1⟩
    case round=>
     obtain ⟨j,C,O,hj,rfl,rfl,hinv,hgr,hbr⟩:=hrel;have HI:=ag hinv;have hC:C<=1:=hinv.1;have HO:=ag hinv.2.1;clear hinv hg1 hb1 hs1;have hsz:=hbr.size;have hfree:=hgr.free j;have hcell:wr.cell? ⟨w0.heap.size,j,none⟩=some (.int .u32 0):=by
      rw [hgr.cell j (by have:=HO.o;simp;omega),List.getElem_append_right (by have:=HO.o;omega)]
      simp
     by_cases hlt:j<(lim (nv ys)).length
     ·obtain ⟨adX,hadX,hbX,hcX,hvX⟩:=(hX.below hbr).at j hlt;subst hadX;by_cases hlt2:j<(lim (nv xs)).length
      ·obtain ⟨adY,hadY,hbY,hcY,hvY⟩:=(hY.below hbr).at j hlt2;subst hadY;have HB:=ag hbr;have HG:=ag hgr;clear hbr hgr;go_wp2_with fail;go_roundw
       case rel=>exact ⟨j+1,_,O ++ [(C+(lim (nv ys))[j]+(lim (nv xs))[j]) % 4294967296],by omega,by go_num,by rw [iy],HI.o.step hX.u hY.u hlt _ (by simp [hlt2]),by rw [kg];exact HG.o.push HO.o (by omega) _,HB.o.setCell (Nat.le_refl _) _⟩
       case measure=>simp [intOf];omega
      ·have HB:=ag hbr;have HG:=ag hgr;clear hbr hgr;go_wp2_with fail;go_roundw
       case rel=>exact ⟨j+1,_,O ++ [(C+(lim (nv ys))[j]) % 4294967296],by omega,by go_num,by rw [fM],HI.o.step hX.u hY.u hlt _ (by simp [List.getElem?_eq_none (Nat.le_of_not_lt hlt2)]),by rw [iz];exact HG.o.push HO.o (by omega) _,HB.o.setCell (Nat.le_refl _) _⟩
       case measure=>simp [intOf];omega
     ·obtain rfl:j=(lim (nv ys)).length:=by omega
      have HB:=ag hbr;have HG:=ag hgr;clear hbr hgr;have hfin:=HI.o.done (by omega)
      have hgr2:=HG.o.push HO.o (by omega) C
      rw [Nat.sub_self,List.replicate_zero,List.append_nil] at hgr2;have hnt:=hgr2.nt hfin.1;have hb2:=HB.o.setCell (p:=⟨w0.heap.size,(lim (nv ys)).length,none⟩) (Nat.le_refl _) (.int .u32 (C:Int));have HF:=ag hfin;clear hfin hgr2;go_wp2_with fail;refine (jO _ _ _ _ (O ++ [C]) R E hnt HF.o.2.2.symm (by rw [HF.o.2.1,am,am,<-HR.o,oA hl hl2,Nat.add_comm])).mono ?_
      rintro e w' ⟨⟨A',c',rfl,hnt'⟩,rfl⟩;clear hnt;go_wp2_with fail
      go_ret2
      exact ⟨A',c',rfl,hnt',ai hb0 hb2 hs0⟩
   ·go_enter func109,ntmps109;go_wp2_with fail;refine (aN w A c _ xs false h rfl (by simpa using hl)).mono ?_
    rintro e w' ⟨rfl,rfl⟩;go_wp2_with fail;refine (aN w D d _ ys false k rfl (by simpa using hl2)).mono ?_
    rintro e w' ⟨rfl,rfl⟩;go_wp2_with fail
    go_quiet ((first|with_reducible exact fA h|with_reducible exact fA k))
    have hsw1:decide ((lim (nv xs)).length<(lim (nv ys)).length)=false:=by simpa using hsw
    have hX:=h1.below (aJ (ah w.heap.size w) nq);have hY:=k1.below (aJ (ah w.heap.size w) nq);have hb0:=aJ (ah w.heap.size w) nq
    revert hX hY hb0
    generalize w.drewN nq=w0;intro hX hY hb0;have hs0:=hb0.size;go_wp2_with (refine bp w0 (mk:=lmv) 0 rfl _ _ 27 rfl 58 i0 4 underlying27 hi hz0 hz1 hz2 rfl .i64 .i64 _ _ ((lim (nv xs)).length+1) rfl rfl (by omega) (by omega) (by omega) (by simp only [maxLen];omega) ?_;intro w1 hg1 hb1 hs1)
    go_loopw [7,36] (fun cy i wr=>∃(j C:Nat) (O:List Nat),j<=(lim (nv xs)).length/\i = .int .i64 j/\cy = .int .u64 C/\gP (lim (nv xs)) (lim (nv ys)) j C O/\Gr lmv 58 wr w0.heap.size (some ⟨w0.heap.size,0,none⟩) ((lim (nv xs)).length+1) (O++List.replicate ((lim (nv xs)).length+1-j) 0)/\Below w0.heap.size w0 wr) (fun _ i _=>(lim (nv xs)).length-(intOf i).toNat)
    case atStart=>exact ⟨0,0,[],by omega,rfl,rfl,gP.start _ _,by simpa using hg1,hb1⟩
    case round=>
     obtain ⟨j,C,O,hj,rfl,rfl,hinv,hgr,hbr⟩:=hrel;have HI:=ag hinv;have hC:C<=1:=hinv.1;have HO:=ag hinv.2.1;clear hinv hg1 hb1 hs1;have hsz:=hbr.size;have hfree:=hgr.free j;have hcell:wr.cell? ⟨w0.heap.size,j,none⟩=some (.int .u32 0):=by
      rw [hgr.cell j (by have:=HO.o;simp;omega),List.getElem_append_right (by have:=HO.o;omega)]
      simp
     by_cases hlt:j<(lim (nv xs)).length
     ·obtain ⟨adX,hadX,hbX,hcX,hvX⟩:=(hX.below hbr).at j hlt;subst hadX;by_cases hlt2:j<(lim (nv ys)).length
      ·obtain ⟨adY,hadY,hbY,hcY,hvY⟩:=(hY.below hbr).at j hlt2;subst hadY;have HB:=ag hbr;have HG:=ag hgr;clear hbr hgr;go_wp2_with fail;go_roundw
       case rel=>exact ⟨j+1,_,O ++ [(C+(lim (nv xs))[j]+(lim (nv ys))[j]) % 4294967296],by omega,by go_num,by rw [iy],HI.o.step hX.u hY.u hlt _ (by simp [hlt2]),by rw [kg];exact HG.o.push HO.o (by omega) _,HB.o.setCell (Nat.le_refl _) _⟩
       case measure=>simp [intOf];omega
      ·have HB:=ag hbr;have HG:=ag hgr;clear hbr hgr;go_wp2_with fail;go_roundw
       case rel=>exact ⟨j+1,_,O ++ [(C+(lim (nv xs))[j]) % 4294967296],by omega,by go_num,by rw [fM],HI.o.step hX.u hY.u hlt _ (by simp [List.getElem?_eq_none (Nat.le_of_not_lt hlt2)]),by rw [iz];exact HG.o.push HO.o (by omega) _,HB.o.setCell (Nat.le_refl _) _⟩
       case measure=>simp [intOf];omega
     ·obtain rfl:j=(lim (nv xs)).length:=by omega
      have HB:=ag hbr;have HG:=ag hgr;clear hbr hgr;have hfin:=HI.o.done (by omega)
      have hgr2:=HG.o.push HO.o (by omega) C
      rw [Nat.sub_self,List.replicate_zero,List.append_nil] at hgr2;have hnt:=hgr2.nt hfin.1;have hb2:=HB.o.setCell (p:=⟨w0.heap.size,(lim (nv xs)).length,none⟩) (Nat.le_refl _) (.int .u32 (C:Int));have HF:=ag hfin;clear hfin hgr2;go_wp2_with fail;refine (jO _ _ _ _ (O ++ [C]) R E hnt HF.o.2.2.symm (by rw [HF.o.2.1,am,am,<-HR.o,oA hl hl2])).mono ?_
      rintro e w' ⟨⟨A',c',rfl,hnt'⟩,rfl⟩;clear hnt;go_wp2_with fail
      go_ret2
      exact ⟨A',c',rfl,hnt',ai hb0 hb2 hs0⟩
theorem iK (r x:Nat):(r:Int)*4294967296+x=((r*4294967296+x:Nat):Int):=by omega
theorem iE {r x:Nat} (hr:r<4294967296) (hx:x<4294967296):bits .or .u64 ((r:Int)*4294967296) (x:Int)=(r:Int)*4294967296+x:=by
 have h:=u64_or_nat (r*4294967296) x (by omega) (by omega)
 rw [nat_join32 (r*4294967296) x (by omega) hx] at h
 have e1:(((r*4294967296:Nat)):Int)=(r:Int)*4294967296:=by omega
 rw [e1] at h;rw [h];exact (iK r x).symm
def eg (xs:List Nat) (dv j r:Nat) (O:List Nat):Prop:=r<dv/\O.length+j=xs.length/\U32 O/\nv (xs.drop j)=dv*nv O+r
theorem eg.start (xs:List Nat) {dv:Nat} (h:0<dv):eg xs dv xs.length 0 []:=⟨h,by simp,U32.nil,by simp [aW]⟩
theorem rm {r x dv:Nat} (hr:r<dv) (hx:x<4294967296):(r*4294967296+x)/dv<4294967296:=by
 rw [Nat.div_lt_iff_lt_mul (by omega)]
 have:(r+1)*4294967296<=dv*4294967296:=Nat.mul_le_mul_right _ hr;omega
theorem eg.step {xs:List Nat} {dv j r:Nat} {O:List Nat} (h:eg xs dv (j+1) r O) (hu:U32 xs) (hj:j<xs.length) :
 eg xs dv j ((r*4294967296+xs[j]) % dv) ((r*4294967296+xs[j])/dv::O):=by
 obtain ⟨h1,h2,h3,h4⟩:=h;refine ⟨Nat.mod_lt _ (by omega),by simp;omega,U32.cons (rm h1 (hu.at j hj)) h3,?_⟩
 rw [List.drop_eq_getElem_cons hj,aT,h4,aT];have h5:=Nat.div_add_mod (r*4294967296+xs[j]) dv
 grind
theorem eg.done {xs:List Nat} {dv r:Nat} {O:List Nat} (h:eg xs dv 0 r O):U32 O/\nv O=nv xs/dv/\r=nv xs % dv/\O.length=xs.length:=by
 obtain ⟨h1,h2,h3,h4⟩:=h;rw [List.drop_zero] at h4;refine ⟨h3,?_,?_,by omega⟩
 ·rw [h4,Nat.mul_add_div (by omega),Nat.div_eq_of_lt h1];rfl
 ·rw [h4,Nat.mul_add_mod,Nat.mod_eq_of_lt h1]
theorem lh (r x d:Nat):((r:Int)*4294967296+x) % d=(((r*4294967296+x) % d:Nat):Int):=by rw [iK];exact (Int.natCast_emod _ _).symm
theorem fZ (r x d:Nat):((r:Int)*4294967296+x)/d=(((r*4294967296+x)/d:Nat):Int):=by rw [iK];exact (Int.natCast_ediv _ _).symm
theorem xn (w:World) (A:Option Addr) (c n dv N:Nat) (xs:List Nat) (h:Nt w A c xs) (hn:n=xs.length) (hN:nv xs=N) (hd:0<dv) (hd2:dv<4294967296) (hl:xs.length<=1000000) :
 Calls prog 123 #[.slice A n c, .int .u32 (dv:Int)] w fun e w'=>e = .returned (.tuple #[.slice (some ⟨w.heap.size,0,none⟩) (lim (N/dv)).length xs.length, .int .u32 ((N % dv:Nat):Int)])/\Nt w' (some ⟨w.heap.size,0,none⟩) xs.length (lim (N/dv))/\Below w.heap.size w w'/\w.heap.size<w'.heap.size:=by
 subst hn hN;have h3:=h.cap;have h4:=h.max;obtain ⟨i0,hi,hz0,hz1,hz2⟩:=info_parts ch;go_enter func123,ntmps123;go_wp2_with (refine bp w (mk:=lmv) 0 rfl _ _ 27 rfl 58 i0 4 underlying27 hi hz0 hz1 hz2 rfl .i64 .i64 _ _ (xs.length) rfl rfl (by omega) (by omega) (by omega) (by simp only [maxLen];omega) ?_;intro w1 hg1 hb1 hs1)
 go_loopw [7,8] (fun rs i wr=>∃(j r:Nat) (O:List Nat),j<=xs.length/\i = .int .i64 ((j:Int)-1)/\rs = .int .u64 r/\eg xs dv j r O/\Gr lmv 58 wr w.heap.size (some ⟨w.heap.size,0,none⟩) xs.length (List.replicate j 0++O)/\Below w.heap.size w wr/\w.heap.size<wr.heap.size) (fun _ i _=>(intOf i+1).toNat)
 case atStart=>exact ⟨xs.length,0,[],Nat.le_refl _,rfl,rfl,eg.start xs hd,by simpa using hg1,hb1,hs1⟩
 case round=>
  obtain ⟨j,r,O,hj,rfl,rfl,hinv,hgr,hbr,hsz⟩:=hrel;have HI:=ag hinv;have hr:r<dv:=hinv.1;clear hinv hg1 hb1 hs1;have HB:=ag hbr;have HG:=ag hgr;rcases j with _|j
  ·have hfin:=HI.o.done;have hnt:=hgr.nt (by simpa using hfin.1)
   simp only [List.replicate_zero,List.nil_append] at hnt;have hl2:=ak hnt.u;have hl3:=hnt.lim;have HF:=ag hfin;have hl4:(lim (nv O)).length<=xs.length:=by omega
   clear hbr hgr hfin hl2;go_wp2_with fail;refine (bT wr _ _ _ O hnt HF.o.2.2.2.symm).mono ?_;rintro e w' ⟨rfl,rfl⟩;clear hnt;go_wp2_with fail
   go_ret2
   refine ⟨?_,by rw [<-HF.o.2.1];exact hl3,HB.o,hsz⟩
   rw [<-HF.o.2.1,<-HF.o.2.2.1];rfl
  ·have hlt:j<xs.length:=by omega
   obtain ⟨adX,hadX,hbX,hcX,hvX⟩:=(h.below hbr).at j hlt;subst hadX;have hfree:=hgr.free j;have hcell:wr.cell? ⟨w.heap.size,j,none⟩=some (.int .u32 0):=by
    rw [hgr.cell j (by simp;omega),List.getElem_append_left (by simp)]
    simp
   clear hbr hgr;have hor:=iE (r:=r) (x:=xs[j]) (by omega) hvX
   have hq0:0<=((r:Int)*4294967296+xs[j])/dv:=Int.ediv_nonneg (by omega) (by omega)
   have hq:((r:Int)*4294967296+xs[j])/dv<4294967296:=by
    have:=rm hr hvX;rw [fZ];omega
   go_wp2_with fail;go_roundw
   case rel=>exact ⟨j,_,_,by omega,rfl,by rw [lh],HI.o.step h.u hlt,by rw [fZ];exact HG.o.pull _,HB.o.setCell (Nat.le_refl _) _,by simpa [World.setCell] using hsz⟩
   case measure=>simp [intOf]
def jI (xs:List Nat) (s j C:Nat) (O:List Nat):Prop:=C<2^s/\O.length=j/\U32 O/\nv O+pw j*C=nv (xs.take j)*2^s
theorem jI.start (xs:List Nat) (s:Nat):jI xs s 0 0 []:=⟨Nat.pow_pos (by omega),rfl,U32.nil,by simp [aW]⟩
theorem jI.step {xs:List Nat} {s j C:Nat} {O:List Nat} (h:jI xs s j C O) (hu:U32 xs) (hj:j<xs.length) :
 jI xs s (j+1) ((C+xs[j]*2^s)/4294967296) (O ++ [(C+xs[j]*2^s) % 4294967296]):=by
 obtain ⟨h1,h2,h3,h4⟩:=h;have hx:=hu.at j hj;refine ⟨?_,by simp [h2],h3.append (U32.one (by omega)),?_⟩
 ·rw [Nat.div_lt_iff_lt_mul (by omega)]
  have:(xs[j]+1)*2^s<=4294967296*2^s:=Nat.mul_le_mul_right _ hx;rw [Nat.add_mul] at this;omega
 ·rw [cj,bB xs j hj,h2,aT,aW,gM];have h5:=Nat.div_add_mod (C+xs[j]*2^s) 4294967296
  grind
theorem fj {s:Nat} (h:s<32):2^s<=2147483648:=by
 have:=Nat.pow_le_pow_right (show 0<2 by omega) (show s<=31 by omega)
 simpa using this
theorem dL (x s:Nat):(x:Int)*2^s=((x*2^s:Nat):Int):=by rw [Int.natCast_mul,Int.natCast_pow];rfl
theorem vE {C x p:Nat} (hC:C<p) (hx:x<4294967296) (hp:p<=2147483648):C+x*p<9223372036854775808:=by
 have h1:(x+1)*p<=4294967296*p:=Nat.mul_le_mul_right _ hx;rw [Nat.add_mul] at h1;omega
theorem or_up {C x s:Nat} (hC:C<2^s) (hx:x<4294967296) (hs:s<32):bits .or .u64 (C:Int) ((x:Int)*2^s)=(C:Int)+(x:Int)*2^s:=by
 have hp:=fj hs;have hb:=vE hC hx hp;have h:=u64_or_nat C (x*2^s) (by omega) (by omega)
 rw [Nat.or_comm,nat_join s (x*2^s) C (by simp) hC] at h
 have e1:(((x*2^s:Nat)):Int)=(x:Int)*2^s:=(dL x s).symm;rw [e1] at h;rw [h,<-e1];clear h;omega
theorem vB {x s:Nat} (hx:x<4294967296) (hs:s<32):IntKind.u64.wrap ((x:Int)*2^s)=(x:Int)*2^s:=by
 have hp:=fj hs;have hb:=vE (C:=0) (Nat.pow_pos (by omega)) hx hp
 have e1:(((x*2^s:Nat)):Int)=(x:Int)*2^s:=(dL x s).symm;rw [<-e1,IntKind.wrap_u64];omega
theorem ua (C x s:Nat):((C:Int)+(x:Int)*2^s) % 4294967296=(((C+x*2^s) % 4294967296:Nat):Int):=by rw [dL];omega
theorem ue (C x s:Nat):((C:Int)+(x:Int)*2^s)/4294967296=(((C+x*2^s)/4294967296:Nat):Int):=by rw [dL];omega
theorem jI.done {xs:List Nat} {s C:Nat} {O:List Nat} (h:jI xs s xs.length C O) (hs:s<32):(O ++ [C]).length=xs.length+1/\nv (O ++ [C])=nv xs*2^s/\U32 (O ++ [C]):=by
 obtain ⟨h1,h2,h3,h4⟩:=h;have hp:=fj hs;rw [List.take_length] at h4;exact ⟨by simp [h2],by rw [cj,aT,aW,h2,<-h4];simp,h3.append (U32.one (by omega))⟩
theorem CU (w:World) (A:Option Addr) (c n s:Nat) (xs:List Nat) (h:Nt w A c xs) (hn:n=xs.length) (hs:s<32) (hl:xs.length<=1000000) :
 Calls prog 124 #[.slice A n c, .int .u64 (s:Int)] w fun e w'=>∃O:List Nat,e = .returned (.slice (some ⟨w.heap.size,0,none⟩) (xs.length+1) (xs.length+1))/\O.length=xs.length+1/\nv O=nv xs*2^s/\U32 O /\
  Gr lmv 58 w' w.heap.size (some ⟨w.heap.size,0,none⟩) (xs.length+1) O/\Below w.heap.size w w':=by
 subst hn;have h3:=h.cap;have h4:=h.max;obtain ⟨i0,hi,hz0,hz1,hz2⟩:=info_parts ch;go_enter func124,ntmps124;go_wp2_with (refine bp w (mk:=lmv) 0 rfl _ _ 27 rfl 58 i0 4 underlying27 hi hz0 hz1 hz2 rfl .i64 .i64 _ _ (xs.length+1) rfl rfl (by omega) (by omega) (by omega) (by simp only [maxLen];omega) ?_;intro w1 hg1 hb1 hs1)
 go_loopw [6,15] (fun cy i wr=>∃(j C:Nat) (O:List Nat),j<=xs.length/\i = .int .i64 j/\cy = .int .u64 C/\jI xs s j C O/\Gr lmv 58 wr w.heap.size (some ⟨w.heap.size,0,none⟩) (xs.length+1) (O++List.replicate (xs.length+1-j) 0)/\Below w.heap.size w wr) (fun _ i _=>xs.length-(intOf i).toNat)
 case atStart=>exact ⟨0,0,[],by omega,rfl,rfl,jI.start _ _,by simpa using hg1,hb1⟩
 case round=>
  obtain ⟨j,C,O,hj,rfl,rfl,hinv,hgr,hbr⟩:=hrel;have HI:=ag hinv;have HO:=ag hinv.2.1;have HC:=ag hinv.1;have hC:C<4294967296:=by have:=fj hs;have:=hinv.1;omega
  clear hinv hg1 hb1 hs1;have hsz:=hbr.size;have hfree:=hgr.free j;have hcell:wr.cell? ⟨w.heap.size,j,none⟩=some (.int .u32 0):=by
   rw [hgr.cell j (by have:=HO.o;simp;omega),List.getElem_append_right (by have:=HO.o;omega)]
   simp
  have HB:=ag hbr;have HG:=ag hgr;by_cases hlt:j<xs.length
  ·obtain ⟨adX,hadX,hbX,hcX,hvX⟩:=(h.below hbr).at j hlt;subst hadX;clear hbr hgr;have hwr:=vB hvX hs;have hor:=or_up HC.o hvX hs;go_wp2_with fail;go_roundw
   case rel=>exact ⟨j+1,_,_,by omega,by go_num,by rw [ue],HI.o.step h.u hlt,by rw [ua];exact HG.o.push HO.o (by omega) _,HB.o.setCell (Nat.le_refl _) _⟩
   case measure=>simp [intOf];omega
  ·obtain rfl:j=xs.length:=by omega
   have hfin:=HI.o.done hs;have hgr2:=HG.o.push HO.o (by omega) C
   rw [Nat.sub_self,List.replicate_zero,List.append_nil] at hgr2;have mD:=ag hgr2;clear hgr2 hgr hbr;go_wp2_with fail;go_ret;exact ⟨O ++ [C],rfl,hfin.1,hfin.2.1,hfin.2.2,mD.o,HB.o.setCell (Nat.le_refl _) _⟩
def mZ (m n:Nat):List Nat×Int:=if 512<(lim m).length\/512<(lim n).length then ([],2) else if m<n then ([],4) else (lim (m-n),0)
theorem pU {m n:Nat} (h:512<(lim m).length):mZ m n=([],2):=by simp [mZ,h]
theorem pT {m n:Nat} (h:512<(lim n).length):mZ m n=([],2):=by simp [mZ,h]
theorem sO {m n:Nat} (h:¬ 512<(lim m).length) (h2:¬ 512<(lim n).length) (h3:m<n):mZ m n=([],4):=by simp [mZ,h,h2,h3]
theorem vK {m n:Nat} (h:¬ 512<(lim m).length) (h2:¬ 512<(lim n).length) (h3:n<=m):mZ m n=iC (m-n):=by
 have h4:¬m<n:=by omega
 have h5:=ao (show m-n<=m by omega)
 rw [mZ,if_neg (by simp [h,h2]),if_neg h4,iC,if_neg (by omega)]
def fg (X Y:List Nat) (j C:Nat) (O:List Nat):Prop:=C<=1/\O.length=j/\U32 O/\nv O+nv (Y.take j)=nv (X.take j)+pw j*C
theorem fg.start (X Y:List Nat):fg X Y 0 0 []:=⟨by omega,rfl,U32.nil,by simp [aW]⟩
theorem fg.step {X Y:List Nat} {j C:Nat} {O:List Nat} (h:fg X Y j C O) (hj:j<X.length) (x C':Nat) (hx:x<4294967296) (hC:C'<=1)
 (hs:x+C+Y.getD j 0=X[j]+4294967296*C'):fg X Y (j+1) C' (O ++ [x]):=by
 obtain ⟨h1,h2,h3,h4⟩:=h;refine ⟨hC,by simp [h2],h3.append (U32.one hx),?_⟩
 rw [cj,bB X j hj,fV,h2,aT,aW,gM];have h6:pw j*(x+C+Y.getD j 0)=pw j*(X[j]+4294967296*C'):=by rw [hs]
 grind
theorem fg.done {X Y:List Nat} {C:Nat} {O:List Nat} (h:fg X Y X.length C O) (hl:Y.length<=X.length) (hle:nv Y<=nv X):U32 O/\nv O=nv X-nv Y/\O.length=X.length:=by
 obtain ⟨h1,h2,h3,h4⟩:=h;rw [List.take_of_length_le (Nat.le_refl _),List.take_of_length_le hl] at h4;have h5:=fk h3;rw [h2] at h5;refine ⟨h3,?_,h2⟩;rcases Nat.eq_zero_or_pos C with h0|h0
 ·subst h0;omega
 ·obtain rfl:C=1:=by omega
  omega
def bor (x y c:Nat):Nat:=if x<y+c then 1 else 0
def dig (x y c:Nat):Nat:=x+4294967296*bor x y c-y-c
theorem io {x y c:Nat} (hx:x<4294967296) (hy:y<4294967296) (hc:c<=1):dig x y c<4294967296/\bor x y c<=1/\dig x y c+c+y=x+4294967296*bor x y c:=by
 unfold dig bor;split <;> omega
theorem yy {x y c:Nat} (hx:x<4294967296) (hy:y<4294967296) (hc:c<=1):IntKind.u64.wrap (IntKind.u64.wrap ((x:Int)-c)-y)/9223372036854775808=((bor x y c:Nat):Int):=by
 rw [IntKind.wrap_u64,IntKind.wrap_u64];unfold bor;split <;> omega
theorem yx {x y c:Nat} (hx:x<4294967296) (hy:y<4294967296) (hc:c<=1):IntKind.u64.wrap (IntKind.u64.wrap ((x:Int)-c)-y) % 4294967296=((dig x y c:Nat):Int):=by
 rw [IntKind.wrap_u64,IntKind.wrap_u64];unfold dig bor;split <;> omega
theorem yB {x c:Nat} (hx:x<4294967296) (hc:c<=1):IntKind.u64.wrap ((x:Int)-c)/9223372036854775808=((bor x 0 c:Nat):Int):=by
 rw [IntKind.wrap_u64];unfold bor;split <;> omega
theorem yz {x c:Nat} (hx:x<4294967296) (hc:c<=1):IntKind.u64.wrap ((x:Int)-c) % 4294967296=((dig x 0 c:Nat):Int):=by
 rw [IntKind.wrap_u64];unfold dig bor;split <;> omega
theorem vJ (w:World) (A D:Option Addr) (c d n m:Nat) (xs ys R:List Nat) (E:Int) (h:Nt w A c xs) (k:Nt w D d ys) (hn:n=xs.length) (hm:m=ys.length) (hr:mZ (nv xs) (nv ys)=(R,E)) :
 Calls prog 118 #[.slice A n c, .slice D m d] w (jJ w R E):=by
 subst hn hm;have HR:=ag hr;clear hr;have h1:=h.lim;have h2:=ak h.u;have h3:=h.cap;have h4:=h.max;have k1:=k.lim;have k2:=ak k.u;have k3:=k.cap;have k4:=k.max;obtain ⟨i0,hi,hz0,hz1,hz2⟩:=info_parts ch;by_cases hl:512<(lim (nv xs)).length
 ·go_enter func118,ntmps118;go_wp2_with fail;refine (aN w A c _ xs true h rfl (by simpa using hl)).mono ?_
  rintro e w' ⟨rfl,rfl⟩;go_wp2_with fail
  go_ret2
  have e:=HR.o;rw [pU hl] at e;obtain ⟨rfl,rfl⟩:=Prod.mk.inj e;exact ⟨_,_,rfl,Nt.nil _ _ _ (by omega),ah _ _⟩
 ·by_cases hl2:512<(lim (nv ys)).length
  ·go_enter func118,ntmps118;go_wp2_with fail;refine (aN w A c _ xs false h rfl (by simpa using hl)).mono ?_
   rintro e w' ⟨rfl,rfl⟩;go_wp2_with fail;refine (aN w D d _ ys true k rfl (by simpa using hl2)).mono ?_
   rintro e w' ⟨rfl,rfl⟩;go_wp2_with fail
   go_ret2
   have e:=HR.o;rw [pT hl2] at e;obtain ⟨rfl,rfl⟩:=Prod.mk.inj e;exact ⟨_,_,rfl,Nt.nil _ _ _ (by omega),ah _ _⟩
  ·by_cases hlt:nv xs<nv ys
   ·go_enter func118,ntmps118;go_wp2_with fail;refine (aN w A c _ xs false h rfl (by simpa using hl)).mono ?_
    rintro e w' ⟨rfl,rfl⟩;go_wp2_with fail;refine (aN w D d _ ys false k rfl (by simpa using hl2)).mono ?_
    rintro e w' ⟨rfl,rfl⟩;go_wp2_with fail;refine (fY w A D c d _ _ xs ys (-1) h k rfl rfl (il hlt)).mono ?_;rintro e w' ⟨rfl,q⟩;go_wp2_with fail
    go_ret2
    have e:=HR.o;rw [sO hl hl2 hlt] at e;obtain ⟨rfl,rfl⟩:=Prod.mk.inj e;exact ⟨_,_,rfl,Nt.nil _ _ _ (by omega),q.below _⟩
   ·have hz:∃z:Int,0<=z/\i6 (nv xs) (nv ys)=z:=⟨_,by unfold i6;rw [if_neg hlt];split <;> omega,rfl⟩
    obtain ⟨z,hzz,hz⟩:=hz;have HZ:=ag hz;clear hz;have hlen:(lim (nv ys)).length<=(lim (nv xs)).length:=ao (by omega)
    go_enter func118,ntmps118;go_wp2_with fail;refine (aN w A c _ xs false h rfl (by simpa using hl)).mono ?_
    rintro e w' ⟨rfl,rfl⟩;go_wp2_with fail;refine (aN w D d _ ys false k rfl (by simpa using hl2)).mono ?_
    rintro e w' ⟨rfl,rfl⟩;go_wp2_with fail;refine (fY w A D c d _ _ xs ys z h k rfl rfl HZ.o).mono ?_;rintro e w' ⟨rfl,q⟩;have hk:=h.below (q.below _);have kk:=k.below (q.below _);go_wp2_with fail
    go_quiet ((first|with_reducible exact fA hk|with_reducible exact fA kk))
    have hX:=hk.lim.below (aJ (ah w'.heap.size w') nq);have hY:=kk.lim.below (aJ (ah w'.heap.size w') nq);have hb0:=aJ (q.below w.heap.size) nq
    revert hX hY hb0
    generalize w'.drewN nq=w0;intro hX hY hb0;have hs0:=hb0.size;generalize hXe:lim (nv xs)=X at *;generalize hYe:lim (nv ys)=Y at *;have HX:=ag hXe;have HY:=ag hYe;clear hXe hYe;go_wp2_with (refine bp w0 (mk:=lmv) 0 rfl _ _ 27 rfl 58 i0 4 underlying27 hi hz0 hz1 hz2 rfl .i64 .i64 _ _ (X.length) rfl rfl (by omega) (by omega) (by omega) (by simp only [maxLen];omega) ?_;intro w1 hg1 hb1 hs1)
    go_loopw [7,35] (fun cy i wr=>∃(j C:Nat) (O:List Nat),j<=X.length/\i = .int .i64 j/\cy = .int .u64 C/\fg X Y j C O/\Gr lmv 58 wr w0.heap.size (some ⟨w0.heap.size,0,none⟩) X.length (O++List.replicate (X.length-j) 0)/\Below w0.heap.size w0 wr) (fun _ i _=>X.length-(intOf i).toNat)
    case atStart=>exact ⟨0,0,[],by omega,rfl,rfl,fg.start _ _,by simpa using hg1,hb1⟩
    case round=>
     obtain ⟨j,C,O,hj,rfl,rfl,hinv,hgr,hbr⟩:=hrel;have HI:=ag hinv;have hC:C<=1:=hinv.1;have HO:=ag hinv.2.1;clear hinv hg1 hb1 hs1;have hsz:=hbr.size;have hfree:=hgr.free j;by_cases hlt:j<X.length
     ·have hcell:wr.cell? ⟨w0.heap.size,j,none⟩=some (.int .u32 0):=by
       rw [hgr.cell j (by have:=HO.o;simp;omega),List.getElem_append_right (by have:=HO.o;omega)]
       simp
      obtain ⟨adX,hadX,hbX,hcX,hvX⟩:=(hX.below hbr).at j hlt;subst hadX;have HB:=ag hbr;have HG:=ag hgr;clear hbr hgr h k h1 k1 hk kk;by_cases hlt2:j<Y.length
      ·obtain ⟨adY,hadY,hbY,hcY,hvY⟩:=(hY.below HB.o).at j hlt2;subst hadY;go_wp2_with fail;go_roundw
       case rel=>exact ⟨j+1,_,_,by omega,by go_num,by rw [yy hvX hvY hC],HI.o.step hlt _ _ (io hvX hvY hC).1 (io hvX hvY hC).2.1 (by rw [<-(io hvX hvY hC).2.2];simp [hlt2]),by rw [yx hvX hvY hC];exact HG.o.push HO.o (by omega) _,HB.o.setCell (Nat.le_refl _) _⟩
       case measure=>simp [intOf];omega
      ·go_wp2_with fail;go_roundw
       case rel=>exact ⟨j+1,_,_,by omega,by go_num,by rw [yB hvX hC],HI.o.step hlt _ _ (io hvX (Nat.zero_lt_succ _) hC).1 (io hvX (Nat.zero_lt_succ _) hC).2.1 (by rw [<-(io hvX (Nat.zero_lt_succ _) hC).2.2];simp [List.getElem?_eq_none (Nat.le_of_not_lt hlt2)]),by rw [yz hvX hC];exact HG.o.push HO.o (by omega) _,HB.o.setCell (Nat.le_refl _) _⟩
       case measure=>simp [intOf];omega
     ·obtain rfl:j=X.length:=by omega
      have hXn:nv X=nv xs:=by rw [<-HX.o,am]
      have hYn:nv Y=nv ys:=by rw [<-HY.o,am]
      have hfin:=HI.o.done (by rw [<-HX.o,<-HY.o];exact ao (by omega)) (by omega)
      rw [hXn,hYn] at hfin;rw [Nat.sub_self,List.replicate_zero,List.append_nil] at hgr;have hnt:=hgr.nt hfin.1;have HF:=ag hfin;have HB:=ag hbr;clear hfin hgr hbr hXn hYn;go_wp2_with fail;refine (jO _ _ _ _ O R E hnt HF.o.2.2.symm (by rw [HF.o.2.1,<-HR.o,vK (by rw [HX.o];exact hl) (by rw [HY.o];exact hl2) (by omega)])).mono ?_
      rintro e w' ⟨⟨A',c',rfl,hnt'⟩,rfl⟩;clear hnt;go_wp2_with fail
      go_ret2
      exact ⟨A',c',rfl,hnt',ai hb0 HB.o hs0⟩
def aI (n:Nat):Nat:=if n=0 then 0 else Nat.log2 n+1
theorem pE:aI 0=0:=rfl
theorem pF {v:Nat} (h:v≠0):aI v=aI (v/2)+1:=by
 unfold aI;rw [if_neg h];by_cases h2:v/2=0
 ·rw [if_pos h2];have:v=1:=by omega
  subst this;rfl
 ·rw [if_neg h2];rw [Nat.log2_def v,if_pos (by omega)]
theorem bP (n k:Nat):aI n<=k↔n<2^k:=by
 unfold aI;by_cases h:n=0
 ·subst h;simp [Nat.pow_pos]
 ·rw [if_neg h];have:=Nat.log2_lt (k:=k) h;omega
theorem yk (n s:Nat) (h:n≠0):aI (n*2^s)=aI n+s:=by
 have hne:n*2^s≠0:=Nat.mul_ne_zero h (Nat.pos_iff_ne_zero.1 (Nat.pow_pos (by omega)))
 apply Nat.le_antisymm
 ·rw [bP,Nat.pow_add];exact Nat.mul_lt_mul_of_pos_right ((bP n _).1 (Nat.le_refl _)) (Nat.pow_pos (by omega))
 ·rcases Nat.lt_or_ge (aI (n*2^s)) (aI n+s) with h1|h1
  ·exfalso
   have hb:0<aI n:=by unfold aI;rw [if_neg h];omega
   have h2:aI (n*2^s)<=(aI n-1)+s:=by omega
   rw [bP,Nat.pow_add] at h2;have h3:=Nat.lt_of_mul_lt_mul_right h2;have h4:=(bP n (aI n-1)).2 h3;omega
  ·exact h1
theorem qO {xs:List Nat} (hu:U32 xs) (k:Nat) (hk:k+1=xs.length) (h:xs[k]≠0):aI (nv xs)=32*k+aI xs[k]:=by
 have h1:=ij xs k (by omega)
 rw [List.drop_eq_nil_of_le (by omega),aW,Nat.mul_zero,Nat.add_zero] at h1
 have h2:=fk (hu.take k);rw [List.length_take,Nat.min_eq_left (by omega)] at h2
 have hpw:pw k=2^(32*k):=by unfold pw;rw [Nat.pow_mul]
 apply Nat.le_antisymm
 ·rw [bP,h1,Nat.pow_add,<-hpw];have h3:=(bP xs[k] _).1 (Nat.le_refl _);have h4:pw k*(xs[k]+1)<=pw k*2^aI xs[k]:=Nat.mul_le_mul_left _ h3;rw [Nat.mul_add] at h4;omega
 ·rcases Nat.lt_or_ge (aI (nv xs)) (32*k+aI xs[k]) with h5|h5
  ·exfalso
   have hb:0<aI xs[k]:=by unfold aI;rw [if_neg h];omega
   have h6:aI (nv xs)<=32*k+(aI xs[k]-1):=by omega
   rw [bP,Nat.pow_add,<-hpw] at h6;have h7:pw k*xs[k]<pw k*2^(aI xs[k]-1):=by omega
   have h8:=Nat.lt_of_mul_lt_mul_left h7;have h9:=(bP xs[k] (aI xs[k]-1)).2 h8;omega
  ·exact h5
theorem jy (k:Nat):pw k=2^(32*k):=by unfold pw;rw [Nat.pow_mul]
theorem fB (w:World) (A:Option Addr) (c n:Nat) (xs:List Nat) (h:Nt w A c xs) (hn:n=xs.length) (hl:xs.length<=1000000) :
 Calls prog 76 #[.slice A n c] w fun e w'=>e = .returned (.int .i64 (aI (nv xs)))/\w=w':=by
 subst hn;have hk:=h.lim;have h3:=ak h.u;by_cases h0:nv xs=0
 ·have hz:(lim (nv xs)).length=0:=by rw [h0,aV];rfl
  have H0:=ag h0;have hz1:(((lim (nv xs)).length:Int) == 0)=true:=by simp [hz]
  clear hz h0;go_enter func76,ntmps76;go_wp2_with fail;refine (bT w A c _ xs h rfl).mono ?_;rintro e w' ⟨rfl,rfl⟩;go_wp2_with fail;go_ret;exact ⟨dV (by rw [H0.o];rfl),rfl⟩
 ·have hp:=aX.2 h0;obtain ⟨k,hk1⟩:∃k,k+1=(lim (nv xs)).length:=⟨(lim (nv xs)).length-1,by omega⟩
  have htop:=qO (aC (nv xs)) k hk1 (ph _ k hk1);rw [am] at htop;have hz1:(((lim (nv xs)).length:Int) == 0)=false:=beq_eq_false_iff_ne.2 (by omega)
  have hkx:k<xs.length:=by omega
  have hlx:=Dy h.u k (by omega)
  rw [hlx] at htop;have HT:Hd (aI (nv xs)=32*k+aI (xs[k]'hkx)):=htop;have a8:=bT w A c _ xs h rfl;rw [<-hk1] at a8;clear hz1;have hz1:(((k:Int)+1) == 0)=false:=beq_eq_false_iff_ne.2 (by omega)
  have HF:=ag a8;obtain ⟨ad,rfl,hb,hc,hlt⟩:=h.at k hkx;have hk2:k<=1000000:=by omega
  clear hlx htop a8 h hk h0 hp h3 hk1;go_enter func76,ntmps76;go_wp2_with fail;refine HF.o.mono ?_;rintro e w' ⟨rfl,rfl⟩;go_wp2_with fail
  go_loop [4,5] (fun kk v=>∃(m V:Nat),kk = .int .i64 m/\v = .int .u32 V/\V<4294967296/\m+aI V=32*k+aI xs[k]/\m<=32*k+32) (fun _ v=>(intOf v).toNat)
  case atStart=>exact ⟨k*32,xs[k],bL (by omega),rfl,hlt,by omega,by omega⟩
  case round=>
   obtain ⟨m,V,rfl,rfl,hV,hm,hm2⟩:=hrel;have HM:=ag hm;clear hm;by_cases hV0:V=0
   ·subst hV0;go_wp2_with fail;go_ret;exact ⟨dV (by rw [HT.o];have:=HM.o;rw [pE] at this;omega),rfl⟩
   ·have hV1:(0:Int)<V:=by omega
    have hbv:=pF hV0;have hbx:aI xs[k]<=32:=by rw [bP];simpa using hlt
    have hmm:m+1<=32*k+32:=by have:=HM.o;omega
    have HB:=ag hbv;clear hbv hV0 hbx hm2;go_wp2_with fail
    go_round
    case rel=>exact ⟨m+1,V/2,by go_num,bL (by omega),by omega,by have:=HM.o;have:=HB.o;omega,by omega⟩
    case measure=>simp [intOf];omega
def lC (U V:List Nat) (f j C B:Nat) (O:List Nat):Prop:=
 O.length=U.length/\U32 O/\C<4294967296/\B<=1/\(∀k (h:k<O.length) (h2:k<U.length),j<=k->O[k]=U[k])/\nv (O.take j)+f*nv (V.take j)=nv (U.take j)+pw j*(C+B)
theorem lC.start {U:List Nat} (V:List Nat) (f:Nat) (h:U32 U):lC U V f 0 0 0 U:=⟨rfl,h,by omega,by omega,fun _ _ _ _=>rfl,by simp [aW]⟩
theorem sU {f x C:Nat} (hf:f<4294967296) (hx:x<4294967296) (hC:C<4294967296):C+f*x<18446744073709551616/\(C+f*x)/4294967296<4294967296:=by
 have h1:f*x<=4294967295*4294967295:=Nat.mul_le_mul (by omega) (by omega)
 omega
theorem lC.step {U V O:List Nat} {f j C B:Nat} (h:lC U V f j C B O) (hf:f<4294967296) (hV:U32 V) (hj:j<V.length) (hO:j<O.length) (x B':Nat) (hx:x<4294967296) (hB:B'<=1)
 (hs:x+(C+f*V[j]) % 4294967296+B=O[j]+4294967296*B'):lC U V f (j+1) ((C+f*V[j])/4294967296) B' (O.set j x):=by
 obtain ⟨h1,h2,h3,h4,h5,h6⟩:=h;have b:=sU hf (hV.at j hj) h3;refine ⟨by simpa using h1,h2.set _ hx,b.2,hB,?_,?_⟩
 ·intro k hk hk2 hle;rw [List.getElem_set_ne (by omega)]
  exact h5 k (by simpa using hk) hk2 (by omega)
 ·have e:=h5 j hO (by omega) (Nat.le_refl _)
  rw [bB V j hj,bB U j (by omega),bB _ j (by simpa using hO),gM,<-e]
  have e2:(O.set j x).take j=O.take j:=by rw [List.take_set_of_le (Nat.le_refl _)]
  rw [e2,List.getElem_set_self];have hd:=Nat.div_add_mod (C+f*V[j]) 4294967296
  grind
def lE (U V:List Nat) (j C:Nat) (O:List Nat):Prop:=
 O.length=U.length/\U32 O/\C<=1/\(∀k (h:k<O.length) (h2:k<U.length),j<=k->O[k]=U[k])/\nv (O.take j)+pw j*C=nv (U.take j)+nv (V.take j)
theorem lE.start {U:List Nat} (V:List Nat) (h:U32 U):lE U V 0 0 U:=⟨rfl,h,by omega,fun _ _ _ _=>rfl,by simp [aW]⟩
theorem lE.step {U V O:List Nat} {j C:Nat} (h:lE U V j C O) (hV:U32 V) (hj:j<V.length) (hO:j<O.length) :
 lE U V (j+1) ((C+(O[j]+V[j]))/4294967296) (O.set j ((C+(O[j]+V[j])) % 4294967296)):=by
 obtain ⟨h1,h2,h3,h5,h6⟩:=h;have b1:=h2.at j hO;have b2:=hV.at j hj;refine ⟨by simpa using h1,h2.set _ (by omega),by omega,?_,?_⟩
 ·intro k hk hk2 hle;rw [List.getElem_set_ne (by omega)]
  exact h5 k (by simpa using hk) hk2 (by omega)
 ·have e:=h5 j hO (by omega) (Nat.le_refl _)
  rw [bB V j hj,bB U j (by omega),bB _ j (by simpa using hO),gM,<-e]
  have e2:(O.set j ((C+(O[j]+V[j])) % 4294967296)).take j=O.take j:=by rw [List.take_set_of_le (Nat.le_refl _)]
  rw [e2,List.getElem_set_self];have hd:=Nat.div_add_mod (C+(O[j]+V[j])) 4294967296
  grind
end Go.Proofs.YtkpfbekmaafehaaGreat
