/- Plain arithmetic of limbs: lists of 32-bit numbers, least first -/
import Derived.Test.YtkpfbekmaafehaaGreatProg
import Derived.WalkKit
import Derived.Lib.Hide
import Derived.Laws.OwnMore
import Derived.Deep.AppendLies
import Derived.Deep.Draws
import Derived.OrdersHeld
import Derived.Maps.AppendAt
namespace Go.Proofs.YtkpfbekmaafehaaGreat
set_option maxRecDepth 100000
def pw (k:Nat):Nat:=4294967296^k
theorem iU:pw 0=1:=rfl
theorem gM (k:Nat):pw (k+1)=4294967296*pw k:=by unfold pw;rw [Nat.pow_succ,Nat.mul_comm]
theorem gE (k:Nat):0<pw k:=by unfold pw;exact Nat.pow_pos (by omega)
theorem jz (j k:Nat):pw (j+k)=pw j*pw k:=by unfold pw;exact Nat.pow_add ..
theorem mT {j k:Nat} (h:j<=k):pw j<=pw k:=by unfold pw;exact Nat.pow_le_pow_right (by omega) h
theorem pw_lt {j k:Nat} (h:j<k):pw j<pw k:=by unfold pw;exact Nat.pow_lt_pow_right (by omega) h
theorem mF:pw 1=4294967296:=rfl
def nv:List Nat->Nat
 | []=>0
 | x::xs=>x+4294967296*nv xs
theorem aW:nv []=0:=rfl
theorem aT (x:Nat) (xs:List Nat):nv (x::xs)=x+4294967296*nv xs:=rfl
def U32 (xs:List Nat):Prop:=∀x∈xs,x<4294967296
theorem U32.nil:U32 []:=by intro x hx;cases hx
theorem U32.tail {x:Nat} {xs:List Nat} (h:U32 (x::xs)):U32 xs:=fun y hy=>h y (List.mem_cons_of_mem _ hy)
theorem U32.head {x:Nat} {xs:List Nat} (h:U32 (x::xs)):x<4294967296:=h x (List.mem_cons_self ..)
theorem U32.cons {x:Nat} {xs:List Nat} (hx:x<4294967296) (h:U32 xs):U32 (x::xs):=by
 intro y hy;rcases List.mem_cons.1 hy with rfl|hy
 ·exact hx
 ·exact h y hy
theorem U32.append {xs ys:List Nat} (h:U32 xs) (k:U32 ys):U32 (xs++ys):=by
 intro y hy;rcases List.mem_append.1 hy with hy|hy
 ·exact h y hy
 ·exact k y hy
theorem U32.take {xs:List Nat} (h:U32 xs) (k:Nat):U32 (xs.take k):=fun y hy=>h y (List.mem_of_mem_take hy)
theorem U32.drop {xs:List Nat} (h:U32 xs) (k:Nat):U32 (xs.drop k):=fun y hy=>h y (List.mem_of_mem_drop hy)
theorem U32.at {xs:List Nat} (h:U32 xs) (k:Nat) (hk:k<xs.length):xs[k]<4294967296:=h _ (List.getElem_mem hk)
theorem U32.set {xs:List Nat} (h:U32 xs) (k:Nat) {v:Nat} (hv:v<4294967296):U32 (xs.set k v):=by
 intro y hy;rcases List.mem_or_eq_of_mem_set hy with hy|rfl
 ·exact h y hy
 ·exact hv
theorem U32.replicate (n:Nat):U32 (List.replicate n 0):=by
 intro y hy;have:=List.eq_of_mem_replicate hy;omega
theorem U32.one {x:Nat} (h:x<4294967296):U32 [x]:=U32.cons h U32.nil
theorem cj (xs ys:List Nat):nv (xs++ys)=nv xs+pw xs.length*nv ys:=by
 induction xs with
 | nil=>simp [aW,iU]
 | cons x xs ih=>simp only [List.cons_append,aT,ih,List.length_cons,gM];grind
theorem iX (n:Nat):nv (List.replicate n 0)=0:=by
 induction n with
 | zero=>rfl
 | succ n ih=>simp [List.replicate_succ,aT,ih]
theorem fk {xs:List Nat} (h:U32 xs):nv xs<pw xs.length:=by
 induction xs with
 | nil=>simp [aW,iU]
 | cons x xs ih=>
   have h1:=ih h.tail;have h2:=h.head;simp only [aT,List.length_cons,gM];omega
theorem bB (xs:List Nat) (k:Nat) (h:k<xs.length):nv (xs.take (k+1))=nv (xs.take k)+pw k*xs[k]:=by
 rw [List.take_succ_eq_append_getElem h,cj,List.length_take,Nat.min_eq_left (by omega),aT,aW]
 simp
theorem fO (xs:List Nat) (k:Nat) (h:k<=xs.length):nv xs=nv (xs.take k)+pw k*nv (xs.drop k):=by
 have h1:=cj (xs.take k) (xs.drop k);rw [List.take_append_drop,List.length_take,Nat.min_eq_left h] at h1;exact h1
theorem ij (xs:List Nat) (k:Nat) (h:k<xs.length):nv xs=nv (xs.take k)+pw k*xs[k]+pw (k+1)*nv (xs.drop (k+1)):=by
 rw [fO xs (k+1) (by omega),bB xs k h]
theorem zF (xs:List Nat) (k:Nat) (v:Nat) (h:k<xs.length):nv (xs.set k v)+pw k*xs[k]=nv xs+pw k*v:=by
 rw [ij (xs.set k v) k (by simpa using h),ij xs k h]
 have e1:(xs.set k v).take k=xs.take k:=by rw [List.take_set_of_le (Nat.le_refl _)]
 have e2:(xs.set k v).drop (k+1)=xs.drop (k+1):=by rw [List.drop_set_of_lt (by omega)]
 rw [e1,e2];simp;omega
def lim (n:Nat):List Nat:=if h:n=0 then [] else n % 4294967296::lim (n/4294967296)
 termination_by n
 decreasing_by omega
theorem aV:lim 0 = []:=by rw [lim];simp
theorem oe {n:Nat} (h:n≠0):lim n=n % 4294967296::lim (n/4294967296):=by rw [lim];simp [h]
theorem am (n:Nat):nv (lim n)=n:=by
 induction n using Nat.strongRecOn with
 | ind n ih=>
   by_cases h:n=0
   ·subst h;rw [aV];rfl
   ·rw [oe h,aT,ih _ (by omega)];omega
theorem aC (n:Nat):U32 (lim n):=by
 induction n using Nat.strongRecOn with
 | ind n ih=>
   by_cases h:n=0
   ·subst h;rw [aV];exact U32.nil
   ·rw [oe h];exact U32.cons (by omega) (ih _ (by omega))
theorem aA (n k:Nat):(lim n).length<=k↔n<pw k:=by
 induction k generalizing n with
 | zero=>
   by_cases h:n=0
   ·subst h;rw [aV];simp [iU]
   ·rw [oe h];simp [iU,h]
 | succ k ih=>
   by_cases h:n=0
   ·subst h;rw [aV];simp [gE]
   ·rw [oe h,List.length_cons,gM];have:=ih (n/4294967296);have h2:n/4294967296<pw k↔n<4294967296*pw k:=by
     rw [Nat.div_lt_iff_lt_mul (by omega),Nat.mul_comm]
    omega
theorem fL (n k:Nat):k<(lim n).length↔pw k<=n:=by
 have:=aA n k;omega
theorem ao {m n:Nat} (h:m<=n):(lim m).length<=(lim n).length:=
 (aA m _).2 (Nat.lt_of_le_of_lt h ((aA n _).1 (Nat.le_refl _)))
theorem iZ {n:Nat}:lim n = []↔n=0:=by
 constructor
 ·intro h;have:=am n;rw [h] at this;exact this.symm
 ·rintro rfl;exact aV
theorem aX {n:Nat}:0<(lim n).length↔n≠0:=by
 rw [List.length_pos_iff];exact not_congr iZ
theorem Ds {xs ys:List Nat} (hx:U32 xs) (hy:U32 ys) (hl:xs.length=ys.length) (h:nv xs=nv ys):xs=ys:=by
 induction xs generalizing ys with
 | nil=>cases ys with
   | nil=>rfl
   | cons y ys=>simp at hl
 | cons x xs ih=>cases ys with
   | nil=>simp at hl
   | cons y ys=>
     simp only [aT] at h;have h1:=hx.head;have h2:=hy.head;have e1:x=y:=by omega
     have e2:nv xs=nv ys:=by omega
     rw [e1,ih hx.tail hy.tail (by simpa using hl) e2]
theorem zK {xs:List Nat} (hx:U32 xs) (h:∀k (hk:k+1=xs.length),xs[k]≠0):lim (nv xs)=xs:=by
 have hl:(lim (nv xs)).length=xs.length:=by
  apply Nat.le_antisymm
  ·rw [aA];exact fk hx
  ·rcases Nat.eq_zero_or_pos xs.length with h0|h0
   ·omega
   ·obtain ⟨k,hk⟩:∃k,k+1=xs.length:=⟨xs.length-1,by omega⟩
    have h1:k<(lim (nv xs)).length:=by
     rw [fL,ij xs k (by omega)]
     have h2:=h k hk;have h3:pw k*1<=pw k*xs[k]:=Nat.mul_le_mul_left _ (by omega)
     omega
    omega
 exact Ds (aC _) hx hl (am _)
theorem ph (n:Nat) (k:Nat) (hk:k+1=(lim n).length):(lim n)[k]≠0:=by
 intro h0;have h1:=ij (lim n) k (by omega)
 rw [am,h0,List.drop_eq_nil_of_le (by omega),aW] at h1
 have h2:=fk ((aC n).take k);rw [List.length_take,Nat.min_eq_left (by omega)] at h2
 have h3:k<(lim n).length:=by omega
 rw [fL] at h3;omega
def tl (xs:List Nat):Nat->Nat
 | 0=>0
 | n+1=>if xs.getD n 0=0 then tl xs n else n+1
theorem CE (xs:List Nat) (n:Nat):tl xs n<=n:=by
 induction n with
 | zero=>simp [tl]
 | succ n ih=>simp only [tl];split <;> omega
theorem Bi {xs:List Nat} (hx:U32 xs) (n:Nat) (hn:n<=xs.length):xs.take (tl xs n)=lim (nv (xs.take n)):=by
 induction n with
 | zero=>simp [tl,aW,aV]
 | succ n ih=>
   have hn':n<xs.length:=by omega
   simp only [tl]
   split
   ·rename_i h
    rw [List.getD_eq_getElem?_getD,List.getElem?_eq_getElem hn',Option.getD_some] at h;rw [ih (by omega),bB xs n hn',h]
    simp
   ·rename_i h
    rw [List.getD_eq_getElem?_getD,List.getElem?_eq_getElem hn',Option.getD_some] at h;refine (zK (hx.take _) fun k hk=>?_).symm;rw [List.length_take,Nat.min_eq_left (by omega)] at hk
    have:k=n:=by omega
    subst this;simpa using h
theorem yu {xs:List Nat} (hx:U32 xs):xs.take (tl xs xs.length)=lim (nv xs):=by
 have:=Bi hx xs.length (Nat.le_refl _)
 rwa [List.take_length] at this
theorem jN {xs:List Nat} (hx:U32 xs):tl xs xs.length=(lim (nv xs)).length:=by
 rw [<-yu hx,List.length_take,Nat.min_eq_left (CE _ _)]
theorem tJ {xs:List Nat} (hx:U32 xs):xs.take (lim (nv xs)).length=lim (nv xs):=by
 rw [<-jN hx];exact yu hx
theorem ak {xs:List Nat} (hx:U32 xs):(lim (nv xs)).length<=xs.length:=by
 rw [<-jN hx];exact CE _ _
theorem Dy {xs:List Nat} (hx:U32 xs) (k:Nat) (hk:k<(lim (nv xs)).length):(lim (nv xs))[k]=xs[k]'(by have:=ak hx;omega):=by
 have h:=tJ hx;have e:(lim (nv xs))[k]? = (xs.take (lim (nv xs)).length)[k]? :=by rw [h]
 rw [List.getElem?_take,if_pos hk,List.getElem?_eq_getElem hk,List.getElem?_eq_getElem (by have:=ak hx;omega)] at e
 simpa using e
def i6 (m n:Nat):Int:=if m<n then -1 else if n<m then 1 else 0
theorem zG {xs ys:List Nat} (hx:U32 xs) (hl:xs.length=ys.length) (k:Nat) (hk:k<xs.length) (h:xs[k]<ys[k]'(by omega))
 (hs:∀j (hj:j<xs.length),k<j->xs[j]=ys[j]'(by omega)):nv xs<nv ys:=by
 have hk':k<ys.length:=by omega
 rw [ij xs k hk,ij ys k hk'];have e:xs.drop (k+1)=ys.drop (k+1):=by
  apply List.ext_getElem
  ·simp [hl]
  ·intro i h1 h2;simp only [List.getElem_drop];exact hs _ (by simp at h1;omega) (by omega)
 rw [e];have h1:=fk (hx.take k);rw [List.length_take,Nat.min_eq_left (by omega)] at h1
 have h2:pw k*(xs[k]+1)<=pw k*ys[k]:=Nat.mul_le_mul_left _ h;rw [Nat.mul_add] at h2;omega
open Go.RowKit
def Hd (p:Prop):Prop:=p
theorem Hd.o {p:Prop} (h:Hd p):p:=h
theorem Hd.out {p:Prop} (h:Hd p):p:=h
theorem ag {p:Prop} (h:p):Hd p:=h
theorem ah (B:Nat) (w:World):Below B w w := .refl B w
theorem qc (w:World) (o:Obj):Below w.heap.size w (w.alloc o):=(ah w.heap.size w).alloc (Nat.le_refl _) o
def qe (n:Nat):List Bool:=List.replicate n false
theorem tkw {P:Program} {ops:Array Oper} {Q:Exit->Act->World->Prop} {md:Region.Mode} {S:World->Prop} {oi:Oper} {fuel:Nat} {listed:Array Bool} {a:Act} {w:World} (i:Nat) (v:Value) (hi:ops[i]? = some oi)
 (hs:Region.noSelect ops=true) (hf:Region.free md ops listed i=true) (hr:(Region.ready md ops listed).contains i=true) (hQ:∀c a w,Q (.panic c) (a.put oi.dst v) w->Q (.panic c) a w)
 (hy:Region.wanted oi (yielded ops a.tmps)=true/\∀w,S w->(execOp a.eval oi).run P w = .ok (.value v) w) (hS:S w) (h:wpAnyH P md ops Q S fuel (listed.setIfInBounds i true) (a.put oi.dst v) w):wpAnyH P md ops Q S (fuel+1) listed a w:=
 wpAnyH_take hi hs hf hr hQ (Or.inl hy) hS h
theorem tku {P:Program} {ops:Array Oper} {Q:Exit->Act->World->Prop} {md:Region.Mode} {S:World->Prop} {oi:Oper} {fuel:Nat} {listed:Array Bool} {a:Act} {w:World} (i:Nat) (hi:ops[i]? = some oi)
 (hs:Region.noSelect ops=true) (hf:Region.free md ops listed i=true) (hr:(Region.ready md ops listed).contains i=true) (hQ:∀c a w,Q (.panic c) (a.put oi.dst undef) w->Q (.panic c) a w)
 (hy:Region.wanted oi (yielded ops a.tmps)=false) (hS:S w) (h:wpAnyH P md ops Q S fuel (listed.setIfInBounds i true) (a.put oi.dst undef) w):wpAnyH P md ops Q S (fuel+1) listed a w:=
 wpAnyH_take hi hs hf hr hQ (Or.inr ⟨hy,rfl⟩) hS h
theorem aM (a:Addr) (n:Nat):(a.add n).block=a.block:=by unfold Addr.add;split <;> rfl
theorem mN (b o:Nat) (k:Nat):(⟨b,o,none⟩:Addr).add k=⟨b,o+k,none⟩:=by
 unfold Addr.add;by_cases hk:k=0 <;> simp [hk]
def Rd {α : Type} (mk : α -> Value) (w:World) (A:Option Addr) (xs:List α):Prop:=
 0<xs.length->∃ad,A=some ad/\ad.block<w.heap.size/\∀k (h:k<xs.length),w.cell? (ad.add k)=some (mk xs[k])
section
variable {α : Type} {mk : α -> Value} {w w':World} {A:Option Addr} {xs:List α}
theorem Rd.nil:Rd mk w A []:=fun h=>absurd h (by simp)
theorem Rd.below {B:Nat} (h:Rd mk w A xs) (hb:Below B w w') (hB:B=w.heap.size):Rd mk w' A xs:=fun hn=>by
 subst hB;obtain ⟨ad,e,hl,hc⟩:=h hn;exact ⟨ad,e,Nat.lt_of_lt_of_le hl hb.size,fun k hk=>(hb.cell (p:=ad.add k) (by rw [aM];exact hl)).trans (hc k hk)⟩
theorem Rd.take (h:Rd mk w A xs) (k:Nat):Rd mk w A (xs.take k):=fun hn=>by
 rw [List.length_take] at hn;obtain ⟨ad,e,hl,hc⟩:=h (by omega)
 exact ⟨ad,e,hl,fun j hj=>by rw [List.length_take] at hj;rw [hc j (by omega),List.getElem_take]⟩
theorem Rd.setCell (h:Rd mk w A xs) {p:Addr} (hp:∀ad,A=some ad->ad.block≠p.block) (u:Value):Rd mk (w.setCell p u) A xs:=fun hn=>by
 obtain ⟨ad,e,hl,hc⟩:=h hn;refine ⟨ad,e,by simpa [World.setCell] using hl,fun k hk=>?_⟩
 rw [World.cell?_setCell_other w p (ad.add k) u (fun e'=>hp ad e (by rw [<-aM ad k,e'])),hc k hk]
theorem Rd.one (w:World) (e:TypeId) (x : α):Rd mk (w.alloc (.cells #[mk x] e)) (some ⟨w.heap.size,0,none⟩) [x]:=fun _=>
 ⟨_,rfl,by simp,fun k hk=>by
  simp only [List.length_cons,List.length_nil] at hk;have:k=0:=by omega
  subst this;have e1:(⟨w.heap.size,0,none⟩:Addr).add 0=⟨w.heap.size,0,none⟩:=rfl;rw [e1,cell_of_row _ _ 0 #[mk x] e (0,0) (heap_alloc_new w _)];simp⟩
end
theorem Rd.one_ {α : Type} {mk : α -> Value} (w:World) (e:TypeId) (x : α) (v:Value) (hv:v=mk x):Rd mk (w.alloc (.cells #[v] e)) (some ⟨w.heap.size,0,none⟩) [x]:=by
 subst hv;exact Rd.one w e x
abbrev lmv (n:Nat):Value := .int .u32 (n:Int)
structure Nt (w:World) (A:Option Addr) (c:Nat) (xs:List Nat):Prop where
 cap:xs.length<=c
 max:c<=9223372036854775807
 u:U32 xs
 rd:Rd lmv w A xs
section
variable {w w':World} {A:Option Addr} {c:Nat} {xs:List Nat}
theorem Nt.at (h:Nt w A c xs) (k:Nat) (hk:k<xs.length):∃ad,A=some ad/\ad.block<w.heap.size/\w.cell? (ad.add k)=some (.int .u32 (xs[k]:Int))/\xs[k]<4294967296:=by
 obtain ⟨ad,e,hl,hc⟩:=h.rd (by omega)
 exact ⟨ad,e,hl,hc k hk,h.u.at k hk⟩
theorem Nt.below (h:Nt w A c xs) (hb:Below w.heap.size w w'):Nt w' A c xs:=⟨h.cap,h.max,h.u,h.rd.below hb rfl⟩
theorem Nt.take (h:Nt w A c xs) (k:Nat):Nt w A c (xs.take k):=
 ⟨by rw [List.length_take];have:=h.cap;omega,h.max,h.u.take _,h.rd.take _⟩
theorem Nt.lim (h:Nt w A c xs):Nt w A c (lim (nv xs)):=by
 rw [<-tJ h.u];exact h.take _
theorem Nt.nil (w:World) (A:Option Addr) (c:Nat) (hc:c<=9223372036854775807):Nt w A c []:=⟨by simp,hc,U32.nil,Rd.nil⟩
theorem Nt.len (h:Nt w A c xs):xs.length<=9223372036854775807:=Nat.le_trans h.cap h.max
end
def Gr {α : Type} (mk : α -> Value) (e:TypeId) (w:World) (B:Nat) (A:Option Addr) (c:Nat) (xs:List α):Prop:=
 w.ownsRow B e 1 (.slice A xs.length c) xs.length (xs.map mk)
section
variable {α : Type} {mk : α -> Value} {e:TypeId} {w w':World} {B c g:Nat} {A:Option Addr} {xs:List α}
theorem Gr.nil (w:World) (B:Nat):Gr mk e w B none 0 []:=World.ownsRow_nil w B e 1
theorem Gr.addr (h:Gr mk e w B A c xs):(A=none/\c=0/\xs = [])\/∃g,A=some ⟨g,0,none⟩:=by
 rcases h.2 with ⟨h',hn⟩|⟨g,cap,cur,h',_⟩
 ·simp only [Value.slice.injEq] at h';exact .inl ⟨h'.1,h'.2.2,List.eq_nil_of_length_eq_zero hn⟩
 ·simp only [Value.slice.injEq] at h';exact .inr ⟨g,h'.1⟩
theorem Gr.some_ (h:Gr mk e w B A c xs) (hx:0<xs.length):∃g,A=some ⟨g,0,none⟩:=by
 rcases h.addr with ⟨_,_,rfl⟩|h
 ·simp at hx
 ·exact h
theorem Gr.form (h:Gr mk e w B A c xs):xs.length<=c/\c<=maxLen/\∀ad,A=some ad->B<=ad.block/\ad.block<w.heap.size:=by
 rcases h.2 with ⟨h',hn⟩|⟨g',cap',cur,h',hb,hg,h3,h4,_⟩
 ·simp only [Value.slice.injEq] at h';obtain ⟨rfl,_,rfl⟩:=h';exact ⟨by omega,by simp [maxLen],by intro ad h;cases h⟩
 ·simp only [Value.slice.injEq] at h';obtain ⟨rfl,_,rfl⟩:=h';have h1:=h.lt g' rfl;exact ⟨h3,h4,by intro ad h;injection h with h;subst h;exact h1⟩
theorem Gr.cell (h:Gr mk e w B (some ⟨g,0,none⟩) c xs) (k:Nat) (hk:k<xs.length):w.cell? ⟨g,k,none⟩=some (mk xs[k]):=by
 rw [World.ownsRow.cellAt h k (by omega)]
 simp [hk]
theorem Gr.free (h:Gr mk e w B (some ⟨g,0,none⟩) c xs) (k:Nat):w.frozen? ⟨g,k,none⟩=false:=World.ownsRow.frozenAt h k
theorem Gr.store (h:Gr mk e w B (some ⟨g,0,none⟩) c xs) (k:Nat) (v : α):Gr mk e (w.setCell ⟨g,k,none⟩ (mk v)) B (some ⟨g,0,none⟩) c (xs.set k v):=by
 have h1:=(World.ownsRow.stored h k (mk v)).1;unfold Gr;rw [List.length_set,List.map_set];exact h1
theorem Gr.far (h:Gr mk e w B A c xs) {p:Addr} (hp:∀ad,A=some ad->ad.block≠p.block) (u:Value):Gr mk e (w.setCell p u) B A c xs:=
 World.ownsRow.kept h (w':=w.setCell p u) (row:=some p.block)
  ⟨rfl,rfl,rfl,by simp [World.setCell],fun k _ hne=>Below.heap_setCell _ _ _ _ (fun e=>hne (by rw [e]))⟩ (by
   cases A with
   | none=>exact .inl rfl
   | some ad=>exact .inr (by simp [Value.ownBlock];exact hp ad rfl))
theorem Gr.below (h:Gr mk e w B A c xs) (hb:Below w.heap.size w w'):Gr mk e w' B A c xs:=
 World.ownsRow.kept h (w':=w') (row:=none) ⟨hb.os,hb.tape,hb.output,hb.size,fun k hk _=>hb.block k hk⟩ (by
  cases A with
  | none=>exact .inl rfl
  | some ad=>exact .inr (by simp [Value.ownBlock]))
theorem Gr.grown {row:Option Nat} (h:Gr mk e w B A c xs) (hg:w.grownBy w' row) (hne:∀ad,A=some ad->some ad.block≠row):Gr mk e w' B A c xs:=
 World.ownsRow.kept h hg (by
  cases A with
  | none=>exact .inl rfl
  | some ad=>exact .inr (hne ad rfl))
theorem Gr.more {B':Nat} (h:Gr mk e w B A c xs) (hB:∀ad,A=some ad->B'<=ad.block):Gr mk e w B' A c xs:=by
 obtain ⟨h1,h2⟩:=h;refine ⟨h1,?_⟩;rcases h2 with h'|⟨g',cap',cur,h',_,r⟩
 ·exact .inl h'
 ·simp only [Value.slice.injEq] at h';obtain ⟨rfl,_,rfl⟩:=h';exact .inr ⟨g',c,cur,rfl,hB _ rfl,r⟩
theorem Gr.rd (h:Gr mk e w B A c xs):Rd mk w A xs:=fun hn=>by
 obtain ⟨g,rfl⟩:=h.some_ hn;exact ⟨_,rfl,(h.form.2.2 _ rfl).2,fun k hk=>by
  have e:(⟨g,0,none⟩:Addr).add k=⟨g,k,none⟩:=by rw [mN];simp
  rw [e];exact h.cell k hk⟩
theorem yL {O:List α} {m:Nat} {z v : α} (hm:0<m):(O++List.replicate m z).set O.length v=(O ++ [v])++List.replicate (m-1) z:=by
 obtain ⟨k,rfl⟩:∃k,m=k+1:=⟨m-1,by omega⟩
 rw [List.replicate_succ,List.set_append_right _ _ (Nat.le_refl _)];simp
theorem Gr.push {O:List α} {z : α} {j L:Nat} (h:Gr mk e w B (some ⟨g,0,none⟩) c (O++List.replicate (L-j) z)) (hO:O.length=j) (hj:j<L) (v : α) :
 Gr mk e (w.setCell ⟨g,j,none⟩ (mk v)) B (some ⟨g,0,none⟩) c ((O ++ [v])++List.replicate (L-(j+1)) z):=by
 have h1:=h.store j v;subst hO;rw [yL (by omega)] at h1
 rwa [show L-(O.length+1)=L-O.length-1 from by omega]
theorem yM {O:List α} {j:Nat} {z v : α}:(List.replicate (j+1) z++O).set j v=List.replicate j z++v::O:=by
 rw [List.replicate_succ',List.append_assoc];have h:=List.set_append_right j v (s:=List.replicate j z) (t := [z]++O) (by simp)
 rw [h];simp
theorem Gr.pull {O:List α} {z : α} {j:Nat} (h:Gr mk e w B (some ⟨g,0,none⟩) c (List.replicate (j+1) z++O)) (v : α) :
 Gr mk e (w.setCell ⟨g,j,none⟩ (mk v)) B (some ⟨g,0,none⟩) c (List.replicate j z++v::O):=by
 have h1:=h.store j v
 rwa [yM] at h1
theorem Gr.lit (w:World) (xs:List α) (cs:Array Value) (hcs:cs.toList=xs.map mk) (hm:xs.length<=maxLen) (hB:B<=w.heap.size) :
 Gr mk e (w.alloc (.cells cs e)) B (some ⟨w.heap.size,0,none⟩) xs.length xs:=by
 have h:=World.ownsRow_lit (e:=e) (size:=1) (base:=B) w cs xs.length hB hm (by rw [<-Array.length_toList,hcs];simp)
 rw [hcs] at h;exact h
end
section
variable {w w':World} {B c:Nat} {e:TypeId} {A:Option Addr} {xs:List Nat}
theorem Gr.nt (h:Gr lmv e w B A c xs) (hu:U32 xs):Nt w A c xs:=
 ⟨h.form.1,by have:=h.form.2.1;unfold maxLen at this;omega,hu,h.rd⟩
end
theorem Rd.grown {α : Type} {mk : α -> Value} {w w':World} {A:Option Addr} {xs:List α} {row:Option Nat} (h:Rd mk w A xs) (hg:w.grownBy w' row) (hne:0<xs.length->∀ad,A=some ad->some ad.block≠row):Rd mk w' A xs:=fun hn=>by
 obtain ⟨ad,e,hl,hc⟩:=h hn;refine ⟨ad,e,Nat.lt_of_lt_of_le hl hg.size,fun k hk=>?_⟩;have e2:(ad.add k).block=ad.block:=aM _ _;exact hg.cell (hc k hk) (by rw [e2];exact hne hn ad e)
theorem Nt.grown {w w':World} {A:Option Addr} {c:Nat} {xs:List Nat} {row:Option Nat} (h:Nt w A c xs) (hg:w.grownBy w' row) (hne:0<xs.length->∀ad,A=some ad->some ad.block≠row):Nt w' A c xs:=
 ⟨h.cap,h.max,h.u,h.rd.grown hg hne⟩
section
variable {P:Program} (w:World) {α : Type} {mk : α -> Value}
theorem fJ (hone:∀x,(mk x).oneCell'=true) (t ty e:TypeId) (i:TypeInfo) (z:Value) (bytes:Nat) (ht:P.underlying t=some (.slice e)) (hi:P.info? e=some i) (hz:i.zero=some z)
 (hsize:i.size=1) (hby:i.bytes=bytes) (hzs:z.cells.size=1) {B c:Nat} {A:Option Addr} {xs:List α} (hown:Gr mk e w B A c xs)
 (A2:Option Addr) (c2:Nat) (ys:List α) (hr:Rd mk w A2 ys) (hmax:xs.length+ys.length<=maxLen) (hbytes:(xs.length+ys.length)*bytes<=140737488355328) (hbase:B<=w.heap.size) :
 ∃A' c' w',(Builtin.append_ #[t,t] ty #[.slice A xs.length c, .slice A2 ys.length c2]).run P w = .ok (.slice A' (xs.length+ys.length) c') w'/\Gr mk e w' B A' c' (xs++ys) /\
  w.grownBy w' (A.map (·.block))/\Below B w w'/\(A'.map (·.block)=A.map (·.block)\/A'.map (·.block)=some w.heap.size):=by
 have hAb:∀k,A.map (·.block)=some k->B<=k:=by
  intro k hk
  cases A with
  | none=>cases hk
  | some ad=>simp at hk;subst hk;exact (hown.form.2.2 ad rfl).1
 have hob:(Value.slice A xs.length c).ownBlock=A.map (·.block):=by cases A <;> rfl
 cases A2 with
 | none=>
   have hy:ys = []:=by
    rcases Nat.eq_zero_or_pos ys.length with h0|h0
    ·exact List.eq_nil_of_length_eq_zero h0
    ·obtain ⟨ad,h,_⟩:=hr h0;cases h
   subst hy;refine ⟨A,c,w,?_,by simpa using hown,World.grownBy.refl _ _,ah _ _, .inl rfl⟩
   rcases hown.2 with ⟨h',hn⟩|⟨g,cap,cur,h',_,_,hnc,_⟩
   ·simp only [Value.slice.injEq] at h';obtain ⟨rfl,_,rfl⟩:=h';simp [Builtin.append_,run_underlying ht,sizeOf,typeInfo,hi,Builtin.lenOf,Builtin.firstCells,hn]
   ·simp only [Value.slice.injEq] at h';obtain ⟨rfl,_,rfl⟩:=h';simp [Builtin.append_,run_underlying ht,sizeOf,typeInfo,hi,Builtin.lenOf,Builtin.firstCells,hnc,storeCells]
 | some ad=>
   have hnews:∀j u,(ys.map mk)[j]? = some u->w.cell? (ad.add j)=some u:=by
    intro j u hu;rw [List.getElem?_map] at hu;rcases Nat.lt_or_ge j ys.length with h1|h1
    ·rw [List.getElem?_eq_getElem h1] at hu;simp at hu;subst hu;obtain ⟨ad',e',_,hc⟩:=hr (by omega)
     injection e' with e';subst e';exact hc j h1
    ·rw [List.getElem?_eq_none h1] at hu;simp at hu
   obtain ⟨v',w',hrun,hown',hg,_,hat⟩:=run_append_own_at (P:=P) w B t ty e i z 1 bytes ht hi hz hsize hby hzs (by omega) (.slice A xs.length c) xs.length (xs.map mk) hown ad ys.length c2 (ys.map mk) (by simp) hnews
    (by intro u hu;obtain ⟨x,_,rfl⟩:=List.mem_map.1 hu;exact hone x) hmax hbytes hbase
   have hform:∃A' c',v' = .slice A' (xs.length+ys.length) c':=by
    rcases hown'.2 with ⟨rfl,hn⟩|⟨g,cap,cur,rfl,_⟩
    ·exact ⟨none,0,by rw [hn]⟩
    ·exact ⟨_,_,rfl⟩
   obtain ⟨A',c',rfl⟩:=hform;have hob':(Value.slice A' (xs.length+ys.length) c').ownBlock=A'.map (·.block):=by cases A' <;> rfl
   rw [hob,hob'] at hat;rw [hob] at hg;refine ⟨A',c',w',hrun,?_,hg,(ah _ _).grown hg hbase hAb,hat⟩;unfold Gr;rw [List.length_append,List.map_append];exact hown'
theorem aD (hone:∀x,(mk x).oneCell'=true) {ops:Array Oper} {rest:List Oper} {o:Oper} {a:Act} {Q:Exit->Act->World->Prop} (hgd:o.guard=none) (s x:Operand) (t:TypeId)
 (ho:o.op = .call { callee := .builtin .append,args := #[s,x],argTypes := #[t,t]})
 (e:TypeId) (i:TypeInfo) (z:Value) (bytes:Nat) (ht:P.underlying t=some (.slice e)) (hi:P.info? e=some i) (hz:i.zero=some z)
 (hsize:i.size=1) (hby:i.bytes=bytes) (hzs:z.cells.size=1) {B c n:Nat} {A:Option Addr} {xs:List α} (hs:a.eval s = .slice A n c) (hn:n=xs.length) (hown:Gr mk e w B A c xs)
 (A2:Option Addr) (m c2:Nat) (ys:List α) (hx:a.eval x = .slice A2 m c2) (hm:m=ys.length) (hr:Rd mk w A2 ys) (hmax:n+m<=maxLen) (hbytes:(n+m)*bytes<=140737488355328) (hbase:B<=w.heap.size)
 (h:∀A' c' w',Gr mk e w' B A' c' (xs++ys)->w.grownBy w' (A.map (·.block))->Below B w w'->(A'.map (·.block)=A.map (·.block)\/A'.map (·.block)=some w.heap.size) ->
   wpList P ops Q rest (a.put o.dst (.slice A' (n+m) c')) w'):wpList P ops Q (o::rest) a w:=by
 subst hn hm;obtain ⟨A',c',w',hrun,h1,h2,h3,h4⟩:=fJ (P:=P) w hone t o.type e i z bytes ht hi hz hsize hby hzs hown A2 c2 ys hr hmax hbytes hbase;refine wpList_plain hgd fun K hK=>?_;unfold Oper.wp execOp;simp only [ho,resolve,invoke,builtin,Sem.run_bind,Sem.run_pure,Result.andThen_ok,List.map_toArray,List.map_cons,List.map_nil,hs,hx,hrun];exact hK _ _ (h A' c' w' h1 h2 h3 h4)
theorem bp (x0 : α) {ops:Array Oper} {rest:List Oper} {o:Oper} {a:Act} {Q:Exit->Act->World->Prop}
 (hgd:o.guard=none) (l c:Operand) (t:TypeId) (hop:o.op=Op.makeSlice t l c)
 (e:TypeId) (i:TypeInfo) (bytes:Nat) (ht:P.underlying t=some (.slice e)) (hi:P.info? e=some i) (hz:i.zero=some (mk x0)) (hsize:i.size=1) (hby:i.bytes=bytes) (hzs:(mk x0).cells = #[mk x0])
 (kl kc:IntKind) (L C:Int) (n:Nat) (hl:a.eval l = .int kl L) (hc:a.eval c = .int kc C) (hL:L=(n:Int)) (hC:C=(n:Int)) (b2:bytes*n<=281474976710656) (b3:n<=maxLen)
 (h:∀w',Gr mk e w' w.heap.size (some ⟨w.heap.size,0,none⟩) n (List.replicate n x0)->Below w.heap.size w w'->w.heap.size<w'.heap.size->wpList P ops Q rest (a.put o.dst (.slice (some ⟨w.heap.size,0,none⟩) n n)) w') :
 wpList P ops Q (o::rest) a w:=by
 refine wpList_make_full w hgd l c t hop w.heap.size e i (mk x0) 1 ht hi hz hsize kl kc L C n hl hc hL hC (by rw [hby];exact b2) b3 (Nat.le_refl _) ?_
 intro w' hown hg;have hown2:Gr mk e w' w.heap.size (some ⟨w.heap.size,0,none⟩) n (List.replicate n x0):=by
  unfold Gr;rw [List.length_replicate,List.map_replicate];rw [hzs,Nat.mul_one,toList_madeCells_one] at hown;exact hown
 exact h w' hown2 ((ah _ _).grown hg (Nat.le_refl _) (by intro k hk;cases hk)) (hown2.form.2.2 _ rfl).2
end
def Qt (w w':World):Prop:=∃q,w'=w.drewN q
theorem Qt.refl (w:World):Qt w w:=⟨0,rfl⟩
theorem Qt.drewN {w w':World} (h:Qt w w') (n:Nat):Qt w (w'.drewN n):=by
 obtain ⟨q,rfl⟩:=h;exact ⟨q+n,World.drewN_drewN _ _ _⟩
theorem Qt.below {w w':World} (h:Qt w w') (B:Nat):Below B w w':=by
 obtain ⟨q,rfl⟩:=h;exact ⟨rfl,rfl,rfl,Nat.le_refl _,fun _ _=>rfl⟩
theorem Qt.keep {w w':World} (h:Qt w w'):Below w.heap.size w w':=h.below _
theorem aJ {B:Nat} {a w:World} (h:Below B a w) (n:Nat):Below B a (w.drewN n):=⟨h.os,h.tape,h.output,h.size,h.block⟩
theorem ai {B:Nat} {a w w':World} (h:Below B a w) (k:Below w.heap.size w w') (hB:B<=w.heap.size):Below B a w':=h.trans (k.mono hB)
theorem qd {w a b:World} (h:Below w.heap.size w a) (k:Below a.heap.size a b):Below w.heap.size w b:=ai h k h.size
theorem bL {k:IntKind} {a b:Int} (h:a=b):Value.int k a=Value.int k b:=by rw [h]
theorem dV {k:IntKind} {a b:Int} (h:a=b):Ending.returned (.int k a) = .returned (.int k b):=by rw [h]
theorem dz {a b:Bool} (h:a=b):Ending.returned (.bool a) = .returned (.bool b):=by rw [h]
theorem Gr.drew {α : Type} {mk : α -> Value} {e:TypeId} {w:World} {B c:Nat} {A:Option Addr} {xs:List α} (h:Gr mk e w B A c xs):Gr mk e w.drew B A c xs:=h
theorem dd {B:Nat} {a w:World} (h:Below B a w):Below B a w.drew:=h.drew
end Go.Proofs.YtkpfbekmaafehaaGreat
