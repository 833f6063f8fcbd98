/- Operations of a region that are not wanted, taken in one row -/
import Derived.Test.YtkpfbekmaafehaaGreatBase
import Derived.Deep.RegionHeld3
namespace Go.Proofs.YtkpfbekmaafehaaGreat
set_option maxRecDepth 100000
open Go.RowKit
def jY:List Nat->List Nat
 | [] => []
 | g::gs=>g::(jY gs).map (· + (g+1))
def bH {α : Type} (u : α):List α -> List Nat->List α
 | xs,[]=>xs
 | [],_::_ => []
 | _::xs,0::gs=>u::bH u xs gs
 | x::xs,(n+1)::gs=>x::bH u xs (n::gs)
theorem zZ {α : Type} (u : α) (ds:List Nat):ds.foldl (fun l d=>l.set d u) ([]:List α) = []:=by
 induction ds with
 | nil=>rfl
 | cons d ds ih=>rw [List.foldl_cons,List.set_nil];exact ih
theorem pn {α : Type} (u x : α) (ds:List Nat) (xs:List α):(ds.map (· + 1)).foldl (fun l d=>l.set d u) (x::xs)=x::ds.foldl (fun l d=>l.set d u) xs:=by
 induction ds generalizing xs with
 | nil=>rfl
 | cons d ds ih=>rw [List.map_cons,List.foldl_cons,List.foldl_cons,List.set_cons_succ];exact ih _
theorem yn (n:Nat) (gs:List Nat):jY ((n+1)::gs)=(jY (n::gs)).map (· + 1):=by
 rw [jY,jY,List.map_cons,List.map_map]
 congr 1
theorem lS {α : Type} (u : α):∀(xs:List α) (gs:List Nat),bH u xs gs=(jY gs).foldl (fun l d=>l.set d u) xs
 | xs,[]=>by rw [bH];rfl
 | [],_::_=>by rw [bH,zZ]
 | x::xs,0::gs=>by
   rw [bH,jY,List.foldl_cons,List.set_cons_zero,lS u xs gs];exact (pn u u (jY gs) xs).symm
 | x::xs,(n+1)::gs=>by rw [bH,yn,pn,lS u xs (n::gs)]
theorem zk (ts:List Value) (d:Nat) (v:Value) (a:Act) (h:a.tmps=ts.toArray):(a.put (some d) v) = { a with tmps:=(ts.set d v).toArray}:=by
 unfold Act.put;simp only [h,List.setIfInBounds_toArray]
abbrev dC:=Option Tmp×List Tmp×List Nat×Option (Nat×Bool)
def jo (md:Region.Mode) (ops:Array Oper):List dC:=ops.toList.map fun o=>(o.dst,o.looksAt ops,(o.after.toList.filter (Region.binds md)).map (·.on),o.guard)
def tf (SU:List dC) (ls:List Bool) (i:Nat):Bool := !ls.getD i true && match SU[i]? with
 | some e=>e.2.2.1.all fun j=>ls.getD j false
 | none=>false
def elN (a:Nat):List Nat->Bool
 | []=>false
 | b::l=>Nat.beq a b || elN a l
theorem DK (a b:Nat):Nat.beq a b=(a == b):=by
 rw [Bool.eq_iff_iff,beq_iff_eq];exact ⟨Nat.eq_of_beq_eq_true,fun h=>by rw [h];exact Nat.beq_refl b⟩
theorem Aj (a:Nat) (l:List Nat):elN a l=l.contains a:=by
 induction l with
 | nil=>rfl
 | cons b l ih=>rw [elN,ih,List.contains_cons,DK]
def apS (di:Option Tmp) (li:List Tmp) (dj:Option Tmp) (lj:List Tmp):Bool:=
 (match di with
  | some d => !elN d lj && (match dj with
    | some e => !Nat.beq e d
    | none=>true)
  | none=>true) &&
 (match dj with
  | some d => !elN d li
  | none=>true)
def frG (di:Option Tmp) (li:List Tmp) (i:Nat):List dC->List Bool->Nat->Bool
 | [],_,_=>true
 | _::_,[],_=>true
 | e::r,b::bs,j=>(b || Nat.beq j i || elN i e.2.2.1 || apS di li e.1 e.2.1) && frG di li i r bs (j+1)
theorem DP {ops:Array Oper} (x y:Oper):apS x.dst (x.looksAt ops) y.dst (y.looksAt ops)=x.apart ops y:=by
 unfold apS Oper.apart;cases x.dst <;> cases y.dst <;> simp only [Aj] <;> first|rfl|skip
 rename_i d e
 congr 2
 rw [Bool.eq_iff_iff];rw [DK];simp
def qF (SU:List dC) (ls:List Bool) (i:Nat):Bool:=match SU[i]? with
 | some e=>frG e.1 e.2.1 i SU ls 0
 | none=>false
section
variable {md:Region.Mode} {ops:Array Oper} {SU:List dC} {ls:List Bool} {i:Nat}
theorem fU (h:jo md ops=SU) (i:Nat):SU[i]? = ops[i]?.map fun o=>(o.dst,o.looksAt ops,(o.after.toList.filter (Region.binds md)).map (·.on),o.guard):=by
 rw [<-h,jo,List.getElem?_map,Array.getElem?_toList]
theorem fQ (ls:List Bool) (i:Nat) (b:Bool):ls.toArray.getD i b=ls.getD i b:=by
 simp [Array.getD_eq_getD_getElem?,List.getD_eq_getElem?_getD]
theorem nO (h:jo md ops=SU) (hr:tf SU ls i=true):(Region.ready md ops ls.toArray).contains i=true:=by
 rw [tf,fU h] at hr;simp only [Bool.and_eq_true] at hr;obtain ⟨h1,h2⟩:=hr
 cases ho:ops[i]? with
 | none=>rw [ho] at h2;cases h2
 | some o=>
   rw [ho] at h2;simp only [Option.map_some] at h2;rw [List.contains_iff_mem,Region.ready,List.mem_filter,List.mem_range];refine ⟨(Array.getElem?_eq_some_iff.1 ho).1,?_⟩;rw [fQ,h1,ho];simp only [Option.map_some,Option.getD_some,Bool.true_and];rw [Array.all_eq_true_iff_forall_mem];intro e he;rw [fQ]
   cases hb:Region.binds md e with
   | false=>rfl
   | true=>
     have:=List.all_eq_true.1 h2 e.on (List.mem_map.2 ⟨e,List.mem_filter.2 ⟨by simpa using he,hb⟩,rfl⟩)
     rw [this];rfl
theorem zX {di:Option Tmp} {li:List Tmp}:∀(T:List dC) (bs:List Bool) (k:Nat),frG di li i T bs k=true->∀n e,T[n]? = some e->n+k≠i->bs.getD n true=false->e.2.2.1.contains i=false->apS di li e.1 e.2.1=true
 | [],_,_,_,n,e,he,_,_,_=>by simp at he
 | _::_,[],_,_,n,e,_,_,hb,_=>by simp at hb
 | e0::r,b::bs,k,h,n,e,he,hne,hb,hc=>by
   rw [frG,Bool.and_eq_true] at h
   cases n with
   | zero=>
     simp at he hb;subst he;have h1:=h.1;rw [hb,Aj,hc] at h1;have:Nat.beq k i=false:=by rw [DK];simp;omega
     rw [this] at h1;simpa using h1
   | succ n=>
     simp at he hb;exact zX r bs (k+1) h.2 n e he (by omega) (by simpa using hb) hc
theorem kN (h:jo md ops=SU) (hf:qF SU ls i=true):Region.free md ops ls.toArray i=true:=by
 rw [qF] at hf;have hi:=fU h i
 cases ho:ops[i]? with
 | none=>rw [hi,ho] at hf;cases hf
 | some oi=>
   rw [hi,ho] at hf;simp only [Option.map_some] at hf;simp only [Region.free,ho];rw [List.all_eq_true];intro j hj;rw [List.mem_range] at hj;have hoj:ops[j]? = some ops[j]:=Array.getElem?_eq_getElem hj;rw [hoj,fQ];simp only;by_cases hji:j=i
   ·simp [hji]
   ·cases hb:ls.getD j true with
    | true=>simp
    | false=>
      have hs:=fU h j;rw [hoj] at hs;have:=zX SU ls 0 hf j _ hs (by omega) hb
      simp only at this
      cases hc:(((ops[j]).after.toList.filter (Region.binds md)).map (·.on)).contains i with
      | true=>
        rw [List.contains_iff_mem,List.mem_map] at hc;obtain ⟨e,he,hee⟩:=hc;rw [List.mem_filter] at he;have:(ops[j]).after.any (fun e=>Region.binds md e && e.on == i)=true:=by
         rw [Array.any_eq_true'];exact ⟨e,by simpa using he.1,by simp [he.2,hee]⟩
        simp [this]
      | false=>
        have h3:=this hc;have:oi.apart ops ops[j]=true:=(DP _ _).symm.trans h3;simp [this]
end
def xD (SU:List dC) (ls:List Bool):List Nat:=(List.range SU.length).filter (tf SU ls)
theorem Br {md:Region.Mode} {ops:Array Oper} {SU:List dC} {ls:List Bool} (h:jo md ops=SU):Region.ready md ops ls.toArray=xD SU ls:=by
 have hl:SU.length=ops.size:=by rw [<-h,jo,List.length_map,Array.length_toList]
 rw [xD,Region.ready,hl];refine List.filter_congr fun i hi=>?_;rw [List.mem_range] at hi;have ho:ops[i]? = some ops[i]:=Array.getElem?_eq_getElem hi;rw [tf,fU h,ho,fQ];simp only [Option.map_some,Option.getD_some]
 congr 1
 rw [Bool.eq_iff_iff,Array.all_eq_true_iff_forall_mem,List.all_eq_true];constructor
 ·intro hh j hj;rw [List.mem_map] at hj;obtain ⟨e,he,rfl⟩:=hj;rw [List.mem_filter] at he;have:=hh e (by simpa using he.1)
  rw [fQ,he.2] at this;simpa using this
 ·intro hh e he;rw [fQ]
  cases hb:Region.binds md e with
  | false=>rfl
  | true=>
    have:=hh e.on (List.mem_map.2 ⟨e,List.mem_filter.2 ⟨by simpa using he,hb⟩,rfl⟩)
    rw [this];rfl
def pP (md:Region.Mode) (ops:Array Oper) (SU:List dC):Prop:=Hd (Region.noSelect ops=true/\jo md ops=SU)
section
variable {P:Program} {ops:Array Oper} {Q:Exit->Act->World->Prop} {md:Region.Mode} {S:World->Prop} {oi:Oper} {fuel:Nat} {ls:List Bool} {SU:List dC} {a:Act} {w:World}
theorem qj {P:Program} {ops:Array Oper} {Q:Exit->Act->World->Prop} {md:Region.Mode} {S:World->Prop} {fuel:Nat} {a:Act} {w:World} {listed:Array Bool} (n:Nat) (h:pP md ops (jo md ops)->wpAnyH P md ops Q S fuel (qe n).toArray a w) (hs:Region.noSelect ops=true:=by kernel_rfl) (hl:listed=(qe n).toArray:=by kernel_rfl):wpAnyH P md ops Q S fuel listed a w:=by
 subst hl
 exact h (ag ⟨hs,rfl⟩)
theorem tki (SU:List dC) (ls:List Bool) {listed:Array Bool} (hs:Region.noSelect ops=true) (h1:jo md ops=SU) (hl:listed=ls.toArray) (h:pP md ops SU->wpAnyH P md ops Q S fuel ls.toArray a w):wpAnyH P md ops Q S fuel listed a w:=by
 subst hl;exact h (ag ⟨hs,h1⟩)
theorem tks (HU:pP md ops SU) (i:Nat) (v:Value) (hi:ops[i]? = some oi) (h:wpAnyH P md ops Q S fuel (ls.toArray.setIfInBounds i true) (a.put oi.dst v) w) (hc:(tf SU ls i && qF SU ls i)=true:=by kernel_rfl) (hQ:∀c a w,Q (.panic c) (a.put oi.dst v) w->Q (.panic c) a w:=by exact fun _ _ _ h=>h)
 (hw:Region.wanted oi (yielded ops a.tmps)=true:=by first|rfl|kernel_rfl) (hr:∀w,S w->(execOp a.eval oi).run P w = .ok (.value v) w:=by intro w hSw;go_simp;(try with_reducible rfl)) (hS:S w:=by assumption):wpAnyH P md ops Q S (fuel+1) ls.toArray a w:=by
 rw [Bool.and_eq_true] at hc;exact tkw i v hi HU.o.1 (kN HU.o.2 hc.2) (nO HU.o.2 hc.1) hQ ⟨hw,hr⟩ hS h
end
theorem tkn {md:Region.Mode} {ops:Array Oper} {ls:List Bool} {SU:List dC} {rs:List Nat} (HU:pP md ops SU) (h:xD SU ls=rs):Region.ready md ops ls.toArray=rs:=(Br HU.o.2).trans h
theorem qh {P:Program} {ops:Array Oper} {Q:Exit->Act->World->Prop} {md:Region.Mode} {S:World->Prop} {fuel:Nat} {a:Act} {w:World} {oi:Oper} {ls:List Bool} {SU:List dC} (HU:pP md ops SU) (i:Nat) (v:Value) (hi:ops[i]? = some oi) (h:wpAnyH P md ops Q S fuel (ls.set i true).toArray (a.put oi.dst v) w) (hc:(tf SU ls i&&qF SU ls i)=true:=by kernel_rfl) (hQ:∀c a w,Q (.panic c) (a.put oi.dst v) w->Q (.panic c) a w:=by exact fun _ _ _ h=>h)
 (hw:Region.wanted oi (yielded ops a.tmps)=true:=by first | rfl | kernel_rfl) (hr:∀w,S w->(execOp a.eval oi).run P w = .ok (.value v) w:=by intro w hSw;go_simp;(try with_reducible rfl)) (hS:S w:=by assumption):wpAnyH P md ops Q S (fuel+1) ls.toArray a w:=
 tks HU i v hi (by rw [List.setIfInBounds_toArray];exact h) hc hQ hw hr hS
theorem qp {P:Program} {ops:Array Oper} {Q:Exit->Act->World->Prop} {md:Region.Mode} {S:World->Prop} {f:Nat} {a:Act} {w:World} {ls:List Bool} {SU:List dC} (HU:pP md ops SU) (h:Q .normal a w) (hr:xD SU ls=[]:=by kernel_rfl):wpAnyH P md ops Q S f ls.toArray a w:=wpAnyH_done (tkn HU hr) h _
def fvl (ts:List Value):Operand->Option Bool
 | .tmp t=>match ts[t]? with
   | some (.bool b)=>some b
   | _=>none
 | .const (.bool b)=>some b
 | _=>none
def bOp (ts:List Value):Op->Option Bool
 | .move x=>fvl ts x
 | .assign x=>fvl ts x
 | .pick c a b=>match fvl ts c with
   | some true=>fvl ts a
   | some false=>fvl ts b
   | none=>none
 | _=>none
theorem mK {ts:List Value} {a:Act} {x:Operand} {b:Bool} (ha:a.tmps=ts.toArray) (h:fvl ts x=some b):a.eval x = .bool b:=by
 cases x with
 | tmp t=>
   unfold fvl at h;simp only at h;unfold Act.eval;simp only [ha];rw [Array.getD_eq_getD_getElem?,List.getElem?_toArray]
   split at h
   ·rename_i c e
    injection h with h;subst h;rw [e];rfl
   ·cases h
 | const v=>
   unfold fvl at h;cases v <;> first | (injection h with h;subst h;rfl)|cases h
 | _=>cases h
theorem DN {P:Program} {ts:List Value} {a:Act} {o:Oper} {b:Bool} (ha:a.tmps=ts.toArray) (h:bOp ts o.op=some b) (w:World):(execOp a.eval o).run P w = .ok (.value (.bool b)) w:=by
 unfold execOp;cases ho:o.op <;> rw [ho] at h <;> first|cases h|skip
 case move x=>
  simp only [mK ha (show fvl ts x=some b from h)];rfl
 case assign x=>
  simp only [mK ha (show fvl ts x=some b from h)];rfl
 case pick c x y=>
  unfold bOp at h;simp only at h
  split at h
  ·rename_i hc
   simp only [mK ha hc,mK ha h];rfl
  ·rename_i hc
   simp only [mK ha hc,mK ha h];rfl
  ·cases h
def kV:Option Bool->Value
 | none=>undef
 | some b => .bool b
def gdV (SU:List dC) (ts:List Value) (g:Nat):Option Bool:=match (SU[g]?.bind (·.1)).bind (ts[·]?) with
 | some (.bool b)=>some b
 | _=>none
def unS (SU:List dC) (ts:List Value) (e:dC):Bool:=match e.2.2.2 with
 | some (g,want)=>(match gdV SU ts g with
   | some b=>b != want
   | none=>true)
 | none=>false
def waS (SU:List dC) (ts:List Value) (e:dC):Bool:=match e.2.2.2 with
 | some (g,want)=>(match gdV SU ts g with
   | some b=>b == want
   | none=>false)
 | none=>true
theorem zT {md:Region.Mode} {ops:Array Oper} {SU:List dC} (h:jo md ops=SU) (ts:List Value) (g:Nat):yielded ops ts.toArray g=gdV SU ts g:=by
 have e:((SU[g]?.bind (·.1)).bind (ts[·]?))=(((ops[g]?).bind (·.dst)).bind (ts.toArray[·]?)):=by
  rw [fU h g]
  cases ops[g]? with
  | none=>rfl
  | some o=>simp
 unfold yielded gdV;rw [e];generalize (((ops[g]?).bind (·.dst)).bind (ts.toArray[·]?))=o;rcases o with _|v
 ·rfl
 ·cases v <;> rfl
theorem CV {md:Region.Mode} {ops:Array Oper} {SU:List dC} (h:jo md ops=SU) {ts:List Value} {oi:Oper} {e:dC} (he:e.2.2.2=oi.guard) (hc:unS SU ts e=true):Region.wanted oi (yielded ops ts.toArray)=false:=by
 unfold unS at hc;rw [he] at hc;unfold Region.wanted
 cases hg:oi.guard with
 | none=>rw [hg] at hc;cases hc
 | some gw=>
   obtain ⟨g,want⟩:=gw;rw [hg] at hc;simp only at hc|-;rw [zT h]
   cases hx:gdV SU ts g with
   | none=>rfl
   | some b=>
     rw [hx] at hc;simp only at hc;cases b <;> cases want <;> first|rfl|cases hc
theorem CT {md:Region.Mode} {ops:Array Oper} {SU:List dC} (h:jo md ops=SU) {ts:List Value} {oi:Oper} {e:dC} (he:e.2.2.2=oi.guard) (hc:waS SU ts e=true):Region.wanted oi (yielded ops ts.toArray)=true:=by
 unfold waS at hc;rw [he] at hc;unfold Region.wanted
 cases hg:oi.guard with
 | none=>rfl
 | some gw=>
   obtain ⟨g,want⟩:=gw;rw [hg] at hc;simp only at hc|-;rw [zT h]
   cases hx:gdV SU ts g with
   | none=>rw [hx] at hc;cases hc
   | some b=>
     rw [hx] at hc;simp only at hc;cases b <;> cases want <;> first|rfl|cases hc
def tyM (ops:Array Oper) (SU:List dC):List (Nat×Option Bool)->List Bool->List Value->Bool
 | [],_,_=>true
 | (i,k)::r,l,ts=>match SU[i]? with
   | none=>false
   | some e=>tf SU l i && qF SU l i && (match k with
     | none=>unS SU ts e
     | some b=>waS SU ts e && (match ops[i]? with
       | some o=>(match bOp ts o.op with
         | some c=>c == b
         | none=>false)
       | none=>false)) && (match e.1 with
     | some d=>tyM ops SU r (l.set i true) (ts.set d (kV k))
     | none=>false)
def fld (ds:List (Nat×Option Bool)) (ts:List Value):List Value:=ds.foldl (fun l d=>l.set d.1 (kV d.2)) ts
theorem vH {P:Program} {ops:Array Oper} {Q:Exit->Act->World->Prop} {md:Region.Mode} {S:World->Prop} {fuel:Nat} {w:World} {SU:List dC} (HU:pP md ops SU) (hQ:∀c a (d:Tmp) v w,Q (.panic c) (a.put (some d) v) w->Q (.panic c) a w) (hS:S w) :
 ∀(is ds:List (Nat×Option Bool)) (ls:List Bool) (a:Act) (ts:List Value),a.tmps=ts.toArray->tyM ops SU is ls ts=true->(is.map fun x=>SU[x.1]?.bind (·.1))=ds.map (fun x=>some x.1)->is.map (·.2)=ds.map (·.2) ->
  wpAnyH P md ops Q S fuel (is.foldl (fun l x=>l.set x.1 true) ls).toArray { a with tmps:=(fld ds ts).toArray} w->wpAnyH P md ops Q S (fuel+is.length) ls.toArray a w
 | [],[],ls,a,ts,ha,_,_,_,h=>by
   have e:({ a with tmps:=(fld [] ts).toArray}:Act)=a:=by
    show ({ a with tmps:=ts.toArray}:Act)=a
    rw [<-ha]
   rw [e] at h;exact h
 | [],_::_,_,_,_,_,_,e,_,_=>by cases e
 | _::_,[],_,_,_,_,_,e,_,_=>by cases e
 | (i,k)::r,(d,k2)::ds,ls,a,ts,ha,hc,hd,hk,h=>by
   rw [List.map_cons,List.map_cons] at hd hk;injection hd with hd1 hd2;injection hk with hk1 hk2;simp only at hk1;subst hk1;unfold tyM at hc
   cases hsu:SU[i]? with
   | none=>rw [hsu] at hc;cases hc
   | some e=>
     simp only [hsu] at hc hd1;simp only [Option.bind_some] at hd1;rw [hd1] at hc;simp only [Bool.and_eq_true] at hc;obtain ⟨⟨⟨h1,h2⟩,h3⟩,h4⟩:=hc;have hat:=fU HU.o.2 i;rw [hsu] at hat
     cases ho:ops[i]? with
     | none=>rw [ho] at hat;cases hat
     | some oi=>
       rw [ho] at hat;simp only [Option.map_some,Option.some.injEq] at hat;have hdst:oi.dst=some d:=by rw [hat] at hd1;exact hd1
       have hgu:e.2.2.2=oi.guard:=by rw [hat]
       have hput:a.put oi.dst (kV k) = { a with tmps:=(ts.set d (kV k)).toArray}:=by rw [hdst];exact zk ts d _ a ha
       have hnext:wpAnyH P md ops Q S (fuel+r.length) (ls.toArray.setIfInBounds i true) (a.put oi.dst (kV k)) w:=by
        rw [List.setIfInBounds_toArray,hput];refine vH HU hQ hS r ds (ls.set i true) _ (ts.set d (kV k)) rfl h4 hd2 hk2 ?_;exact h
       cases k with
       | none=>exact tku i ho HU.o.1 (kN HU.o.2 h2) (nO HU.o.2 h1) (fun c a w h=>hQ c a d undef w (by rw [<-hdst];exact h)) (by rw [ha];exact CV HU.o.2 hgu h3) hS hnext
       | some b=>
         rw [Bool.and_eq_true] at h3;obtain ⟨h5,h6⟩:=h3;rw [ho] at h6;simp only at h6;have h7:bOp ts oi.op=some b:=by
          cases hb:bOp ts oi.op with
          | none=>rw [hb] at h6;cases h6
          | some c=>
            rw [hb] at h6;simp only [beq_iff_eq] at h6;rw [h6]
         exact tkw i (.bool b) ho HU.o.1 (kN HU.o.2 h2) (nO HU.o.2 h1) (fun c a w h=>hQ c a d _ w (by rw [<-hdst];exact h)) ⟨by rw [ha];exact CT HU.o.2 hgu h5,fun w _=>DN ha h7 w⟩ hS hnext
def bI:List Value->List (Nat×Option Bool)->List Value
 | xs,[]=>xs
 | [],_::_ => []
 | _::xs,(0,k)::gs=>kV k::bI xs gs
 | x::xs,(n+1,k)::gs=>x::bI xs ((n,k)::gs)
def nF:List (Nat×Option Bool)->List (Nat×Option Bool)
 | [] => []
 | (g,k)::gs=>(g,k)::(nF gs).map (fun x=>(x.1+(g+1),x.2))
theorem Ca (ds:List (Nat×Option Bool)):fld ds [] = []:=by
 unfold fld
 induction ds with
 | nil=>rfl
 | cons d ds ih=>rw [List.foldl_cons,List.set_nil];exact ih
theorem qG (x:Value) (ds:List (Nat×Option Bool)) (xs:List Value):fld (ds.map (fun y=>(y.1+1,y.2))) (x::xs)=x::fld ds xs:=by
 unfold fld
 induction ds generalizing xs with
 | nil=>rfl
 | cons d ds ih=>rw [List.map_cons,List.foldl_cons,List.foldl_cons,List.set_cons_succ];exact ih _
theorem ym (n:Nat) (k:Option Bool) (gs:List (Nat×Option Bool)):nF ((n+1,k)::gs)=(nF ((n,k)::gs)).map (fun y=>(y.1+1,y.2)):=by
 rw [nF,nF,List.map_cons,List.map_map]
 congr 1
theorem oF:∀(xs:List Value) (gs:List (Nat×Option Bool)),bI xs gs=fld (nF gs) xs
 | xs,[]=>by rw [bI];rfl
 | [],_::_=>by rw [bI,Ca]
 | x::xs,(0,k)::gs=>by
   rw [bI,nF,oF xs gs]
   show _=fld ((nF gs).map (fun y=>(y.1+1,y.2))) (kV k::xs)
   exact (qG _ _ _).symm
 | x::xs,(n+1,k)::gs=>by rw [bI,ym,qG,oF xs ((n,k)::gs)]
def exI:List (Nat×Nat×Nat×Option Bool)->List Nat
 | [] => []
 | (a,_,n,_)::r=>a::(List.replicate n 0++exI r)
def exD:List (Nat×Nat×Nat×Option Bool)->List (Nat×Option Bool)
 | [] => []
 | (_,b,n,k)::r=>(b,k)::(List.replicate n (0,k)++exD r)
theorem Ad (is:List (Nat×Option Bool)) (ls:List Bool):is.foldl (fun l x=>l.set x.1 true) ls=(is.map (·.1)).foldl (fun l d=>l.set d true) ls:=by
 induction is generalizing ls with
 | nil=>rfl
 | cons i r ih=>rw [List.map_cons,List.foldl_cons,List.foldl_cons];exact ih _
theorem tkm {P:Program} {ops:Array Oper} {Q:Exit->Act->World->Prop} {md:Region.Mode} {S:World->Prop} {fuel:Nat} {w:World} {ls:List Bool} {a:Act} {ts:List Value} {SU:List dC} (HU:pP md ops SU) (k:Nat) (sg:List (Nat×Nat×Nat×Option Bool)) (ha:a.tmps=ts.toArray)
 (h:wpAnyH P md ops Q S fuel (bH true ls (exI sg)).toArray { a with tmps:=(bI ts (exD sg)).toArray} w)
 (hk:Nat.beq (exI sg).length k=true:=by kernel_rfl) (hc:tyM ops SU ((jY (exI sg)).zip ((exD sg).map (·.2))) ls ts=true:=by kernel_rfl) (hd:((jY (exI sg)).map fun x=>SU[x]?.bind (·.1))=(nF (exD sg)).map (fun x=>some x.1):=by kernel_rfl) (hl:Nat.beq (exI sg).length (exD sg).length=true:=by kernel_rfl)
 (hQ:∀c a (d:Tmp) v w,Q (.panic c) (a.put (some d) v) w->Q (.panic c) a w:=by exact fun _ _ _ _ _ h=>h) (hS:S w:=by assumption):wpAnyH P md ops Q S (fuel+k) ls.toArray a w:=by
 have hk:=Nat.eq_of_beq_eq_true hk;have hl:=Nat.eq_of_beq_eq_true hl;have la:∀gs,(jY gs).length=gs.length:=by
  intro gs
  induction gs with
  | nil=>rfl
  | cons g gs ih=>rw [jY,List.length_cons,List.length_map,ih];rfl
 have lk:∀gs,(nF gs).map (·.2)=gs.map (·.2):=by
  intro gs
  induction gs with
  | nil=>rfl
  | cons g gs ih=>
    obtain ⟨g1,g2⟩:=g;rw [nF,List.map_cons,List.map_cons,List.map_map,<-ih];rfl
 have z1:((jY (exI sg)).zip ((exD sg).map (·.2))).map (·.1)=jY (exI sg):=List.map_fst_zip (by rw [la,List.length_map,hl];exact Nat.le_refl _)
 have z2:((jY (exI sg)).zip ((exD sg).map (·.2))).map (·.2)=(exD sg).map (·.2):=List.map_snd_zip (by rw [la,List.length_map,hl];exact Nat.le_refl _)
 have hlen:((jY (exI sg)).zip ((exD sg).map (·.2))).length=k:=by
  have:=congrArg List.length z1;rw [List.length_map,la,hk] at this;exact this
 subst hlen;refine vH HU hQ hS _ (nF (exD sg)) ls a ts ha hc ?_ ?_ ?_
 ·rw [<-hd,<-z1,List.map_map];simp only [z1];rfl
 ·rw [z2,lk]
 ·rw [Ad,z1,<-lS,<-oF];exact h
theorem tz:(∀(a:Act) (v:Value),a.put none v=a)/\(∀(a:Act) (d:Tmp) (v:Value),a.put (some d) v = { a with tmps:=a.tmps.setIfInBounds d v})/\(∀(xs:List Oper) (i:Nat) (h:i<xs.toArray.size),xs.toArray[i]=xs[i]'(by simpa using h))/\(∀(a:Oper) (l:List Oper) (h:0<(a::l).length),(a::l)[0]=a) /\
 (∀(a:Oper) (l:List Oper) (i:Nat) (h:i+1<(a::l).length),(a::l)[i+1]=l[i]'(by simpa using h))/\(∀(xs:List Value) (i:Nat) (a:Value),xs.toArray.setIfInBounds i a=(xs.set i a).toArray)/\(∀(xs:List Bool) (i:Nat) (a:Bool),xs.toArray.setIfInBounds i a=(xs.set i a).toArray) /\
 (∀(x y:Value) (l:List Value),(x::l).set 0 y=y::l)/\(∀(x y:Value) (l:List Value) (n:Nat),(x::l).set (n+1) y=x::l.set n y)/\(∀(x y:Bool) (l:List Bool),(x::l).set 0 y=y::l)/\(∀(x y:Bool) (l:List Bool) (n:Nat),(x::l).set (n+1) y=x::l.set n y):=
 ⟨fun _ _=>rfl,fun _ _ _=>rfl,fun _ _ _=>rfl,fun _ _ _=>rfl,fun _ _ _ _=>rfl,fun _ _ _=>List.setIfInBounds_toArray ..,fun _ _ _=>List.setIfInBounds_toArray ..,fun _ _ _=>rfl,fun _ _ _ _=>rfl,fun _ _ _=>rfl,fun _ _ _ _=>rfl⟩
theorem rpS {α : Type} (a : α) (n:Nat):List.replicate (n+1) a=a::List.replicate n a:=List.replicate_succ
theorem rpZ {α : Type} (a : α):List.replicate 0 a = []:=rfl
theorem apC {α : Type} (a : α) (l r:List α):a::l++r=a::(l++r):=rfl
theorem apN {α : Type} (l:List α) : []++l=l:=rfl
theorem fR {P:Program} {ops:Array Oper} {Q:Exit->Act->World->Prop} {S:World->Prop} {id:Nat} {a:Act} {w:World} (a7:Hd (∀w',Below w.heap.size w w'->S w')) (hm:P.follows .mixedOrders=true)
 (h:S w.drew->wpAnyH P .any ops Q S ops.size (Array.replicate ops.size false) a w.drew):(Code.region id ops true).wp P Q a w:=
 wp_region_held_drew (S:=S) hm (a7.o _ (ah w.heap.size w).drew) h
theorem tk1 {P:Program} {ops:Array Oper} {Q:Exit->Act->World->Prop} {md:Region.Mode} {S:World->Prop} {oi:Oper} {fuel:Nat} {ls:List Bool} {SU:List dC} {a:Act} {w:World} (HU:pP md ops SU) (i:Nat) (ho:ops[i]? = some oi)
 (h:∀K':Act->World->Prop,Shut (∀a w,S w->(S w->wpAnyH P md ops Q S fuel (ls.toArray.setIfInBounds i true) a w)->K' a w)->if Region.wanted oi (yielded ops a.tmps)=true then Oper.wp P oi a w K' Q else K' (a.put oi.dst undef) w) (hr:xD SU ls = [i]:=by kernel_rfl):wpAnyH P md ops Q S (fuel+1) ls.toArray a w:=
 wpAnyH_ready (tkn HU hr) (by simp) (AllReadyH.cons ho h AllReadyH.nil)
def sE (n:Nat) (a b:List Nat):dC:=(some n,a,b,none)
def sG (n:Nat) (a b:List Nat) (k:Nat) (v:Bool):dC:=(some n,a,b,some (k,v))
theorem bC {α : Type} (xs:List α) (i:Nat) (d : α) (h:i<xs.length):xs.getD i d=xs[i]:=by
 rw [List.getD_eq_getElem?_getD,List.getElem?_eq_getElem h];rfl
def aj (g:Nat->Rat):Nat->Rat
 | 0=>0
 | n+1=>aj g n+g n
theorem ay {g h:Nat->Rat} {n:Nat} (e:∀i,i<n->g i=h i):aj g n=aj h n:=by
 induction n with
 | zero=>rfl
 | succ n ih=>rw [aj,aj,ih (fun i hi=>e i (by omega)),e n (by omega)]
theorem yv {g h:Nat->Rat} {n:Nat} (e:∀i,i<n->g i<=h i):aj g n<=aj h n:=by
 induction n with
 | zero=>exact Rat.le_refl
 | succ n ih=>
   have h1:=ih (fun i hi=>e i (by omega))
   have h2:=e n (by omega)
   rw [aj,aj];grind
theorem pS (g h:Nat->Rat) (n:Nat):aj (fun i=>g i+h i) n=aj g n+aj h n:=by
 induction n with
 | zero=>show (0:Rat)=0+0;grind
 | succ n ih=>rw [aj,aj,aj,ih];grind
theorem bJ (c:Rat) (g:Nat->Rat) (n:Nat):aj (fun i=>c*g i) n=c*aj g n:=by
 induction n with
 | zero=>show (0:Rat)=c*0;grind
 | succ n ih=>rw [aj,aj,ih];grind
theorem bu {g:Nat->Rat} {n:Nat} (h:∀i,i<n->g i=0):aj g n=0:=by
 induction n with
 | zero=>rfl
 | succ n ih=>rw [aj,ih fun i hi=>h i (by omega),h n (by omega)];grind
theorem bM (g:Nat->Rat) {n k:Nat} (hk:k<n):aj g n=g k+aj (fun i=>if i=k then 0 else g i) n:=by
 induction n with
 | zero=>omega
 | succ n ih=>
   rw [aj,aj];by_cases h:k=n
   ·subst h;rw [if_pos rfl,ay (h:=fun i=>if i=k then 0 else g i) fun i hi=>by rw [if_neg (by omega)]]
    grind
   ·rw [ih (by omega),if_neg (by omega)];grind
theorem fF (g:Nat->Nat->Rat) (n m:Nat):aj (fun i=>aj (g i) m) n=aj (fun j=>aj (fun i=>g i j) n) m:=by
 induction n with
 | zero=>exact (bu fun _ _=>rfl).symm
 | succ n ih=>
   rw [aj,ih,<-pS];exact ay fun j _=>rfl
theorem kx {g:Nat->Rat} {n:Nat} (h:∀i,i<n->0<=g i):0<=aj g n:=by
 induction n with
 | zero=>exact Rat.le_refl
 | succ n ih=>
   have h1:=ih fun i hi=>h i (by omega)
   have h2:=h n (by omega)
   rw [aj];grind
theorem ut {g:Nat->Rat} {n:Nat} (h:0<aj g n):∃i,i<n/\0<g i:=by
 induction n with
 | zero=>exact absurd h (by show ¬(0:Rat)<0;grind)
 | succ n ih=>
   rw [aj] at h;by_cases h1:0<g n
   ·exact ⟨n,by omega,h1⟩
   ·obtain ⟨i,hi,h2⟩:=ih (by grind)
    exact ⟨i,by omega,h2⟩
def bY (T:Nat->Nat->Rat) (i j:Nat):Nat->Nat->Rat:=fun r k=>if r=i then T i k/T i j else T r k-T r j*(T i k/T i j)
def cg (B:Nat->Nat) (i j:Nat):Nat->Nat:=fun r=>if r=i then j else B r
structure Tab (m n:Nat) (O T:Nat->Nat->Rat) (B:Nat->Nat):Prop where
 inv:∀i,i<m->∀k,k<=n+m->T i k=aj (fun r=>T i (n+r)*O r k) m
 back:∀r,r<m->∀k,k<=n+m->O r k=aj (fun i=>O r (B i)*T i k) m
 unit:∀i,i<m->∀r,r<m->T i (B r)=if i=r then 1 else 0
 lt:∀i,i<m->B i<n+m
section
variable {m n:Nat} {O T T':Nat->Nat->Rat} {B:Nat->Nat}
theorem Tab.start (hO:∀r,r<m->∀k,k<m->O r (n+k)=if r=k then 1 else 0):Tab m n O O (fun i=>n+i):=by
 refine ⟨fun i hi k _=>?_,fun r hr k _=>?_,fun i hi r hr=>hO i hi r hr,fun i hi=>by omega⟩
 ·rw [bM _ hi,hO i hi i hi,if_pos rfl,bu]
  ·grind
  ·intro r hr;by_cases h:r=i
   ·rw [if_pos h]
   ·rw [if_neg h,hO i hi r hr,if_neg (fun e=>h e.symm)];grind
 ·rw [bM _ hr,hO r hr r hr,if_pos rfl,bu]
  ·grind
  ·intro i hi;by_cases h:i=r
   ·rw [if_pos h]
   ·rw [if_neg h,hO r hr i hi,if_neg (fun e=>h e.symm)];grind
theorem Tab.pivot (h:Tab m n O T B) {i j:Nat} (hi:i<m) (hj:j<n+m) (hp:T i j≠0):Tab m n O (bY T i j) (cg B i j):=by
 have hpp:∀k,T i k/T i j*T i j=T i k:=fun k=>Rat.div_mul_cancel hp;refine ⟨fun r hr k hk=>?_,fun r hr k hk=>?_,fun r hr s hs=>?_,fun r hr=>?_⟩
 ·-- the rows stay combinations of the original ones
  have e:∀r,r<m->∀c:Rat,aj (fun l=>c*T r (n+l)*O l k) m=c*T r k:=fun r hr c=>by
   rw [h.inv r hr k hk,<-bJ];exact ay fun l _=>by grind
  by_cases hri:r=i
  ·subst hri
   show (if r=r then T r k/T r j else _)=aj (fun l=>(if r=r then T r (n+l)/T r j else _)*O l k) m
   rw [if_pos rfl];have e2:=e r hr (1/T r j);have e3:aj (fun l=>(if r=r then T r (n+l)/T r j else T r (n+l)-T r j*(T r (n+l)/T r j))*O l k) m=aj (fun l=>1/T r j*T r (n+l)*O l k) m:=ay fun l _=>by
    rw [if_pos rfl,Rat.div_def,Rat.div_def];grind
   rw [e3,e2,Rat.div_def,Rat.div_def];grind
  ·show (if r=i then _ else T r k-T r j*(T i k/T i j))=aj (fun l=>(if r=i then _ else T r (n+l)-T r j*(T i (n+l)/T i j))*O l k) m
   rw [if_neg hri];have e2:=e r hr 1;have e3:=e i hi (T r j*(1/T i j));have e4:aj (fun l=>(if r=i then T i (n+l)/T i j else T r (n+l)-T r j*(T i (n+l)/T i j))*O l k) m=aj (fun l=>1*T r (n+l)*O l k) m-aj (fun l=>T r j*(1/T i j)*T i (n+l)*O l k) m:=by
    have:∀M,aj (fun l=>(if r=i then T i (n+l)/T i j else T r (n+l)-T r j*(T i (n+l)/T i j))*O l k) M=aj (fun l=>1*T r (n+l)*O l k) M-aj (fun l=>T r j*(1/T i j)*T i (n+l)*O l k) M:=by
     intro M
     induction M with
     | zero=>show (0:Rat)=0-0;grind
     | succ M ih=>rw [aj,aj,aj,ih,if_neg hri,Rat.div_def,Rat.div_def];grind
    exact this m
   rw [e4,e2,e3,Rat.div_def,Rat.div_def];grind
 ·-- and the original ones combinations of the rows
  have e1:=h.back r hr k hk;have e2:=h.back r hr j (by omega)
  rw [bM _ hi] at e1 e2;have e3:aj (fun l=>O r (cg B i j l)*bY T i j l k) m=O r j*(T i k/T i j)+aj (fun l=>if l=i then 0 else O r (B l)*(T l k-T l j*(T i k/T i j))) m:=by
   rw [bM _ hi];have a:O r (cg B i j i)*bY T i j i k=O r j*(T i k/T i j):=by rw [cg,if_pos rfl,bY,if_pos rfl]
   rw [a]
   congr 1
   refine ay fun l _=>?_;by_cases hl:l=i
   ·rw [if_pos hl,if_pos hl]
   ·rw [if_neg hl,if_neg hl,cg,if_neg hl,bY,if_neg hl]
  have e4:∀M,aj (fun l=>if l=i then 0 else O r (B l)*(T l k-T l j*(T i k/T i j))) M=aj (fun l=>if l=i then 0 else O r (B l)*T l k) M-aj (fun l=>if l=i then 0 else O r (B l)*T l j) M*(T i k/T i j):=by
   intro M
   induction M with
   | zero=>show (0:Rat)=0-0*_;grind
   | succ M ih=>
     rw [aj,aj,aj,ih];by_cases hl:M=i
     ·rw [if_pos hl,if_pos hl,if_pos hl];grind
     ·rw [if_neg hl,if_neg hl,if_neg hl];grind
  rw [e3,e4,e1];have hpk:=hpp k;generalize T i k/T i j=q at *;generalize aj (fun l=>if l=i then 0 else O r (B l)*T l k) m=a at *
  generalize aj (fun l=>if l=i then 0 else O r (B l)*T l j) m=b at *
  rw [e2,<-hpk];grind
 ·show bY T i j r (cg B i j s)=_
  by_cases hsi:s=i
  ·subst hsi;rw [cg,if_pos rfl,bY];by_cases hrs:r=s
   ·rw [if_pos hrs,if_pos hrs];have:=hpp j;rw [Rat.div_def];exact Rat.mul_inv_cancel _ hp
   ·rw [if_neg hrs,if_neg hrs];have e:T s j/T s j=1:=by rw [Rat.div_def];exact Rat.mul_inv_cancel _ hp
    rw [e];grind
  ·rw [cg,if_neg hsi,bY];have e0:T i (B s)=0:=by rw [h.unit i hi s hs,if_neg (fun e=>hsi e.symm)]
   have e:T i (B s)/T i j=0:=by rw [e0,Rat.div_def];grind
   by_cases hri:r=i
   ·rw [if_pos hri,e,if_neg (by omega)]
   ·rw [if_neg hri,e,h.unit r hr s hs]
    grind
 ·rw [cg];split
  ·exact hj
  ·exact h.lt r hr
theorem Tab.unique (h:Tab m n O T B) (h':Tab m n O T' B) {i k:Nat} (hi:i<m) (hk:k<=n+m):T i k=T' i k:=by
 rw [h.inv i hi k hk];have e1:aj (fun r=>T i (n+r)*O r k) m=aj (fun r=>aj (fun l=>T i (n+r)*(O r (B l)*T' l k)) m) m:=ay fun r hr=>by
  rw [bJ,<-h'.back r hr k hk]
 have e2:aj (fun l=>aj (fun r=>T i (n+r)*(O r (B l)*T' l k)) m) m=aj (fun l=>T i (B l)*T' l k) m:=ay fun l hl=>by
  have e3:=h.inv i hi (B l) (by have:=h.lt l hl;omega)
  rw [e3,Rat.mul_comm,<-bJ];exact ay fun r _=>by grind
 rw [e1,fF,e2,bM _ hi,h.unit i hi i hi,if_pos rfl,bu]
 ·grind
 ·intro l hl;by_cases hli:l=i
  ·rw [if_pos hli]
  ·rw [if_neg hli,h.unit i hi l hl,if_neg (fun e=>hli e.symm)];grind
end
def bV (m:Nat) (c:Nat->Rat) (T:Nat->Nat->Rat) (B:Nat->Nat) (k:Nat):Rat:=aj (fun i=>c (B i)*T i k) m
def cE (m:Nat) (c:Nat->Rat) (T:Nat->Nat->Rat) (B:Nat->Nat) (k:Nat):Rat:=c k-bV m c T B k
structure Piv (m n most:Nat) (c:Nat->Rat) (T:Nat->Nat->Rat) (B:Nat->Nat) (s i:Nat):Prop where
 sm:s<most
 neg:cE m c T B s<0
 first:∀j,j<s->0<=cE m c T B j
 im:i<m
 pos:0<T i s
 least:∀r,r<m->0<T r s->T i (n+m)/T i s<=T r (n+m)/T r s
 tie:∀r,r<m->0<T r s->T i (n+m)/T i s=T r (n+m)/T r s->B i<=B r
section
variable {m n most:Nat} {O T T':Nat->Nat->Rat} {B B':Nat->Nat} {c:Nat->Rat}
theorem xS {i s:Nat} (hi:i<m) (hp:T i s≠0) (k:Nat):bV m c (bY T i s) (cg B i s) k=bV m c T B k+cE m c T B s*(T i k/T i s):=by
 have hpk:T i k/T i s*T i s=T i k:=Rat.div_mul_cancel hp;unfold bV cE bV;rw [bM (fun l=>c (cg B i s l)*bY T i s l k) hi,bM (fun l=>c (B l)*T l k) hi,bM (fun l=>c (B l)*T l s) hi];have a:c (cg B i s i)*bY T i s i k=c s*(T i k/T i s):=by rw [cg,if_pos rfl,bY,if_pos rfl]
 have e:∀M,aj (fun l=>if l=i then 0 else c (cg B i s l)*bY T i s l k) M=aj (fun l=>if l=i then 0 else c (B l)*T l k) M-aj (fun l=>if l=i then 0 else c (B l)*T l s) M*(T i k/T i s):=by
  intro M
  induction M with
  | zero=>show (0:Rat)=0-0*_;grind
  | succ M ih=>
    rw [aj,aj,aj,ih];by_cases hl:M=i
    ·rw [if_pos hl,if_pos hl,if_pos hl];grind
    ·rw [if_neg hl,if_neg hl,if_neg hl,cg,if_neg hl,bY,if_neg hl];grind
 rw [a,e];generalize T i k/T i s=q at *;rw [<-hpk];grind
theorem vi {a b:Rat} (ha:0<=a) (hb:0<b):0<=a/b:=by
 rw [Rat.div_def];exact Rat.mul_nonneg ha (Rat.le_of_lt (Rat.inv_pos.2 hb))
theorem kt {a:Rat} (h:0<a):a≠0:=by grind
theorem po {s i:Nat} (h:Piv m n most c T B s i) (hf:∀r,r<m->0<=T r (n+m)):∀r,r<m->0<=bY T i s r (n+m):=by
 intro r hr;have hq:=vi (hf i h.im) h.pos;rw [bY]
 split
 ·exact hq
 ·have h1:=hf r hr;by_cases hp:0<T r s
  ·have h2:=Rat.mul_le_mul_of_nonneg_right (h.least r hr hp) (Rat.le_of_lt hp);rw [Rat.div_mul_cancel (kt hp)] at h2
   grind
  ·have h2:=Rat.mul_nonneg (show 0 <= - T r s by grind) hq
   grind
theorem jQ (h:Tab m n O T B) {i:Nat} (hi:i<m):cE m c T B (B i)=0:=by
 unfold cE bV;rw [bM _ hi,h.unit i hi i hi,if_pos rfl,bu]
 ·grind
 ·intro l hl;by_cases hli:l=i
  ·rw [if_pos hli]
  ·rw [if_neg hli,h.unit l hl i hi,if_neg hli];grind
theorem i9 (h:Tab m n O T B) {i r:Nat} (hi:i<m) (hr:r<m) (e:B i=B r):i=r:=by
 have h1:=h.unit i hi i hi;rw [if_pos rfl,e,h.unit i hi r hr] at h1;by_cases hir:i=r
 ·exact hir
 ·rw [if_neg hir] at h1;exact absurd h1 (by decide)
theorem Bq (h:Tab m n O T B) (h':Tab m n O T' B') {s:Nat} (hs:s<n+m) :
 cE m c T' B' s-aj (fun i=>cE m c T' B' (B i)*T i s) m=cE m c T B s:=by
-- y = c_B' B'^-1
 have dot:∀k,k<=n+m->bV m c T' B' k=aj (fun r=>aj (fun i=>c (B' i)*T' i (n+r)) m*O r k) m:=by
  intro k hk;unfold bV;have e1:aj (fun i=>c (B' i)*T' i k) m=aj (fun i=>aj (fun r=>c (B' i)*T' i (n+r)*O r k) m) m:=ay fun i hi=>by
   rw [h'.inv i hi k hk,<-bJ];exact ay fun r _=>by grind
  rw [e1,fF];refine ay fun r _=>?_;have:∀M,aj (fun i=>c (B' i)*T' i (n+r)*O r k) M=aj (fun i=>c (B' i)*T' i (n+r)) M*O r k:=by
   intro M
   induction M with
   | zero=>show (0:Rat)=0*_;grind
   | succ M ih=>rw [aj,aj,ih];grind
  exact this m
 obtain ⟨y,hy⟩:∃y:Nat->Rat,y=fun r=>aj (fun i=>c (B' i)*T' i (n+r)) m:=⟨_,rfl⟩;have dot2:∀k,k<=n+m->bV m c T' B' k=aj (fun r=>y r*O r k) m:=fun k hk=>by rw [dot k hk,hy]
 have e1:aj (fun i=>cE m c T' B' (B i)*T i s) m=bV m c T B s-aj (fun r=>y r*O r s) m:=by
  have e2:aj (fun i=>cE m c T' B' (B i)*T i s) m=aj (fun i=>c (B i)*T i s) m-aj (fun i=>aj (fun r=>y r*(O r (B i)*T i s)) m) m:=by
   have:∀M,M<=m->aj (fun i=>cE m c T' B' (B i)*T i s) M=aj (fun i=>c (B i)*T i s) M-aj (fun i=>aj (fun r=>y r*(O r (B i)*T i s)) m) M:=by
    intro M
    induction M with
    | zero=>intro _;show (0:Rat)=0-0;grind
    | succ M ih=>
      intro hM;have e3:aj (fun r=>y r*(O r (B M)*T M s)) m=aj (fun r=>y r*O r (B M)) m*T M s:=by
       have:∀K,aj (fun r=>y r*(O r (B M)*T M s)) K=aj (fun r=>y r*O r (B M)) K*T M s:=by
        intro K
        induction K with
        | zero=>show (0:Rat)=0*_;grind
        | succ K ih=>rw [aj,aj,ih];grind
       exact this m
      rw [aj,aj,aj,ih (by omega),e3,<-dot2 (B M) (by have:=h.lt M (by omega);omega),cE]
      grind
   exact this m (Nat.le_refl _)
  rw [e2,fF]
  congr 1
  refine ay fun r hr=>?_;rw [bJ,<-h.back r hr s (by omega)]
 rw [e1,cE,dot2 s (by omega),cE]
 grind
theorem Dp:∀K (f:Nat->Nat),(∀t,f t<K)->∃a b,a<b/\f a=f b:=by
 intro K
 induction K with
 | zero=>intro f h;exact absurd (h 0) (by omega)
 | succ K ih=>
   intro f h;by_cases h1:∃t,f t=K
   ·obtain ⟨t0,h1⟩:=h1;by_cases h2:∃t,t0<t/\f t=K
    ·obtain ⟨t1,h2,h3⟩:=h2;exact ⟨t0,t1,h2,by rw [h1,h3]⟩
    ·obtain ⟨a,b,h3,h4⟩:=ih (fun t=>f (t+t0+1)) fun t=>by
      have h5:=h (t+t0+1);have h6:f (t+t0+1)≠K:=fun e=>h2 ⟨t+t0+1,by omega,e⟩
      show f (t+t0+1)<K
      omega
     exact ⟨a+t0+1,b+t0+1,by omega,h4⟩
   ·exact ih f fun t=>by
     have h5:=h t;have h6:f t≠K:=fun e=>h1 ⟨t,e⟩;omega
def gO (K:Nat) (B:Nat->Nat):Nat->Nat
 | 0=>0
 | i+1=>gO K B i*K+B i
theorem Ar {K:Nat} {B:Nat->Nat}:∀m,(∀i,i<m->B i<K)->gO K B m<K^m:=by
 intro m
 induction m with
 | zero=>intro _;exact Nat.one_pos
 | succ m ih=>
   intro h;have h1:=ih fun i hi=>h i (by omega)
   have h2:=h m (by omega)
   rw [gO,Nat.pow_succ];have h3:(gO K B m+1)*K<=K^m*K:=Nat.mul_le_mul_right _ h1;rw [Nat.add_mul,Nat.one_mul] at h3;omega
theorem xW {K:Nat} {B B':Nat->Nat}:∀m,(∀i,i<m->B i<K)->(∀i,i<m->B' i<K)->gO K B m=gO K B' m->∀i,i<m->B i=B' i:=by
 intro m
 induction m with
 | zero=>intro _ _ _ i hi;omega
 | succ m ih=>
   intro h h' e i hi;have b1:=h m (by omega)
   have b2:=h' m (by omega)
   rw [gO,gO] at e;have e1:B m=B' m:=by
    have a1:(gO K B m*K+B m) % K=B m:=by rw [Nat.mul_comm,Nat.mul_add_mod,Nat.mod_eq_of_lt b1]
    have a2:(gO K B' m*K+B' m) % K=B' m:=by rw [Nat.mul_comm,Nat.mul_add_mod,Nat.mod_eq_of_lt b2]
    rw [<-a1,<-a2,e]
   have e2:gO K B m=gO K B' m:=by
    have:gO K B m*K=gO K B' m*K:=by omega
    exact Nat.eq_of_mul_eq_mul_right (by omega) this
   rcases Nat.lt_or_ge i m with h1|h1
   ·exact ih (fun i hi=>h i (by omega)) (fun i hi=>h' i (by omega)) e2 i h1
   ·obtain rfl:i=m:=by omega
    exact e1
theorem great (f:Nat->Nat) (a:Nat):∀k,∃t,a<=t/\t<=a+k/\∀u,a<=u->u<=a+k->f u<=f t:=by
 intro k
 induction k with
 | zero=>exact ⟨a,by omega,by omega,fun u h1 h2=>by obtain rfl:u=a:=(by omega);exact Nat.le_refl _⟩
 | succ k ih=>
   obtain ⟨t,h1,h2,h3⟩:=ih;by_cases h:f t<=f (a+(k+1))
   ·refine ⟨a+(k+1),by omega,by omega,fun u h4 h5=>?_⟩
    rcases Nat.lt_or_ge u (a+(k+1)) with h6|h6
    ·exact Nat.le_trans (h3 u h4 (by omega)) h
    ·obtain rfl:u=a+(k+1):=by omega
     exact Nat.le_refl _
   ·refine ⟨t,h1,by omega,fun u h4 h5=>?_⟩
    rcases Nat.lt_or_ge u (a+(k+1)) with h6|h6
    ·exact h3 u h4 (by omega)
    ·obtain rfl:u=a+(k+1):=by omega
     omega
end
section
variable {m n most:Nat} {O:Nat->Nat->Rat} {c:Nat->Rat} {T:Nat->Nat->Nat->Rat} {B:Nat->Nat->Nat} {s l:Nat->Nat}
structure Run (m n most:Nat) (O:Nat->Nat->Rat) (c:Nat->Rat) (T:Nat->Nat->Nat->Rat) (B:Nat->Nat->Nat) (s l:Nat->Nat):Prop where
 tab:∀t,Tab m n O (T t) (B t)
 piv:∀t,Piv m n most c (T t) (B t) (s t) (l t)
 nT:∀t,T (t+1)=bY (T t) (l t) (s t)
 nB:∀t,B (t+1)=cg (B t) (l t) (s t)
 feas:∀i,i<m->0<=T 0 i (n+m)
theorem Run.fe (h:Run m n most O c T B s l):∀t i,i<m->0<=T t i (n+m):=by
 intro t
 induction t with
 | zero=>exact h.feas
 | succ t ih=>rw [h.nT];exact po (h.piv t) ih
theorem Run.val (h:Run m n most O c T B s l) (t:Nat):bV m c (T (t+1)) (B (t+1)) (n+m)=bV m c (T t) (B t) (n+m)+cE m c (T t) (B t) (s t)*(T t (l t) (n+m)/T t (l t) (s t)):=by
 rw [h.nT,h.nB];exact xS (h.piv t).im (kt (h.piv t).pos) _
theorem Run.le (h:Run m n most O c T B s l) (t:Nat):bV m c (T (t+1)) (B (t+1)) (n+m)<=bV m c (T t) (B t) (n+m):=by
 rw [h.val t];have h1:=vi (h.fe t _ (h.piv t).im) (h.piv t).pos;have h2:=Rat.mul_nonneg (show 0 <= - cE m c (T t) (B t) (s t) by have:=(h.piv t).neg;grind) h1
 grind
theorem Run.le' (h:Run m n most O c T B s l) (a:Nat):∀k,bV m c (T (a+k)) (B (a+k)) (n+m)<=bV m c (T a) (B a) (n+m):=by
 intro k
 induction k with
 | zero=>exact Rat.le_refl
 | succ k ih=>exact Rat.le_trans (h.le (a+k)) ih
theorem Run.still (h:Run m n most O c T B s l) {a b:Nat} (he:bV m c (T a) (B a) (n+m)=bV m c (T b) (B b) (n+m)) {t:Nat} (h1:a<=t) (h2:t<b) :
 T t (l t) (n+m)=0/\∀r,r<m->T (t+1) r (n+m)=T t r (n+m):=by
 obtain ⟨k,rfl⟩:=Nat.exists_eq_add_of_le h1;obtain ⟨d,hd⟩:=Nat.exists_eq_add_of_le (show a+k+1<=b from h2);have a1:=h.le' a k;have a2:=h.le' (a+k+1) d;rw [<-hd,<-he] at a2;have a3:=h.val (a+k);have hneg:=(h.piv (a+k)).neg;have hpos:=(h.piv (a+k)).pos;have hq:=vi (h.fe (a+k) _ (h.piv (a+k)).im) hpos;have hq0:T (a+k) (l (a+k)) (n+m)/T (a+k) (l (a+k)) (s (a+k))=0:=by
  generalize T (a+k) (l (a+k)) (n+m)/T (a+k) (l (a+k)) (s (a+k))=q at *;have e:cE m c (T (a+k)) (B (a+k)) (s (a+k))*q ≥ 0:=by grind
  have e2:=Rat.mul_nonneg (show 0 <= - cE m c (T (a+k)) (B (a+k)) (s (a+k)) by grind) hq
  have e3:cE m c (T (a+k)) (B (a+k)) (s (a+k))*q=0:=by grind
  rcases Rat.mul_eq_zero.1 e3 with h|h
  ·grind
  ·exact h
 have hz:T (a+k) (l (a+k)) (n+m)=0:=by
  have:=Rat.div_mul_cancel (a:=T (a+k) (l (a+k)) (n+m)) (kt hpos);rw [hq0] at this;grind
 refine ⟨hz,fun r hr=>?_⟩;rw [h.nT,bY,hq0]
 split
 ·rename_i e;rw [e,hz]
 ·grind
theorem Run.false (h:Run m n most O c T B s l) (hm:most<=n):False:=by
-- two equal bases
 obtain ⟨a,b,hab,hc⟩:=Dp ((n+m)^m) (fun t=>gO (n+m) (B t) m) fun t=>Ar m fun i hi=>(h.tab t).lt i hi;have hB:∀i,i<m->B a i=B b i:=xW m (fun i hi=>(h.tab a).lt i hi) (fun i hi=>(h.tab b).lt i hi) hc;have tb:Tab m n O (T b) (B a):=by
  have k:=h.tab b;refine ⟨k.inv,fun r hr j hj=>?_,fun i hi r hr=>?_,fun i hi=>by rw [hB i hi];exact k.lt i hi⟩
  ·rw [k.back r hr j hj];exact ay fun i hi=>by rw [hB i hi]
  ·rw [hB r hr];exact k.unit i hi r hr
 have hTT:∀i,i<m->∀j,j<=n+m->T a i j=T b i j:=fun i hi j hj=>(h.tab a).unique tb hi hj;have hv:bV m c (T a) (B a) (n+m)=bV m c (T b) (B b) (n+m):=ay fun i hi=>by rw [hB i hi,hTT i hi _ (Nat.le_refl _)]
 have still:=fun t h1 h2=>h.still hv (t:=t) h1 h2;have const:∀k,a+k<=b->∀r,r<m->T (a+k) r (n+m)=T a r (n+m):=by
  intro k
  induction k with
  | zero=>intro _ r _;rfl
  | succ k ih=>intro hk r hr;rw [show a+(k+1)=a+k+1 by omega,(still (a+k) (by omega) (by omega)).2 r hr];exact ih (by omega) r hr
 have const':∀t,a<=t->t<=b->∀r,r<m->T t r (n+m)=T a r (n+m):=fun t h1 h2 r hr=>by
  obtain ⟨k,rfl⟩:=Nat.exists_eq_add_of_le h1;exact const k h2 r hr
-- who is in the basis
 have up:∀v,(∀t,a<=t->t<b->B t (l t)≠v)->∀t,a<=t->∀k,t+k<=b->(∃i,i<m/\B t i=v)->∃i,i<m/\B (t+k) i=v:=by
  intro v hno t ht k
  induction k with
  | zero=>intro _ h1;exact h1
  | succ k ih=>
    intro hk h1;obtain ⟨i,hi,h2⟩:=ih (by omega) h1
    refine ⟨i,hi,?_⟩;rw [show t+(k+1)=t+k+1 by omega,h.nB,cg,if_neg]
    ·exact h2
    ·rintro rfl;exact hno (t+k) (by omega) (by omega) h2
 have down:∀v,(∀t,a<=t->t<b->s t≠v)->∀t,a<=t->∀k,t+k<=b->(∃i,i<m/\B (t+k) i=v)->∃i,i<m/\B t i=v:=by
  intro v hno t ht k
  induction k with
  | zero=>intro _ h1;exact h1
  | succ k ih=>
    intro hk h1;obtain ⟨i,hi,h2⟩:=h1;rw [show t+(k+1)=t+k+1 by omega,h.nB,cg] at h2
    by_cases hil:i=l (t+k)
    ·rw [if_pos hil] at h2;exact absurd h2 (hno (t+k) (by omega) (by omega))
    ·rw [if_neg hil] at h2;exact ih (by omega) ⟨i,hi,h2⟩
 have entering:∀t i,i<m->B t i≠s t:=fun t i hi e=>by
  have h1:=(h.piv t).neg;rw [<-e,jQ (h.tab t) hi] at h1;exact absurd h1 (by grind)
-- the greatest column that enters
 obtain ⟨u,hu1,hu2,hu3⟩:=great s a (b-1-a);have hub:u<b:=by omega
 have hmax:∀t,a<=t->t<b->s t<=s u:=fun t h1 h2=>hu3 t h1 (by omega)
-- it leaves somewhere
 obtain ⟨w,hw1,hw2,hw3⟩:∃w,a<=w/\w<b/\B w (l w)=s u:=by
  apply Classical.byContradiction
  intro hno;have hno':∀t,a<=t->t<b->B t (l t)≠s u:=fun t h1 h2 e=>hno ⟨t,h1,h2,e⟩;have h1:∃i,i<m/\B (u+1) i=s u:=⟨l u,(h.piv u).im,by rw [h.nB,cg,if_pos rfl]⟩
  have h2:=up (s u) hno' (u+1) (by omega) (b-(u+1)) (by omega) h1
  rw [show u+1+(b-(u+1))=b by omega] at h2
  obtain ⟨i,hi,h3⟩:=h2;rw [<-hB i hi] at h3;obtain ⟨j,hj,h4⟩:=up (s u) hno' a (Nat.le_refl _) (u-a) (by omega) ⟨i,hi,h3⟩
  rw [show a+(u-a)=u by omega] at h4
  exact entering u j hj h4
 have pw:=h.piv w;have pu:=h.piv u;have hsm:s w<most:=pw.sm;have h2:=Bq (c:=c) (h.tab w) (h.tab u) (show s w<n+m by omega)
 have hsw:s w≠s u:=fun e=>entering w (l w) pw.im (by rw [hw3,e])
 have hlt:s w<s u:=by have:=hmax w hw1 hw2;omega
 have h3:=pu.first (s w) hlt
 have h4:=pw.neg;obtain ⟨i,hi,h5⟩:=ut (g:=fun i=>cE m c (T u) (B u) (B w i)*T w i (s w)) (n:=m) (by grind)
 have h5:0<cE m c (T u) (B u) (B w i)*T w i (s w):=h5;have hir:B w i≠s u:=by
  intro e;have:i=l w:=i9 (h.tab w) hi pw.im (by rw [e,hw3])
  subst this;rw [e] at h5;have:=Rat.mul_nonneg (show 0 <= - cE m c (T u) (B u) (s u) by have:=pu.neg;grind) (Rat.le_of_lt pw.pos)
  grind
 have hnb:∀j,j<m->B u j≠B w i:=fun j hj e=>by
  rw [<-e,jQ (h.tab u) hj] at h5;exact absurd h5 (by grind)
-- so it enters in the cycle
 obtain ⟨v,hv1,hv2,hv3⟩:∃v,a<=v/\v<b/\s v=B w i:=by
  apply Classical.byContradiction
  intro hno;have hno':∀t,a<=t->t<b->s t≠B w i:=fun t h1 h2 e=>hno ⟨t,h1,h2,e⟩;have k1:∃j,j<m/\B w j=B w i:=⟨i,hi,rfl⟩;have k2:=down _ hno' a (Nat.le_refl _) (w-a) (by omega) (by rw [show a+(w-a)=w by omega];exact k1)
  obtain ⟨j,hj,k3⟩:=k2;rw [hB j hj] at k3;obtain ⟨j',hj',k4⟩:=down _ hno' u (by omega) (b-u) (by omega) (by rw [show u+(b-u)=b by omega];exact ⟨j,hj,k3⟩)
  exact hnb j' hj' k4
 have hlt2:B w i<s u:=by
  have:=hmax v hv1 hv2;omega
 have h6:=pu.first _ hlt2
 have h7:0<T w i (s w):=by
  apply Classical.byContradiction
  intro k;have:=Rat.mul_nonneg h6 (show 0 <= - T w i (s w) by grind)
  grind
-- its row has moved, so its value is 0
 have h8:T w i (n+m)=0:=by
  obtain ⟨t,t1,t2,t3⟩:∃t,a<=t/\t<b/\l t=i:=by
   apply Classical.byContradiction
   intro hno;have same:∀t,a<=t->∀k,t+k<=b->B (t+k) i=B t i:=by
    intro t ht k
    induction k with
    | zero=>intro _;rfl
    | succ k ih=>
      intro hk;rw [show t+(k+1)=t+k+1 by omega,h.nB,cg,if_neg (fun e=>hno ⟨t+k,by omega,by omega,e.symm⟩)]
      exact ih (by omega)
   have q1:=same a (Nat.le_refl _) (w-a) (by omega)
   have q2:=same a (Nat.le_refl _) (u-a) (by omega)
   rw [show a+(w-a)=w by omega] at q1
   rw [show a+(u-a)=u by omega] at q2
   exact hnb i hi (by rw [q2,q1])
  have q:=(still t t1 t2).1;rw [t3] at q;rw [const' w hw1 (by omega) i hi,<-const' t t1 (by omega) i hi]
  exact q
 have h9:T w (l w) (n+m)=0:=(still w hw1 hw2).1;have h10:=pw.tie i hi h7 (by rw [h8,h9,Rat.div_def,Rat.div_def];grind)
 rw [hw3] at h10;omega
end
end Go.Proofs.YtkpfbekmaafehaaGreat
