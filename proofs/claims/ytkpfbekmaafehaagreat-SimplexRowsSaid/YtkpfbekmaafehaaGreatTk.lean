/- Operations of a region that are not wanted, taken in one row -/
import Derived.Test.YtkpfbekmaafehaaGreatBase
import Derived.Deep.RegionHeld3
namespace Go.Proofs.YtkpfbekmaafehaaGreat
set_option maxRecDepth 100000
open Go.RowKit
def tkZ (md:Region.Mode) (ops:Array Oper):List Nat→Array Bool→Array Value→Bool
 | [],_,_=>true
 | i::r,l,ts=>match ops[i]? with
   | none=>false
   | some oi=>Region.free md ops l i && (Region.ready md ops l).contains i && !(Region.wanted oi (yielded ops ts)) && tkZ md ops r (l.setIfInBounds i true) (match oi.dst with
     | some d=>ts.setIfInBounds d undef
     | none=>ts)
def jY:List Nat→List Nat
 | [] => []
 | g::gs=>g::(jY gs).map (· + (g+1))
def bH {α : Type} (u : α):List α → List Nat→List α
 | xs,[]=>xs
 | [],_::_ => []
 | _::xs,0::gs=>u::bH u xs gs
 | x::xs,(n+1)::gs=>x::bH u xs (n::gs)
theorem zZ {α : Type} (u : α) (ds:List Nat):ds.foldl (fun l d=>l.set d u) ([]:List α) = []:=by
 induction ds with
 | nil=>rfl
 | cons d ds ih=>rw [List.foldl_cons,List.set_nil];exact ih
theorem pn {α : Type} (u x : α) (ds:List Nat) (xs:List α):(ds.map (· + 1)).foldl (fun l d=>l.set d u) (x::xs)=x::ds.foldl (fun l d=>l.set d u) xs:=by
 induction ds generalizing xs with
 | nil=>rfl
 | cons d ds ih=>rw [List.map_cons,List.foldl_cons,List.foldl_cons,List.set_cons_succ];exact ih _
theorem yn (n:Nat) (gs:List Nat):jY ((n+1)::gs)=(jY (n::gs)).map (· + 1):=by
 rw [jY,jY,List.map_cons,List.map_map]
 congr 1
theorem lS {α : Type} (u : α):∀(xs:List α) (gs:List Nat),bH u xs gs=(jY gs).foldl (fun l d=>l.set d u) xs
 | xs,[]=>by rw [bH];rfl
 | [],_::_=>by rw [bH,zZ]
 | x::xs,0::gs=>by
   rw [bH,jY,List.foldl_cons,List.set_cons_zero,lS u xs gs];exact (pn u u (jY gs) xs).symm
 | x::xs,(n+1)::gs=>by rw [bH,yn,pn,lS u xs (n::gs)]
theorem zk (ts:List Value) (d:Nat) (v:Value) (a:Act) (h:a.tmps=ts.toArray):(a.put (some d) v) = { a with tmps:=(ts.set d v).toArray}:=by
 unfold Act.put;simp only [h,List.setIfInBounds_toArray]
abbrev dC:=Option Tmp×List Tmp×List Nat×Option (Nat×Bool)
def jo (md:Region.Mode) (ops:Array Oper):List dC:=ops.toList.map fun o=>(o.dst,o.looksAt ops,(o.after.toList.filter (Region.binds md)).map (·.on),o.guard)
def tf (SU:List dC) (ls:List Bool) (i:Nat):Bool := !ls.getD i true && match SU[i]? with
 | some e=>e.2.2.1.all fun j=>ls.getD j false
 | none=>false
def elN (a:Nat):List Nat→Bool
 | []=>false
 | b::l=>Nat.beq a b || elN a l
theorem DK (a b:Nat):Nat.beq a b=(a == b):=by
 rw [Bool.eq_iff_iff,beq_iff_eq];exact ⟨Nat.eq_of_beq_eq_true,fun h=>by rw [h];exact Nat.beq_refl b⟩
theorem Aj (a:Nat) (l:List Nat):elN a l=l.contains a:=by
 induction l with
 | nil=>rfl
 | cons b l ih=>rw [elN,ih,List.contains_cons,DK]
def apS (di:Option Tmp) (li:List Tmp) (dj:Option Tmp) (lj:List Tmp):Bool:=
 (match di with
  | some d => !elN d lj && (match dj with
    | some e => !Nat.beq e d
    | none=>true)
  | none=>true) &&
 (match dj with
  | some d => !elN d li
  | none=>true)
def frG (di:Option Tmp) (li:List Tmp) (i:Nat):List dC→List Bool→Nat→Bool
 | [],_,_=>true
 | _::_,[],_=>true
 | e::r,b::bs,j=>(b || Nat.beq j i || elN i e.2.2.1 || apS di li e.1 e.2.1) && frG di li i r bs (j+1)
theorem DP {ops:Array Oper} (x y:Oper):apS x.dst (x.looksAt ops) y.dst (y.looksAt ops)=x.apart ops y:=by
 unfold apS Oper.apart;cases x.dst <;> cases y.dst <;> simp only [Aj] <;> first|rfl|skip
 rename_i d e
 congr 2
 rw [Bool.eq_iff_iff];rw [DK];simp
def qF (SU:List dC) (ls:List Bool) (i:Nat):Bool:=match SU[i]? with
 | some e=>frG e.1 e.2.1 i SU ls 0
 | none=>false
section
variable {md:Region.Mode} {ops:Array Oper} {SU:List dC} {ls:List Bool} {i:Nat}
theorem fU (h:jo md ops=SU) (i:Nat):SU[i]? = ops[i]?.map fun o=>(o.dst,o.looksAt ops,(o.after.toList.filter (Region.binds md)).map (·.on),o.guard):=by
 rw [←h,jo,List.getElem?_map,Array.getElem?_toList]
theorem fQ (ls:List Bool) (i:Nat) (b:Bool):ls.toArray.getD i b=ls.getD i b:=by
 simp [Array.getD_eq_getD_getElem?,List.getD_eq_getElem?_getD]
theorem nO (h:jo md ops=SU) (hr:tf SU ls i=true):(Region.ready md ops ls.toArray).contains i=true:=by
 rw [tf,fU h] at hr;simp only [Bool.and_eq_true] at hr;obtain ⟨h1,h2⟩:=hr
 cases ho:ops[i]? with
 | none=>rw [ho] at h2;cases h2
 | some o=>
   rw [ho] at h2;simp only [Option.map_some] at h2;rw [List.contains_iff_mem,Region.ready,List.mem_filter,List.mem_range];refine ⟨(Array.getElem?_eq_some_iff.1 ho).1,?_⟩;rw [fQ,h1,ho];simp only [Option.map_some,Option.getD_some,Bool.true_and];rw [Array.all_eq_true_iff_forall_mem];intro e he;rw [fQ]
   cases hb:Region.binds md e with
   | false=>rfl
   | true=>
     have:=List.all_eq_true.1 h2 e.on (List.mem_map.2 ⟨e,List.mem_filter.2 ⟨by simpa using he,hb⟩,rfl⟩)
     rw [this];rfl
theorem zX {di:Option Tmp} {li:List Tmp}:∀(T:List dC) (bs:List Bool) (k:Nat),frG di li i T bs k=true→∀n e,T[n]? = some e→n+k≠i→bs.getD n true=false→e.2.2.1.contains i=false→apS di li e.1 e.2.1=true
 | [],_,_,_,n,e,he,_,_,_=>by simp at he
 | _::_,[],_,_,n,e,_,_,hb,_=>by simp at hb
 | e0::r,b::bs,k,h,n,e,he,hne,hb,hc=>by
   rw [frG,Bool.and_eq_true] at h
   cases n with
   | zero=>
     simp at he hb;subst he;have h1:=h.1;rw [hb,Aj,hc] at h1;have:Nat.beq k i=false:=by rw [DK];simp;omega
     rw [this] at h1;simpa using h1
   | succ n=>
     simp at he hb;exact zX r bs (k+1) h.2 n e he (by omega) (by simpa using hb) hc
theorem kN (h:jo md ops=SU) (hf:qF SU ls i=true):Region.free md ops ls.toArray i=true:=by
 rw [qF] at hf;have hi:=fU h i
 cases ho:ops[i]? with
 | none=>rw [hi,ho] at hf;cases hf
 | some oi=>
   rw [hi,ho] at hf;simp only [Option.map_some] at hf;simp only [Region.free,ho];rw [List.all_eq_true];intro j hj;rw [List.mem_range] at hj;have hoj:ops[j]? = some ops[j]:=Array.getElem?_eq_getElem hj;rw [hoj,fQ];simp only;by_cases hji:j=i
   ·simp [hji]
   ·cases hb:ls.getD j true with
    | true=>simp
    | false=>
      have hs:=fU h j;rw [hoj] at hs;have:=zX SU ls 0 hf j _ hs (by omega) hb
      simp only at this
      cases hc:(((ops[j]).after.toList.filter (Region.binds md)).map (·.on)).contains i with
      | true=>
        rw [List.contains_iff_mem,List.mem_map] at hc;obtain ⟨e,he,hee⟩:=hc;rw [List.mem_filter] at he;have:(ops[j]).after.any (fun e=>Region.binds md e && e.on == i)=true:=by
         rw [Array.any_eq_true'];exact ⟨e,by simpa using he.1,by simp [he.2,hee]⟩
        simp [this]
      | false=>
        have h3:=this hc;have:oi.apart ops ops[j]=true:=(DP _ _).symm.trans h3;simp [this]
end
def xD (SU:List dC) (ls:List Bool):List Nat:=(List.range SU.length).filter (tf SU ls)
theorem Br {md:Region.Mode} {ops:Array Oper} {SU:List dC} {ls:List Bool} (h:jo md ops=SU):Region.ready md ops ls.toArray=xD SU ls:=by
 have hl:SU.length=ops.size:=by rw [←h,jo,List.length_map,Array.length_toList]
 rw [xD,Region.ready,hl];refine List.filter_congr fun i hi=>?_;rw [List.mem_range] at hi;have ho:ops[i]? = some ops[i]:=Array.getElem?_eq_getElem hi;rw [tf,fU h,ho,fQ];simp only [Option.map_some,Option.getD_some]
 congr 1
 rw [Bool.eq_iff_iff,Array.all_eq_true_iff_forall_mem,List.all_eq_true];constructor
 ·intro hh j hj;rw [List.mem_map] at hj;obtain ⟨e,he,rfl⟩:=hj;rw [List.mem_filter] at he;have:=hh e (by simpa using he.1)
  rw [fQ,he.2] at this;simpa using this
 ·intro hh e he;rw [fQ]
  cases hb:Region.binds md e with
  | false=>rfl
  | true=>
    have:=hh e.on (List.mem_map.2 ⟨e,List.mem_filter.2 ⟨by simpa using he,hb⟩,rfl⟩)
    rw [this];rfl
def pP (md:Region.Mode) (ops:Array Oper) (SU:List dC):Prop:=Hid (Region.noSelect ops=true∧jo md ops=SU)
section
variable {P:Program} {ops:Array Oper} {Q:Exit→Act→World→Prop} {md:Region.Mode} {S:World→Prop} {oi:Oper} {fuel:Nat} {ls:List Bool} {SU:List dC} {a:Act} {w:World}
theorem tki (SU:List dC) (ls:List Bool) {listed:Array Bool} (hs:Region.noSelect ops=true) (h1:jo md ops=SU) (hl:listed=ls.toArray) (h:pP md ops SU→wpAnyH P md ops Q S fuel ls.toArray a w):wpAnyH P md ops Q S fuel listed a w:=by
 subst hl;exact h (ag ⟨hs,h1⟩)
theorem tks (HU:pP md ops SU) (i:Nat) (v:Value) (hi:ops[i]? = some oi) (h:wpAnyH P md ops Q S fuel (ls.toArray.setIfInBounds i true) (a.put oi.dst v) w) (hc:(tf SU ls i && qF SU ls i)=true:=by kernel_rfl) (hQ:∀c a w,Q (.panic c) (a.put oi.dst v) w→Q (.panic c) a w:=by exact fun _ _ _ h=>h)
 (hw:Region.wanted oi (yielded ops a.tmps)=true:=by first|rfl|kernel_rfl) (hr:∀w,S w→(execOp a.eval oi).run P w = .ok (.value v) w:=by intro w hSw;go_simp;(try with_reducible rfl)) (hS:S w:=by assumption):wpAnyH P md ops Q S (fuel+1) ls.toArray a w:=by
 rw [Bool.and_eq_true] at hc;exact tkw i v hi HU.out.1 (kN HU.out.2 hc.2) (nO HU.out.2 hc.1) hQ ⟨hw,hr⟩ hS h
end
theorem tkn {md:Region.Mode} {ops:Array Oper} {ls:List Bool} {SU:List dC} {rs:List Nat} (HU:pP md ops SU) (h:xD SU ls=rs):Region.ready md ops ls.toArray=rs:=(Br HU.out.2).trans h
def tyZ (SU:List dC):List Nat→List Bool→List Value→Bool
 | [],_,_=>true
 | i::r,l,ts=>tf SU l i && qF SU l i && (match SU[i]? with
   | some e=>(match e.2.2.2 with
     | some (g,want)=>(match (SU[g]?.bind (·.1)).bind (ts[·]?) with
       | some (.bool b)=>b != want
       | _=>true)
     | none=>false)
   | none=>false) && tyZ SU r (l.set i true) (match SU[i]? with
   | some (some d,_)=>ts.set d undef
   | _=>ts)
def fvl (ts:List Value):Operand→Option Bool
 | .tmp t=>match ts[t]? with
   | some (.bool b)=>some b
   | _=>none
 | .const (.bool b)=>some b
 | _=>none
def bOp (ts:List Value):Op→Option Bool
 | .move x=>fvl ts x
 | .assign x=>fvl ts x
 | .pick c a b=>match fvl ts c with
   | some true=>fvl ts a
   | some false=>fvl ts b
   | none=>none
 | _=>none
theorem mK {ts:List Value} {a:Act} {x:Operand} {b:Bool} (ha:a.tmps=ts.toArray) (h:fvl ts x=some b):a.eval x = .bool b:=by
 cases x with
 | tmp t=>
   unfold fvl at h;simp only at h;unfold Act.eval;simp only [ha];rw [Array.getD_eq_getD_getElem?,List.getElem?_toArray]
   split at h
   ·rename_i c e
    injection h with h;subst h;rw [e];rfl
   ·cases h
 | const v=>
   unfold fvl at h;cases v <;> first | (injection h with h;subst h;rfl)|cases h
 | _=>cases h
theorem DN {P:Program} {ts:List Value} {a:Act} {o:Oper} {b:Bool} (ha:a.tmps=ts.toArray) (h:bOp ts o.op=some b) (w:World):(execOp a.eval o).run P w = .ok (.value (.bool b)) w:=by
 unfold execOp;cases ho:o.op <;> rw [ho] at h <;> first|cases h|skip
 case move x=>
  simp only [mK ha (show fvl ts x=some b from h)];rfl
 case assign x=>
  simp only [mK ha (show fvl ts x=some b from h)];rfl
 case pick c x y=>
  unfold bOp at h;simp only at h
  split at h
  ·rename_i hc
   simp only [mK ha hc,mK ha h];rfl
  ·rename_i hc
   simp only [mK ha hc,mK ha h];rfl
  ·cases h
def kV:Option Bool→Value
 | none=>undef
 | some b => .bool b
def gdV (SU:List dC) (ts:List Value) (g:Nat):Option Bool:=match (SU[g]?.bind (·.1)).bind (ts[·]?) with
 | some (.bool b)=>some b
 | _=>none
def unS (SU:List dC) (ts:List Value) (e:dC):Bool:=match e.2.2.2 with
 | some (g,want)=>(match gdV SU ts g with
   | some b=>b != want
   | none=>true)
 | none=>false
def waS (SU:List dC) (ts:List Value) (e:dC):Bool:=match e.2.2.2 with
 | some (g,want)=>(match gdV SU ts g with
   | some b=>b == want
   | none=>false)
 | none=>true
theorem zT {md:Region.Mode} {ops:Array Oper} {SU:List dC} (h:jo md ops=SU) (ts:List Value) (g:Nat):yielded ops ts.toArray g=gdV SU ts g:=by
 have e:((SU[g]?.bind (·.1)).bind (ts[·]?))=(((ops[g]?).bind (·.dst)).bind (ts.toArray[·]?)):=by
  rw [fU h g]
  cases ops[g]? with
  | none=>rfl
  | some o=>simp
 unfold yielded gdV;rw [e];generalize (((ops[g]?).bind (·.dst)).bind (ts.toArray[·]?))=o;rcases o with _|v
 ·rfl
 ·cases v <;> rfl
theorem CV {md:Region.Mode} {ops:Array Oper} {SU:List dC} (h:jo md ops=SU) {ts:List Value} {oi:Oper} {e:dC} (he:e.2.2.2=oi.guard) (hc:unS SU ts e=true):Region.wanted oi (yielded ops ts.toArray)=false:=by
 unfold unS at hc;rw [he] at hc;unfold Region.wanted
 cases hg:oi.guard with
 | none=>rw [hg] at hc;cases hc
 | some gw=>
   obtain ⟨g,want⟩:=gw;rw [hg] at hc;simp only at hc⊢;rw [zT h]
   cases hx:gdV SU ts g with
   | none=>rfl
   | some b=>
     rw [hx] at hc;simp only at hc;cases b <;> cases want <;> first|rfl|cases hc
theorem CT {md:Region.Mode} {ops:Array Oper} {SU:List dC} (h:jo md ops=SU) {ts:List Value} {oi:Oper} {e:dC} (he:e.2.2.2=oi.guard) (hc:waS SU ts e=true):Region.wanted oi (yielded ops ts.toArray)=true:=by
 unfold waS at hc;rw [he] at hc;unfold Region.wanted
 cases hg:oi.guard with
 | none=>rfl
 | some gw=>
   obtain ⟨g,want⟩:=gw;rw [hg] at hc;simp only at hc⊢;rw [zT h]
   cases hx:gdV SU ts g with
   | none=>rw [hx] at hc;cases hc
   | some b=>
     rw [hx] at hc;simp only at hc;cases b <;> cases want <;> first|rfl|cases hc
def tyM (ops:Array Oper) (SU:List dC):List (Nat×Option Bool)→List Bool→List Value→Bool
 | [],_,_=>true
 | (i,k)::r,l,ts=>match SU[i]? with
   | none=>false
   | some e=>tf SU l i && qF SU l i && (match k with
     | none=>unS SU ts e
     | some b=>waS SU ts e && (match ops[i]? with
       | some o=>(match bOp ts o.op with
         | some c=>c == b
         | none=>false)
       | none=>false)) && (match e.1 with
     | some d=>tyM ops SU r (l.set i true) (ts.set d (kV k))
     | none=>false)
def fld (ds:List (Nat×Option Bool)) (ts:List Value):List Value:=ds.foldl (fun l d=>l.set d.1 (kV d.2)) ts
theorem vH {P:Program} {ops:Array Oper} {Q:Exit→Act→World→Prop} {md:Region.Mode} {S:World→Prop} {fuel:Nat} {w:World} {SU:List dC} (HU:pP md ops SU) (hQ:∀c a (d:Tmp) v w,Q (.panic c) (a.put (some d) v) w→Q (.panic c) a w) (hS:S w) :
 ∀(is ds:List (Nat×Option Bool)) (ls:List Bool) (a:Act) (ts:List Value),a.tmps=ts.toArray→tyM ops SU is ls ts=true→(is.map fun x=>SU[x.1]?.bind (·.1))=ds.map (fun x=>some x.1)→is.map (·.2)=ds.map (·.2) →
  wpAnyH P md ops Q S fuel (is.foldl (fun l x=>l.set x.1 true) ls).toArray { a with tmps:=(fld ds ts).toArray} w→wpAnyH P md ops Q S (fuel+is.length) ls.toArray a w
 | [],[],ls,a,ts,ha,_,_,_,h=>by
   have e:({ a with tmps:=(fld [] ts).toArray}:Act)=a:=by
    show ({ a with tmps:=ts.toArray}:Act)=a
    rw [←ha]
   rw [e] at h;exact h
 | [],_::_,_,_,_,_,_,e,_,_=>by cases e
 | _::_,[],_,_,_,_,_,e,_,_=>by cases e
 | (i,k)::r,(d,k2)::ds,ls,a,ts,ha,hc,hd,hk,h=>by
   rw [List.map_cons,List.map_cons] at hd hk;injection hd with hd1 hd2;injection hk with hk1 hk2;simp only at hk1;subst hk1;unfold tyM at hc
   cases hsu:SU[i]? with
   | none=>rw [hsu] at hc;cases hc
   | some e=>
     simp only [hsu] at hc hd1;simp only [Option.bind_some] at hd1;rw [hd1] at hc;simp only [Bool.and_eq_true] at hc;obtain ⟨⟨⟨h1,h2⟩,h3⟩,h4⟩:=hc;have hat:=fU HU.out.2 i;rw [hsu] at hat
     cases ho:ops[i]? with
     | none=>rw [ho] at hat;cases hat
     | some oi=>
       rw [ho] at hat;simp only [Option.map_some,Option.some.injEq] at hat;have hdst:oi.dst=some d:=by rw [hat] at hd1;exact hd1
       have hgu:e.2.2.2=oi.guard:=by rw [hat]
       have hput:a.put oi.dst (kV k) = { a with tmps:=(ts.set d (kV k)).toArray}:=by rw [hdst];exact zk ts d _ a ha
       have hnext:wpAnyH P md ops Q S (fuel+r.length) (ls.toArray.setIfInBounds i true) (a.put oi.dst (kV k)) w:=by
        rw [List.setIfInBounds_toArray,hput];refine vH HU hQ hS r ds (ls.set i true) _ (ts.set d (kV k)) rfl h4 hd2 hk2 ?_;exact h
       cases k with
       | none=>exact tku i ho HU.out.1 (kN HU.out.2 h2) (nO HU.out.2 h1) (fun c a w h=>hQ c a d undef w (by rw [←hdst];exact h)) (by rw [ha];exact CV HU.out.2 hgu h3) hS hnext
       | some b=>
         rw [Bool.and_eq_true] at h3;obtain ⟨h5,h6⟩:=h3;rw [ho] at h6;simp only at h6;have h7:bOp ts oi.op=some b:=by
          cases hb:bOp ts oi.op with
          | none=>rw [hb] at h6;cases h6
          | some c=>
            rw [hb] at h6;simp only [beq_iff_eq] at h6;rw [h6]
         exact tkw i (.bool b) ho HU.out.1 (kN HU.out.2 h2) (nO HU.out.2 h1) (fun c a w h=>hQ c a d _ w (by rw [←hdst];exact h)) ⟨by rw [ha];exact CT HU.out.2 hgu h5,fun w _=>DN ha h7 w⟩ hS hnext
def bI:List Value→List (Nat×Option Bool)→List Value
 | xs,[]=>xs
 | [],_::_ => []
 | _::xs,(0,k)::gs=>kV k::bI xs gs
 | x::xs,(n+1,k)::gs=>x::bI xs ((n,k)::gs)
def nF:List (Nat×Option Bool)→List (Nat×Option Bool)
 | [] => []
 | (g,k)::gs=>(g,k)::(nF gs).map (fun x=>(x.1+(g+1),x.2))
theorem Ca (ds:List (Nat×Option Bool)):fld ds [] = []:=by
 unfold fld
 induction ds with
 | nil=>rfl
 | cons d ds ih=>rw [List.foldl_cons,List.set_nil];exact ih
theorem qG (x:Value) (ds:List (Nat×Option Bool)) (xs:List Value):fld (ds.map (fun y=>(y.1+1,y.2))) (x::xs)=x::fld ds xs:=by
 unfold fld
 induction ds generalizing xs with
 | nil=>rfl
 | cons d ds ih=>rw [List.map_cons,List.foldl_cons,List.foldl_cons,List.set_cons_succ];exact ih _
theorem ym (n:Nat) (k:Option Bool) (gs:List (Nat×Option Bool)):nF ((n+1,k)::gs)=(nF ((n,k)::gs)).map (fun y=>(y.1+1,y.2)):=by
 rw [nF,nF,List.map_cons,List.map_map]
 congr 1
theorem oF:∀(xs:List Value) (gs:List (Nat×Option Bool)),bI xs gs=fld (nF gs) xs
 | xs,[]=>by rw [bI];rfl
 | [],_::_=>by rw [bI,Ca]
 | x::xs,(0,k)::gs=>by
   rw [bI,nF,oF xs gs]
   show _=fld ((nF gs).map (fun y=>(y.1+1,y.2))) (kV k::xs)
   exact (qG _ _ _).symm
 | x::xs,(n+1,k)::gs=>by rw [bI,ym,qG,oF xs ((n,k)::gs)]
def exI:List (Nat×Nat×Nat×Option Bool)→List Nat
 | [] => []
 | (a,_,n,_)::r=>a::(List.replicate n 0++exI r)
def exD:List (Nat×Nat×Nat×Option Bool)→List (Nat×Option Bool)
 | [] => []
 | (_,b,n,k)::r=>(b,k)::(List.replicate n (0,k)++exD r)
theorem Ad (is:List (Nat×Option Bool)) (ls:List Bool):is.foldl (fun l x=>l.set x.1 true) ls=(is.map (·.1)).foldl (fun l d=>l.set d true) ls:=by
 induction is generalizing ls with
 | nil=>rfl
 | cons i r ih=>rw [List.map_cons,List.foldl_cons,List.foldl_cons];exact ih _
theorem tkm {P:Program} {ops:Array Oper} {Q:Exit→Act→World→Prop} {md:Region.Mode} {S:World→Prop} {fuel:Nat} {w:World} {ls:List Bool} {a:Act} {ts:List Value} {SU:List dC} (HU:pP md ops SU) (k:Nat) (sg:List (Nat×Nat×Nat×Option Bool)) (ha:a.tmps=ts.toArray)
 (h:wpAnyH P md ops Q S fuel (bH true ls (exI sg)).toArray { a with tmps:=(bI ts (exD sg)).toArray} w)
 (hk:Nat.beq (exI sg).length k=true:=by kernel_rfl) (hc:tyM ops SU ((jY (exI sg)).zip ((exD sg).map (·.2))) ls ts=true:=by kernel_rfl) (hd:((jY (exI sg)).map fun x=>SU[x]?.bind (·.1))=(nF (exD sg)).map (fun x=>some x.1):=by kernel_rfl) (hl:Nat.beq (exI sg).length (exD sg).length=true:=by kernel_rfl)
 (hQ:∀c a (d:Tmp) v w,Q (.panic c) (a.put (some d) v) w→Q (.panic c) a w:=by exact fun _ _ _ _ _ h=>h) (hS:S w:=by assumption):wpAnyH P md ops Q S (fuel+k) ls.toArray a w:=by
 have hk:=Nat.eq_of_beq_eq_true hk;have hl:=Nat.eq_of_beq_eq_true hl;have la:∀gs,(jY gs).length=gs.length:=by
  intro gs
  induction gs with
  | nil=>rfl
  | cons g gs ih=>rw [jY,List.length_cons,List.length_map,ih];rfl
 have lk:∀gs,(nF gs).map (·.2)=gs.map (·.2):=by
  intro gs
  induction gs with
  | nil=>rfl
  | cons g gs ih=>
    obtain ⟨g1,g2⟩:=g;rw [nF,List.map_cons,List.map_cons,List.map_map,←ih];rfl
 have z1:((jY (exI sg)).zip ((exD sg).map (·.2))).map (·.1)=jY (exI sg):=List.map_fst_zip (by rw [la,List.length_map,hl];exact Nat.le_refl _)
 have z2:((jY (exI sg)).zip ((exD sg).map (·.2))).map (·.2)=(exD sg).map (·.2):=List.map_snd_zip (by rw [la,List.length_map,hl];exact Nat.le_refl _)
 have hlen:((jY (exI sg)).zip ((exD sg).map (·.2))).length=k:=by
  have:=congrArg List.length z1;rw [List.length_map,la,hk] at this;exact this
 subst hlen;refine vH HU hQ hS _ (nF (exD sg)) ls a ts ha hc ?_ ?_ ?_
 ·rw [←hd,←z1,List.map_map];simp only [z1];rfl
 ·rw [z2,lk]
 ·rw [Ad,z1,←lS,←oF];exact h
theorem tz:(∀(a:Act) (v:Value),a.put none v=a)∧(∀(a:Act) (d:Tmp) (v:Value),a.put (some d) v = { a with tmps:=a.tmps.setIfInBounds d v})∧(∀(xs:List Oper) (i:Nat) (h:i<xs.toArray.size),xs.toArray[i]=xs[i]'(by simpa using h))∧(∀(a:Oper) (l:List Oper) (h:0<(a::l).length),(a::l)[0]=a) ∧
 (∀(a:Oper) (l:List Oper) (i:Nat) (h:i+1<(a::l).length),(a::l)[i+1]=l[i]'(by simpa using h))∧(∀(xs:List Value) (i:Nat) (a:Value),xs.toArray.setIfInBounds i a=(xs.set i a).toArray)∧(∀(xs:List Bool) (i:Nat) (a:Bool),xs.toArray.setIfInBounds i a=(xs.set i a).toArray) ∧
 (∀(x y:Value) (l:List Value),(x::l).set 0 y=y::l)∧(∀(x y:Value) (l:List Value) (n:Nat),(x::l).set (n+1) y=x::l.set n y)∧(∀(x y:Bool) (l:List Bool),(x::l).set 0 y=y::l)∧(∀(x y:Bool) (l:List Bool) (n:Nat),(x::l).set (n+1) y=x::l.set n y):=
 ⟨fun _ _=>rfl,fun _ _ _=>rfl,fun _ _ _=>rfl,fun _ _ _=>rfl,fun _ _ _ _=>rfl,fun _ _ _=>List.setIfInBounds_toArray ..,fun _ _ _=>List.setIfInBounds_toArray ..,fun _ _ _=>rfl,fun _ _ _ _=>rfl,fun _ _ _=>rfl,fun _ _ _ _=>rfl⟩
theorem rpS {α : Type} (a : α) (n:Nat):List.replicate (n+1) a=a::List.replicate n a:=List.replicate_succ
theorem rpZ {α : Type} (a : α):List.replicate 0 a = []:=rfl
theorem apC {α : Type} (a : α) (l r:List α):a::l++r=a::(l++r):=rfl
theorem apN {α : Type} (l:List α) : []++l=l:=rfl
theorem fR {P:Program} {ops:Array Oper} {Q:Exit→Act→World→Prop} {S:World→Prop} {id:Nat} {a:Act} {w:World} (HSP:Hid (∀w',Below w.heap.size w w'→S w')) (hm:P.follows .mixedOrders=true)
 (h:S w.drew→wpAnyH P .any ops Q S ops.size (Array.replicate ops.size false) a w.drew):(Code.region id ops true).wp P Q a w:=
 wp_region_held_drew (S:=S) hm (HSP.out _ (ah w.heap.size w).drew) h
theorem tk1 {P:Program} {ops:Array Oper} {Q:Exit→Act→World→Prop} {md:Region.Mode} {S:World→Prop} {oi:Oper} {fuel:Nat} {ls:List Bool} {SU:List dC} {a:Act} {w:World} (HU:pP md ops SU) (i:Nat) (ho:ops[i]? = some oi)
 (h:∀K':Act→World→Prop,Shut (∀a w,S w→(S w→wpAnyH P md ops Q S fuel (ls.toArray.setIfInBounds i true) a w)→K' a w)→if Region.wanted oi (yielded ops a.tmps)=true then Oper.wp P oi a w K' Q else K' (a.put oi.dst undef) w) (hr:xD SU ls = [i]:=by kernel_rfl):wpAnyH P md ops Q S (fuel+1) ls.toArray a w:=
 wpAnyH_ready (tkn HU hr) (by simp) (AllReadyH.cons ho h AllReadyH.nil)
end Go.Proofs.YtkpfbekmaafehaaGreat
