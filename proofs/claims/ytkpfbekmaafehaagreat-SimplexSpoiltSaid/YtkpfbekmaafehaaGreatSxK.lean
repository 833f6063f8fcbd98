/- Words for drydocklaw16.SimplexSpoilt: a solution of the call's own, one number o -/
import Derived.Test.YtkpfbekmaafehaaGreatSxP
import Derived.Test.YtkpfbekmaafehaaGreatSvJ
namespace Go.Proofs.YtkpfbekmaafehaaGreat
set_option maxRecDepth 100000
open Go.RowKit
def Sl1 (w:World) (B:Nat) (s:Sl):Prop:=s=slN\/∃g,s.A=some ⟨g,0,none⟩/\s.c=s.vs.length/\Qr w B s.A s.vs
section
variable {w w':World} {B N:Nat} {s:Sl} {S:Nat->Prop} {f:Nat->Rat}
theorem Sl1.below (h:Sl1 w B s) (hb:Below w.heap.size w w'):Sl1 w' B s:=by
 rcases h with h|⟨g,a,c,q⟩
 ·exact .inl h
 ·exact .inr ⟨g,a,c,q.below hb⟩
theorem Sl1.kp (h:Sl1 w B s) (k:Kp S w w') (nl:∀g,S g->NL w g) (hA:∀ad,s.A=some ad->¬S ad.block):Sl1 w' B s:=by
 rcases h with h|⟨g,a,c,q⟩
 ·exact .inl h
 ·exact .inr ⟨g,a,c,k.qr q nl hA⟩
theorem Sl1.ok (h:Sl1 w B s):s.ok w:=by
 rcases h with rfl|⟨g,a,c,q⟩
 ·exact ⟨fun h=>absurd h (by simp),fun v hv=>absurd hv (by simp),Nat.le_refl 0⟩
 ·exact ⟨q.fr.rd,q.ok,by rw [c];exact Nat.le_refl _⟩
theorem Sl1.lt (h:Sl1 w B s) {ad:Addr} (e:s.A=some ad):ad.block<w.heap.size:=by
 rcases h with rfl|⟨g,a,c,q⟩
 ·cases e
 ·rw [a] at e;injection e with e;subst e;rw [a] at q;exact q.lt.2
theorem Sl1.own {g:Nat} (h:Sl1 w B s) (e:s.A=some ⟨g,0,none⟩):Qr w B (some ⟨g,0,none⟩) s.vs/\s.c=s.vs.length:=by
 rcases h with rfl|⟨g',a,c,q⟩
 ·cases e
 ·rw [<-e];exact ⟨q,c⟩
theorem Sl1.adr (h:Sl1 w B s) (h0:0<s.vs.length):∃g,s.A=some ⟨g,0,none⟩:=by
 rcases h with rfl|⟨g,a,c,q⟩
 ·exact absurd h0 (by simp)
 ·exact ⟨g,a⟩
theorem Os.sl1 (h:Os w B s N f):Sl1 w B s:=by
 obtain ⟨g,hg⟩:=h.adr;exact .inr ⟨g,hg,by rw [h.cap,h.len],h.qr⟩
end
structure Sg (w:World) (B G:Nat) (s:Sn):Prop where
 X:Sl1 w B s.X
 Y:Sl1 w B s.Y
 R:Sl1 w B s.R
 v:s.v.ok w
 ap:SolA s
 yr:s.Y=slN\/s.R=slN
 sm:s.sm
 sb:Sb w G s
 fz:∀k,w.frozen? ⟨G,k,none⟩=false
 nl:NL w G
 lo:∀ad,s.X.A=some ad\/s.Y.A=some ad\/s.R.A=some ad->ad.block<G
structure Sz3 (w:World) (G:Nat) (s:Sn):Prop where
 sb:Sb w G s
 ok:s.ok w
 sm:s.sm
section
variable {w w':World} {B G g:Nat} {s:Sn} {x:Fx}
theorem Sz3.below (h:Sz3 w G s) (hb:Below w.heap.size w w'):Sz3 w' G s:=⟨h.sb.below hb,h.ok.below hb,h.sm⟩
theorem Sg.below (h:Sg w B G s) (hb:Below w.heap.size w w'):Sg w' B G s:=by
 have k:=fo (fun _=>False) hb;exact ⟨h.X.below hb,h.Y.below hb,h.R.below hb,h.v.below hb,h.ap,h.yr,h.sm,h.sb.below hb,fun o=>(k.frozen (p:=⟨G,o,none⟩) h.sb.lt (fun h=>h)).trans (h.fz o),h.nl.kp k (fun h=>h),h.lo⟩
theorem Sg.z3 (h:Sg w B G s):Sz3 w G s:=⟨h.sb,⟨h.X.ok,h.Y.ok,h.R.ok,h.v⟩,h.sm⟩
theorem sg_alloc {p:Pg} (vd:p.vd) (h:SolS w B p.rows.length p.cost.vs.length p.a p.b p.c s) (ha:SolA s):Sg (w.alloc (.cells s.cells 31)) B w.heap.size s:=by
 have bb:=(cY w s 31).2;have gd:=h.good vd;have o:Sl1 w B s.X/\Sl1 w B s.Y/\Sl1 w B s.R/\(s.Y=slN\/s.R=slN):=by
  rcases h with ⟨_,_,_,_,_,x,r,Y,_⟩|⟨_,_,_,_,_,r,X,Y,_⟩|⟨_,_,_,_,_,_,_,y,X,R,_⟩
  ·rw [x,r];exact ⟨.inl rfl,Y.sl1, .inl rfl, .inr rfl⟩
  ·rw [r];exact ⟨X.sl1,Y.sl1, .inl rfl, .inr rfl⟩
  ·rw [y];exact ⟨X.sl1, .inl rfl,R.sl1, .inl rfl⟩
 obtain ⟨oX,oY,oR,yr⟩:=o;refine ⟨oX.below bb,oY.below bb,oR.below bb,gd.ok.v.below bb,ha,yr,gd.sm,(cY w s 31).1,fun k=>by go_simp,⟨_,_,heap_alloc_new w _,fun u hu=>?_⟩,fun ad e=>?_⟩
 ·simp only [List.mem_cons,List.not_mem_nil,or_false] at hu;rcases hu with rfl|rfl|rfl|rfl|rfl|rfl|rfl <;> rfl
 ·rcases e with e|e|e
  ·exact oX.lt e
  ·exact oY.lt e
  ·exact oR.lt e
theorem Sg.kind (h:Sg w B G s) (z:Int):Sz3 (w.setCell ⟨G,0,none⟩ (.int .i64 z)) G ⟨z,s.X,s.Y,s.R,s.v⟩/\Kp (fun a=>a=G) w (w.setCell ⟨G,0,none⟩ (.int .i64 z)):=by
 have k:=rM w G 0 (.int .i64 z);have nl:∀a,a=G->NL w a:=fun a e=>by rw [e];exact h.nl
 obtain ⟨c0,c1,c2,c3,c4,c5,c6,lt⟩:=h.sb;exact ⟨⟨⟨by simp [go_sem,c0],by simp [go_sem,c1],by simp [go_sem,c2],by simp [go_sem,c3],by simp [go_sem,c4],by simp [go_sem,c5],by simp [go_sem,c6],Nat.lt_of_lt_of_le lt k.size⟩,
  ⟨(h.X.kp k nl (fun ad e e2=>by have:=h.lo ad (.inl e);omega)).ok,(h.Y.kp k nl (fun ad e e2=>by have:=h.lo ad (.inr (.inl e));omega)).ok,(h.R.kp k nl (fun ad e e2=>by have:=h.lo ad (.inr (.inr e));omega)).ok,k.ok h.v nl⟩,
  ⟨h.sm.lX,h.sm.lY,h.sm.lR,h.sm.eX,h.sm.eY,h.sm.eR,h.sm.ev⟩⟩,k⟩
theorem Sg.val (h:Sg w B G s) (hx:x.ok w) (hl:x.xs.length<=10000/\x.ys.length<=10000):Sz3 (((w.setCell ⟨G,4,none⟩ (.bool x.b)).setCell ⟨G,5,none⟩ (.slice x.A x.xs.length x.c)).setCell ⟨G,6,none⟩ (.slice x.D x.ys.length x.d)) G ⟨s.kind,s.X,s.Y,s.R,x⟩ /\
 Kp (fun a=>a=G) w (((w.setCell ⟨G,4,none⟩ (.bool x.b)).setCell ⟨G,5,none⟩ (.slice x.A x.xs.length x.c)).setCell ⟨G,6,none⟩ (.slice x.D x.ys.length x.d)):=by
 have k:Kp (fun a=>a=G) w (((w.setCell ⟨G,4,none⟩ (.bool x.b)).setCell ⟨G,5,none⟩ (.slice x.A x.xs.length x.c)).setCell ⟨G,6,none⟩ (.slice x.D x.ys.length x.d)):=
  (Kp.refl (fun a=>a=G) w).set3 (S:=fun a=>a=G) rfl _ _ _ _ _ _
 have nl:∀a,a=G->NL w a:=fun a e=>by rw [e];exact h.nl
 obtain ⟨c0,c1,c2,c3,c4,c5,c6,lt⟩:=h.sb;exact ⟨⟨⟨by simp [go_sem,c0],by simp [go_sem,c1],by simp [go_sem,c2],by simp [go_sem,c3],by simp [go_sem,c4],by simp [go_sem,c5],by simp [go_sem,c6],Nat.lt_of_lt_of_le lt k.size⟩,
  ⟨(h.X.kp k nl (fun ad e e2=>by have:=h.lo ad (.inl e);omega)).ok,(h.Y.kp k nl (fun ad e e2=>by have:=h.lo ad (.inr (.inl e));omega)).ok,(h.R.kp k nl (fun ad e e2=>by have:=h.lo ad (.inr (.inr e));omega)).ok,k.ok hx nl⟩,
  ⟨h.sm.lX,h.sm.lY,h.sm.lR,h.sm.eX,h.sm.eY,h.sm.eR,hl⟩⟩,k⟩
theorem Sg.ray (h:Sg w B G s) (hr:RdF w (some ⟨g,0,none⟩) [x]) (hx:x.ok w) (hl:x.xs.length<=10000/\x.ys.length<=10000) (hg:g≠G):Sz3 (w.setCell ⟨G,3,none⟩ (.slice (some ⟨g,0,none⟩) 1 1)) G ⟨s.kind,s.X,s.Y,⟨some ⟨g,0,none⟩,1,[x]⟩,s.v⟩ /\
 Kp (fun a=>a=G) w (w.setCell ⟨G,3,none⟩ (.slice (some ⟨g,0,none⟩) 1 1)):=by
 have k:=rM w G 3 (.slice (some ⟨g,0,none⟩) 1 1);have nl:∀a,a=G->NL w a:=fun a e=>by rw [e];exact h.nl
 obtain ⟨c0,c1,c2,c3,c4,c5,c6,lt⟩:=h.sb;exact ⟨⟨⟨by simp [go_sem,c0],by simp [go_sem,c1],by simp [go_sem,c2],by simp [go_sem,c3],by simp [go_sem,c4],by simp [go_sem,c5],by simp [go_sem,c6],Nat.lt_of_lt_of_le lt k.size⟩,
  ⟨(h.X.kp k nl (fun ad e e2=>by have:=h.lo ad (.inl e);omega)).ok,(h.Y.kp k nl (fun ad e e2=>by have:=h.lo ad (.inr (.inl e));omega)).ok,
    ⟨k.rdf hr (fun _ ad e=>by injection e with e;subst e;exact hg),fun v hv=>by rw [List.mem_singleton] at hv;rw [hv];exact k.ok hx nl,Nat.le_refl 1⟩,k.ok h.v nl⟩,
  ⟨h.sm.lX,h.sm.lY,by simp,h.sm.eX,h.sm.eY,fun v hv=>by rw [List.mem_singleton] at hv;rw [hv];exact hl,h.sm.ev⟩⟩,k⟩
theorem set_lens {vs:List Fx} (h:∀v∈vs,v.xs.length<=10000/\v.ys.length<=10000) (hl:x.xs.length<=10000/\x.ys.length<=10000) (i:Nat):∀v∈vs.set i x,v.xs.length<=10000/\v.ys.length<=10000:=fun v hv=>by
 rcases List.mem_or_eq_of_mem_set hv with h1|h1
 ·exact h v h1
 ·rw [h1];exact hl
theorem Sl1.put {t:Sl} (h:Sl1 w B t) (e:t.A=some ⟨g,0,none⟩) (hx:x.ok w) (i:Nat):Sl.ok ⟨t.A,t.c,t.vs.set i x⟩ (((w.setCell ⟨g,i*3,none⟩ (.bool x.b)).setCell ⟨g,i*3+1,none⟩ (.slice x.A x.xs.length x.c)).setCell ⟨g,i*3+2,none⟩ (.slice x.D x.ys.length x.d)) /\
 (∀a,a=g->NL w a)/\Kp (fun a=>a=g) w (((w.setCell ⟨g,i*3,none⟩ (.bool x.b)).setCell ⟨g,i*3+1,none⟩ (.slice x.A x.xs.length x.c)).setCell ⟨g,i*3+2,none⟩ (.slice x.D x.ys.length x.d)):=by
 obtain ⟨q,c⟩:=h.own e;have q2:=q.put i hx;exact ⟨⟨by rw [e];exact q2.fr.rd,q2.ok,by rw [List.length_set,c];exact Nat.le_refl _⟩,fun a ea=>by rw [ea];exact q.nl,(Kp.refl (fun a=>a=g) w).set3 (S:=fun a=>a=g) rfl _ _ _ _ _ _⟩
theorem Sg.putX (h:Sg w B G s) (e:s.X.A=some ⟨g,0,none⟩) (hx:x.ok w) (hl:x.xs.length<=10000/\x.ys.length<=10000) (i:Nat):Sz3 (((w.setCell ⟨g,i*3,none⟩ (.bool x.b)).setCell ⟨g,i*3+1,none⟩ (.slice x.A x.xs.length x.c)).setCell ⟨g,i*3+2,none⟩ (.slice x.D x.ys.length x.d)) G ⟨s.kind,⟨s.X.A,s.X.c,s.X.vs.set i x⟩,s.Y,s.R,s.v⟩ /\
 Kp (fun a=>a=g) w (((w.setCell ⟨g,i*3,none⟩ (.bool x.b)).setCell ⟨g,i*3+1,none⟩ (.slice x.A x.xs.length x.c)).setCell ⟨g,i*3+2,none⟩ (.slice x.D x.ys.length x.d)):=by
 obtain ⟨ok,nl,k⟩:=h.X.put e hx i;have b:=h.sb.kp k (fun e2=>by have:=h.lo _ (.inl e);simp at this;omega)
 obtain ⟨c0,c1,c2,c3,c4,c5,c6,lt⟩:=b;exact ⟨⟨⟨c0,by rw [c1];show some (Value.slice _ _ _)=some (Value.slice _ (s.X.vs.set i x).length _);rw [List.length_set],c2,c3,c4,c5,c6,lt⟩,
  ⟨ok,(h.Y.kp k nl (fun ad e1 e2=>h.ap _ ad e (.inl e1) e2.symm)).ok,(h.R.kp k nl (fun ad e1 e2=>h.ap _ ad e (.inr e1) e2.symm)).ok,k.ok h.v nl⟩,
  ⟨by show (s.X.vs.set i x).length<=1000;rw [List.length_set];exact h.sm.lX,h.sm.lY,h.sm.lR,set_lens h.sm.eX hl i,h.sm.eY,h.sm.eR,h.sm.ev⟩⟩,k⟩
theorem Sg.putY (h:Sg w B G s) (e:s.Y.A=some ⟨g,0,none⟩) (hx:x.ok w) (hl:x.xs.length<=10000/\x.ys.length<=10000) (i:Nat):Sz3 (((w.setCell ⟨g,i*3,none⟩ (.bool x.b)).setCell ⟨g,i*3+1,none⟩ (.slice x.A x.xs.length x.c)).setCell ⟨g,i*3+2,none⟩ (.slice x.D x.ys.length x.d)) G ⟨s.kind,s.X,⟨s.Y.A,s.Y.c,s.Y.vs.set i x⟩,s.R,s.v⟩ /\
 Kp (fun a=>a=g) w (((w.setCell ⟨g,i*3,none⟩ (.bool x.b)).setCell ⟨g,i*3+1,none⟩ (.slice x.A x.xs.length x.c)).setCell ⟨g,i*3+2,none⟩ (.slice x.D x.ys.length x.d)):=by
 obtain ⟨ok,nl,k⟩:=h.Y.put e hx i;have b:=h.sb.kp k (fun e2=>by have:=h.lo _ (.inr (.inl e));simp at this;omega)
 have hR:∀ad,s.R.A=some ad->¬ad.block=g:=fun ad e1 _=>by
  rcases h.yr with e3|e3
  ·rw [e3] at e;cases e
  ·rw [e3] at e1;cases e1
 obtain ⟨c0,c1,c2,c3,c4,c5,c6,lt⟩:=b;exact ⟨⟨⟨c0,c1,by rw [c2];show some (Value.slice _ _ _)=some (Value.slice _ (s.Y.vs.set i x).length _);rw [List.length_set],c3,c4,c5,c6,lt⟩,
  ⟨(h.X.kp k nl (fun ad e1 e2=>h.ap ad _ e1 (.inl e) e2)).ok,ok,(h.R.kp k nl hR).ok,k.ok h.v nl⟩,
  ⟨h.sm.lX,by show (s.Y.vs.set i x).length<=1000;rw [List.length_set];exact h.sm.lY,h.sm.lR,h.sm.eX,set_lens h.sm.eY hl i,h.sm.eR,h.sm.ev⟩⟩,k⟩
theorem Sg.putR (h:Sg w B G s) (e:s.R.A=some ⟨g,0,none⟩) (hx:x.ok w) (hl:x.xs.length<=10000/\x.ys.length<=10000) (i:Nat):Sz3 (((w.setCell ⟨g,i*3,none⟩ (.bool x.b)).setCell ⟨g,i*3+1,none⟩ (.slice x.A x.xs.length x.c)).setCell ⟨g,i*3+2,none⟩ (.slice x.D x.ys.length x.d)) G ⟨s.kind,s.X,s.Y,⟨s.R.A,s.R.c,s.R.vs.set i x⟩,s.v⟩ /\
 Kp (fun a=>a=g) w (((w.setCell ⟨g,i*3,none⟩ (.bool x.b)).setCell ⟨g,i*3+1,none⟩ (.slice x.A x.xs.length x.c)).setCell ⟨g,i*3+2,none⟩ (.slice x.D x.ys.length x.d)):=by
 obtain ⟨ok,nl,k⟩:=h.R.put e hx i;have b:=h.sb.kp k (fun e2=>by have:=h.lo _ (.inr (.inr e));simp at this;omega)
 have hY:∀ad,s.Y.A=some ad->¬ad.block=g:=fun ad e1 _=>by
  rcases h.yr with e3|e3
  ·rw [e3] at e1;cases e1
  ·rw [e3] at e;cases e
 obtain ⟨c0,c1,c2,c3,c4,c5,c6,lt⟩:=b;exact ⟨⟨⟨c0,c1,c2,by rw [c3];show some (Value.slice _ _ _)=some (Value.slice _ (s.R.vs.set i x).length _);rw [List.length_set],c4,c5,c6,lt⟩,
  ⟨(h.X.kp k nl (fun ad e1 e2=>h.ap ad _ e1 (.inr e) e2)).ok,(h.Y.kp k nl hY).ok,ok,k.ok h.v nl⟩,
  ⟨h.sm.lX,h.sm.lY,by show (s.R.vs.set i x).length<=1000;rw [List.length_set];exact h.sm.lR,h.sm.eX,h.sm.eY,set_lens h.sm.eR hl i,h.sm.ev⟩⟩,k⟩
end
end Go.Proofs.YtkpfbekmaafehaaGreat
