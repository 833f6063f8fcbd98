/- Words for lists of whole numbers and of flows in memory. No function of the program in sight. Words for the walks of fairshare: rows of fractions that are stored into. -/
import Derived.Test.YthdfflbhogfejaaBase
import Derived.Test.YthdfflbhogfejaaUnT
import Derived.OwnWalk
import Derived.KernelRfl
import Derived.Deep.CutBlock
import Derived.Deep.DeepCutAuto
import Derived.Test.YthdfflbhogfejaaLwD
import Derived.Test.YthdfflbhogfejaaFrD
import Derived.Test.YthdfflbhogfejaaFrG
import Derived.Test.YthdfflbhogfejaaFrE
import Derived.Laws.MakeOwn
namespace Go.Proofs.Ythdfflbhogfejaa
open Go.RowKit

set_option maxRecDepth 100000 in
theorem size_alloc (w : World) (o : Obj) : (w.alloc o).heap.size = w.heap.size + 1 := by simp
set_option maxRecDepth 100000 in
theorem add_at0 (a : Addr) : a.add 0 = a := by unfold Addr.add; simp
set_option maxRecDepth 100000 in
theorem add_at1 (a : Addr) (j : Nat) : a.add (j + 1) = ⟨a.block, a.off + (j + 1), none⟩ := by unfold Addr.add; simp
/-- the value of a whole number -/
abbrev iv (z : Int) : Value := .int .i64 z
/-- a slice of whole numbers -/
structure Is (w : World) (A : Option Addr) (c : Nat) (xs : List Int) : Prop where
  cap : xs.length ≤ c
  max : c ≤ 9223372036854775807
  rd : Rd iv w A xs
  wf : ∀ x ∈ xs, -9223372036854775808 ≤ x ∧ x ≤ 9223372036854775807
section
variable {w w' : World} {A : Option Addr} {c : Nat} {xs : List Int}
set_option maxRecDepth 100000 in
theorem Is.below (h : Is w A c xs) (hb : Below w.heap.size w w') : Is w' A c xs := ⟨h.cap, h.max, h.rd.below hb rfl, h.wf⟩
set_option maxRecDepth 100000 in
theorem Is.at (h : Is w A c xs) (k : Nat) (hk : k < xs.length) : ∃ ad, A = some ad ∧ ad.block < w.heap.size ∧ w.cell? (ad.add k) = some (.int .i64 xs[k]) := by
  obtain ⟨ad, e, hl, hc⟩ := h.rd (by omega)
  exact ⟨ad, e, hl, hc k hk⟩
set_option maxRecDepth 100000 in
theorem Is.len (h : Is w A c xs) : xs.length ≤ 9223372036854775807 := Nat.le_trans h.cap h.max
set_option maxRecDepth 100000 in
theorem Is.nil (w : World) (A : Option Addr) (c : Nat) (hc : c ≤ 9223372036854775807) : Is w A c [] := ⟨by simp, hc, Rd.nil, by simp⟩
set_option maxRecDepth 100000 in
theorem Is.grown {row : Option Nat} (h : Is w A c xs) (hg : w.grownBy w' row) (hne : 0 < xs.length → ∀ ad, A = some ad → some ad.block ≠ row) : Is w' A c xs := ⟨h.cap, h.max, h.rd.grown hg hne, h.wf⟩
end
set_option maxRecDepth 100000 in
theorem Gr.is {w : World} {B c : Nat} {e : TypeId} {A : Option Addr} {xs : List Int} (h : Gr iv e w B A c xs) (hw : ∀ x ∈ xs, -9223372036854775808 ≤ x ∧ x ≤ 9223372036854775807) : Is w A c xs :=
  ⟨h.form.1, by have := h.form.2.1; unfold maxLen at this; omega, h.rd, hw⟩

/-- a flow: where its links lie, and its limit -/
structure Fm where
  A : Option Addr
  c : Nat
  ls : List Int
  m : Int
abbrev Fm.val (x : Fm) : Value := .agg #[.slice x.A x.ls.length x.c, .int .i64 x.m]
abbrev Fm.cells (x : Fm) : Array Value := #[.slice x.A x.ls.length x.c, .int .i64 x.m]
abbrev Fm.fl (x : Fm) : Fl := (x.ls, x.m)
structure Fm.ok (x : Fm) (w : World) : Prop where
  is : Is w x.A x.c x.ls
  wf : -9223372036854775808 ≤ x.m ∧ x.m ≤ 9223372036854775807
set_option maxRecDepth 100000 in
theorem Fm.ok.below {x : Fm} {w w' : World} (h : x.ok w) (hb : Below w.heap.size w w') : x.ok w' := ⟨h.is.below hb, h.wf⟩
/-- a slice that reads as flows -/
def RdW (w : World) (A : Option Addr) (fs : List Fm) : Prop := 0 < fs.length → ∃ ad, A = some ad ∧ ad.block < w.heap.size ∧
  ∀ k (hk : k < fs.length), w.cell? (ad.add (k * 2)) = some (.slice fs[k].A fs[k].ls.length fs[k].c) ∧ w.cell? ⟨(ad.add (k * 2)).block, (ad.add (k * 2)).off + 1, none⟩ = some (.int .i64 fs[k].m)
set_option maxRecDepth 100000 in
theorem RdW.below {w w' : World} {A : Option Addr} {fs : List Fm} (h : RdW w A fs) (hb : Below w.heap.size w w') : RdW w' A fs := fun hn => by
  obtain ⟨ad, e, hl, hc⟩ := h hn
  refine ⟨ad, e, Nat.lt_of_lt_of_le hl hb.size, fun k hk => ?_⟩
  obtain ⟨h0, h1⟩ := hc k hk
  have e2 : (ad.add (k * 2)).block = ad.block := block_of_add _ _
  exact ⟨(hb.cell (p := ad.add (k * 2)) (by rw [e2]; exact hl)).trans h0, (hb.cell (p := ⟨(ad.add (k * 2)).block, (ad.add (k * 2)).off + 1, none⟩) (by show (ad.add (k * 2)).block < _; rw [e2]; exact hl)).trans h1⟩
/-- a list of flows in memory -/
structure Ws (w : World) (A : Option Addr) (c : Nat) (fs : List Fm) : Prop where
  cap : fs.length ≤ c
  max : c ≤ 9223372036854775807
  rd : RdW w A fs
  ok : ∀ x ∈ fs, x.ok w
set_option maxRecDepth 100000 in
theorem Ws.below {w w' : World} {A : Option Addr} {c : Nat} {fs : List Fm} (h : Ws w A c fs) (hb : Below w.heap.size w w') : Ws w' A c fs := ⟨h.cap, h.max, h.rd.below hb, fun x hx => (h.ok x hx).below hb⟩
/-- a block of two cells: a flow -/
structure Fb (w : World) (G : Nat) (x : Fm) : Prop where
  c0 : w.cell? ⟨G, 0, none⟩ = some (.slice x.A x.ls.length x.c)
  c1 : w.cell? ⟨G, 1, none⟩ = some (.int .i64 x.m)
  f0 : w.frozen? ⟨G, 0, none⟩ = false
  f1 : w.frozen? ⟨G, 1, none⟩ = false
  lt : G < w.heap.size
set_option maxRecDepth 100000 in
theorem Fb.below {w w' : World} {G : Nat} {x : Fm} (h : Fb w G x) (hb : Below w.heap.size w w') : Fb w' G x :=
  ⟨(hb.cell (p := ⟨G, 0, none⟩) h.lt).trans h.c0, (hb.cell (p := ⟨G, 1, none⟩) h.lt).trans h.c1, (hb.frozen (p := ⟨G, 0, none⟩) h.lt).trans h.f0, (hb.frozen (p := ⟨G, 1, none⟩) h.lt).trans h.f1, Nat.lt_of_lt_of_le h.lt hb.size⟩
set_option maxRecDepth 100000 in
theorem Fb.grown {w w' : World} {G : Nat} {x : Fm} {row : Option Nat} (h : Fb w G x) (hg : w.grownBy w' row) (hne : some G ≠ row) : Fb w' G x := by
  have hb : w'.heap[G]? = w.heap[G]? := hg.block G h.lt hne
  refine ⟨hg.cell h.c0 hne, hg.cell h.c1 hne, ?_, ?_, Nat.lt_of_lt_of_le h.lt hg.size⟩
  · rw [← h.f0]; unfold World.frozen?; rw [hb]
  · rw [← h.f1]; unfold World.frozen?; rw [hb]
set_option maxRecDepth 100000 in
theorem fb_alloc (w : World) (x : Fm) (e : TypeId) : Fb (w.alloc (.cells x.cells e)) w.heap.size x ∧ Below w.heap.size w (w.alloc (.cells x.cells e)) :=
  ⟨⟨by go_simp, by go_simp, by go_simp, by go_simp, by simp⟩, (Below.refl _ _).alloc (Nat.le_refl _) _⟩

/-- the links of a flow that may be -/
def LinksOk (n : Nat) (ls : List Int) : Prop := ∀ i (h : i < ls.length), 0 ≤ ls[i] ∧ ls[i] < n ∧ (∀ h0 : 0 < i, ls[i - 1] < ls[i])
instance (n : Nat) (ls : List Int) : Decidable (LinksOk n ls) := inferInstanceAs (Decidable (∀ i (h : i < ls.length), 0 ≤ ls[i] ∧ ls[i] < n ∧ (∀ h0 : 0 < i, ls[i - 1] < ls[i])))
def validFl (caps : List Int) (fs : List Fl) : Prop := caps.length ≤ 64 ∧ fs.length ≤ 48 ∧ (∀ c ∈ caps, 0 ≤ c ∧ c ≤ 4096) ∧ (∀ f ∈ fs, 0 ≤ f.2 ∧ f.2 ≤ 4096 ∧ LinksOk caps.length f.1)
instance (caps : List Int) (fs : List Fl) : Decidable (validFl caps fs) := inferInstanceAs (Decidable (_ ∧ _ ∧ _ ∧ _))
set_option maxRecDepth 100000 in
theorem LinksOk.lt {n : Nat} {ls : List Int} (h : LinksOk n ls) : ∀ (j i : Nat) (hj : j < ls.length) (hi : i < j), ls[i] < ls[j] := by
  intro j
  induction j with
  | zero => intro i _ hi; omega
  | succ j ih =>
    intro i hj hi
    have h1 := (h (j + 1) hj).2.2 (by omega)
    simp only [Nat.add_sub_cancel] at h1
    rcases Nat.lt_or_ge i j with h2 | h2
    · have := ih i (by omega) h2; omega
    · have : i = j := by omega
      subst this; exact h1
set_option maxRecDepth 100000 in
theorem LinksOk.nodup {n : Nat} {ls : List Int} (h : LinksOk n ls) : ls.Nodup := by
  rw [List.nodup_iff_pairwise_ne, List.pairwise_iff_getElem]
  intro i j hi hj hij e
  have := h.lt j i hj hij
  omega
set_option maxRecDepth 100000 in
theorem LinksOk.count {n : Nat} {ls : List Int} (h : LinksOk n ls) (e : Int) : ls.count e ≤ 1 := List.nodup_iff_count.1 h.nodup e
set_option maxRecDepth 100000 in
theorem LinksOk.mem {n : Nat} {ls : List Int} (h : LinksOk n ls) {e : Int} (he : e ∈ ls) : 0 ≤ e ∧ e < n := by
  obtain ⟨i, hi, rfl⟩ := List.getElem_of_mem he
  exact ⟨(h i hi).1, (h i hi).2.1⟩
/-- the capacity of a link -/
def cpF (caps : List Int) (e : Int) : Int := caps.getD e.toNat 0
set_option maxRecDepth 100000 in
theorem lkA_get {l : List Fl} {i : Nat} (h : i < l.length) : lkA l i = l[i].1 := by rw [lkA, getD_lt _ _ _ h]
set_option maxRecDepth 100000 in
theorem lmA_get {l : List Fl} {i : Nat} (h : i < l.length) : lmA l i = l[i].2 := by rw [lmA, getD_lt _ _ _ h]
set_option maxRecDepth 100000 in
theorem validFl.ok {caps : List Int} {fs : List Fl} (h : validFl caps fs) : okFl (cpF caps) fs := by
  refine ⟨fun i hi e => ?_, fun j hj => ?_⟩
  · rw [lkA_get hi]; exact (h.2.2.2 _ (List.getElem_mem hi)).2.2.count e
  · have h1 := h.2.2.2 _ (List.getElem_mem hj)
    rw [lmA_get hj, lkA_get hj]
    refine ⟨h1.1, h1.2.1, fun e he => ?_⟩
    have := h1.2.2.mem he
    rw [cpF, getD_lt _ _ _ (by omega)]
    exact (h.2.2.1 _ (List.getElem_mem _)).1
set_option maxRecDepth 100000 in
theorem int_info : (Try.prog.info? 3).map (fun i => (i.zero, i.size, i.bytes)) = some (some (iv 0), 1, 8) := by kernel_rfl
set_option maxRecDepth 100000 in
theorem bool_info : (Try.prog.info? 4).map (fun i => (i.zero, i.size, i.bytes)) = some (some (.bool false), 1, 1) := by kernel_rfl
end Go.Proofs.Ythdfflbhogfejaa
namespace Go.Proofs.Ythdfflbhogfejaa
open Go.RowKit

set_option maxRecDepth 100000 in
theorem fcells_set (vs : List Fx) (x : Fx) : ∀ i, (((fcells vs).set (i * 3) (.bool x.b)).set (i * 3 + 1) (.slice x.A x.xs.length x.c)).set (i * 3 + 2) (.slice x.D x.ys.length x.d) = fcells (vs.set i x) := by
  induction vs with
  | nil => intro i; simp [fcells]
  | cons v vs ih =>
    intro i
    cases i with
    | zero => simp [fcells]
    | succ i =>
      have e : (i + 1) * 3 = i * 3 + 1 + 1 + 1 := by omega
      rw [fcells, e]
      simp only [List.set_cons_succ, fcells]
      rw [ih i]
set_option maxRecDepth 100000 in
theorem frac_info3 : (Try.prog.info? 41).map (fun i => (i.zero, i.size, i.bytes)) = some (some Fx.nil.val, 3, 56) := by kernel_rfl
set_option maxRecDepth 100000 in
theorem make3_cells (n : Nat) : (madeCells Fx.nil.val.cells (n * 3)).toList = fcells (List.replicate n Fx.nil) := by
  apply List.ext_getElem?
  intro i
  rw [Array.getElem?_toList]
  simp only [madeCells, Array.getElem?_map]
  rcases Nat.lt_or_ge i (n * 3) with h | h
  · have hk : i / 3 < (List.replicate n Fx.nil).length := by simp; omega
    obtain ⟨h0, h1, h2⟩ := fcells_get (List.replicate n Fx.nil) (i / 3) hk
    rcases (show i % 3 = 0 ∨ i % 3 = 1 ∨ i % 3 = 2 by omega) with e | e | e
    · have ei : i = i / 3 * 3 := by omega
      rw [← ei] at h0
      rw [h0]
      simp [h, Value.cells, e]
    · have ei : i = i / 3 * 3 + 1 := by omega
      rw [← ei] at h1
      rw [h1]
      simp [h, Value.cells, e]
    · have ei : i = i / 3 * 3 + 2 := by omega
      rw [← ei] at h2
      rw [h2]
      simp [h, Value.cells, e]
  · rw [List.getElem?_eq_none (by rw [fcells_len]; simp; omega)]
    simp [h]
section
variable {w w' : World} {B g H : Nat} {A : Option Addr} {c : Nat} {vs : List Fx}
set_option maxRecDepth 100000 in
theorem Fr.noI (h : Fr w B A vs.length vs) : NoI w A := fun k hk => by
  rcases h.2 with ⟨hv, _⟩ | ⟨g, cap, cur, hv, _, hg, _, _, hcs, ht⟩
  · simp only [Value.slice.injEq] at hv
    obtain ⟨rfl, _, _⟩ := hv
    cases hk
  · simp only [Value.slice.injEq] at hv
    obtain ⟨rfl, _, rfl⟩ := hv
    simp at hk
    subst hk
    refine ⟨cur, _, hg, fun u hu => noInt_fcells vs u ?_⟩
    rw [← ht, List.take_of_length_le (by simp [hcs])]
    exact hu
set_option maxRecDepth 100000 in
theorem Fr.kept {row : Option Nat} (h : Fr w B A c vs) (hg : w.grownBy w' row) (hne : ∀ ad, A = some ad → some ad.block ≠ row) : Fr w' B A c vs :=
  World.ownsRow.kept h hg (by
    cases A with
    | none => exact .inl rfl
    | some ad => exact .inr (hne ad rfl))
set_option maxRecDepth 100000 in
theorem grownBy_set1 (w : World) (p : Addr) (u : Value) : w.grownBy (w.setCell p u) (some p.block) :=
  ⟨rfl, rfl, rfl, by simp [World.setCell], fun k _ hne => Below.heap_setCell _ _ _ _ (fun e => hne (by rw [e]))⟩
set_option maxRecDepth 100000 in
theorem Fr.far (h : Fr w B A c vs) {p : Addr} (hp : ∀ ad, A = some ad → ad.block ≠ p.block) (u : Value) : Fr (w.setCell p u) B A c vs :=
  h.kept (grownBy_set1 w p u) (fun ad e he => hp ad e (Option.some.inj he))
set_option maxRecDepth 100000 in
theorem Fr.free (h : Fr w B (some ⟨g, 0, none⟩) c vs) (k : Nat) : w.frozen? ⟨g, k, none⟩ = false := World.ownsRow.frozenAt h k
set_option maxRecDepth 100000 in
theorem Fr.put (h : Fr w B (some ⟨g, 0, none⟩) c vs) (i : Nat) (x : Fx) : Fr (((w.setCell ⟨g, i * 3, none⟩ (.bool x.b)).setCell ⟨g, i * 3 + 1, none⟩ (.slice x.A x.xs.length x.c)).setCell ⟨g, i * 3 + 2, none⟩ (.slice x.D x.ys.length x.d)) B (some ⟨g, 0, none⟩) c (vs.set i x) := by
  have h1 := (World.ownsRow.stored h (i * 3) (.bool x.b)).1
  have h2 := (World.ownsRow.stored h1 (i * 3 + 1) (.slice x.A x.xs.length x.c)).1
  have h3 := (World.ownsRow.stored h2 (i * 3 + 2) (.slice x.D x.ys.length x.d)).1
  unfold Fr
  rw [List.length_set, ← fcells_set]
  exact h3
/-- a block that holds no limb -/
def NI (w : World) (G : Nat) : Prop := ∃ cur t fr, w.heap[G]? = some (.cells cur t fr) ∧ noInt cur
set_option maxRecDepth 100000 in
theorem NI.lt {G : Nat} (h : NI w G) : G < w.heap.size := by
  obtain ⟨_, _, _, e, _⟩ := h
  exact (Array.getElem?_eq_some_iff.1 e).1
set_option maxRecDepth 100000 in
theorem Nt.sepN {A : Option Addr} {c : Nat} {xs : List Nat} {G : Nat} (h : Nt w A c xs) (bk : NI w G) (hx : 0 < xs.length) : ∀ ad, A = some ad → ad.block ≠ G := fun ad e hG => by
  obtain ⟨ad', e', _, hc, _⟩ := h.at 0 hx
  rw [e] at e'
  injection e' with e'
  subst e'
  obtain ⟨cur, t, fr, hblk, hn⟩ := bk
  have hb0 : (ad.add 0).block = G := by rw [block_of_add]; exact hG
  unfold World.cell? at hc
  rw [hb0, hblk] at hc
  simp only at hc
  split at hc
  · cases hc
  · have hm := Array.mem_of_getElem? hc
    have := hn (.int .u32 (xs[0] : Int)) (by simpa using hm)
    simp [isInt] at this
set_option maxRecDepth 100000 in
theorem Fx.ok.putN {x : Fx} {G : Nat} (h : x.ok w) (bk : NI w G) (k : Nat) (u : Value) : x.ok (w.setCell ⟨G, k, none⟩ u) := by
  constructor
  · rcases Nat.eq_zero_or_pos x.xs.length with h0 | h0
    · exact h.num.nil_any h0 _
    · exact nt_far h.num (h.num.sepN bk h0) _
  · rcases Nat.eq_zero_or_pos x.ys.length with h0 | h0
    · exact h.den.nil_any h0 _
    · exact nt_far h.den (h.den.sepN bk h0) _
set_option maxRecDepth 100000 in
/-- three stores into one block -/
theorem q3_ok {x : Fx} {i j k : Nat} {v0 v1 v2 : Value} (h : x.ok w) (bk : NI w g) : x.ok (((w.setCell ⟨g, i, none⟩ v0).setCell ⟨g, j, none⟩ v1).setCell ⟨g, k, none⟩ v2) := by
  constructor
  · rcases Nat.eq_zero_or_pos x.xs.length with h0 | h0
    · exact h.num.nil_any h0 _
    · have hs := h.num.sepN bk h0
      exact nt_far (nt_far (nt_far h.num hs _) hs _) hs _
  · rcases Nat.eq_zero_or_pos x.ys.length with h0 | h0
    · exact h.den.nil_any h0 _
    · have hs := h.den.sepN bk h0
      exact nt_far (nt_far (nt_far h.den hs _) hs _) hs _
set_option maxRecDepth 100000 in
theorem q3_below {wc : World} {i j k : Nat} {v0 v1 v2 : Value} (h : Below B w wc) (hG : B ≤ g) : Below B w (((wc.setCell ⟨g, i, none⟩ v0).setCell ⟨g, j, none⟩ v1).setCell ⟨g, k, none⟩ v2) :=
  ((h.setCell (p := ⟨g, i, none⟩) hG _).setCell (p := ⟨g, j, none⟩) hG _).setCell (p := ⟨g, k, none⟩) hG _
set_option maxRecDepth 100000 in
theorem q3_heap {i j k : Nat} {v0 v1 v2 : Value} (hne : g ≠ H) : (((w.setCell ⟨g, i, none⟩ v0).setCell ⟨g, j, none⟩ v1).setCell ⟨g, k, none⟩ v2).heap[H]? = w.heap[H]? := by
  rw [heap_setCell_other _ _ _ _ (by exact fun e => hne e.symm), heap_setCell_other _ _ _ _ (by exact fun e => hne e.symm), heap_setCell_other _ _ _ _ (by exact fun e => hne e.symm)]
set_option maxRecDepth 100000 in
theorem Bk3.farQ {i j k : Nat} {v0 v1 v2 a b c : Value} (h : Bk3 w H a b c) (hne : g ≠ H) : Bk3 (((w.setCell ⟨g, i, none⟩ v0).setCell ⟨g, j, none⟩ v1).setCell ⟨g, k, none⟩ v2) H a b c := by
  have hg := q3_heap (w := w) (i := i) (j := j) (k := k) (v0 := v0) (v1 := v1) (v2 := v2) hne
  have hc : ∀ o, (((w.setCell ⟨g, i, none⟩ v0).setCell ⟨g, j, none⟩ v1).setCell ⟨g, k, none⟩ v2).cell? ⟨H, o, none⟩ = w.cell? ⟨H, o, none⟩ := fun o => by unfold World.cell?; rw [hg]
  have hf : ∀ o, (((w.setCell ⟨g, i, none⟩ v0).setCell ⟨g, j, none⟩ v1).setCell ⟨g, k, none⟩ v2).frozen? ⟨H, o, none⟩ = w.frozen? ⟨H, o, none⟩ := fun o => by unfold World.frozen?; rw [hg]
  exact ⟨(hc 0).trans h.c0, (hc 1).trans h.c1, (hc 2).trans h.c2, (hf 0).trans h.f0, (hf 1).trans h.f1, (hf 2).trans h.f2, by simp [World.setCell]; exact h.lt, by rw [hg]; exact h.blk⟩
set_option maxRecDepth 100000 in
theorem Fa.farQ {x : Fx} {i j k : Nat} {v0 v1 v2 : Value} (h : Fa w H x) (bk : NI w g) (hne : g ≠ H) : Fa (((w.setCell ⟨g, i, none⟩ v0).setCell ⟨g, j, none⟩ v1).setCell ⟨g, k, none⟩ v2) H x :=
  ⟨h.bk.farQ hne, q3_ok h.ok bk⟩
/-- a row of fractions of the call's own, all of it in use; the numbers lie elsewhere -/
structure Qr (w : World) (B : Nat) (A : Option Addr) (vs : List Fx) : Prop where
  fr : Fr w B A vs.length vs
  ok : ∀ v ∈ vs, v.ok w
set_option maxRecDepth 100000 in
theorem Qr.below (h : Qr w B A vs) (hb : Below w.heap.size w w') : Qr w' B A vs := ⟨h.fr.below hb, fun v hv => (h.ok v hv).below hb⟩
set_option maxRecDepth 100000 in
theorem Qr.blk (h : Qr w B (some ⟨g, 0, none⟩) vs) : NI w g := by
  obtain ⟨cur, t, e, hn⟩ := h.fr.noI g rfl
  exact ⟨cur, t, _, e, hn⟩
set_option maxRecDepth 100000 in
theorem Qr.lt (h : Qr w B (some ⟨g, 0, none⟩) vs) : B ≤ g ∧ g < w.heap.size := h.fr.lt g rfl
set_option maxRecDepth 100000 in
theorem Qr.put (h : Qr w B (some ⟨g, 0, none⟩) vs) (i : Nat) {x : Fx} (hx : x.ok w) : Qr (((w.setCell ⟨g, i * 3, none⟩ (.bool x.b)).setCell ⟨g, i * 3 + 1, none⟩ (.slice x.A x.xs.length x.c)).setCell ⟨g, i * 3 + 2, none⟩ (.slice x.D x.ys.length x.d)) B (some ⟨g, 0, none⟩) (vs.set i x) := by
  have bk := h.blk
  refine ⟨by rw [List.length_set]; exact h.fr.put i x, fun v hv => ?_⟩
  rcases List.mem_or_eq_of_mem_set hv with h1 | h1
  · exact q3_ok (h.ok v h1) bk
  · rw [h1]; exact q3_ok hx bk
set_option maxRecDepth 100000 in
theorem Qr.far {vs : List Fx} {i j k : Nat} {v0 v1 v2 : Value} (h : Qr w B A vs) (bk : NI w g) (hne : ∀ ad, A = some ad → ad.block ≠ g) : Qr (((w.setCell ⟨g, i, none⟩ v0).setCell ⟨g, j, none⟩ v1).setCell ⟨g, k, none⟩ v2) B A vs :=
  ⟨((h.fr.far (p := ⟨g, i, none⟩) hne _).far (p := ⟨g, j, none⟩) hne _).far (p := ⟨g, k, none⟩) hne _, fun v hv => q3_ok (h.ok v hv) bk⟩
set_option maxRecDepth 100000 in
theorem Qr.grown {row : Option Nat} (h : Qr w B A vs) (hg : w.grownBy w' row) (hne : ∀ ad, A = some ad → some ad.block ≠ row) (ho : ∀ v ∈ vs, v.ok w') : Qr w' B A vs := ⟨h.fr.kept hg hne, ho⟩
set_option maxRecDepth 100000 in
theorem Qr.cells (h : Qr w B (some ⟨g, 0, none⟩) vs) (k : Nat) (hk : k < vs.length) : w.cell? ⟨g, k * 3, none⟩ = some (.bool vs[k].b) ∧ w.cell? ⟨g, k * 3 + 1, none⟩ = some (.slice vs[k].A vs[k].xs.length vs[k].c) ∧ w.cell? ⟨g, k * 3 + 2, none⟩ = some (.slice vs[k].D vs[k].ys.length vs[k].d) := by
  obtain ⟨h0, h1, h2⟩ := fcells_get vs k hk
  have hc := fun j hj => World.ownsRow.cellAt h.fr j hj
  exact ⟨(hc (k * 3) (by omega)).trans h0, (hc (k * 3 + 1) (by omega)).trans h1, (hc (k * 3 + 2) (by omega)).trans h2⟩
set_option maxRecDepth 100000 in
/-- the three cells that are written may be written -/
theorem Qr.free (h : Qr w B (some ⟨g, 0, none⟩) vs) (k : Nat) : w.frozen? ⟨g, k, none⟩ = false := h.fr.free k
end
set_option maxRecDepth 100000 in
theorem Gr.far3 {α : Type} {mk : α → Value} {e : TypeId} {w : World} {B c g i j k : Nat} {A : Option Addr} {xs : List α} {v0 v1 v2 : Value} (h : Gr mk e w B A c xs) (hne : ∀ ad, A = some ad → ad.block ≠ g) : Gr mk e (((w.setCell ⟨g, i, none⟩ v0).setCell ⟨g, j, none⟩ v1).setCell ⟨g, k, none⟩ v2) B A c xs :=
  ((h.far (p := ⟨g, i, none⟩) hne _).far (p := ⟨g, j, none⟩) hne _).far (p := ⟨g, k, none⟩) hne _
/-- an element of a slice of fractions -/
structure Ef (w : World) (p : Addr) (x : Fx) : Prop where
  lt : p.block < w.heap.size
  c0 : w.cell? p = some (.bool x.b)
  c1 : w.cell? ⟨p.block, p.off + 1, none⟩ = some (.slice x.A x.xs.length x.c)
  c2 : w.cell? ⟨p.block, p.off + 2, none⟩ = some (.slice x.D x.ys.length x.d)
set_option maxRecDepth 100000 in
theorem Ef.below {w w' : World} {p : Addr} {x : Fx} (h : Ef w p x) (hb : Below w.heap.size w w') : Ef w' p x :=
  ⟨Nat.lt_of_lt_of_le h.lt hb.size, (hb.cell (p := p) h.lt).trans h.c0, (hb.cell (p := ⟨p.block, p.off + 1, none⟩) h.lt).trans h.c1, (hb.cell (p := ⟨p.block, p.off + 2, none⟩) h.lt).trans h.c2⟩
set_option maxRecDepth 100000 in
theorem RdF.at {w : World} {A : Option Addr} {vs : List Fx} (h : RdF w A vs) (k : Nat) (hk : k < vs.length) : ∃ ad, A = some ad ∧ Ef w (ad.add (k * 3)) vs[k] := by
  obtain ⟨ad, e, hl, hc⟩ := h (by omega)
  obtain ⟨h0, h1, h2⟩ := hc k hk
  exact ⟨ad, e, by rw [block_of_add]; exact hl, h0, h1, h2⟩
/-- a fraction in memory that may be an argument, and its value -/
structure Nm (w : World) (x : Fx) (q : Rat) : Prop where
  ok : x.ok w
  v : x.v
  q : x.q = q
  l : x.xs.length ≤ 10000
  m : x.ys.length ≤ 10000
set_option maxRecDepth 100000 in
theorem Nm.below {w w' : World} {x : Fx} {q : Rat} (h : Nm w x q) (hb : Below w.heap.size w w') : Nm w' x q := ⟨h.ok.below hb, h.v, h.q, h.l, h.m⟩
set_option maxRecDepth 100000 in
theorem Nm.of {w : World} {x : Fx} {q : Rat} (h : x.ok w) (r : Rp x q) (s : Sz q 128 128) : Nm w x q := ⟨h, r.v s, r.q, r.l1 s, r.l2 s⟩
/-- a variable that holds such a fraction -/
structure Nv (w : World) (G : Nat) (x : Fx) (q : Rat) : Prop where
  fa : Fa w G x
  v : x.v
  q : x.q = q
  l : x.xs.length ≤ 10000
  m : x.ys.length ≤ 10000
section
variable {w w' : World} {G : Nat} {x : Fx} {q : Rat}
set_option maxRecDepth 100000 in
theorem Nv.below (h : Nv w G x q) (hb : Below w.heap.size w w') : Nv w' G x q := ⟨h.fa.below hb, h.v, h.q, h.l, h.m⟩
set_option maxRecDepth 100000 in
theorem Nv.nm (h : Nv w G x q) : Nm w x q := ⟨h.fa.ok, h.v, h.q, h.l, h.m⟩
set_option maxRecDepth 100000 in
theorem Nv.c0 (h : Nv w G x q) : w.cell? ⟨G, 0, none⟩ = some (.bool x.b) := h.fa.c0
set_option maxRecDepth 100000 in
theorem Nv.c1 (h : Nv w G x q) : w.cell? ⟨G, 1, none⟩ = some (.slice x.A x.xs.length x.c) := h.fa.c1
set_option maxRecDepth 100000 in
theorem Nv.c2 (h : Nv w G x q) : w.cell? ⟨G, 2, none⟩ = some (.slice x.D x.ys.length x.d) := h.fa.c2
set_option maxRecDepth 100000 in
theorem Nv.lt (h : Nv w G x q) : G < w.heap.size := h.fa.lt
set_option maxRecDepth 100000 in
theorem Nv.mk' (h : Fa w G x) (n : Nm w' x q) : Nv w G x q := ⟨h, n.v, n.q, n.l, n.m⟩
set_option maxRecDepth 100000 in
theorem nv_alloc (h : Nm w x q) : Nv (w.alloc (.cells x.cells 41)) w.heap.size x q ∧ Below w.heap.size w (w.alloc (.cells x.cells 41)) :=
  ⟨Nv.mk' (fa_alloc h.ok).1 h, (fa_alloc h.ok).2⟩
end
set_option maxRecDepth 100000 in
/-- one store of a truth value into a row of truth values: what it leaves alone -/
theorem bool_blk {w : World} {B g c : Nat} {bs : List Bool} (h : Gr Value.bool 4 w B (some ⟨g, 0, none⟩) c bs) (hc : c = bs.length) : NI w g := by
  rcases h.2 with ⟨hv, _⟩ | ⟨g', cap, cur, hv, _, hg, _, _, hcs, ht⟩
  · simp at hv
  · simp only [Value.slice.injEq, Option.some.injEq, Addr.mk.injEq] at hv
    obtain ⟨⟨rfl, _⟩, _, rfl⟩ := hv
    refine ⟨cur, _, _, hg, fun u hu => ?_⟩
    have h1 : u ∈ cur.toList.take (bs.length * 1) := by rw [List.take_of_length_le (by simp [hcs, hc])]; exact hu
    rw [ht] at h1
    obtain ⟨b, _, rfl⟩ := List.mem_map.1 h1
    rfl
set_option maxRecDepth 100000 in
theorem Fa.blk {G : Nat} {x : Fx} {w : World} (h : Fa w G x) : NI w G := by
  obtain ⟨t, fr, e⟩ := h.bk.blk
  exact ⟨_, t, fr, e, fun u hu => by simp only [List.mem_cons, List.not_mem_nil, or_false] at hu; rcases hu with rfl | rfl | rfl <;> rfl⟩
set_option maxRecDepth 100000 in
theorem Fa.far1 {w : World} {G H k : Nat} {x : Fx} {v : Value} (h : Fa w G x) (bk : NI w H) (hne : H ≠ G) : Fa (w.setCell ⟨H, k, none⟩ v) G x := by
  refine ⟨?_, h.ok.putN bk k v⟩
  have hg : (w.setCell ⟨H, k, none⟩ v).heap[G]? = w.heap[G]? := heap_setCell_other _ _ _ _ (by exact fun e => hne e.symm)
  have hc : ∀ o, (w.setCell ⟨H, k, none⟩ v).cell? ⟨G, o, none⟩ = w.cell? ⟨G, o, none⟩ := fun o => by unfold World.cell?; rw [hg]
  have hf : ∀ o, (w.setCell ⟨H, k, none⟩ v).frozen? ⟨G, o, none⟩ = w.frozen? ⟨G, o, none⟩ := fun o => by unfold World.frozen?; rw [hg]
  have b := h.bk
  exact ⟨(hc 0).trans b.c0, (hc 1).trans b.c1, (hc 2).trans b.c2, (hf 0).trans b.f0, (hf 1).trans b.f1, (hf 2).trans b.f2, by simp [World.setCell]; exact b.lt, by rw [hg]; exact b.blk⟩
set_option maxRecDepth 100000 in
theorem Qr.far1 {w : World} {B H k : Nat} {A : Option Addr} {vs : List Fx} {v : Value} (h : Qr w B A vs) (bk : NI w H) (hne : ∀ ad, A = some ad → ad.block ≠ H) : Qr (w.setCell ⟨H, k, none⟩ v) B A vs :=
  ⟨h.fr.far (p := ⟨H, k, none⟩) hne _, fun u hu => (h.ok u hu).putN bk k v⟩
end Go.Proofs.Ythdfflbhogfejaa
