/- Words for lists of whole numbers and of flows in memory. No function of the program in sight. -/
import Derived.Test.YtgjhjdjbhmblmaaBase
import Derived.Test.YtgjhjdjbhmblmaaUnT
import Derived.OwnWalk
import Derived.KernelRfl
import Derived.Deep.CutBlock
import Derived.Deep.DeepCutAuto
namespace Go.Proofs.Ytgjhjdjbhmblmaa
open Go.RowKit

theorem size_alloc (w : World) (o : Obj) : (w.alloc o).heap.size = w.heap.size + 1 := by simp
theorem add_at0 (a : Addr) : a.add 0 = a := by unfold Addr.add; simp
theorem add_at1 (a : Addr) (j : Nat) : a.add (j + 1) = ⟨a.block, a.off + (j + 1), none⟩ := by unfold Addr.add; simp
/-- the value of a whole number -/
abbrev iv (z : Int) : Value := .int .i64 z
/-- a slice of whole numbers -/
structure Is (w : World) (A : Option Addr) (c : Nat) (xs : List Int) : Prop where
  cap : xs.length ≤ c
  max : c ≤ 9223372036854775807
  rd : Rd iv w A xs
  wf : ∀ x ∈ xs, -9223372036854775808 ≤ x ∧ x ≤ 9223372036854775807
section
variable {w w' : World} {A : Option Addr} {c : Nat} {xs : List Int}
theorem Is.below (h : Is w A c xs) (hb : Below w.heap.size w w') : Is w' A c xs := ⟨h.cap, h.max, h.rd.below hb rfl, h.wf⟩
theorem Is.at (h : Is w A c xs) (k : Nat) (hk : k < xs.length) : ∃ ad, A = some ad ∧ ad.block < w.heap.size ∧ w.cell? (ad.add k) = some (.int .i64 xs[k]) := by
  obtain ⟨ad, e, hl, hc⟩ := h.rd (by omega)
  exact ⟨ad, e, hl, hc k hk⟩
theorem Is.len (h : Is w A c xs) : xs.length ≤ 9223372036854775807 := Nat.le_trans h.cap h.max
theorem Is.nil (w : World) (A : Option Addr) (c : Nat) (hc : c ≤ 9223372036854775807) : Is w A c [] := ⟨by simp, hc, Rd.nil, by simp⟩
theorem Is.grown {row : Option Nat} (h : Is w A c xs) (hg : w.grownBy w' row) (hne : 0 < xs.length → ∀ ad, A = some ad → some ad.block ≠ row) : Is w' A c xs := ⟨h.cap, h.max, h.rd.grown hg hne, h.wf⟩
end
theorem Gr.is {w : World} {B c : Nat} {e : TypeId} {A : Option Addr} {xs : List Int} (h : Gr iv e w B A c xs) (hw : ∀ x ∈ xs, -9223372036854775808 ≤ x ∧ x ≤ 9223372036854775807) : Is w A c xs :=
  ⟨h.form.1, by have := h.form.2.1; unfold maxLen at this; omega, h.rd, hw⟩

/-- a flow: where its links lie, and its limit -/
structure Fm where
  A : Option Addr
  c : Nat
  ls : List Int
  m : Int
abbrev Fm.val (x : Fm) : Value := .agg #[.slice x.A x.ls.length x.c, .int .i64 x.m]
abbrev Fm.cells (x : Fm) : Array Value := #[.slice x.A x.ls.length x.c, .int .i64 x.m]
abbrev Fm.fl (x : Fm) : Fl := (x.ls, x.m)
structure Fm.ok (x : Fm) (w : World) : Prop where
  is : Is w x.A x.c x.ls
  wf : -9223372036854775808 ≤ x.m ∧ x.m ≤ 9223372036854775807
theorem Fm.ok.below {x : Fm} {w w' : World} (h : x.ok w) (hb : Below w.heap.size w w') : x.ok w' := ⟨h.is.below hb, h.wf⟩
/-- a slice that reads as flows -/
def RdW (w : World) (A : Option Addr) (fs : List Fm) : Prop := 0 < fs.length → ∃ ad, A = some ad ∧ ad.block < w.heap.size ∧
  ∀ k (hk : k < fs.length), w.cell? (ad.add (k * 2)) = some (.slice fs[k].A fs[k].ls.length fs[k].c) ∧ w.cell? ⟨(ad.add (k * 2)).block, (ad.add (k * 2)).off + 1, none⟩ = some (.int .i64 fs[k].m)
theorem RdW.below {w w' : World} {A : Option Addr} {fs : List Fm} (h : RdW w A fs) (hb : Below w.heap.size w w') : RdW w' A fs := fun hn => by
  obtain ⟨ad, e, hl, hc⟩ := h hn
  refine ⟨ad, e, Nat.lt_of_lt_of_le hl hb.size, fun k hk => ?_⟩
  obtain ⟨h0, h1⟩ := hc k hk
  have e2 : (ad.add (k * 2)).block = ad.block := block_of_add _ _
  exact ⟨(hb.cell (p := ad.add (k * 2)) (by rw [e2]; exact hl)).trans h0, (hb.cell (p := ⟨(ad.add (k * 2)).block, (ad.add (k * 2)).off + 1, none⟩) (by show (ad.add (k * 2)).block < _; rw [e2]; exact hl)).trans h1⟩
/-- a list of flows in memory -/
structure Ws (w : World) (A : Option Addr) (c : Nat) (fs : List Fm) : Prop where
  cap : fs.length ≤ c
  max : c ≤ 9223372036854775807
  rd : RdW w A fs
  ok : ∀ x ∈ fs, x.ok w
theorem Ws.below {w w' : World} {A : Option Addr} {c : Nat} {fs : List Fm} (h : Ws w A c fs) (hb : Below w.heap.size w w') : Ws w' A c fs := ⟨h.cap, h.max, h.rd.below hb, fun x hx => (h.ok x hx).below hb⟩
/-- a block of two cells: a flow -/
structure Fb (w : World) (G : Nat) (x : Fm) : Prop where
  c0 : w.cell? ⟨G, 0, none⟩ = some (.slice x.A x.ls.length x.c)
  c1 : w.cell? ⟨G, 1, none⟩ = some (.int .i64 x.m)
  f0 : w.frozen? ⟨G, 0, none⟩ = false
  f1 : w.frozen? ⟨G, 1, none⟩ = false
  lt : G < w.heap.size
theorem Fb.below {w w' : World} {G : Nat} {x : Fm} (h : Fb w G x) (hb : Below w.heap.size w w') : Fb w' G x :=
  ⟨(hb.cell (p := ⟨G, 0, none⟩) h.lt).trans h.c0, (hb.cell (p := ⟨G, 1, none⟩) h.lt).trans h.c1, (hb.frozen (p := ⟨G, 0, none⟩) h.lt).trans h.f0, (hb.frozen (p := ⟨G, 1, none⟩) h.lt).trans h.f1, Nat.lt_of_lt_of_le h.lt hb.size⟩
theorem Fb.grown {w w' : World} {G : Nat} {x : Fm} {row : Option Nat} (h : Fb w G x) (hg : w.grownBy w' row) (hne : some G ≠ row) : Fb w' G x := by
  have hb : w'.heap[G]? = w.heap[G]? := hg.block G h.lt hne
  refine ⟨hg.cell h.c0 hne, hg.cell h.c1 hne, ?_, ?_, Nat.lt_of_lt_of_le h.lt hg.size⟩
  · rw [← h.f0]; unfold World.frozen?; rw [hb]
  · rw [← h.f1]; unfold World.frozen?; rw [hb]
theorem fb_alloc (w : World) (x : Fm) (e : TypeId) : Fb (w.alloc (.cells x.cells e)) w.heap.size x ∧ Below w.heap.size w (w.alloc (.cells x.cells e)) :=
  ⟨⟨by go_simp, by go_simp, by go_simp, by go_simp, by simp⟩, (Below.refl _ _).alloc (Nat.le_refl _) _⟩

/-- the links of a flow that may be -/
def LinksOk (n : Nat) (ls : List Int) : Prop := ∀ i (h : i < ls.length), 0 ≤ ls[i] ∧ ls[i] < n ∧ (∀ h0 : 0 < i, ls[i - 1] < ls[i])
instance (n : Nat) (ls : List Int) : Decidable (LinksOk n ls) := inferInstanceAs (Decidable (∀ i (h : i < ls.length), 0 ≤ ls[i] ∧ ls[i] < n ∧ (∀ h0 : 0 < i, ls[i - 1] < ls[i])))
def validFl (caps : List Int) (fs : List Fl) : Prop := caps.length ≤ 64 ∧ fs.length ≤ 48 ∧ (∀ c ∈ caps, 0 ≤ c ∧ c ≤ 4096) ∧ (∀ f ∈ fs, 0 ≤ f.2 ∧ f.2 ≤ 4096 ∧ LinksOk caps.length f.1)
instance (caps : List Int) (fs : List Fl) : Decidable (validFl caps fs) := inferInstanceAs (Decidable (_ ∧ _ ∧ _ ∧ _))
theorem LinksOk.lt {n : Nat} {ls : List Int} (h : LinksOk n ls) : ∀ (j i : Nat) (hj : j < ls.length) (hi : i < j), ls[i] < ls[j] := by
  intro j
  induction j with
  | zero => intro i _ hi; omega
  | succ j ih =>
    intro i hj hi
    have h1 := (h (j + 1) hj).2.2 (by omega)
    simp only [Nat.add_sub_cancel] at h1
    rcases Nat.lt_or_ge i j with h2 | h2
    · have := ih i (by omega) h2; omega
    · have : i = j := by omega
      subst this; exact h1
theorem LinksOk.nodup {n : Nat} {ls : List Int} (h : LinksOk n ls) : ls.Nodup := by
  rw [List.nodup_iff_pairwise_ne, List.pairwise_iff_getElem]
  intro i j hi hj hij e
  have := h.lt j i hj hij
  omega
theorem LinksOk.count {n : Nat} {ls : List Int} (h : LinksOk n ls) (e : Int) : ls.count e ≤ 1 := List.nodup_iff_count.1 h.nodup e
theorem LinksOk.mem {n : Nat} {ls : List Int} (h : LinksOk n ls) {e : Int} (he : e ∈ ls) : 0 ≤ e ∧ e < n := by
  obtain ⟨i, hi, rfl⟩ := List.getElem_of_mem he
  exact ⟨(h i hi).1, (h i hi).2.1⟩
/-- the capacity of a link -/
def cpF (caps : List Int) (e : Int) : Int := caps.getD e.toNat 0
theorem lkA_get {l : List Fl} {i : Nat} (h : i < l.length) : lkA l i = l[i].1 := by rw [lkA, getD_lt _ _ _ h]
theorem lmA_get {l : List Fl} {i : Nat} (h : i < l.length) : lmA l i = l[i].2 := by rw [lmA, getD_lt _ _ _ h]
theorem validFl.ok {caps : List Int} {fs : List Fl} (h : validFl caps fs) : okFl (cpF caps) fs := by
  refine ⟨fun i hi e => ?_, fun j hj => ?_⟩
  · rw [lkA_get hi]; exact (h.2.2.2 _ (List.getElem_mem hi)).2.2.count e
  · have h1 := h.2.2.2 _ (List.getElem_mem hj)
    rw [lmA_get hj, lkA_get hj]
    refine ⟨h1.1, h1.2.1, fun e he => ?_⟩
    have := h1.2.2.mem he
    rw [cpF, getD_lt _ _ _ (by omega)]
    exact (h.2.2.1 _ (List.getElem_mem _)).1
theorem int_info : (Try.prog.info? 3).map (fun i => (i.zero, i.size, i.bytes)) = some (some (iv 0), 1, 8) := by kernel_rfl
theorem bool_info : (Try.prog.info? 4).map (fun i => (i.zero, i.size, i.bytes)) = some (some (.bool false), 1, 1) := by kernel_rfl
end Go.Proofs.Ytgjhjdjbhmblmaa
