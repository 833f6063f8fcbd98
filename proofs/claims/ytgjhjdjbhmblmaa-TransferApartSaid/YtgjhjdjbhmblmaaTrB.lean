/- Words for lists of transfers in memory, and rows of flows of the call's own. -/
import Derived.Test.YtgjhjdjbhmblmaaFsB
import Derived.Laws.MakeOwn
namespace Go.Proofs.Ytgjhjdjbhmblmaa
open Go.RowKit

/-- a transfer: where its links lie, its bytes and its start -/
structure Tm where
  A : Option Addr
  c : Nat
  ls : List Int
  b : Int
  s : Int
abbrev Tm.val (x : Tm) : Value := .agg #[.slice x.A x.ls.length x.c, .int .i64 x.b, .int .i64 x.s]
abbrev Tm.cells (x : Tm) : Array Value := #[.slice x.A x.ls.length x.c, .int .i64 x.b, .int .i64 x.s]
/-- links, bytes, start -/
abbrev Tr := List Int × Int × Int
abbrev Tm.tr (x : Tm) : Tr := (x.ls, x.b, x.s)
structure Tm.ok (x : Tm) (w : World) : Prop where
  is : Is w x.A x.c x.ls
  wb : -9223372036854775808 ≤ x.b ∧ x.b ≤ 9223372036854775807
  ws : -9223372036854775808 ≤ x.s ∧ x.s ≤ 9223372036854775807
theorem Tm.ok.below {x : Tm} {w w' : World} (h : x.ok w) (hb : Below w.heap.size w w') : x.ok w' := ⟨h.is.below hb, h.wb, h.ws⟩
/-- the flow of a transfer with a limit -/
abbrev Tm.fm (x : Tm) (m : Int) : Fm := ⟨x.A, x.c, x.ls, m⟩
def RdT (w : World) (A : Option Addr) (ts : List Tm) : Prop := 0 < ts.length → ∃ ad, A = some ad ∧ ad.block < w.heap.size ∧
  ∀ k (hk : k < ts.length), w.cell? (ad.add (k * 3)) = some (.slice ts[k].A ts[k].ls.length ts[k].c) ∧ w.cell? ⟨(ad.add (k * 3)).block, (ad.add (k * 3)).off + 1, none⟩ = some (.int .i64 ts[k].b) ∧ w.cell? ⟨(ad.add (k * 3)).block, (ad.add (k * 3)).off + 2, none⟩ = some (.int .i64 ts[k].s)
theorem RdT.below {w w' : World} {A : Option Addr} {ts : List Tm} (h : RdT w A ts) (hb : Below w.heap.size w w') : RdT w' A ts := fun hn => by
  obtain ⟨ad, e, hl, hc⟩ := h hn
  refine ⟨ad, e, Nat.lt_of_lt_of_le hl hb.size, fun k hk => ?_⟩
  obtain ⟨h0, h1, h2⟩ := hc k hk
  have e2 : (ad.add (k * 3)).block = ad.block := block_of_add _ _
  exact ⟨(hb.cell (p := ad.add (k * 3)) (by rw [e2]; exact hl)).trans h0, (hb.cell (p := ⟨(ad.add (k * 3)).block, (ad.add (k * 3)).off + 1, none⟩) (by show (ad.add (k * 3)).block < _; rw [e2]; exact hl)).trans h1, (hb.cell (p := ⟨(ad.add (k * 3)).block, (ad.add (k * 3)).off + 2, none⟩) (by show (ad.add (k * 3)).block < _; rw [e2]; exact hl)).trans h2⟩
/-- a list of transfers in memory -/
structure Ts (w : World) (A : Option Addr) (c : Nat) (ts : List Tm) : Prop where
  cap : ts.length ≤ c
  max : c ≤ 9223372036854775807
  rd : RdT w A ts
  ok : ∀ x ∈ ts, x.ok w
theorem Ts.below {w w' : World} {A : Option Addr} {c : Nat} {ts : List Tm} (h : Ts w A c ts) (hb : Below w.heap.size w w') : Ts w' A c ts := ⟨h.cap, h.max, h.rd.below hb, fun x hx => (h.ok x hx).below hb⟩
theorem Ts.at {w : World} {A : Option Addr} {c : Nat} {ts : List Tm} (h : Ts w A c ts) (k : Nat) (hk : k < ts.length) : ∃ ad, A = some ad ∧ w.cell? (ad.add (k * 3)) = some (.slice ts[k].A ts[k].ls.length ts[k].c) ∧ w.cell? ⟨(ad.add (k * 3)).block, (ad.add (k * 3)).off + 1, none⟩ = some (.int .i64 ts[k].b) ∧ w.cell? ⟨(ad.add (k * 3)).block, (ad.add (k * 3)).off + 2, none⟩ = some (.int .i64 ts[k].s) ∧ ts[k].ok w := by
  obtain ⟨ad, e, _, hc⟩ := h.rd (by omega)
  obtain ⟨h0, h1, h2⟩ := hc k hk
  exact ⟨ad, e, h0, h1, h2, h.ok _ (List.getElem_mem hk)⟩
/-- a block of three cells: a transfer -/
structure Tb (w : World) (G : Nat) (x : Tm) : Prop where
  c0 : w.cell? ⟨G, 0, none⟩ = some (.slice x.A x.ls.length x.c)
  c1 : w.cell? ⟨G, 1, none⟩ = some (.int .i64 x.b)
  c2 : w.cell? ⟨G, 2, none⟩ = some (.int .i64 x.s)
  lt : G < w.heap.size
theorem Tb.below {w w' : World} {G : Nat} {x : Tm} (h : Tb w G x) (hb : Below w.heap.size w w') : Tb w' G x :=
  ⟨(hb.cell (p := ⟨G, 0, none⟩) h.lt).trans h.c0, (hb.cell (p := ⟨G, 1, none⟩) h.lt).trans h.c1, (hb.cell (p := ⟨G, 2, none⟩) h.lt).trans h.c2, Nat.lt_of_lt_of_le h.lt hb.size⟩
theorem tb_alloc (w : World) (x : Tm) (e : TypeId) : Tb (w.alloc (.cells x.cells e)) w.heap.size x ∧ Below w.heap.size w (w.alloc (.cells x.cells e)) :=
  ⟨⟨by go_simp, by go_simp, by go_simp, by simp⟩, (Below.refl _ _).alloc (Nat.le_refl _) _⟩

/-! rows of flows -/
def wcells : List Fm → List Value
  | [] => []
  | v :: vs => .slice v.A v.ls.length v.c :: .int .i64 v.m :: wcells vs
theorem wcells_len (vs : List Fm) : (wcells vs).length = vs.length * 2 := by
  induction vs with
  | nil => rfl
  | cons v vs ih => rw [wcells]; simp only [List.length_cons, ih]; omega
theorem wcells_append (a b : List Fm) : wcells (a ++ b) = wcells a ++ wcells b := by
  induction a with
  | nil => rfl
  | cons v a ih => rw [List.cons_append, wcells, wcells, ih]; rfl
theorem wcells_get (vs : List Fm) : ∀ k (hk : k < vs.length), (wcells vs)[k * 2]? = some (.slice vs[k].A vs[k].ls.length vs[k].c) ∧ (wcells vs)[k * 2 + 1]? = some (.int .i64 vs[k].m) := by
  induction vs with
  | nil => intro k hk; simp at hk
  | cons v vs ih =>
    intro k hk
    cases k with
    | zero => exact ⟨rfl, rfl⟩
    | succ k =>
      have h := ih k (by simpa using hk)
      have e : (k + 1) * 2 = k * 2 + 1 + 1 := by omega
      rw [wcells, e]
      simp only [List.getElem?_cons_succ, List.getElem_cons_succ]
      exact h
theorem wcells_set (vs : List Fm) (x : Fm) : ∀ i, ((wcells vs).set (i * 2) (.slice x.A x.ls.length x.c)).set (i * 2 + 1) (.int .i64 x.m) = wcells (vs.set i x) := by
  induction vs with
  | nil => intro i; simp [wcells]
  | cons v vs ih =>
    intro i
    cases i with
    | zero => simp [wcells]
    | succ i =>
      have e : (i + 1) * 2 = i * 2 + 1 + 1 := by omega
      rw [wcells, e]
      simp only [List.set_cons_succ, wcells]
      rw [ih i]
theorem wcells_one (vs : List Fm) : ∀ u ∈ wcells vs, u.oneCell' = true := by
  induction vs with
  | nil => intro u hu; cases hu
  | cons v vs ih =>
    intro u hu
    rw [wcells] at hu
    simp only [List.mem_cons] at hu
    rcases hu with rfl | rfl | hu
    · rfl
    · rfl
    · exact ih u hu
/-- a row of flows of the call's own -/
def Fw (w : World) (B : Nat) (A : Option Addr) (c : Nat) (vs : List Fm) : Prop := World.ownsRow w B 54 2 (.slice A vs.length c) vs.length (wcells vs)
section
variable {w w' : World} {B : Nat} {A : Option Addr} {c : Nat} {vs : List Fm}
theorem add_mk (g j : Nat) : (⟨g, 0, none⟩ : Addr).add j = ⟨g, j, none⟩ := by
  unfold Addr.add
  split
  · rename_i h; rw [h]
  · simp
theorem Fw.rd (h : Fw w B A c vs) : RdW w A vs := fun hn => by
  have h' := h
  rcases h.2 with ⟨_, h0⟩ | ⟨g, cap, cur, hv, _, hg, _⟩
  · omega
  · simp only [Value.slice.injEq] at hv
    obtain ⟨rfl, _, rfl⟩ := hv
    refine ⟨_, rfl, ?_, fun k hk => ?_⟩
    · exact (Array.getElem?_eq_some_iff.1 hg).1
    · obtain ⟨h0, h1⟩ := wcells_get vs k hk
      have hc := fun j hj => World.ownsRow.cellAt h' j hj
      rw [add_mk]
      exact ⟨(hc (k * 2) (by omega)).trans h0, (hc (k * 2 + 1) (by omega)).trans h1⟩
theorem Fw.below (h : Fw w B A c vs) (hb : Below w.heap.size w w') : Fw w' B A c vs :=
  World.ownsRow.kept h (w' := w') (row := none) ⟨hb.os, hb.tape, hb.output, hb.size, fun k hk _ => hb.block k hk⟩ (by
    cases A with
    | none => exact .inl rfl
    | some ad => exact .inr (by simp [Value.ownBlock]))
theorem Fw.grown {row : Option Nat} (h : Fw w B A c vs) (hg : w.grownBy w' row) (hne : ∀ ad, A = some ad → some ad.block ≠ row) : Fw w' B A c vs :=
  World.ownsRow.kept h hg (by
    cases A with
    | none => exact .inl rfl
    | some ad => exact .inr (hne ad rfl))
theorem Fw.form (h : Fw w B A c vs) : vs.length ≤ c ∧ c ≤ maxLen ∧ ∀ ad, A = some ad → B ≤ ad.block ∧ ad.block < w.heap.size := by
  rcases h.2 with ⟨h', hn⟩ | ⟨g', cap', cur, h', hb, hg, h3, h4, _⟩
  · simp only [Value.slice.injEq] at h'
    obtain ⟨rfl, _, rfl⟩ := h'
    exact ⟨by omega, by simp [maxLen], by intro ad h; cases h⟩
  · simp only [Value.slice.injEq] at h'
    obtain ⟨rfl, _, rfl⟩ := h'
    exact ⟨h3, h4, by intro ad h; injection h with h; subst h; exact ⟨hb, (Array.getElem?_eq_some_iff.1 hg).1⟩⟩
theorem Fw.free {g : Nat} (h : Fw w B (some ⟨g, 0, none⟩) c vs) (k : Nat) : w.frozen? ⟨g, k, none⟩ = false := World.ownsRow.frozenAt h k
theorem Fw.put {g : Nat} (h : Fw w B (some ⟨g, 0, none⟩) c vs) (i : Nat) (x : Fm) : Fw ((w.setCell ⟨g, i * 2, none⟩ (.slice x.A x.ls.length x.c)).setCell ⟨g, i * 2 + 1, none⟩ (.int .i64 x.m)) B (some ⟨g, 0, none⟩) c (vs.set i x) := by
  have h1 := (World.ownsRow.stored h (i * 2) (.slice x.A x.ls.length x.c)).1
  have h2 := (World.ownsRow.stored h1 (i * 2 + 1) (.int .i64 x.m)).1
  unfold Fw
  rw [List.length_set, ← wcells_set]
  exact h2
theorem Fw.ws (h : Fw w B A c vs) (ho : ∀ x ∈ vs, x.ok w) : Ws w A c vs := ⟨h.form.1, by have := h.form.2.1; unfold maxLen at this; omega, h.rd, ho⟩
end
abbrev Fm.nil : Fm := ⟨none, 0, [], 0⟩
theorem flow_info : (Try.prog.info? 54).map (fun i => (i.zero, i.size, i.bytes)) = some (some Fm.nil.val, 2, 32) := by kernel_rfl
theorem toList_made2 (n : Nat) : (madeCells Fm.nil.val.cells n).toList.length = n := by simp [madeCells]
end Go.Proofs.Ytgjhjdjbhmblmaa
