/- Words for the walks of fairshare: rows of fractions that are stored into. The walks of fairshare.whole, fairshare.compare and of slices.Contains. -/
import Derived.Test.YthdfflbhogfejaaFrcB
import Derived.Test.YthdfflbhogfejaaTrX
import Derived.Test.YthdfflbhogfejaaFrS
import Derived.Test.YthdfflbhogfejaaFrD
import Derived.Test.YthdfflbhogfejaaFrG
import Derived.Test.YthdfflbhogfejaaFrE
import Derived.Laws.MakeOwn
import Derived.Deep.RegionHeld3
namespace Go.Proofs.Ythdfflbhogfejaa
set_option maxRecDepth 100000
open Go.RowKit

theorem fcells_set (vs : List Fx) (x : Fx) : ∀ i, (((fcells vs).set (i * 3) (.bool x.b)).set (i * 3 + 1) (.slice x.A x.xs.length x.c)).set (i * 3 + 2) (.slice x.D x.ys.length x.d) = fcells (vs.set i x) := by
  induction vs with
  | nil => intro i; simp [fcells]
  | cons v vs ih =>
    intro i
    cases i with
    | zero => simp [fcells]
    | succ i =>
      have e : (i + 1) * 3 = i * 3 + 1 + 1 + 1 := by omega
      rw [fcells, e]
      simp only [List.set_cons_succ, fcells]
      rw [ih i]
theorem frac_info3 : (Try.prog.info? 41).map (fun i => (i.zero, i.size, i.bytes)) = some (some Fx.nil.val, 3, 56) := by kernel_rfl
theorem make3_cells (n : Nat) : (madeCells Fx.nil.val.cells (n * 3)).toList = fcells (List.replicate n Fx.nil) := by
  apply List.ext_getElem?
  intro i
  rw [Array.getElem?_toList]
  simp only [madeCells, Array.getElem?_map]
  rcases Nat.lt_or_ge i (n * 3) with h | h
  · have hk : i / 3 < (List.replicate n Fx.nil).length := by simp; omega
    obtain ⟨h0, h1, h2⟩ := fcells_get (List.replicate n Fx.nil) (i / 3) hk
    rcases (show i % 3 = 0 ∨ i % 3 = 1 ∨ i % 3 = 2 by omega) with e | e | e
    · have ei : i = i / 3 * 3 := by omega
      rw [← ei] at h0
      rw [h0]
      simp [h, Value.cells, e]
    · have ei : i = i / 3 * 3 + 1 := by omega
      rw [← ei] at h1
      rw [h1]
      simp [h, Value.cells, e]
    · have ei : i = i / 3 * 3 + 2 := by omega
      rw [← ei] at h2
      rw [h2]
      simp [h, Value.cells, e]
  · rw [List.getElem?_eq_none (by rw [fcells_len]; simp; omega)]
    simp [h]
section
variable {w w' : World} {B g H : Nat} {A : Option Addr} {c : Nat} {vs : List Fx}
theorem Fr.noI (h : Fr w B A vs.length vs) : NoI w A := fun k hk => by
  rcases h.2 with ⟨hv, _⟩ | ⟨g, cap, cur, hv, _, hg, _, _, hcs, ht⟩
  · simp only [Value.slice.injEq] at hv
    obtain ⟨rfl, _, _⟩ := hv
    cases hk
  · simp only [Value.slice.injEq] at hv
    obtain ⟨rfl, _, rfl⟩ := hv
    simp at hk
    subst hk
    refine ⟨cur, _, hg, fun u hu => noInt_fcells vs u ?_⟩
    rw [← ht, List.take_of_length_le (by simp [hcs])]
    exact hu
theorem Fr.kept {row : Option Nat} (h : Fr w B A c vs) (hg : w.grownBy w' row) (hne : ∀ ad, A = some ad → some ad.block ≠ row) : Fr w' B A c vs :=
  World.ownsRow.kept h hg (by
    cases A with
    | none => exact .inl rfl
    | some ad => exact .inr (hne ad rfl))
theorem grownBy_set1 (w : World) (p : Addr) (u : Value) : w.grownBy (w.setCell p u) (some p.block) :=
  ⟨rfl, rfl, rfl, by simp [World.setCell], fun k _ hne => Below.heap_setCell _ _ _ _ (fun e => hne (by rw [e]))⟩
theorem Fr.far (h : Fr w B A c vs) {p : Addr} (hp : ∀ ad, A = some ad → ad.block ≠ p.block) (u : Value) : Fr (w.setCell p u) B A c vs :=
  h.kept (grownBy_set1 w p u) (fun ad e he => hp ad e (Option.some.inj he))
theorem Fr.free (h : Fr w B (some ⟨g, 0, none⟩) c vs) (k : Nat) : w.frozen? ⟨g, k, none⟩ = false := World.ownsRow.frozenAt h k
theorem Fr.put (h : Fr w B (some ⟨g, 0, none⟩) c vs) (i : Nat) (x : Fx) : Fr (((w.setCell ⟨g, i * 3, none⟩ (.bool x.b)).setCell ⟨g, i * 3 + 1, none⟩ (.slice x.A x.xs.length x.c)).setCell ⟨g, i * 3 + 2, none⟩ (.slice x.D x.ys.length x.d)) B (some ⟨g, 0, none⟩) c (vs.set i x) := by
  have h1 := (World.ownsRow.stored h (i * 3) (.bool x.b)).1
  have h2 := (World.ownsRow.stored h1 (i * 3 + 1) (.slice x.A x.xs.length x.c)).1
  have h3 := (World.ownsRow.stored h2 (i * 3 + 2) (.slice x.D x.ys.length x.d)).1
  unfold Fr
  rw [List.length_set, ← fcells_set]
  exact h3
/-- a block that holds no limb -/
def NI (w : World) (G : Nat) : Prop := ∃ cur t fr, w.heap[G]? = some (.cells cur t fr) ∧ noInt cur
theorem NI.lt {G : Nat} (h : NI w G) : G < w.heap.size := by
  obtain ⟨_, _, _, e, _⟩ := h
  exact (Array.getElem?_eq_some_iff.1 e).1
theorem Nt.sepN {A : Option Addr} {c : Nat} {xs : List Nat} {G : Nat} (h : Nt w A c xs) (bk : NI w G) (hx : 0 < xs.length) : ∀ ad, A = some ad → ad.block ≠ G := fun ad e hG => by
  obtain ⟨ad', e', _, hc, _⟩ := h.at 0 hx
  rw [e] at e'
  injection e' with e'
  subst e'
  obtain ⟨cur, t, fr, hblk, hn⟩ := bk
  have hb0 : (ad.add 0).block = G := by rw [block_of_add]; exact hG
  unfold World.cell? at hc
  rw [hb0, hblk] at hc
  simp only at hc
  split at hc
  · cases hc
  · have hm := Array.mem_of_getElem? hc
    have := hn (.int .u32 (xs[0] : Int)) (by simpa using hm)
    simp [isInt] at this
theorem Fx.ok.putN {x : Fx} {G : Nat} (h : x.ok w) (bk : NI w G) (k : Nat) (u : Value) : x.ok (w.setCell ⟨G, k, none⟩ u) := by
  constructor
  · rcases Nat.eq_zero_or_pos x.xs.length with h0 | h0
    · exact h.num.nil_any h0 _
    · exact nt_far h.num (h.num.sepN bk h0) _
  · rcases Nat.eq_zero_or_pos x.ys.length with h0 | h0
    · exact h.den.nil_any h0 _
    · exact nt_far h.den (h.den.sepN bk h0) _
/-- three stores into one block -/
theorem q3_ok {x : Fx} {i j k : Nat} {v0 v1 v2 : Value} (h : x.ok w) (bk : NI w g) : x.ok (((w.setCell ⟨g, i, none⟩ v0).setCell ⟨g, j, none⟩ v1).setCell ⟨g, k, none⟩ v2) := by
  constructor
  · rcases Nat.eq_zero_or_pos x.xs.length with h0 | h0
    · exact h.num.nil_any h0 _
    · have hs := h.num.sepN bk h0
      exact nt_far (nt_far (nt_far h.num hs _) hs _) hs _
  · rcases Nat.eq_zero_or_pos x.ys.length with h0 | h0
    · exact h.den.nil_any h0 _
    · have hs := h.den.sepN bk h0
      exact nt_far (nt_far (nt_far h.den hs _) hs _) hs _
theorem q3_below {wc : World} {i j k : Nat} {v0 v1 v2 : Value} (h : Below B w wc) (hG : B ≤ g) : Below B w (((wc.setCell ⟨g, i, none⟩ v0).setCell ⟨g, j, none⟩ v1).setCell ⟨g, k, none⟩ v2) :=
  ((h.setCell (p := ⟨g, i, none⟩) hG _).setCell (p := ⟨g, j, none⟩) hG _).setCell (p := ⟨g, k, none⟩) hG _
theorem q3_heap {i j k : Nat} {v0 v1 v2 : Value} (hne : g ≠ H) : (((w.setCell ⟨g, i, none⟩ v0).setCell ⟨g, j, none⟩ v1).setCell ⟨g, k, none⟩ v2).heap[H]? = w.heap[H]? := by
  rw [heap_setCell_other _ _ _ _ (by exact fun e => hne e.symm), heap_setCell_other _ _ _ _ (by exact fun e => hne e.symm), heap_setCell_other _ _ _ _ (by exact fun e => hne e.symm)]
theorem Bk3.farQ {i j k : Nat} {v0 v1 v2 a b c : Value} (h : Bk3 w H a b c) (hne : g ≠ H) : Bk3 (((w.setCell ⟨g, i, none⟩ v0).setCell ⟨g, j, none⟩ v1).setCell ⟨g, k, none⟩ v2) H a b c := by
  have hg := q3_heap (w := w) (i := i) (j := j) (k := k) (v0 := v0) (v1 := v1) (v2 := v2) hne
  have hc : ∀ o, (((w.setCell ⟨g, i, none⟩ v0).setCell ⟨g, j, none⟩ v1).setCell ⟨g, k, none⟩ v2).cell? ⟨H, o, none⟩ = w.cell? ⟨H, o, none⟩ := fun o => by unfold World.cell?; rw [hg]
  have hf : ∀ o, (((w.setCell ⟨g, i, none⟩ v0).setCell ⟨g, j, none⟩ v1).setCell ⟨g, k, none⟩ v2).frozen? ⟨H, o, none⟩ = w.frozen? ⟨H, o, none⟩ := fun o => by unfold World.frozen?; rw [hg]
  exact ⟨(hc 0).trans h.c0, (hc 1).trans h.c1, (hc 2).trans h.c2, (hf 0).trans h.f0, (hf 1).trans h.f1, (hf 2).trans h.f2, by simp [World.setCell]; exact h.lt, by rw [hg]; exact h.blk⟩
theorem Fa.farQ {x : Fx} {i j k : Nat} {v0 v1 v2 : Value} (h : Fa w H x) (bk : NI w g) (hne : g ≠ H) : Fa (((w.setCell ⟨g, i, none⟩ v0).setCell ⟨g, j, none⟩ v1).setCell ⟨g, k, none⟩ v2) H x :=
  ⟨h.bk.farQ hne, q3_ok h.ok bk⟩
/-- a row of fractions of the call's own, all of it in use; the numbers lie elsewhere -/
structure Qr (w : World) (B : Nat) (A : Option Addr) (vs : List Fx) : Prop where
  fr : Fr w B A vs.length vs
  ok : ∀ v ∈ vs, v.ok w
theorem Qr.below (h : Qr w B A vs) (hb : Below w.heap.size w w') : Qr w' B A vs := ⟨h.fr.below hb, fun v hv => (h.ok v hv).below hb⟩
theorem Qr.blk (h : Qr w B (some ⟨g, 0, none⟩) vs) : NI w g := by
  obtain ⟨cur, t, e, hn⟩ := h.fr.noI g rfl
  exact ⟨cur, t, _, e, hn⟩
theorem Qr.lt (h : Qr w B (some ⟨g, 0, none⟩) vs) : B ≤ g ∧ g < w.heap.size := h.fr.lt g rfl
theorem Qr.put (h : Qr w B (some ⟨g, 0, none⟩) vs) (i : Nat) {x : Fx} (hx : x.ok w) : Qr (((w.setCell ⟨g, i * 3, none⟩ (.bool x.b)).setCell ⟨g, i * 3 + 1, none⟩ (.slice x.A x.xs.length x.c)).setCell ⟨g, i * 3 + 2, none⟩ (.slice x.D x.ys.length x.d)) B (some ⟨g, 0, none⟩) (vs.set i x) := by
  have bk := h.blk
  refine ⟨by rw [List.length_set]; exact h.fr.put i x, fun v hv => ?_⟩
  rcases List.mem_or_eq_of_mem_set hv with h1 | h1
  · exact q3_ok (h.ok v h1) bk
  · rw [h1]; exact q3_ok hx bk
theorem Qr.far {vs : List Fx} {i j k : Nat} {v0 v1 v2 : Value} (h : Qr w B A vs) (bk : NI w g) (hne : ∀ ad, A = some ad → ad.block ≠ g) : Qr (((w.setCell ⟨g, i, none⟩ v0).setCell ⟨g, j, none⟩ v1).setCell ⟨g, k, none⟩ v2) B A vs :=
  ⟨((h.fr.far (p := ⟨g, i, none⟩) hne _).far (p := ⟨g, j, none⟩) hne _).far (p := ⟨g, k, none⟩) hne _, fun v hv => q3_ok (h.ok v hv) bk⟩
theorem Qr.grown {row : Option Nat} (h : Qr w B A vs) (hg : w.grownBy w' row) (hne : ∀ ad, A = some ad → some ad.block ≠ row) (ho : ∀ v ∈ vs, v.ok w') : Qr w' B A vs := ⟨h.fr.kept hg hne, ho⟩
theorem Qr.cells (h : Qr w B (some ⟨g, 0, none⟩) vs) (k : Nat) (hk : k < vs.length) : w.cell? ⟨g, k * 3, none⟩ = some (.bool vs[k].b) ∧ w.cell? ⟨g, k * 3 + 1, none⟩ = some (.slice vs[k].A vs[k].xs.length vs[k].c) ∧ w.cell? ⟨g, k * 3 + 2, none⟩ = some (.slice vs[k].D vs[k].ys.length vs[k].d) := by
  obtain ⟨h0, h1, h2⟩ := fcells_get vs k hk
  have hc := fun j hj => World.ownsRow.cellAt h.fr j hj
  exact ⟨(hc (k * 3) (by omega)).trans h0, (hc (k * 3 + 1) (by omega)).trans h1, (hc (k * 3 + 2) (by omega)).trans h2⟩
/-- the three cells that are written may be written -/
theorem Qr.free (h : Qr w B (some ⟨g, 0, none⟩) vs) (k : Nat) : w.frozen? ⟨g, k, none⟩ = false := h.fr.free k
end
theorem Gr.far3 {α : Type} {mk : α → Value} {e : TypeId} {w : World} {B c g i j k : Nat} {A : Option Addr} {xs : List α} {v0 v1 v2 : Value} (h : Gr mk e w B A c xs) (hne : ∀ ad, A = some ad → ad.block ≠ g) : Gr mk e (((w.setCell ⟨g, i, none⟩ v0).setCell ⟨g, j, none⟩ v1).setCell ⟨g, k, none⟩ v2) B A c xs :=
  ((h.far (p := ⟨g, i, none⟩) hne _).far (p := ⟨g, j, none⟩) hne _).far (p := ⟨g, k, none⟩) hne _
/-- an element of a slice of fractions -/
structure Ef (w : World) (p : Addr) (x : Fx) : Prop where
  lt : p.block < w.heap.size
  c0 : w.cell? p = some (.bool x.b)
  c1 : w.cell? ⟨p.block, p.off + 1, none⟩ = some (.slice x.A x.xs.length x.c)
  c2 : w.cell? ⟨p.block, p.off + 2, none⟩ = some (.slice x.D x.ys.length x.d)
theorem Ef.below {w w' : World} {p : Addr} {x : Fx} (h : Ef w p x) (hb : Below w.heap.size w w') : Ef w' p x :=
  ⟨Nat.lt_of_lt_of_le h.lt hb.size, (hb.cell (p := p) h.lt).trans h.c0, (hb.cell (p := ⟨p.block, p.off + 1, none⟩) h.lt).trans h.c1, (hb.cell (p := ⟨p.block, p.off + 2, none⟩) h.lt).trans h.c2⟩
theorem RdF.at {w : World} {A : Option Addr} {vs : List Fx} (h : RdF w A vs) (k : Nat) (hk : k < vs.length) : ∃ ad, A = some ad ∧ Ef w (ad.add (k * 3)) vs[k] := by
  obtain ⟨ad, e, hl, hc⟩ := h (by omega)
  obtain ⟨h0, h1, h2⟩ := hc k hk
  exact ⟨ad, e, by rw [block_of_add]; exact hl, h0, h1, h2⟩
/-- a fraction in memory that may be an argument, and its value -/
structure Nm (w : World) (x : Fx) (q : Rat) : Prop where
  ok : x.ok w
  v : x.v
  q : x.q = q
  l : x.xs.length ≤ 10000
  m : x.ys.length ≤ 10000
theorem Nm.below {w w' : World} {x : Fx} {q : Rat} (h : Nm w x q) (hb : Below w.heap.size w w') : Nm w' x q := ⟨h.ok.below hb, h.v, h.q, h.l, h.m⟩
theorem Nm.of {w : World} {x : Fx} {q : Rat} (h : x.ok w) (r : Rp x q) (s : Sz q 128 128) : Nm w x q := ⟨h, r.v s, r.q, r.l1 s, r.l2 s⟩
/-- a variable that holds such a fraction -/
structure Nv (w : World) (G : Nat) (x : Fx) (q : Rat) : Prop where
  fa : Fa w G x
  v : x.v
  q : x.q = q
  l : x.xs.length ≤ 10000
  m : x.ys.length ≤ 10000
section
variable {w w' : World} {G : Nat} {x : Fx} {q : Rat}
theorem Nv.below (h : Nv w G x q) (hb : Below w.heap.size w w') : Nv w' G x q := ⟨h.fa.below hb, h.v, h.q, h.l, h.m⟩
theorem Nv.nm (h : Nv w G x q) : Nm w x q := ⟨h.fa.ok, h.v, h.q, h.l, h.m⟩
theorem Nv.c0 (h : Nv w G x q) : w.cell? ⟨G, 0, none⟩ = some (.bool x.b) := h.fa.c0
theorem Nv.c1 (h : Nv w G x q) : w.cell? ⟨G, 1, none⟩ = some (.slice x.A x.xs.length x.c) := h.fa.c1
theorem Nv.c2 (h : Nv w G x q) : w.cell? ⟨G, 2, none⟩ = some (.slice x.D x.ys.length x.d) := h.fa.c2
theorem Nv.lt (h : Nv w G x q) : G < w.heap.size := h.fa.lt
theorem Nv.mk' (h : Fa w G x) (n : Nm w' x q) : Nv w G x q := ⟨h, n.v, n.q, n.l, n.m⟩
theorem nv_alloc (h : Nm w x q) : Nv (w.alloc (.cells x.cells 41)) w.heap.size x q ∧ Below w.heap.size w (w.alloc (.cells x.cells 41)) :=
  ⟨Nv.mk' (fa_alloc h.ok).1 h, (fa_alloc h.ok).2⟩
end
/-- one store of a truth value into a row of truth values: what it leaves alone -/
theorem bool_blk {w : World} {B g c : Nat} {bs : List Bool} (h : Gr Value.bool 4 w B (some ⟨g, 0, none⟩) c bs) (hc : c = bs.length) : NI w g := by
  rcases h.2 with ⟨hv, _⟩ | ⟨g', cap, cur, hv, _, hg, _, _, hcs, ht⟩
  · simp at hv
  · simp only [Value.slice.injEq, Option.some.injEq, Addr.mk.injEq] at hv
    obtain ⟨⟨rfl, _⟩, _, rfl⟩ := hv
    refine ⟨cur, _, _, hg, fun u hu => ?_⟩
    have h1 : u ∈ cur.toList.take (bs.length * 1) := by rw [List.take_of_length_le (by simp [hcs, hc])]; exact hu
    rw [ht] at h1
    obtain ⟨b, _, rfl⟩ := List.mem_map.1 h1
    rfl
theorem Fa.blk {G : Nat} {x : Fx} {w : World} (h : Fa w G x) : NI w G := by
  obtain ⟨t, fr, e⟩ := h.bk.blk
  exact ⟨_, t, fr, e, fun u hu => by simp only [List.mem_cons, List.not_mem_nil, or_false] at hu; rcases hu with rfl | rfl | rfl <;> rfl⟩
theorem Fa.far1 {w : World} {G H k : Nat} {x : Fx} {v : Value} (h : Fa w G x) (bk : NI w H) (hne : H ≠ G) : Fa (w.setCell ⟨H, k, none⟩ v) G x := by
  refine ⟨?_, h.ok.putN bk k v⟩
  have hg : (w.setCell ⟨H, k, none⟩ v).heap[G]? = w.heap[G]? := heap_setCell_other _ _ _ _ (by exact fun e => hne e.symm)
  have hc : ∀ o, (w.setCell ⟨H, k, none⟩ v).cell? ⟨G, o, none⟩ = w.cell? ⟨G, o, none⟩ := fun o => by unfold World.cell?; rw [hg]
  have hf : ∀ o, (w.setCell ⟨H, k, none⟩ v).frozen? ⟨G, o, none⟩ = w.frozen? ⟨G, o, none⟩ := fun o => by unfold World.frozen?; rw [hg]
  have b := h.bk
  exact ⟨(hc 0).trans b.c0, (hc 1).trans b.c1, (hc 2).trans b.c2, (hf 0).trans b.f0, (hf 1).trans b.f1, (hf 2).trans b.f2, by simp [World.setCell]; exact b.lt, by rw [hg]; exact b.blk⟩
theorem Qr.far1 {w : World} {B H k : Nat} {A : Option Addr} {vs : List Fx} {v : Value} (h : Qr w B A vs) (bk : NI w H) (hne : ∀ ad, A = some ad → ad.block ≠ H) : Qr (w.setCell ⟨H, k, none⟩ v) B A vs :=
  ⟨h.fr.far (p := ⟨H, k, none⟩) hne _, fun u hu => (h.ok u hu).putN bk k v⟩
end Go.Proofs.Ythdfflbhogfejaa
namespace Go.Proofs.Ythdfflbhogfejaa
set_option maxRecDepth 100000
open Go.RowKit

theorem okS_int (n : Int) : okS (Rat.divInt n 1) = okS (n : Rat) := by rw [Rat.divInt_eq_div]; congr 1; grind
theorem sz_whole {n : Int} (n0 : -9223372036854775808 ≤ n) (n1 : n ≤ 9223372036854775807) : Sz (n : Rat) 128 128 := by
  have e : (n : Rat) = mkRat n 1 := by rw [Rat.mkRat_eq_div]; grind
  rw [e]
  exact Sz.mk (by omega) (Nat.le_trans (lim_len2 (by omega)) (by omega)) (Nat.le_trans (lim_len2 (by omega)) (by omega))
set_option maxHeartbeats 1600000 in
theorem whole_any (w : World) (n : Int) (n0 : -9223372036854775808 ≤ n) (n1 : n ≤ 9223372036854775807) : Calls Try.prog 38 #[.int .i64 n] w fun e w' => ∃ x : Fx, e = .returned x.val ∧ Rp x (n : Rat) ∧ Nm w' x (n : Rat) ∧ Below w.heap.size w w' := by
  have HZ : Hid (makeF n 1 = okS (n : Rat)) := Lib.hid (by rw [makeF_int n0 n1, okS_int])
  have HSZ := Lib.hid (sz_whole n0 n1)
  go_enter Try.func38, Try.ntmps38
  go_wp2_with fail
  have bw := (Below.refl w.heap.size w).alloc (Nat.le_refl _) (.cells #[.bool false, .slice none 0 0, .slice none 0 0] 41)
  have bk := bk3_new w
  generalize (w.alloc (.cells #[.bool false, .slice none 0 0, .slice none 0 0] 41)) = w1 at bw bk ⊢
  refine (fmake_any w1 n 1 _ n0 n1 (by omega) (by omega) HZ.out).mono ?_
  rintro e wn ⟨x1, rfl, hs1, ok1, bb⟩
  have HS1 := Lib.hid (Rp.of hs1)
  clear hs1
  replace bk := bk.below bb
  replace bw := below_on bw bb bw.size
  clear bb
  go_upto_region 2 with fail
  have a1 := (fa_alloc ok1).1
  have bb := (fa_alloc ok1).2
  clear ok1
  generalize (wn.alloc (.cells #[.bool x1.b, .slice x1.A x1.xs.length x1.c, .slice x1.D x1.ys.length x1.d] 41)) = wm at a1 bb ⊢
  replace bk := bk.below bb
  replace bw := below_on bw bb bw.size
  clear bb
  generalize wn.heap.size = g1 at a1 ⊢
  have ci0 := a1.c0
  have ci1 := a1.c1
  have ci2 := a1.c2
  have tk := bk
  obtain ⟨k0, k1, k2, kf0, kf1, kf2, klt, kb⟩ := tk
  clear kb
  go_wp2_with fail
  refine bodyPost_ret (v := x1.val) (by simp [results, Try.results38, go_sem, k0, k1, k2]) rfl ?_
  exact ⟨x1, rfl, HS1.out, Nm.of (set3_ok a1.ok bk rfl rfl rfl) HS1.out HSZ.out, set3g bw (Nat.le_refl _)⟩
set_option maxHeartbeats 1600000 in
theorem compare_any (w : World) (x y : Fx) (p q : Rat) (z : Int) (hx : Nm w x p) (hy : Nm w y q) (hz : cmpQ p q = z) :
    Calls Try.prog 41 #[x.val, y.val] w fun e w' => e = .returned (.int .i64 z) ∧ Below w.heap.size w w' := by
  have HS := Lib.hid (cmpF_ok hx.v hy.v hx.q hy.q hz)
  have l1 := hx.l
  have l2 := hx.m
  have m1 := hy.l
  have m2 := hy.m
  replace hx := hx.ok
  replace hy := hy.ok
  clear hz
  go_enter Try.func41, Try.ntmps41
  go_upto_region 1 with fail
  have b0 := (Below.refl w.heap.size w).alloc (Nat.le_refl _) (.cells x.cells 41)
  have bx := bk3_alloc w (.bool x.b) (.slice x.A x.xs.length x.c) (.slice x.D x.ys.length x.d)
  have okx := hx.below b0
  have oky := hy.below b0
  have sz0 := size_box w (.cells x.cells 41)
  have bw := b0
  clear b0
  generalize (w.alloc (.cells x.cells 41)) = wa at bx okx oky sz0 bw ⊢
  have b1 := (Below.refl wa.heap.size wa).alloc (Nat.le_refl _) (.cells y.cells 41)
  have by_ := bk3_alloc wa (.bool y.b) (.slice y.A y.xs.length y.c) (.slice y.D y.ys.length y.d)
  rw [sz0] at by_
  replace bx := bx.below b1
  replace okx := okx.below b1
  replace oky := oky.below b1
  replace bw := below_on bw b1 bw.size
  clear b1 sz0
  generalize (wa.alloc (.cells y.cells 41)) = w1 at bx by_ okx oky bw ⊢
  have tx := bx
  obtain ⟨x0, x1, x2, xf0, xf1, xf2, xlt, xb⟩ := tx
  clear xb
  have ty := by_
  obtain ⟨y0, y1, y2, yf0, yf1, yf2, ylt, yb⟩ := ty
  clear yb
  go_wp2_with fail
  clear x0 x1 x2 xf0 xf1 xf2 xlt
  clear y0 y1 y2 yf0 yf1 yf2 ylt
  refine (fcmp_any w1 x y _ okx oky l1 l2 m1 m2 HS.out).mono ?_
  rintro e wn ⟨rfl, bb⟩
  replace bw := below_on bw bb bw.size
  go_wp2_with fail
  go_ret
  exact ⟨rfl, bw⟩
theorem fsub_nm (w : World) (x y : Fx) (p q : Rat) (hx : Nm w x p) (hy : Nm w y q) (hz : Sz (p - q) 128 128) :
    Calls Try.prog 62 #[x.val, y.val] w fun e w' => ∃ z : Fx, e = .returned (.tuple #[z.val, .int .i64 0]) ∧ Rp z (p - q) ∧ Nm w' z (p - q) ∧ Below w.heap.size w w' := by
  refine (fsub_any w x y _ hx.ok hy.ok hx.l hx.m hy.l hy.m (subF_ok hx.v hy.v hx.q hy.q hz)).mono ?_
  rintro e w' ⟨z, rfl, hs, ok, bb⟩
  exact ⟨z, rfl, Rp.of hs, Nm.of ok (Rp.of hs) hz, bb⟩
theorem fquo_nm (w : World) (x y : Fx) (p q : Rat) (hx : Nm w x p) (hy : Nm w y q) (hq : q ≠ 0) (hz : Sz (p / q) 128 128) :
    Calls Try.prog 63 #[x.val, y.val] w fun e w' => ∃ z : Fx, e = .returned (.tuple #[z.val, .int .i64 0]) ∧ Rp z (p / q) ∧ Nm w' z (p / q) ∧ Below w.heap.size w w' := by
  have h : quoF x y = okS (p / q) := by
    rw [quoF, if_pos ⟨hx.v, hy.v⟩, if_neg (fun e => hq (by rw [← hy.q]; exact (qv_zero hy.v.1).2 e)), hx.q, hy.q]; exact frS_ok hz
  refine (fquo_any w x y _ hx.ok hy.ok hx.l hx.m hy.l hy.m h).mono ?_
  rintro e w' ⟨z, rfl, hs, ok, bb⟩
  exact ⟨z, rfl, Rp.of hs, Nm.of ok (Rp.of hs) hz, bb⟩
theorem freduce_nm (w : World) (x : Fx) (q : Rat) (hx : Nm w x q) :
    Calls Try.prog 42 #[x.val] w fun e w' => ∃ z : Fx, e = .returned (.tuple #[z.val, .int .i64 0]) ∧ Rp z q ∧ Nm w' z q ∧ Below w.heap.size w w' := by
  have hz : Sz q 128 128 := by rw [← hx.q]; exact (redS_ok hx.v).2
  refine (freduce_any w x _ hx.ok hx.l hx.m (redS_okS hx.v)).mono ?_
  rintro e w' ⟨z, rfl, hs, ok, bb⟩
  have r := Rp.of hs
  rw [hx.q] at r
  exact ⟨z, rfl, r, Nm.of ok r hz, bb⟩
theorem index_b (w : World) (A : Option Addr) (n c : Nat) (bs : List Bool) (z : Int) (h : Rd Value.bool w A bs) (hn : n = bs.length) (hc : bs.length ≤ 1000) (hz : (if true ∈ bs then 0 else 1) = z) :
    Calls Try.prog 61 #[.slice A n c, .bool true] w fun e w' => (∃ k : Int, e = .returned (.int .i64 k) ∧ (z = 0 → 0 ≤ k) ∧ (z = 1 → k < 0)) ∧ w = w' := by
  have HZ := Lib.hid hz; clear hz
  subst hn
  go_enter Try.func61, Try.ntmps61
  go_wp2_with fail
  go_loop [8] (fun i => ∃ k : Nat, k ≤ bs.length ∧ i = .int .i64 k ∧ ¬ true ∈ bs.take k) (fun i => bs.length - (intOf i).toNat)
  case atStart => exact ⟨0, by omega, rfl, by simp⟩
  case round =>
    obtain ⟨k, hk, rfl, ha⟩ := hrel
    have HA := Lib.hid ha
    clear ha
    by_cases hlt : k < bs.length
    · obtain ⟨ad, rfl, _, hcc⟩ := h (by omega)
      have hc0 := hcc k hlt
      have HTK := Lib.hid (List.take_succ_eq_append_getElem hlt)
      have HM := Lib.hid (List.getElem_mem hlt)
      obtain ⟨b, hb⟩ : ∃ b, bs[k] = b := ⟨_, rfl⟩
      rw [hb] at hc0 HTK HM
      clear hcc h hb
      cases b
      · go_wp2_with fail
        go_round
        case rel => exact ⟨k + 1, by omega, by go_num, by rw [HTK.out]; simp; exact HA.out⟩
        case measure => simp [intOf]; omega
      · go_wp2_with fail
        go_ret
        refine ⟨⟨_, rfl, fun _ => by omega, fun h1 => ?_⟩, rfl⟩
        have := HZ.out
        rw [if_pos HM.out] at this
        omega
    · go_wp2_with fail
      go_ret
      refine ⟨⟨_, rfl, fun h1 => ?_, fun _ => by omega⟩, rfl⟩
      have := HZ.out
      rw [if_neg (by rw [← List.take_of_length_le (show bs.length ≤ k by omega)]; exact HA.out)] at this
      omega
theorem contains_b (w : World) (A : Option Addr) (n c : Nat) (bs : List Bool) (b : Bool) (h : Rd Value.bool w A bs) (hn : n = bs.length) (hc : bs.length ≤ 1000) (hz : decide (true ∈ bs) = b) :
    Calls Try.prog 39 #[.slice A n c, .bool true] w fun e w' => e = .returned (.bool b) ∧ w = w' := by
  have HZ := Lib.hid hz; clear hz
  subst hn
  go_enter Try.func39, Try.ntmps39
  go_wp2_with fail
  refine (index_b w A _ c bs _ h rfl hc rfl).mono ?_
  rintro e wn ⟨⟨k, rfl, h1, h2⟩, rfl⟩
  by_cases hb : true ∈ bs
  · rw [if_pos hb] at h1
    have h3 := h1 rfl
    have HB : Hid (b = true) := Lib.hid (by rw [← HZ.out]; exact decide_eq_true hb)
    clear h1 h2 hb HZ
    go_wp2_with fail
    go_ret
    exact ⟨ret_bool HB.out.symm, rfl⟩
  · rw [if_neg hb] at h2
    have h3 := h2 rfl
    have h4 : decide (0 ≤ k) = false := decide_eq_false (by omega)
    have HB : Hid (b = false) := Lib.hid (by rw [← HZ.out]; exact decide_eq_false hb)
    clear h1 h2 hb HZ
    go_wp2_with fail
    go_ret
    exact ⟨ret_bool HB.out.symm, rfl⟩
theorem index_i (w : World) (A : Option Addr) (n c : Nat) (xs : List Int) (v : Int) (h : Is w A c xs) (hn : n = xs.length) (z : Int) (hz : (if v ∈ xs then 0 else 1) = z) :
    Calls Try.prog 68 #[.slice A n c, .int .i64 v] w fun e w' => (∃ k : Int, e = .returned (.int .i64 k) ∧ (z = 0 → 0 ≤ k) ∧ (z = 1 → k < 0)) ∧ w = w' := by
  have HZ := Lib.hid hz; clear hz
  have HA := Lib.hid h
  have hla := h.len
  clear h
  subst hn
  go_enter Try.func68, Try.ntmps68
  go_wp2_with fail
  go_loop [8] (fun i => ∃ k : Nat, k ≤ xs.length ∧ i = .int .i64 k ∧ ¬ v ∈ xs.take k) (fun i => xs.length - (intOf i).toNat)
  case atStart => exact ⟨0, by omega, rfl, by simp⟩
  case round =>
    obtain ⟨k, hk, rfl, ha⟩ := hrel
    have HV := Lib.hid ha
    clear ha
    by_cases hlt : k < xs.length
    · obtain ⟨ad, rfl, _, hc0⟩ := HA.out.at k hlt
      have HTK := Lib.hid (List.take_succ_eq_append_getElem hlt)
      have HM := Lib.hid (List.getElem_mem hlt)
      obtain ⟨b, hb⟩ : ∃ b, xs[k] = b := ⟨_, rfl⟩
      rw [hb] at hc0 HTK HM
      clear hb
      by_cases he : v = b
      · have he1 : (v == b) = true := by simp [he]
        have HE := Lib.hid he
        clear he
        go_wp2_with fail
        go_ret
        refine ⟨⟨_, rfl, fun _ => by omega, fun h1 => ?_⟩, rfl⟩
        have := HZ.out
        rw [if_pos (by rw [HE.out]; exact HM.out)] at this
        omega
      · have he1 : (v == b) = false := beq_eq_false_iff_ne.2 he
        have HE : Hid (¬ v = b) := he
        clear he
        go_wp2_with fail
        go_round
        case rel => exact ⟨k + 1, by omega, by go_num, by rw [HTK.out]; simp; exact ⟨HV.out, HE.out⟩⟩
        case measure => simp [intOf]; omega
    · go_wp2_with fail
      go_ret
      refine ⟨⟨_, rfl, fun h1 => ?_, fun _ => by omega⟩, rfl⟩
      have := HZ.out
      rw [if_neg (by rw [← List.take_of_length_le (show xs.length ≤ k by omega)]; exact HV.out)] at this
      omega
theorem contains_i (w : World) (A : Option Addr) (n c : Nat) (xs : List Int) (v : Int) (b : Bool) (h : Is w A c xs) (hn : n = xs.length) (hz : decide (v ∈ xs) = b) :
    Calls Try.prog 46 #[.slice A n c, .int .i64 v] w fun e w' => e = .returned (.bool b) ∧ w = w' := by
  have HZ := Lib.hid hz; clear hz
  subst hn
  go_enter Try.func46, Try.ntmps46
  go_wp2_with fail
  refine (index_i w A _ c xs v h rfl _ rfl).mono ?_
  rintro e wn ⟨⟨k, rfl, h1, h2⟩, rfl⟩
  by_cases hb : v ∈ xs
  · rw [if_pos hb] at h1
    have h3 := h1 rfl
    have HB : Hid (b = true) := Lib.hid (by rw [← HZ.out]; exact decide_eq_true hb)
    clear h1 h2 hb HZ
    go_wp2_with fail
    go_ret
    exact ⟨ret_bool HB.out.symm, rfl⟩
  · rw [if_neg hb] at h2
    have h3 := h2 rfl
    have h4 : decide (0 ≤ k) = false := decide_eq_false (by omega)
    have HB : Hid (b = false) := Lib.hid (by rw [← HZ.out]; exact decide_eq_false hb)
    clear h1 h2 hb HZ
    go_wp2_with fail
    go_ret
    exact ⟨ret_bool HB.out.symm, rfl⟩
end Go.Proofs.Ythdfflbhogfejaa
