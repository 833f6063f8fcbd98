/- Words for memory: a slice that reads as a list; a row of the call's own; append and make as laws over them. No function of the program in sight. -/
import Derived.Test.YtlcolmifmhdboaaLimb
import Derived.Test.YtlcolmifmhdboaaProg
import Derived.WalkKit
import Derived.Lib.Hide
import Derived.Laws.OwnMore
import Derived.Deep.AppendLies
import Derived.Deep.Draws
import Derived.Maps.AppendAt
namespace Go.Proofs.Ytlcolmifmhdboaa
open Go.RowKit

set_option maxRecDepth 100000 in
theorem block_of_add (a : Addr) (n : Nat) : (a.add n).block = a.block := by unfold Addr.add; split <;> rfl
set_option maxRecDepth 100000 in
theorem add_of_add (a : Addr) (i j : Nat) : (a.add i).add j = a.add (i + j) := by
  unfold Addr.add
  by_cases hi : i = 0 <;> by_cases hj : j = 0 <;> simp [hi, hj, Nat.add_assoc]
set_option maxRecDepth 100000 in
theorem add_zero' (b o : Nat) (k : Nat) : (⟨b, o, none⟩ : Addr).add k = ⟨b, o + k, none⟩ := by
  unfold Addr.add
  by_cases hk : k = 0 <;> simp [hk]

/-- the cells of a slice at A read as the list xs -/
def Rd {α : Type} (mk : α → Value) (w : World) (A : Option Addr) (xs : List α) : Prop :=
  0 < xs.length → ∃ ad, A = some ad ∧ ad.block < w.heap.size ∧ ∀ k (h : k < xs.length), w.cell? (ad.add k) = some (mk xs[k])
section
variable {α : Type} {mk : α → Value} {w w' : World} {A : Option Addr} {xs : List α}
set_option maxRecDepth 100000 in
theorem Rd.nil : Rd mk w A [] := fun h => absurd h (by simp)
set_option maxRecDepth 100000 in
theorem Rd.below {B : Nat} (h : Rd mk w A xs) (hb : Below B w w') (hB : B = w.heap.size) : Rd mk w' A xs := fun hn => by
  subst hB
  obtain ⟨ad, e, hl, hc⟩ := h hn
  exact ⟨ad, e, Nat.lt_of_lt_of_le hl hb.size, fun k hk => (hb.cell (p := ad.add k) (by rw [block_of_add]; exact hl)).trans (hc k hk)⟩
set_option maxRecDepth 100000 in
theorem Rd.take (h : Rd mk w A xs) (k : Nat) : Rd mk w A (xs.take k) := fun hn => by
  rw [List.length_take] at hn
  obtain ⟨ad, e, hl, hc⟩ := h (by omega)
  exact ⟨ad, e, hl, fun j hj => by rw [List.length_take] at hj; rw [hc j (by omega), List.getElem_take]⟩
set_option maxRecDepth 100000 in
theorem Rd.drop (h : Rd mk w A xs) (k cap : Nat) (hc : xs.length ≤ cap) : Rd mk w (if cap = k then A else A.map (·.add k)) (xs.drop k) := fun hn => by
  rw [List.length_drop] at hn
  obtain ⟨ad, rfl, hl, hc⟩ := h (by omega)
  rw [if_neg (by omega)]
  refine ⟨ad.add k, rfl, by rw [block_of_add]; exact hl, fun j hj => ?_⟩
  rw [List.length_drop] at hj
  rw [add_of_add, hc (k + j) (by omega), List.getElem_drop]
set_option maxRecDepth 100000 in
theorem Rd.setCell (h : Rd mk w A xs) {p : Addr} (hp : ∀ ad, A = some ad → ad.block ≠ p.block) (u : Value) : Rd mk (w.setCell p u) A xs := fun hn => by
  obtain ⟨ad, e, hl, hc⟩ := h hn
  refine ⟨ad, e, by simpa [World.setCell] using hl, fun k hk => ?_⟩
  rw [World.cell?_setCell_other w p (ad.add k) u (fun e' => hp ad e (by rw [← block_of_add ad k, e'])), hc k hk]
set_option maxRecDepth 100000 in
theorem Rd.one (w : World) (e : TypeId) (x : α) : Rd mk (w.alloc (.cells #[mk x] e)) (some ⟨w.heap.size, 0, none⟩) [x] := fun _ =>
  ⟨_, rfl, by simp, fun k hk => by
    simp only [List.length_cons, List.length_nil] at hk
    have : k = 0 := by omega
    subst this
    have e1 : (⟨w.heap.size, 0, none⟩ : Addr).add 0 = ⟨w.heap.size, 0, none⟩ := rfl
    rw [e1, cell_of_row _ _ 0 #[mk x] e (0, 0) (heap_alloc_new w _)]
    simp⟩
end

set_option maxRecDepth 100000 in
theorem Rd.one_ {α : Type} {mk : α → Value} (w : World) (e : TypeId) (x : α) (v : Value) (hv : v = mk x) : Rd mk (w.alloc (.cells #[v] e)) (some ⟨w.heap.size, 0, none⟩) [x] := by
  subst hv; exact Rd.one w e x

/-- the value of a limb -/
abbrev lmv (n : Nat) : Value := .int .u32 (n : Int)

/-- a natural number's slice: '.slice A xs.length c' reads as the limbs xs -/
structure Nt (w : World) (A : Option Addr) (c : Nat) (xs : List Nat) : Prop where
  cap : xs.length ≤ c
  max : c ≤ 9223372036854775807
  u : U32 xs
  rd : Rd lmv w A xs
section
variable {w w' : World} {A : Option Addr} {c : Nat} {xs : List Nat}
set_option maxRecDepth 100000 in
theorem Nt.at (h : Nt w A c xs) (k : Nat) (hk : k < xs.length) : ∃ ad, A = some ad ∧ ad.block < w.heap.size ∧ w.cell? (ad.add k) = some (.int .u32 (xs[k] : Int)) ∧ xs[k] < 4294967296 := by
  obtain ⟨ad, e, hl, hc⟩ := h.rd (by omega)
  exact ⟨ad, e, hl, hc k hk, h.u.at k hk⟩
set_option maxRecDepth 100000 in
theorem Nt.below (h : Nt w A c xs) (hb : Below w.heap.size w w') : Nt w' A c xs := ⟨h.cap, h.max, h.u, h.rd.below hb rfl⟩
set_option maxRecDepth 100000 in
theorem Nt.take (h : Nt w A c xs) (k : Nat) : Nt w A c (xs.take k) :=
  ⟨by rw [List.length_take]; have := h.cap; omega, h.max, h.u.take _, h.rd.take _⟩
set_option maxRecDepth 100000 in
theorem Nt.lim (h : Nt w A c xs) : Nt w A c (lim (nv xs)) := by
  rw [← lim_take h.u]
  exact h.take _
set_option maxRecDepth 100000 in
theorem Nt.nil (w : World) (A : Option Addr) (c : Nat) (hc : c ≤ 9223372036854775807) : Nt w A c [] := ⟨by simp, hc, U32.nil, Rd.nil⟩
set_option maxRecDepth 100000 in
theorem Nt.len (h : Nt w A c xs) : xs.length ≤ 9223372036854775807 := Nat.le_trans h.cap h.max
set_option maxRecDepth 100000 in
theorem Nt.recap (h : Nt w A c xs) {c' : Nat} (h1 : xs.length ≤ c') (h2 : c' ≤ 9223372036854775807) : Nt w A c' xs := ⟨h1, h2, h.u, h.rd⟩
end

/-- a row of the call's own (or nil): from its head on it holds xs; blocks from B on; not frozen -/
def Gr {α : Type} (mk : α → Value) (e : TypeId) (w : World) (B : Nat) (A : Option Addr) (c : Nat) (xs : List α) : Prop :=
  w.ownsRow B e 1 (.slice A xs.length c) xs.length (xs.map mk)
section
variable {α : Type} {mk : α → Value} {e : TypeId} {w w' : World} {B c g : Nat} {A : Option Addr} {xs : List α}
set_option maxRecDepth 100000 in
theorem Gr.nil (w : World) (B : Nat) : Gr mk e w B none 0 [] := World.ownsRow_nil w B e 1
set_option maxRecDepth 100000 in
theorem Gr.addr (h : Gr mk e w B A c xs) : (A = none ∧ c = 0 ∧ xs = []) ∨ ∃ g, A = some ⟨g, 0, none⟩ := by
  rcases h.2 with ⟨h', hn⟩ | ⟨g, cap, cur, h', _⟩
  · simp only [Value.slice.injEq] at h'
    exact .inl ⟨h'.1, h'.2.2, List.eq_nil_of_length_eq_zero hn⟩
  · simp only [Value.slice.injEq] at h'
    exact .inr ⟨g, h'.1⟩
set_option maxRecDepth 100000 in
theorem Gr.some_ (h : Gr mk e w B A c xs) (hx : 0 < xs.length) : ∃ g, A = some ⟨g, 0, none⟩ := by
  rcases h.addr with ⟨_, _, rfl⟩ | h
  · simp at hx
  · exact h
set_option maxRecDepth 100000 in
theorem Gr.form (h : Gr mk e w B A c xs) : xs.length ≤ c ∧ c ≤ maxLen ∧ ∀ ad, A = some ad → B ≤ ad.block ∧ ad.block < w.heap.size := by
  rcases h.2 with ⟨h', hn⟩ | ⟨g', cap', cur, h', hb, hg, h3, h4, _⟩
  · simp only [Value.slice.injEq] at h'
    obtain ⟨rfl, _, rfl⟩ := h'
    exact ⟨by omega, by simp [maxLen], by intro ad h; cases h⟩
  · simp only [Value.slice.injEq] at h'
    obtain ⟨rfl, _, rfl⟩ := h'
    have h1 := h.lt g' rfl
    exact ⟨h3, h4, by intro ad h; injection h with h; subst h; exact h1⟩
set_option maxRecDepth 100000 in
theorem Gr.cell (h : Gr mk e w B (some ⟨g, 0, none⟩) c xs) (k : Nat) (hk : k < xs.length) : w.cell? ⟨g, k, none⟩ = some (mk xs[k]) := by
  rw [World.ownsRow.cellAt h k (by omega)]
  simp [hk]
set_option maxRecDepth 100000 in
theorem Gr.free (h : Gr mk e w B (some ⟨g, 0, none⟩) c xs) (k : Nat) : w.frozen? ⟨g, k, none⟩ = false := World.ownsRow.frozenAt h k
set_option maxRecDepth 100000 in
theorem Gr.store (h : Gr mk e w B (some ⟨g, 0, none⟩) c xs) (k : Nat) (v : α) : Gr mk e (w.setCell ⟨g, k, none⟩ (mk v)) B (some ⟨g, 0, none⟩) c (xs.set k v) := by
  have h1 := (World.ownsRow.stored h k (mk v)).1
  unfold Gr
  rw [List.length_set, List.map_set]
  exact h1
set_option maxRecDepth 100000 in
theorem Gr.far (h : Gr mk e w B A c xs) {p : Addr} (hp : ∀ ad, A = some ad → ad.block ≠ p.block) (u : Value) : Gr mk e (w.setCell p u) B A c xs :=
  World.ownsRow.kept h (w' := w.setCell p u) (row := some p.block)
    ⟨rfl, rfl, rfl, by simp [World.setCell], fun k _ hne => Below.heap_setCell _ _ _ _ (fun e => hne (by rw [e]))⟩ (by
      cases A with
      | none => exact .inl rfl
      | some ad => exact .inr (by simp [Value.ownBlock]; exact hp ad rfl))
set_option maxRecDepth 100000 in
theorem Gr.below (h : Gr mk e w B A c xs) (hb : Below w.heap.size w w') : Gr mk e w' B A c xs :=
  World.ownsRow.kept h (w' := w') (row := none) ⟨hb.os, hb.tape, hb.output, hb.size, fun k hk _ => hb.block k hk⟩ (by
    cases A with
    | none => exact .inl rfl
    | some ad => exact .inr (by simp [Value.ownBlock]))
set_option maxRecDepth 100000 in
theorem Gr.grown {row : Option Nat} (h : Gr mk e w B A c xs) (hg : w.grownBy w' row) (hne : ∀ ad, A = some ad → some ad.block ≠ row) : Gr mk e w' B A c xs :=
  World.ownsRow.kept h hg (by
    cases A with
    | none => exact .inl rfl
    | some ad => exact .inr (hne ad rfl))
set_option maxRecDepth 100000 in
theorem Gr.more {B' : Nat} (h : Gr mk e w B A c xs) (hB : ∀ ad, A = some ad → B' ≤ ad.block) : Gr mk e w B' A c xs := by
  obtain ⟨h1, h2⟩ := h
  refine ⟨h1, ?_⟩
  rcases h2 with h' | ⟨g', cap', cur, h', _, r⟩
  · exact .inl h'
  · simp only [Value.slice.injEq] at h'
    obtain ⟨rfl, _, rfl⟩ := h'
    exact .inr ⟨g', c, cur, rfl, hB _ rfl, r⟩
set_option maxRecDepth 100000 in
theorem Gr.rd (h : Gr mk e w B A c xs) : Rd mk w A xs := fun hn => by
  obtain ⟨g, rfl⟩ := h.some_ hn
  exact ⟨_, rfl, (h.form.2.2 _ rfl).2, fun k hk => by
    have e : (⟨g, 0, none⟩ : Addr).add k = ⟨g, k, none⟩ := by rw [add_zero']; simp
    rw [e]; exact h.cell k hk⟩
set_option maxRecDepth 100000 in
theorem set_push {O : List α} {m : Nat} {z v : α} (hm : 0 < m) : (O ++ List.replicate m z).set O.length v = (O ++ [v]) ++ List.replicate (m - 1) z := by
  obtain ⟨k, rfl⟩ : ∃ k, m = k + 1 := ⟨m - 1, by omega⟩
  rw [List.replicate_succ, List.set_append_right _ _ (Nat.le_refl _)]
  simp
set_option maxRecDepth 100000 in
/-- a store at the first place that is still at its zero -/
theorem Gr.push {O : List α} {z : α} {j L : Nat} (h : Gr mk e w B (some ⟨g, 0, none⟩) c (O ++ List.replicate (L - j) z)) (hO : O.length = j) (hj : j < L) (v : α) :
    Gr mk e (w.setCell ⟨g, j, none⟩ (mk v)) B (some ⟨g, 0, none⟩) c ((O ++ [v]) ++ List.replicate (L - (j + 1)) z) := by
  have h1 := h.store j v
  subst hO
  rw [set_push (by omega)] at h1
  rwa [show L - (O.length + 1) = L - O.length - 1 from by omega]
set_option maxRecDepth 100000 in
theorem set_pull {O : List α} {j : Nat} {z v : α} : (List.replicate (j + 1) z ++ O).set j v = List.replicate j z ++ v :: O := by
  rw [List.replicate_succ', List.append_assoc]
  have h := List.set_append_right j v (s := List.replicate j z) (t := [z] ++ O) (by simp)
  rw [h]
  simp
set_option maxRecDepth 100000 in
/-- a store at the last place that is still at its zero -/
theorem Gr.pull {O : List α} {z : α} {j : Nat} (h : Gr mk e w B (some ⟨g, 0, none⟩) c (List.replicate (j + 1) z ++ O)) (v : α) :
    Gr mk e (w.setCell ⟨g, j, none⟩ (mk v)) B (some ⟨g, 0, none⟩) c (List.replicate j z ++ v :: O) := by
  have h1 := h.store j v
  rwa [set_pull] at h1
set_option maxRecDepth 100000 in
theorem Gr.lit (w : World) (xs : List α) (cs : Array Value) (hcs : cs.toList = xs.map mk) (hm : xs.length ≤ maxLen) (hB : B ≤ w.heap.size) :
    Gr mk e (w.alloc (.cells cs e)) B (some ⟨w.heap.size, 0, none⟩) xs.length xs := by
  have h := World.ownsRow_lit (e := e) (size := 1) (base := B) w cs xs.length hB hm (by rw [← Array.length_toList, hcs]; simp)
  rw [hcs] at h
  exact h
end
section
variable {w w' : World} {B c : Nat} {e : TypeId} {A : Option Addr} {xs : List Nat}
set_option maxRecDepth 100000 in
theorem Gr.nt (h : Gr lmv e w B A c xs) (hu : U32 xs) : Nt w A c xs :=
  ⟨h.form.1, by have := h.form.2.1; unfold maxLen at this; omega, hu, h.rd⟩
end

set_option maxRecDepth 100000 in
theorem Rd.grown {α : Type} {mk : α → Value} {w w' : World} {A : Option Addr} {xs : List α} {row : Option Nat} (h : Rd mk w A xs) (hg : w.grownBy w' row) (hne : 0 < xs.length → ∀ ad, A = some ad → some ad.block ≠ row) : Rd mk w' A xs := fun hn => by
  obtain ⟨ad, e, hl, hc⟩ := h hn
  refine ⟨ad, e, Nat.lt_of_lt_of_le hl hg.size, fun k hk => ?_⟩
  have e2 : (ad.add k).block = ad.block := block_of_add _ _
  exact hg.cell (hc k hk) (by rw [e2]; exact hne hn ad e)
set_option maxRecDepth 100000 in
theorem Nt.grown {w w' : World} {A : Option Addr} {c : Nat} {xs : List Nat} {row : Option Nat} (h : Nt w A c xs) (hg : w.grownBy w' row) (hne : 0 < xs.length → ∀ ad, A = some ad → some ad.block ≠ row) : Nt w' A c xs :=
  ⟨h.cap, h.max, h.u, h.rd.grown hg hne⟩
/-- what is read at A does not lie in the row at O -/
def Sep {α : Type} (A : Option Addr) (xs : List α) (O : Option Addr) : Prop := 0 < xs.length → ∀ a o, A = some a → O = some o → a.block ≠ o.block
set_option maxRecDepth 100000 in
theorem Sep.row {α : Type} {A O : Option Addr} {xs : List α} (h : Sep A xs O) : 0 < xs.length → ∀ ad, A = some ad → some ad.block ≠ O.map (·.block) := fun hn ad e => by
  cases O with
  | none => simp
  | some o => simp; exact h hn ad o e rfl
set_option maxRecDepth 100000 in
theorem Sep.append {α : Type} {mk : α → Value} {w : World} {A O O' : Option Addr} {xs : List α} (h : Sep A xs O) (hr : Rd mk w A xs) (hat : O'.map (·.block) = O.map (·.block) ∨ O'.map (·.block) = some w.heap.size) : Sep A xs O' := fun hn a o e1 e2 => by
  subst e1 e2
  obtain ⟨ad, e, hl, _⟩ := hr hn
  injection e with e
  subst e
  rcases hat with hat | hat
  · cases O with
    | none => simp at hat
    | some o2 => simp at hat; rw [hat]; exact h hn a o2 rfl rfl
  · simp at hat; omega

/-! append onto a row of the call's own, whatever the source -/
section
variable {P : Program} (w : World) {α : Type} {mk : α → Value}
set_option maxRecDepth 100000 in
theorem run_append_rd (hone : ∀ x, (mk x).oneCell' = true) (t ty e : TypeId) (i : TypeInfo) (z : Value) (bytes : Nat) (ht : P.underlying t = some (.slice e)) (hi : P.info? e = some i) (hz : i.zero = some z)
    (hsize : i.size = 1) (hby : i.bytes = bytes) (hzs : z.cells.size = 1) {B c : Nat} {A : Option Addr} {xs : List α} (hown : Gr mk e w B A c xs)
    (A2 : Option Addr) (c2 : Nat) (ys : List α) (hr : Rd mk w A2 ys) (hmax : xs.length + ys.length ≤ maxLen) (hbytes : (xs.length + ys.length) * bytes ≤ 140737488355328) (hbase : B ≤ w.heap.size) :
    ∃ A' c' w', (Builtin.append_ #[t, t] ty #[.slice A xs.length c, .slice A2 ys.length c2]).run P w = .ok (.slice A' (xs.length + ys.length) c') w' ∧ Gr mk e w' B A' c' (xs ++ ys) ∧
      w.grownBy w' (A.map (·.block)) ∧ Below B w w' ∧ (A'.map (·.block) = A.map (·.block) ∨ A'.map (·.block) = some w.heap.size) := by
  have hAb : ∀ k, A.map (·.block) = some k → B ≤ k := by
    intro k hk
    cases A with
    | none => cases hk
    | some ad => simp at hk; subst hk; exact (hown.form.2.2 ad rfl).1
  have hob : (Value.slice A xs.length c).ownBlock = A.map (·.block) := by cases A <;> rfl
  cases A2 with
  | none =>
    have hy : ys = [] := by
      rcases Nat.eq_zero_or_pos ys.length with h0 | h0
      · exact List.eq_nil_of_length_eq_zero h0
      · obtain ⟨ad, h, _⟩ := hr h0; cases h
    subst hy
    refine ⟨A, c, w, ?_, by simpa using hown, World.grownBy.refl _ _, Below.refl _ _, .inl rfl⟩
    rcases hown.2 with ⟨h', hn⟩ | ⟨g, cap, cur, h', _, _, hnc, _⟩
    · simp only [Value.slice.injEq] at h'
      obtain ⟨rfl, _, rfl⟩ := h'
      simp [Builtin.append_, run_underlying ht, sizeOf, typeInfo, hi, Builtin.lenOf, Builtin.firstCells, hn]
    · simp only [Value.slice.injEq] at h'
      obtain ⟨rfl, _, rfl⟩ := h'
      simp [Builtin.append_, run_underlying ht, sizeOf, typeInfo, hi, Builtin.lenOf, Builtin.firstCells, hnc, storeCells]
  | some ad =>
    have hnews : ∀ j u, (ys.map mk)[j]? = some u → w.cell? (ad.add j) = some u := by
      intro j u hu
      rw [List.getElem?_map] at hu
      rcases Nat.lt_or_ge j ys.length with h1 | h1
      · rw [List.getElem?_eq_getElem h1] at hu
        simp at hu
        subst hu
        obtain ⟨ad', e', _, hc⟩ := hr (by omega)
        injection e' with e'
        subst e'
        exact hc j h1
      · rw [List.getElem?_eq_none h1] at hu; simp at hu
    obtain ⟨v', w', hrun, hown', hg, _, hat⟩ := run_append_own_at (P := P) w B t ty e i z 1 bytes ht hi hz hsize hby hzs (by omega) (.slice A xs.length c) xs.length (xs.map mk) hown ad ys.length c2 (ys.map mk) (by simp) hnews
      (by intro u hu; obtain ⟨x, _, rfl⟩ := List.mem_map.1 hu; exact hone x) hmax hbytes hbase
    have hform : ∃ A' c', v' = .slice A' (xs.length + ys.length) c' := by
      rcases hown'.2 with ⟨rfl, hn⟩ | ⟨g, cap, cur, rfl, _⟩
      · exact ⟨none, 0, by rw [hn]⟩
      · exact ⟨_, _, rfl⟩
    obtain ⟨A', c', rfl⟩ := hform
    have hob' : (Value.slice A' (xs.length + ys.length) c').ownBlock = A'.map (·.block) := by cases A' <;> rfl
    rw [hob, hob'] at hat
    rw [hob] at hg
    refine ⟨A', c', w', hrun, ?_, hg, (Below.refl _ _).grown hg hbase hAb, hat⟩
    unfold Gr
    rw [List.length_append, List.map_append]
    exact hown'

set_option maxRecDepth 100000 in
theorem wpList_append_rd (hone : ∀ x, (mk x).oneCell' = true) {ops : Array Oper} {rest : List Oper} {o : Oper} {a : Act} {Q : Exit → Act → World → Prop} (hgd : o.guard = none) (s x : Operand) (t : TypeId)
    (ho : o.op = .call { callee := .builtin .append, args := #[s, x], argTypes := #[t, t] })
    (e : TypeId) (i : TypeInfo) (z : Value) (bytes : Nat) (ht : P.underlying t = some (.slice e)) (hi : P.info? e = some i) (hz : i.zero = some z)
    (hsize : i.size = 1) (hby : i.bytes = bytes) (hzs : z.cells.size = 1) {B c n : Nat} {A : Option Addr} {xs : List α} (hs : a.eval s = .slice A n c) (hn : n = xs.length) (hown : Gr mk e w B A c xs)
    (A2 : Option Addr) (m c2 : Nat) (ys : List α) (hx : a.eval x = .slice A2 m c2) (hm : m = ys.length) (hr : Rd mk w A2 ys) (hmax : n + m ≤ maxLen) (hbytes : (n + m) * bytes ≤ 140737488355328) (hbase : B ≤ w.heap.size)
    (h : ∀ A' c' w', Gr mk e w' B A' c' (xs ++ ys) → w.grownBy w' (A.map (·.block)) → Below B w w' → (A'.map (·.block) = A.map (·.block) ∨ A'.map (·.block) = some w.heap.size) →
      wpList P ops Q rest (a.put o.dst (.slice A' (n + m) c')) w') : wpList P ops Q (o :: rest) a w := by
  subst hn hm
  obtain ⟨A', c', w', hrun, h1, h2, h3, h4⟩ := run_append_rd (P := P) w hone t o.type e i z bytes ht hi hz hsize hby hzs hown A2 c2 ys hr hmax hbytes hbase
  refine wpList_plain hgd fun K hK => ?_
  unfold Oper.wp execOp
  simp only [ho, resolve, invoke, builtin, Sem.run_bind, Sem.run_pure, Result.andThen_ok, List.map_toArray, List.map_cons, List.map_nil, hs, hx, hrun]
  exact hK _ _ (h A' c' w' h1 h2 h3 h4)

set_option maxRecDepth 100000 in
/-- 'make([]T, n)', n a variable -/
theorem wpList_make_rd (x0 : α) {ops : Array Oper} {rest : List Oper} {o : Oper} {a : Act} {Q : Exit → Act → World → Prop}
    (hgd : o.guard = none) (l c : Operand) (t : TypeId) (hop : o.op = Op.makeSlice t l c)
    (e : TypeId) (i : TypeInfo) (bytes : Nat) (ht : P.underlying t = some (.slice e)) (hi : P.info? e = some i) (hz : i.zero = some (mk x0)) (hsize : i.size = 1) (hby : i.bytes = bytes) (hzs : (mk x0).cells = #[mk x0])
    (kl kc : IntKind) (L C : Int) (n : Nat) (hl : a.eval l = .int kl L) (hc : a.eval c = .int kc C) (hL : L = (n : Int)) (hC : C = (n : Int)) (b2 : bytes * n ≤ 281474976710656) (b3 : n ≤ maxLen)
    (h : ∀ w', Gr mk e w' w.heap.size (some ⟨w.heap.size, 0, none⟩) n (List.replicate n x0) → Below w.heap.size w w' → w.heap.size < w'.heap.size → wpList P ops Q rest (a.put o.dst (.slice (some ⟨w.heap.size, 0, none⟩) n n)) w') :
    wpList P ops Q (o :: rest) a w := by
  refine wpList_make_full w hgd l c t hop w.heap.size e i (mk x0) 1 ht hi hz hsize kl kc L C n hl hc hL hC (by rw [hby]; exact b2) b3 (Nat.le_refl _) ?_
  intro w' hown hg
  have hown2 : Gr mk e w' w.heap.size (some ⟨w.heap.size, 0, none⟩) n (List.replicate n x0) := by
    unfold Gr
    rw [List.length_replicate, List.map_replicate]
    rw [hzs, Nat.mul_one, toList_madeCells_one] at hown
    exact hown
  exact h w' hown2 ((Below.refl _ _).grown hg (Nat.le_refl _) (by intro k hk; cases hk)) (hown2.form.2.2 _ rfl).2
end

/-- the world has not turned but for draws -/
def Qt (w w' : World) : Prop := ∃ q, w' = w.drewN q
set_option maxRecDepth 100000 in
theorem Qt.refl (w : World) : Qt w w := ⟨0, rfl⟩
set_option maxRecDepth 100000 in
theorem Qt.drewN {w w' : World} (h : Qt w w') (n : Nat) : Qt w (w'.drewN n) := by
  obtain ⟨q, rfl⟩ := h
  exact ⟨q + n, World.drewN_drewN _ _ _⟩
set_option maxRecDepth 100000 in
theorem Qt.trans {w w' w'' : World} (h : Qt w w') (k : Qt w' w'') : Qt w w'' := by
  obtain ⟨q, rfl⟩ := k
  exact h.drewN q
set_option maxRecDepth 100000 in
theorem Qt.below {w w' : World} (h : Qt w w') (B : Nat) : Below B w w' := by
  obtain ⟨q, rfl⟩ := h
  exact ⟨rfl, rfl, rfl, Nat.le_refl _, fun _ _ => rfl⟩
set_option maxRecDepth 100000 in
theorem Qt.keep {w w' : World} (h : Qt w w') : Below w.heap.size w w' := h.below _
set_option maxRecDepth 100000 in
theorem below_drewN {B : Nat} {a w : World} (h : Below B a w) (n : Nat) : Below B a (w.drewN n) := ⟨h.os, h.tape, h.output, h.size, h.block⟩
set_option maxRecDepth 100000 in
/-- behind a step that keeps all that was there -/
theorem below_on {B : Nat} {a w w' : World} (h : Below B a w) (k : Below w.heap.size w w') (hB : B ≤ w.heap.size) : Below B a w' := h.trans (k.mono hB)
set_option maxRecDepth 100000 in
theorem int_num {k : IntKind} {a b : Int} (h : a = b) : Value.int k a = Value.int k b := by rw [h]
set_option maxRecDepth 100000 in
theorem ret_int {k : IntKind} {a b : Int} (h : a = b) : Ending.returned (.int k a) = .returned (.int k b) := by rw [h]
set_option maxRecDepth 100000 in
theorem ret_bool {a b : Bool} (h : a = b) : Ending.returned (.bool a) = .returned (.bool b) := by rw [h]
set_option maxRecDepth 100000 in
theorem Gr.drew {α : Type} {mk : α → Value} {e : TypeId} {w : World} {B c : Nat} {A : Option Addr} {xs : List α} (h : Gr mk e w B A c xs) : Gr mk e w.drew B A c xs := h
set_option maxRecDepth 100000 in
theorem below_drew {B : Nat} {a w : World} (h : Below B a w) : Below B a w.drew := h.drew
end Go.Proofs.Ytlcolmifmhdboaa
