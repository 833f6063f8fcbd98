/- Appending fractions onto a row of the call's own. Words for intervals: blocks whose cells are known, two fractions in a block. Appending fractions whose limbs the call has made itself: the row holds no limb. -/
import Derived.Test.YthdfflbhogfejaaFrS
import Derived.Maps.AppendAt
import Derived.Test.YthdfflbhogfejaaFrC
namespace Go.Proofs.Ythdfflbhogfejaa
set_option maxRecDepth 100000
open Go.RowKit

def fcells : List Fx → List Value
  | [] => []
  | v :: vs => .bool v.b :: .slice v.A v.xs.length v.c :: .slice v.D v.ys.length v.d :: fcells vs
theorem fcells_len (vs : List Fx) : (fcells vs).length = vs.length * 3 := by
  induction vs with
  | nil => rfl
  | cons v vs ih => rw [fcells]; simp only [List.length_cons, ih]; omega
theorem fcells_append (a b : List Fx) : fcells (a ++ b) = fcells a ++ fcells b := by
  induction a with
  | nil => rfl
  | cons v a ih => rw [List.cons_append, fcells, fcells, ih]; rfl
theorem fcells_get (vs : List Fx) : ∀ k (hk : k < vs.length), (fcells vs)[k * 3]? = some (.bool vs[k].b) ∧ (fcells vs)[k * 3 + 1]? = some (.slice vs[k].A vs[k].xs.length vs[k].c) ∧ (fcells vs)[k * 3 + 2]? = some (.slice vs[k].D vs[k].ys.length vs[k].d) := by
  induction vs with
  | nil => intro k hk; simp at hk
  | cons v vs ih =>
    intro k hk
    cases k with
    | zero => exact ⟨rfl, rfl, rfl⟩
    | succ k =>
      have h := ih k (by simpa using hk)
      have e : (k + 1) * 3 = k * 3 + 1 + 1 + 1 := by omega
      rw [fcells, e]
      simp only [List.getElem?_cons_succ, List.getElem_cons_succ]
      exact h
/-- where a cell of such a row lies -/
theorem fcells_at (vs : List Fx) (j : Nat) (u : Value) (h : (fcells vs)[j]? = some u) : ∃ k, ∃ hk : k < vs.length, (j = k * 3 ∧ u = .bool vs[k].b) ∨ (j = k * 3 + 1 ∧ u = .slice vs[k].A vs[k].xs.length vs[k].c) ∨ (j = k * 3 + 2 ∧ u = .slice vs[k].D vs[k].ys.length vs[k].d) := by
  have hj : j < vs.length * 3 := by
    rcases Nat.lt_or_ge j (vs.length * 3) with h1 | h1
    · exact h1
    · rw [List.getElem?_eq_none (by rw [fcells_len]; exact h1)] at h; cases h
  have hk : j / 3 < vs.length := by omega
  obtain ⟨h0, h1, h2⟩ := fcells_get vs (j / 3) hk
  refine ⟨j / 3, hk, ?_⟩
  have hm : j % 3 = 0 ∨ j % 3 = 1 ∨ j % 3 = 2 := by omega
  rcases hm with e | e | e
  · left
    have ej : j = j / 3 * 3 := by omega
    rw [ej] at h
    exact ⟨ej, Option.some.inj (h.symm.trans h0)⟩
  · right; left
    have ej : j = j / 3 * 3 + 1 := by omega
    rw [ej] at h
    exact ⟨ej, Option.some.inj (h.symm.trans h1)⟩
  · right; right
    have ej : j = j / 3 * 3 + 2 := by omega
    rw [ej] at h
    exact ⟨ej, Option.some.inj (h.symm.trans h2)⟩
theorem fcells_one (vs : List Fx) : ∀ u ∈ fcells vs, u.oneCell' = true := by
  induction vs with
  | nil => intro u hu; cases hu
  | cons v vs ih =>
    intro u hu
    rw [fcells] at hu
    simp only [List.mem_cons] at hu
    rcases hu with rfl | rfl | rfl | hu
    · rfl
    · rfl
    · rfl
    · exact ih u hu
/-- a row of fractions of the call's own -/
def Fr (w : World) (B : Nat) (A : Option Addr) (c : Nat) (vs : List Fx) : Prop := World.ownsRow w B 41 3 (.slice A vs.length c) vs.length (fcells vs)
theorem add_mk (g j : Nat) : (⟨g, 0, none⟩ : Addr).add j = ⟨g, j, none⟩ := by
  unfold Addr.add
  split
  · rename_i h; rw [h]
  · simp
theorem Fr.rd {w : World} {B : Nat} {A : Option Addr} {c : Nat} {vs : List Fx} (h : Fr w B A c vs) : RdF w A vs := fun hn => by
  have h' := h
  rcases h.2 with ⟨_, h0⟩ | ⟨g, cap, cur, hv, _, hg, _⟩
  · omega
  · simp only [Value.slice.injEq] at hv
    obtain ⟨rfl, _, rfl⟩ := hv
    refine ⟨_, rfl, ?_, fun k hk => ?_⟩
    · exact (Array.getElem?_eq_some_iff.1 hg).1
    · obtain ⟨h0, h1, h2⟩ := fcells_get vs k hk
      have hc := fun j hj => World.ownsRow.cellAt h' j hj
      rw [add_mk]
      exact ⟨(hc (k * 3) (by omega)).trans h0, (hc (k * 3 + 1) (by omega)).trans h1, (hc (k * 3 + 2) (by omega)).trans h2⟩
theorem Fr.below {w w' : World} {B : Nat} {A : Option Addr} {c : Nat} {vs : List Fx} (h : Fr w B A c vs) (hb : Below w.heap.size w w') : Fr w' B A c vs :=
  World.ownsRow.kept h (w' := w') (row := none) ⟨hb.os, hb.tape, hb.output, hb.size, fun k hk _ => hb.block k hk⟩ (by
    cases A with
    | none => exact .inl rfl
    | some ad => exact .inr (by simp [Value.ownBlock]))
theorem frac_info : ∃ i z, Try.prog.info? 41 = some i ∧ i.zero = some z ∧ i.size = 3 ∧ z.cells.size = 3 ∧ i.bytes ≤ 1000 := by
  have h : (Try.prog.info? 41).any (fun i => i.zero.any (fun z => decide (z.cells.size = 3)) && decide (i.size = 3) && decide (i.bytes ≤ 1000)) = true := by kernel_rfl
  cases hi : Try.prog.info? 41 with
  | none => rw [hi] at h; cases h
  | some i =>
    rw [hi] at h
    cases hz : i.zero with
    | none => simp [hz] at h
    | some z =>
      simp [hz] at h
      exact ⟨i, z, rfl, hz, h.1.2, h.1.1, h.2⟩
theorem run_append_frac (w : World) {B c : Nat} {A : Option Addr} {xs : List Fx} (hown : Fr w B A c xs) (A2 : Option Addr) (c2 : Nat) (ys : List Fx) (hr : RdF w A2 ys) (hmax : xs.length + ys.length ≤ 1000) (hbase : B ≤ w.heap.size) :
    ∃ A' c' w', (Builtin.append_ #[29, 29] 29 #[.slice A xs.length c, .slice A2 ys.length c2]).run Try.prog w = .ok (.slice A' (xs.length + ys.length) c') w' ∧ Fr w' B A' c' (xs ++ ys) ∧ Below B w w' ∧ w.grownBy w' (A.map (·.block)) ∧ (A'.map (·.block) = A.map (·.block) ∨ A'.map (·.block) = some w.heap.size) := by
  obtain ⟨i, z, hi, hz, hsize, hzs, hby⟩ := frac_info
  have hAb : ∀ k, A.map (·.block) = some k → B ≤ k := by
    intro k hk
    rcases hown.2 with ⟨hv, _⟩ | ⟨g, cap, cur, hv, hb, _⟩
    · simp only [Value.slice.injEq] at hv
      obtain ⟨rfl, _, _⟩ := hv
      cases hk
    · simp only [Value.slice.injEq] at hv
      obtain ⟨rfl, _, rfl⟩ := hv
      simp at hk; omega
  have hob : (Value.slice A xs.length c).ownBlock = A.map (·.block) := by cases A <;> rfl
  cases A2 with
  | none =>
    have hy : ys = [] := by
      rcases Nat.eq_zero_or_pos ys.length with h0 | h0
      · exact List.eq_nil_of_length_eq_zero h0
      · obtain ⟨ad, h, _⟩ := hr h0; cases h
    subst hy
    refine ⟨A, c, w, ?_, by rw [List.append_nil]; exact hown, Below.refl _ _, World.grownBy.refl _ _, .inl rfl⟩
    rcases hown.2 with ⟨h', hn⟩ | ⟨g, cap, cur, h', _, _, hnc, _⟩
    · simp only [Value.slice.injEq] at h'
      obtain ⟨rfl, _, rfl⟩ := h'
      simp [Builtin.append_, run_underlying Try.underlying29, sizeOf, typeInfo, hi, Builtin.lenOf, Builtin.firstCells, hn]
    · simp only [Value.slice.injEq] at h'
      obtain ⟨rfl, _, rfl⟩ := h'
      simp [Builtin.append_, run_underlying Try.underlying29, sizeOf, typeInfo, hi, Builtin.lenOf, Builtin.firstCells, hnc, storeCells]
  | some ad =>
    have hnews : ∀ j u, (fcells ys)[j]? = some u → w.cell? (ad.add j) = some u := by
      intro j u hu
      obtain ⟨k, hk, hcase⟩ := fcells_at ys j u hu
      obtain ⟨ad', e', _, hc⟩ := hr (by omega)
      injection e' with e'
      subst e'
      obtain ⟨h0, h1, h2⟩ := hc k hk
      have hoff : (ad.add (k * 3)).off = ad.off + k * 3 := by
        unfold Addr.add
        split
        · rename_i h0; rw [h0]; rfl
        · rfl
      rcases hcase with ⟨rfl, rfl⟩ | ⟨rfl, rfl⟩ | ⟨rfl, rfl⟩
      · exact h0
      · rw [show ad.add (k * 3 + 1) = ⟨(ad.add (k * 3)).block, (ad.add (k * 3)).off + 1, none⟩ from by rw [block_of_add, hoff]; exact if_neg (by omega)]
        exact h1
      · rw [show ad.add (k * 3 + 2) = ⟨(ad.add (k * 3)).block, (ad.add (k * 3)).off + 2, none⟩ from by rw [block_of_add, hoff]; exact if_neg (by omega)]
        exact h2
    obtain ⟨v', w', hrun, hown', hg, _, hat⟩ := run_append_own_at (P := Try.prog) w B 29 29 41 i z 3 i.bytes Try.underlying29 hi hz hsize rfl hzs (by omega) (.slice A xs.length c) xs.length (fcells xs) hown ad ys.length c2 (fcells ys) (fcells_len ys) hnews
      (fcells_one ys) (by simp only [maxLen]; omega) (by have := Nat.mul_le_mul hmax hby; omega) hbase
    have hform : ∃ A' c', v' = .slice A' (xs.length + ys.length) c' := by
      rcases hown'.2 with ⟨rfl, hn⟩ | ⟨g, cap, cur, rfl, _⟩
      · exact ⟨none, 0, by rw [hn]⟩
      · exact ⟨_, _, rfl⟩
    obtain ⟨A', c', rfl⟩ := hform
    have hob' : (Value.slice A' (xs.length + ys.length) c').ownBlock = A'.map (·.block) := by cases A' <;> rfl
    rw [hob, hob'] at hat
    rw [hob] at hg
    refine ⟨A', c', w', hrun, ?_, (Below.refl _ _).grown hg hbase hAb, hg, hat⟩
    unfold Fr
    rw [List.length_append, fcells_append]
    exact hown'
theorem Bk3.grown {w w' : World} {G : Nat} {v0 v1 v2 : Value} {row : Option Nat} (h : Bk3 w G v0 v1 v2) (hg : w.grownBy w' row) (hne : some G ≠ row) : Bk3 w' G v0 v1 v2 := by
  have hb : w'.heap[G]? = w.heap[G]? := hg.block G h.lt hne
  refine ⟨hg.cell h.c0 hne, hg.cell h.c1 hne, hg.cell h.c2 hne, ?_, ?_, ?_, Nat.lt_of_lt_of_le h.lt hg.size, by rw [hb]; exact h.blk⟩
  · rw [← h.f0]; unfold World.frozen?; rw [hb]
  · rw [← h.f1]; unfold World.frozen?; rw [hb]
  · rw [← h.f2]; unfold World.frozen?; rw [hb]
theorem Fr.lt {w : World} {B : Nat} {A : Option Addr} {c : Nat} {vs : List Fx} (h : Fr w B A c vs) : ∀ k, A.map (·.block) = some k → B ≤ k ∧ k < w.heap.size := by
  intro k hk
  rcases h.2 with ⟨hv, _⟩ | ⟨g, cap, cur, hv, hb, hg, _⟩
  · simp only [Value.slice.injEq] at hv
    obtain ⟨rfl, _, _⟩ := hv
    cases hk
  · simp only [Value.slice.injEq] at hv
    obtain ⟨rfl, _, rfl⟩ := hv
    simp at hk
    subst hk
    exact ⟨hb, (Array.getElem?_eq_some_iff.1 hg).1⟩
theorem add_add3 (ad : Addr) (k i : Nat) : (ad.add (k * 3)).add (i * 3) = ad.add ((k + i) * 3) ∨ i = 0 := by
  rcases Nat.eq_zero_or_pos i with h | h
  · exact .inr h
  · left
    have ho : (ad.add (k * 3)).off = ad.off + k * 3 := by
      unfold Addr.add
      split
      · rename_i h0; rw [h0]; rfl
      · rfl
    rw [show ad.add ((k + i) * 3) = ⟨ad.block, ad.off + (k + i) * 3, none⟩ from if_neg (by omega),
      show (ad.add (k * 3)).add (i * 3) = ⟨(ad.add (k * 3)).block, (ad.add (k * 3)).off + i * 3, none⟩ from if_neg (by omega), block_of_add, ho, Nat.add_assoc, Nat.add_mul]
theorem RdF.take {w : World} {A : Option Addr} {vs : List Fx} (h : RdF w A vs) (k : Nat) : RdF w A (vs.take k) := fun hn => by
  obtain ⟨ad, e, hl, hc⟩ := h (by simp at hn; omega)
  refine ⟨ad, e, hl, fun i hi => ?_⟩
  rw [List.getElem_take]
  exact hc i (by simp at hi; omega)
theorem RdF.drop {w : World} {ad : Addr} {vs : List Fx} (h : RdF w (some ad) vs) (k : Nat) : RdF w (some (ad.add (k * 3))) (vs.drop k) := fun hn => by
  have hk : k < vs.length := by simp at hn; omega
  obtain ⟨ad', e, hl, hc⟩ := h (by omega)
  injection e with e
  subst e
  refine ⟨_, rfl, by rw [block_of_add]; exact hl, fun i hi => ?_⟩
  have hki : k + i < vs.length := by simp at hi; omega
  have h1 := hc (k + i) hki
  rw [List.getElem_drop]
  rcases add_add3 ad k i with e | rfl
  · rw [e]; exact h1
  · rw [show (ad.add (k * 3)).add (0 * 3) = ad.add (k * 3) from by rw [Nat.zero_mul]; exact if_pos rfl]; exact h1
end Go.Proofs.Ythdfflbhogfejaa
namespace Go.Proofs.Ythdfflbhogfejaa
set_option maxRecDepth 100000
open Go.RowKit

/-- a block whose cells are known and can be written -/
def Blk (w : World) (G : Nat) (arr : Array Value) : Prop := ∃ t, w.heap[G]? = some (.cells arr t (0, 0))
section
variable {w w' : World} {G H : Nat} {arr : Array Value}
theorem Blk.lt (h : Blk w G arr) : G < w.heap.size := by
  obtain ⟨t, e⟩ := h
  exact (Array.getElem?_eq_some_iff.1 e).1
theorem Blk.cell (h : Blk w G arr) (k : Nat) : w.cell? ⟨G, k, none⟩ = arr[k]? := by
  obtain ⟨t, e⟩ := h
  simp [World.cell?, e]
theorem Blk.below (h : Blk w G arr) (hb : Below w.heap.size w w') : Blk w' G arr := by
  have hl := h.lt
  obtain ⟨t, e⟩ := h
  exact ⟨t, (hb.block G hl).trans e⟩
theorem Blk.set (h : Blk w G arr) (k : Nat) (v : Value) : Blk (w.setCell ⟨G, k, none⟩ v) G (arr.setIfInBounds k v) := by
  obtain ⟨t, e⟩ := h
  exact ⟨t, by simp [World.setCell, Array.getElem?_modify, e]⟩
theorem Blk.far (h : Blk w G arr) {p : Addr} (hne : p.block ≠ G) (u : Value) : Blk (w.setCell p u) G arr := by
  obtain ⟨t, e⟩ := h
  exact ⟨t, by rw [Below.heap_setCell _ _ _ _ (fun e => hne e.symm)]; exact e⟩
/-- no cell of the block is a limb -/
def noInt (arr : Array Value) : Prop := ∀ v ∈ arr.toList, isInt v = false
theorem Nt.sepB {A : Option Addr} {c : Nat} {xs : List Nat} (h : Nt w A c xs) (bk : Blk w G arr) (hn : noInt arr) (hx : 0 < xs.length) : ∀ ad, A = some ad → ad.block ≠ G := fun ad e hG => by
  obtain ⟨ad', e', _, hc, _⟩ := h.at 0 hx
  rw [e] at e'
  injection e' with e'
  subst e'
  obtain ⟨t, hblk⟩ := bk
  have hb0 : (ad.add 0).block = G := by rw [block_of_add]; exact hG
  unfold World.cell? at hc
  rw [hb0, hblk] at hc
  simp only at hc
  split at hc
  · cases hc
  · have hm := Array.mem_of_getElem? hc
    have := hn (.int .u32 (xs[0] : Int)) (by simpa using hm)
    simp [isInt] at this
theorem Nt.putB {A : Option Addr} {c : Nat} {xs : List Nat} (h : Nt w A c xs) (bk : Blk w G arr) (hn : noInt arr) (k : Nat) (u : Value) : Nt (w.setCell ⟨G, k, none⟩ u) A c xs := by
  rcases Nat.eq_zero_or_pos xs.length with h0 | h0
  · exact h.nil_any h0 _
  · exact nt_far h (fun a e => h.sepB bk hn h0 a e) _
theorem Fx.ok.putB {x : Fx} (h : x.ok w) (bk : Blk w G arr) (hn : noInt arr) (k : Nat) (u : Value) : x.ok (w.setCell ⟨G, k, none⟩ u) := ⟨h.num.putB bk hn k u, h.den.putB bk hn k u⟩
theorem noInt.set {k : Nat} {u : Value} (hn : noInt arr) (hu : isInt u = false) : noInt (arr.setIfInBounds k u) := fun v hv => by
  rw [Array.toList_setIfInBounds] at hv
  rcases List.mem_or_eq_of_mem_set hv with h | h
  · exact hn v h
  · rw [h]; exact hu
end
/-- six stores, one behind the other -/
abbrev set6 (w : World) (G : Nat) (v0 v1 v2 v3 v4 v5 : Value) : World := (((((w.setCell ⟨G, 0, none⟩ v0).setCell ⟨G, 1, none⟩ v1).setCell ⟨G, 2, none⟩ v2).setCell ⟨G, 3, none⟩ v3).setCell ⟨G, 4, none⟩ v4).setCell ⟨G, 5, none⟩ v5
/-- an interval: its two ends -/
structure Ix where
  lo : Fx
  hi : Fx
abbrev Ix.cells (a : Ix) : Array Value := #[.bool a.lo.b, .slice a.lo.A a.lo.xs.length a.lo.c, .slice a.lo.D a.lo.ys.length a.lo.d, .bool a.hi.b, .slice a.hi.A a.hi.xs.length a.hi.c, .slice a.hi.D a.hi.ys.length a.hi.d]
abbrev Ix.val (a : Ix) : Value := .agg a.cells
abbrev zcells : Array Value := #[.bool false, .slice none 0 0, .slice none 0 0, .bool false, .slice none 0 0, .slice none 0 0]
abbrev Ix.nil : Ix := ⟨Fx.nil, Fx.nil⟩
structure Ix.ok (a : Ix) (w : World) : Prop where
  lo : a.lo.ok w
  hi : a.hi.ok w
theorem Ix.ok.below {a : Ix} {w w' : World} (h : a.ok w) (hb : Below w.heap.size w w') : a.ok w' := ⟨h.lo.below hb, h.hi.below hb⟩
theorem Ix.nil_ok (w : World) : Ix.nil.ok w := ⟨Fx.nil_ok w, Fx.nil_ok w⟩
/-- a variable that holds an interval -/
structure Ia (w : World) (G : Nat) (a : Ix) : Prop where
  bk : Blk w G a.cells
  ok : a.ok w
section
variable {w w' : World} {G : Nat} {a : Ix}
theorem Ia.c0 (h : Ia w G a) : w.cell? ⟨G, 0, none⟩ = some (.bool a.lo.b) := h.bk.cell 0
theorem Ia.c1 (h : Ia w G a) : w.cell? ⟨G, 1, none⟩ = some (.slice a.lo.A a.lo.xs.length a.lo.c) := h.bk.cell 1
theorem Ia.c2 (h : Ia w G a) : w.cell? ⟨G, 2, none⟩ = some (.slice a.lo.D a.lo.ys.length a.lo.d) := h.bk.cell 2
theorem Ia.c3 (h : Ia w G a) : w.cell? ⟨G, 3, none⟩ = some (.bool a.hi.b) := h.bk.cell 3
theorem Ia.c4 (h : Ia w G a) : w.cell? ⟨G, 4, none⟩ = some (.slice a.hi.A a.hi.xs.length a.hi.c) := h.bk.cell 4
theorem Ia.c5 (h : Ia w G a) : w.cell? ⟨G, 5, none⟩ = some (.slice a.hi.D a.hi.ys.length a.hi.d) := h.bk.cell 5
theorem Ia.lt (h : Ia w G a) : G < w.heap.size := h.bk.lt
theorem Ia.below (h : Ia w G a) (hb : Below w.heap.size w w') : Ia w' G a := ⟨h.bk.below hb, h.ok.below hb⟩
end
abbrev FqS := Bool × List Nat × List Nat × Int
/-- how a fraction reads -/
def Fx.is (x : Fx) (s : FqS) : Prop := x.b = s.1 ∧ x.xs = s.2.1 ∧ x.ys = s.2.2.1
abbrev IvS := FqS × FqS × Int
def errI (e : Int) : IvS := (errF e, errF e, e)
/-- what a call hands back: an interval and an error -/
def IvlRes (w : World) (S : IvS) (e : Ending) (w' : World) : Prop :=
  ∃ a : Ix, e = .returned (.tuple #[a.val, .int .i64 S.2.2]) ∧ a.lo.is S.1 ∧ a.hi.is S.2.1 ∧ a.ok w' ∧ Below w.heap.size w w'
/-- an interval -/
def IvlNew (w : World) (S T : FqS) (e : Ending) (w' : World) : Prop :=
  ∃ a : Ix, e = .returned a.val ∧ a.lo.is S ∧ a.hi.is T ∧ a.ok w' ∧ Below w.heap.size w w'
/-- an interval and whether there is one -/
def IvlOk (w : World) (S T : FqS) (b : Bool) (e : Ending) (w' : World) : Prop :=
  ∃ a : Ix, e = .returned (.tuple #[a.val, .bool b]) ∧ a.lo.is S ∧ a.hi.is T ∧ a.ok w' ∧ Below w.heap.size w w'
def bothS (S T : FqS) : IvS := if S.2.2.2 ≠ 0 then errI S.2.2.2 else if T.2.2.2 ≠ 0 then errI T.2.2.2 else (S, T, 0)
end Go.Proofs.Ythdfflbhogfejaa
namespace Go.Proofs.Ythdfflbhogfejaa
set_option maxRecDepth 100000
open Go.RowKit

/-- the row's block holds no limb -/
def NoI (w : World) (A : Option Addr) : Prop := ∀ g, A.map (·.block) = some g → ∃ cur t, w.heap[g]? = some (.cells cur t (0, 0)) ∧ noInt cur
theorem NoI.nil (w : World) : NoI w none := fun g h => by cases h
theorem NoI.below {w w' : World} {A : Option Addr} (h : NoI w A) (hb : Below w.heap.size w w') : NoI w' A := fun g hg => by
  obtain ⟨cur, t, e, hn⟩ := h g hg
  have hl : g < w.heap.size := (Array.getElem?_eq_some_iff.1 e).1
  exact ⟨cur, t, (hb.block g hl).trans e, hn⟩
theorem NoI.sep {w : World} {A D : Option Addr} {c : Nat} {xs : List Nat} (h : NoI w A) (k : Nt w D c xs) (hx : 0 < xs.length) : ∀ ad, D = some ad → some ad.block ≠ A.map (·.block) := fun ad e he => by
  obtain ⟨cur, t, hc, hn⟩ := h ad.block he.symm
  exact k.sepB ⟨t, hc⟩ hn hx ad e rfl
theorem noInt_fcells (vs : List Fx) : ∀ u ∈ fcells vs, isInt u = false := by
  induction vs with
  | nil => intro u hu; cases hu
  | cons v vs ih =>
    intro u hu
    rw [fcells] at hu
    simp only [List.mem_cons] at hu
    rcases hu with rfl | rfl | rfl | hu
    · rfl
    · rfl
    · rfl
    · exact ih u hu
theorem frac_info2 : ∃ i z, Try.prog.info? 41 = some i ∧ i.zero = some z ∧ i.size = 3 ∧ z.cells.size = 3 ∧ i.bytes ≤ 1000 ∧ noInt z.cells := by
  have h : (Try.prog.info? 41).any (fun i => i.zero.any (fun z => decide (z.cells.size = 3) && z.cells.toList.all (fun v => !isInt v)) && decide (i.size = 3) && decide (i.bytes ≤ 1000)) = true := by kernel_rfl
  cases hi : Try.prog.info? 41 with
  | none => rw [hi] at h; cases h
  | some i =>
    rw [hi] at h
    cases hz : i.zero with
    | none => simp [hz] at h
    | some z =>
      simp only [hz, Option.any_some, Bool.and_eq_true, decide_eq_true_eq, List.all_eq_true, Bool.not_eq_true'] at h
      exact ⟨i, z, rfl, hz, h.1.2, h.1.1.1, h.2, h.1.1.2⟩
theorem mem_zeroCells {z : Array Value} {n : Nat} {u : Value} (h : u ∈ (Builtin.zeroCells z n).toList) : u ∈ z.toList := by
  rw [Builtin.zeroCells, Array.toList_map, List.mem_map] at h
  obtain ⟨a, ha, rfl⟩ := h
  have h1 : a < n * z.size := by simpa using ha
  have hz : 0 < z.size := by
    rcases Nat.eq_zero_or_pos z.size with e | e
    · rw [e] at h1; omega
    · exact e
  rw [getElem!_pos z (a % z.size) (Nat.mod_lt _ hz)]
  exact Array.mem_toList_iff.2 (Array.getElem_mem _)
theorem append_noint (w : World) {B c : Nat} {A : Option Addr} {xs : List Fx} (hown : Fr w B A c xs) (hno : NoI w A) (ad : Addr) (c2 : Nat) (ys : List Fx) (hr : RdF w (some ad) ys) (hy : 0 < ys.length) (hmax : xs.length + ys.length ≤ 1000)
    {v' : Value} {w' : World} (hrun : (Builtin.append_ #[29, 29] 29 #[.slice A xs.length c, .slice (some ad) ys.length c2]).run Try.prog w = .ok v' w') :
    ∀ g, v'.ownBlock = some g → ∃ cur t, w'.heap[g]? = some (.cells cur t (0, 0)) ∧ noInt cur := by
  obtain ⟨i, z, hi, hz, hsize, hzs, hby, hzn⟩ := frac_info2
  have hnews : ∀ j u, (fcells ys)[j]? = some u → w.cell? (ad.add j) = some u := by
    intro j u hu
    obtain ⟨k, hk, hcase⟩ := fcells_at ys j u hu
    obtain ⟨ad', e', _, hc⟩ := hr (by omega)
    injection e' with e'
    subst e'
    obtain ⟨h0, h1, h2⟩ := hc k hk
    have hoff : (ad.add (k * 3)).off = ad.off + k * 3 := by
      unfold Addr.add
      split
      · rename_i h0; rw [h0]; rfl
      · rfl
    rcases hcase with ⟨rfl, rfl⟩ | ⟨rfl, rfl⟩ | ⟨rfl, rfl⟩
    · exact h0
    · rw [show ad.add (k * 3 + 1) = ⟨(ad.add (k * 3)).block, (ad.add (k * 3)).off + 1, none⟩ from by rw [block_of_add, hoff]; exact if_neg (by omega)]
      exact h1
    · rw [show ad.add (k * 3 + 2) = ⟨(ad.add (k * 3)).block, (ad.add (k * 3)).off + 2, none⟩ from by rw [block_of_add, hoff]; exact if_neg (by omega)]
      exact h2
  have hl : (fcells ys).length = ys.length * i.size := by rw [hsize]; exact fcells_len ys
  have hb := Nat.mul_le_mul hmax hby
  rcases hown.2 with ⟨hv, h0⟩ | ⟨g, cap, cur, hv, hbg, hg, hnc, hcm, hcs, htake⟩
  · simp only [Value.slice.injEq] at hv
    obtain ⟨rfl, _, rfl⟩ := hv
    have hx : xs = [] := List.eq_nil_of_length_eq_zero h0
    subst hx
    rw [List.length_nil, run_append_nil (P := Try.prog) w 29 29 41 i z Try.underlying29 hi hz ad ys.length c2 (fcells ys) hl hnews hy (by simp at hmax; omega) (by simp at hb; omega)] at hrun
    injection hrun with e1 e2
    subst e1 e2
    intro g hg
    simp [Value.ownBlock] at hg
    subst hg
    refine ⟨_, _, heap_alloc_new _ _, fun u hu => ?_⟩
    rw [Array.toList_append, List.mem_append] at hu
    rcases hu with h | h
    · exact noInt_fcells ys u (by simpa using h)
    · exact hzn u (mem_zeroCells h)
  · simp only [Value.slice.injEq] at hv
    obtain ⟨rfl, _, rfl⟩ := hv
    obtain ⟨cur', t', hg', hcn⟩ := hno g rfl
    rw [hg] at hg'
    obtain ⟨rfl, rfl⟩ : cur = cur' ∧ 41 = t' := by simpa using hg'
    have hxl : (fcells xs).length = xs.length * i.size := by rw [hsize]; exact fcells_len xs
    by_cases hroom : xs.length + ys.length ≤ c
    · have hfit : xs.length * i.size + (fcells ys).length ≤ cur.size := by
        rw [hl, hcs, ← Nat.add_mul, hsize]; exact Nat.mul_le_mul_right _ hroom
      rw [run_append_room (P := Try.prog) w 29 29 41 i Try.underlying29 hi g xs.length c cur hg ad ys.length c2 (fcells ys) hl hnews (fcells_one ys) hroom hfit] at hrun
      injection hrun with e1 e2
      subst e1 e2
      intro g' hg'
      simp [Value.ownBlock] at hg'
      subst hg'
      refine ⟨_, _, setRow_heap w g cur _ _ _ hg, fun u hu => ?_⟩
      rw [List.mem_append, List.mem_append] at hu
      rcases hu with (h | h) | h
      · exact hcn u (List.mem_of_mem_take h)
      · exact noInt_fcells ys u h
      · exact hcn u (List.mem_of_mem_drop h)
    · have holds : ∀ j u, (fcells xs)[j]? = some u → w.cell? ((⟨g, 0, none⟩ : Addr).add j) = some u := World.ownsRow.cells (g := g) hown rfl
      rw [run_append_grow (P := Try.prog) w 29 29 41 i z Try.underlying29 hi hz ⟨g, 0, none⟩ xs.length c (fcells xs) hxl holds ad ys.length c2 (fcells ys) hl hnews (by omega) (by omega) (growslice_fits (by omega) (by omega))] at hrun
      injection hrun with e1 e2
      subst e1 e2
      intro g' hg'
      simp [Value.ownBlock] at hg'
      subst hg'
      refine ⟨_, _, heap_alloc_new _ _, fun u hu => ?_⟩
      rw [Array.toList_append, Array.toList_append, List.mem_append, List.mem_append] at hu
      rcases hu with (h | h) | h
      · exact noInt_fcells xs u h
      · exact noInt_fcells ys u h
      · exact hzn u (mem_zeroCells h)
theorem Fx.ok.grown {w w' : World} {A : Option Addr} {x : Fx} (h : x.ok w) (hn : NoI w A) (gr : w.grownBy w' (A.map (·.block))) : x.ok w' :=
  ⟨h.num.grown gr (fun hx => hn.sep h.num hx), h.den.grown gr (fun hx => hn.sep h.den hx)⟩
theorem OkF.grown {w w' : World} {A : Option Addr} {vs : List Fx} (h : OkF w vs) (hn : NoI w A) (gr : w.grownBy w' (A.map (·.block))) : OkF w' vs := fun v hv => ⟨(h v hv).1.grown hn gr, (h v hv).2⟩
/-- append of one fraction that lies in a literal just made -/
theorem wpList_append_frac (w : World) {ops : Array Oper} {rest : List Oper} {o : Oper} {a : Act} {Q : Exit → Act → World → Prop} (hgd : o.guard = none) (s x : Operand)
    (ho : o.op = .call { callee := .builtin .append, args := #[s, x], argTypes := #[29, 29] }) (hty : o.type = 29)
    {B c n : Nat} {A : Option Addr} {xs : List Fx} (hs : a.eval s = .slice A n c) (hn : n = xs.length) (hown : Fr w B A c xs) (hno : NoI w A)
    (ad : Addr) (m c2 : Nat) (ys : List Fx) (hx : a.eval x = .slice (some ad) m c2) (hm : m = ys.length) (hr : RdF w (some ad) ys) (hy : 0 < ys.length) (hmax : n + m ≤ 1000) (hbase : B ≤ w.heap.size)
    (h : ∀ A' c' w', Fr w' B A' c' (xs ++ ys) → NoI w' A' → Below B w w' → w.grownBy w' (A.map (·.block)) → (A'.map (·.block) = A.map (·.block) ∨ A'.map (·.block) = some w.heap.size) → wpList Try.prog ops Q rest (a.put o.dst (.slice A' (n + m) c')) w') :
    wpList Try.prog ops Q (o :: rest) a w := by
  subst hn hm
  obtain ⟨A', c', w', hrun, h1, h3, h4, h5⟩ := run_append_frac w hown (some ad) c2 ys hr hmax hbase
  have h6 := append_noint w hown hno ad c2 ys hr hy hmax hrun
  have h7 : NoI w' A' := fun g hg => h6 g (by cases A' with
    | none => cases hg
    | some a' => simpa [Value.ownBlock] using hg)
  refine wpList_plain hgd fun K hK => ?_
  unfold Oper.wp execOp
  simp only [ho, hty, resolve, invoke, builtin, Sem.run_bind, Sem.run_pure, Result.andThen_ok, List.map_toArray, List.map_cons, List.map_nil, hs, hx, hrun]
  exact hK _ _ (h A' c' w' h1 h7 h3 h4 h5)
theorem Fa.grown {w w' : World} {A : Option Addr} {x : Fx} {G : Nat} (h : Fa w G x) (hn : NoI w A) (gr : w.grownBy w' (A.map (·.block))) (hne : some G ≠ A.map (·.block)) : Fa w' G x := ⟨h.bk.grown gr hne, h.ok.grown hn gr⟩
theorem Fr.caps {w : World} {B : Nat} {A : Option Addr} {c : Nat} {vs : List Fx} (h : Fr w B A c vs) : vs.length ≤ c ∧ c ≤ maxLen := by
  rcases h.2 with ⟨hv, hn⟩ | ⟨g, cap, cur, hv, _, _, hnc, hcm, _⟩
  · simp only [Value.slice.injEq] at hv
    obtain ⟨_, _, rfl⟩ := hv
    exact ⟨by omega, by simp [maxLen]⟩
  · simp only [Value.slice.injEq] at hv
    obtain ⟨_, _, rfl⟩ := hv
    exact ⟨hnc, hcm⟩
theorem fr_nil (w : World) (B : Nat) : Fr w B none 0 [] := World.ownsRow_nil _ _ _ _
end Go.Proofs.Ythdfflbhogfejaa
