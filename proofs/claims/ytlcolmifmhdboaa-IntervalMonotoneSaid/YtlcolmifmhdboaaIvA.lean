/- Words for intervals: blocks whose cells are known, two fractions in a block. Appending fractions whose limbs the call has made itself: the row holds no limb. The walks of package interval: atMost, Valid, between, Point. -/
import Derived.Test.YtlcolmifmhdboaaFrB
import Derived.Test.YtlcolmifmhdboaaFrcA
import Derived.Test.YtlcolmifmhdboaaFrD
import Derived.Test.YtlcolmifmhdboaaLwB
namespace Go.Proofs.Ytlcolmifmhdboaa
open Go.RowKit

/-- a block whose cells are known and can be written -/
def Blk (w : World) (G : Nat) (arr : Array Value) : Prop := ∃ t, w.heap[G]? = some (.cells arr t (0, 0))
section
variable {w w' : World} {G H : Nat} {arr : Array Value}
set_option maxRecDepth 100000 in
theorem Blk.lt (h : Blk w G arr) : G < w.heap.size := by
  obtain ⟨t, e⟩ := h
  exact (Array.getElem?_eq_some_iff.1 e).1
set_option maxRecDepth 100000 in
theorem Blk.cell (h : Blk w G arr) (k : Nat) : w.cell? ⟨G, k, none⟩ = arr[k]? := by
  obtain ⟨t, e⟩ := h
  simp [World.cell?, e]
set_option maxRecDepth 100000 in
theorem Blk.unf (h : Blk w G arr) (k : Nat) : w.frozen? ⟨G, k, none⟩ = false := by
  obtain ⟨t, e⟩ := h
  simp [World.frozen?, e]
set_option maxRecDepth 100000 in
theorem Blk.below (h : Blk w G arr) (hb : Below w.heap.size w w') : Blk w' G arr := by
  have hl := h.lt
  obtain ⟨t, e⟩ := h
  exact ⟨t, (hb.block G hl).trans e⟩
set_option maxRecDepth 100000 in
theorem blk_alloc (w : World) (arr : Array Value) (t : TypeId) : Blk (w.alloc (.cells arr t)) w.heap.size arr := ⟨t, heap_alloc_new w _⟩
set_option maxRecDepth 100000 in
theorem Blk.set (h : Blk w G arr) (k : Nat) (v : Value) : Blk (w.setCell ⟨G, k, none⟩ v) G (arr.setIfInBounds k v) := by
  obtain ⟨t, e⟩ := h
  exact ⟨t, by simp [World.setCell, Array.getElem?_modify, e]⟩
set_option maxRecDepth 100000 in
theorem Blk.far (h : Blk w G arr) {p : Addr} (hne : p.block ≠ G) (u : Value) : Blk (w.setCell p u) G arr := by
  obtain ⟨t, e⟩ := h
  exact ⟨t, by rw [Below.heap_setCell _ _ _ _ (fun e => hne e.symm)]; exact e⟩
/-- no cell of the block is a limb -/
def noInt (arr : Array Value) : Prop := ∀ v ∈ arr.toList, isInt v = false
set_option maxRecDepth 100000 in
theorem Nt.sepB {A : Option Addr} {c : Nat} {xs : List Nat} (h : Nt w A c xs) (bk : Blk w G arr) (hn : noInt arr) (hx : 0 < xs.length) : ∀ ad, A = some ad → ad.block ≠ G := fun ad e hG => by
  obtain ⟨ad', e', _, hc, _⟩ := h.at 0 hx
  rw [e] at e'
  injection e' with e'
  subst e'
  obtain ⟨t, hblk⟩ := bk
  have hb0 : (ad.add 0).block = G := by rw [block_of_add]; exact hG
  unfold World.cell? at hc
  rw [hb0, hblk] at hc
  simp only at hc
  split at hc
  · cases hc
  · have hm := Array.mem_of_getElem? hc
    have := hn (.int .u32 (xs[0] : Int)) (by simpa using hm)
    simp [isInt] at this
set_option maxRecDepth 100000 in
theorem Nt.putB {A : Option Addr} {c : Nat} {xs : List Nat} (h : Nt w A c xs) (bk : Blk w G arr) (hn : noInt arr) (k : Nat) (u : Value) : Nt (w.setCell ⟨G, k, none⟩ u) A c xs := by
  rcases Nat.eq_zero_or_pos xs.length with h0 | h0
  · exact h.nil_any h0 _
  · exact nt_far h (fun a e => h.sepB bk hn h0 a e) _
set_option maxRecDepth 100000 in
theorem Fx.ok.putB {x : Fx} (h : x.ok w) (bk : Blk w G arr) (hn : noInt arr) (k : Nat) (u : Value) : x.ok (w.setCell ⟨G, k, none⟩ u) := ⟨h.num.putB bk hn k u, h.den.putB bk hn k u⟩
set_option maxRecDepth 100000 in
theorem noInt.set {k : Nat} {u : Value} (hn : noInt arr) (hu : isInt u = false) : noInt (arr.setIfInBounds k u) := fun v hv => by
  rw [Array.toList_setIfInBounds] at hv
  rcases List.mem_or_eq_of_mem_set hv with h | h
  · exact hn v h
  · rw [h]; exact hu
end
/-- six stores, one behind the other -/
abbrev set6 (w : World) (G : Nat) (v0 v1 v2 v3 v4 v5 : Value) : World := (((((w.setCell ⟨G, 0, none⟩ v0).setCell ⟨G, 1, none⟩ v1).setCell ⟨G, 2, none⟩ v2).setCell ⟨G, 3, none⟩ v3).setCell ⟨G, 4, none⟩ v4).setCell ⟨G, 5, none⟩ v5
set_option maxRecDepth 100000 in
theorem set6_blk {w : World} {G : Nat} {arr : Array Value} {v0 v1 v2 v3 v4 v5 : Value} (h : Blk w G arr) (hs : arr.size = 6) : Blk (set6 w G v0 v1 v2 v3 v4 v5) G #[v0, v1, v2, v3, v4, v5] := by
  have h1 := (((((h.set 0 v0).set 1 v1).set 2 v2).set 3 v3).set 4 v4).set 5 v5
  have e : ((((((arr.setIfInBounds 0 v0).setIfInBounds 1 v1).setIfInBounds 2 v2).setIfInBounds 3 v3).setIfInBounds 4 v4).setIfInBounds 5 v5) = #[v0, v1, v2, v3, v4, v5] := by
    apply Array.toList_inj.1
    simp only [Array.toList_setIfInBounds]
    have hl : arr.toList.length = 6 := by simpa using hs
    generalize arr.toList = l at hl
    match l, hl with
    | [_, _, _, _, _, _], _ => rfl
  rw [e] at h1
  exact h1
set_option maxRecDepth 100000 in
theorem set6_ok {w : World} {x : Fx} {G : Nat} {arr : Array Value} {v0 v1 v2 v3 v4 v5 : Value} (h : x.ok w) (bk : Blk w G arr) (hn : noInt arr) : x.ok (set6 w G v0 v1 v2 v3 v4 v5) := by
  constructor
  · rcases Nat.eq_zero_or_pos x.xs.length with h0 | h0
    · exact h.num.nil_any h0 _
    · have hs := h.num.sepB bk hn h0
      exact nt_far (nt_far (nt_far (nt_far (nt_far (nt_far h.num hs _) hs _) hs _) hs _) hs _) hs _
  · rcases Nat.eq_zero_or_pos x.ys.length with h0 | h0
    · exact h.den.nil_any h0 _
    · have hs := h.den.sepB bk hn h0
      exact nt_far (nt_far (nt_far (nt_far (nt_far (nt_far h.den hs _) hs _) hs _) hs _) hs _) hs _
set_option maxRecDepth 100000 in
theorem set6_below {w wc : World} {B G : Nat} {v0 v1 v2 v3 v4 v5 : Value} (h : Below B w wc) (hG : B ≤ G) : Below B w (set6 wc G v0 v1 v2 v3 v4 v5) :=
  (((((h.setCell (p := ⟨G, 0, none⟩) hG _).setCell (p := ⟨G, 1, none⟩) hG _).setCell (p := ⟨G, 2, none⟩) hG _).setCell (p := ⟨G, 3, none⟩) hG _).setCell (p := ⟨G, 4, none⟩) hG _).setCell (p := ⟨G, 5, none⟩) hG _

/-- an interval: its two ends -/
structure Ix where
  lo : Fx
  hi : Fx
abbrev Ix.cells (a : Ix) : Array Value := #[.bool a.lo.b, .slice a.lo.A a.lo.xs.length a.lo.c, .slice a.lo.D a.lo.ys.length a.lo.d, .bool a.hi.b, .slice a.hi.A a.hi.xs.length a.hi.c, .slice a.hi.D a.hi.ys.length a.hi.d]
abbrev Ix.val (a : Ix) : Value := .agg a.cells
abbrev zcells : Array Value := #[.bool false, .slice none 0 0, .slice none 0 0, .bool false, .slice none 0 0, .slice none 0 0]
abbrev Ix.nil : Ix := ⟨Fx.nil, Fx.nil⟩
structure Ix.ok (a : Ix) (w : World) : Prop where
  lo : a.lo.ok w
  hi : a.hi.ok w
set_option maxRecDepth 100000 in
theorem Ix.ok.below {a : Ix} {w w' : World} (h : a.ok w) (hb : Below w.heap.size w w') : a.ok w' := ⟨h.lo.below hb, h.hi.below hb⟩
set_option maxRecDepth 100000 in
theorem Ix.nil_ok (w : World) : Ix.nil.ok w := ⟨Fx.nil_ok w, Fx.nil_ok w⟩
set_option maxRecDepth 100000 in
theorem noInt_z : noInt zcells := by intro v hv; simp only [List.mem_cons, List.not_mem_nil, or_false] at hv; rcases hv with rfl | rfl | rfl | rfl | rfl | rfl <;> rfl
set_option maxRecDepth 100000 in
theorem noInt_i (a : Ix) : noInt a.cells := by intro v hv; simp only [List.mem_cons, List.not_mem_nil, or_false] at hv; rcases hv with rfl | rfl | rfl | rfl | rfl | rfl <;> rfl
/-- a variable that holds an interval -/
structure Ia (w : World) (G : Nat) (a : Ix) : Prop where
  bk : Blk w G a.cells
  ok : a.ok w
section
variable {w w' : World} {G : Nat} {a : Ix}
set_option maxRecDepth 100000 in
theorem Ia.c0 (h : Ia w G a) : w.cell? ⟨G, 0, none⟩ = some (.bool a.lo.b) := h.bk.cell 0
set_option maxRecDepth 100000 in
theorem Ia.c1 (h : Ia w G a) : w.cell? ⟨G, 1, none⟩ = some (.slice a.lo.A a.lo.xs.length a.lo.c) := h.bk.cell 1
set_option maxRecDepth 100000 in
theorem Ia.c2 (h : Ia w G a) : w.cell? ⟨G, 2, none⟩ = some (.slice a.lo.D a.lo.ys.length a.lo.d) := h.bk.cell 2
set_option maxRecDepth 100000 in
theorem Ia.c3 (h : Ia w G a) : w.cell? ⟨G, 3, none⟩ = some (.bool a.hi.b) := h.bk.cell 3
set_option maxRecDepth 100000 in
theorem Ia.c4 (h : Ia w G a) : w.cell? ⟨G, 4, none⟩ = some (.slice a.hi.A a.hi.xs.length a.hi.c) := h.bk.cell 4
set_option maxRecDepth 100000 in
theorem Ia.c5 (h : Ia w G a) : w.cell? ⟨G, 5, none⟩ = some (.slice a.hi.D a.hi.ys.length a.hi.d) := h.bk.cell 5
set_option maxRecDepth 100000 in
theorem Ia.lt (h : Ia w G a) : G < w.heap.size := h.bk.lt
set_option maxRecDepth 100000 in
theorem Ia.below (h : Ia w G a) (hb : Below w.heap.size w w') : Ia w' G a := ⟨h.bk.below hb, h.ok.below hb⟩
end
set_option maxRecDepth 100000 in
theorem ia_alloc {w : World} {a : Ix} (h : a.ok w) : Ia (w.alloc (.cells a.cells 41)) w.heap.size a ∧ Below w.heap.size w (w.alloc (.cells a.cells 41)) := by
  have b0 := (Below.refl w.heap.size w).alloc (Nat.le_refl _) (.cells a.cells 41)
  exact ⟨⟨blk_alloc _ _ _, h.below b0⟩, b0⟩
set_option maxRecDepth 100000 in
theorem zr_alloc (w : World) : Blk (w.alloc (.cells zcells 41)) w.heap.size zcells ∧ Below w.heap.size w (w.alloc (.cells zcells 41)) :=
  ⟨blk_alloc _ _ _, (Below.refl w.heap.size w).alloc (Nat.le_refl _) _⟩
abbrev FqS := Bool × List Nat × List Nat × Int
/-- how a fraction reads -/
def Fx.is (x : Fx) (s : FqS) : Prop := x.b = s.1 ∧ x.xs = s.2.1 ∧ x.ys = s.2.2.1
abbrev IvS := FqS × FqS × Int
def errI (e : Int) : IvS := (errF e, errF e, e)
/-- what a call hands back: an interval and an error -/
def IvlRes (w : World) (S : IvS) (e : Ending) (w' : World) : Prop :=
  ∃ a : Ix, e = .returned (.tuple #[a.val, .int .i64 S.2.2]) ∧ a.lo.is S.1 ∧ a.hi.is S.2.1 ∧ a.ok w' ∧ Below w.heap.size w w'
/-- an interval -/
def IvlNew (w : World) (S T : FqS) (e : Ending) (w' : World) : Prop :=
  ∃ a : Ix, e = .returned a.val ∧ a.lo.is S ∧ a.hi.is T ∧ a.ok w' ∧ Below w.heap.size w w'
/-- an interval and whether there is one -/
def IvlOk (w : World) (S T : FqS) (b : Bool) (e : Ending) (w' : World) : Prop :=
  ∃ a : Ix, e = .returned (.tuple #[a.val, .bool b]) ∧ a.lo.is S ∧ a.hi.is T ∧ a.ok w' ∧ Below w.heap.size w w'
def bothS (S T : FqS) : IvS := if S.2.2.2 ≠ 0 then errI S.2.2.2 else if T.2.2.2 ≠ 0 then errI T.2.2.2 else (S, T, 0)
end Go.Proofs.Ytlcolmifmhdboaa
namespace Go.Proofs.Ytlcolmifmhdboaa
open Go.RowKit

/-- the row's block holds no limb -/
def NoI (w : World) (A : Option Addr) : Prop := ∀ g, A.map (·.block) = some g → ∃ cur t, w.heap[g]? = some (.cells cur t (0, 0)) ∧ noInt cur
set_option maxRecDepth 100000 in
theorem NoI.nil (w : World) : NoI w none := fun g h => by cases h
set_option maxRecDepth 100000 in
theorem noi_alloc (w : World) (arr : Array Value) (t : TypeId) (h : noInt arr) : NoI (w.alloc (.cells arr t)) (some ⟨w.heap.size, 0, none⟩) := fun g hg => by
  simp at hg
  subst hg
  exact ⟨arr, t, heap_alloc_new w _, h⟩
set_option maxRecDepth 100000 in
theorem NoI.below {w w' : World} {A : Option Addr} (h : NoI w A) (hb : Below w.heap.size w w') : NoI w' A := fun g hg => by
  obtain ⟨cur, t, e, hn⟩ := h g hg
  have hl : g < w.heap.size := (Array.getElem?_eq_some_iff.1 e).1
  exact ⟨cur, t, (hb.block g hl).trans e, hn⟩
set_option maxRecDepth 100000 in
theorem NoI.sep {w : World} {A D : Option Addr} {c : Nat} {xs : List Nat} (h : NoI w A) (k : Nt w D c xs) (hx : 0 < xs.length) : ∀ ad, D = some ad → some ad.block ≠ A.map (·.block) := fun ad e he => by
  obtain ⟨cur, t, hc, hn⟩ := h ad.block he.symm
  exact k.sepB ⟨t, hc⟩ hn hx ad e rfl
set_option maxRecDepth 100000 in
theorem noInt_fcells (vs : List Fx) : ∀ u ∈ fcells vs, isInt u = false := by
  induction vs with
  | nil => intro u hu; cases hu
  | cons v vs ih =>
    intro u hu
    rw [fcells] at hu
    simp only [List.mem_cons] at hu
    rcases hu with rfl | rfl | rfl | hu
    · rfl
    · rfl
    · rfl
    · exact ih u hu
set_option maxRecDepth 100000 in
theorem frac_info2 : ∃ i z, Try.prog.info? 25 = some i ∧ i.zero = some z ∧ i.size = 3 ∧ z.cells.size = 3 ∧ i.bytes ≤ 1000 ∧ noInt z.cells := by
  have h : (Try.prog.info? 25).any (fun i => i.zero.any (fun z => decide (z.cells.size = 3) && z.cells.toList.all (fun v => !isInt v)) && decide (i.size = 3) && decide (i.bytes ≤ 1000)) = true := by kernel_rfl
  cases hi : Try.prog.info? 25 with
  | none => rw [hi] at h; cases h
  | some i =>
    rw [hi] at h
    cases hz : i.zero with
    | none => simp [hz] at h
    | some z =>
      simp only [hz, Option.any_some, Bool.and_eq_true, decide_eq_true_eq, List.all_eq_true, Bool.not_eq_true'] at h
      exact ⟨i, z, rfl, hz, h.1.2, h.1.1.1, h.2, h.1.1.2⟩
set_option maxRecDepth 100000 in
theorem mem_zeroCells {z : Array Value} {n : Nat} {u : Value} (h : u ∈ (Builtin.zeroCells z n).toList) : u ∈ z.toList := by
  rw [Builtin.zeroCells, Array.toList_map, List.mem_map] at h
  obtain ⟨a, ha, rfl⟩ := h
  have h1 : a < n * z.size := by simpa using ha
  have hz : 0 < z.size := by
    rcases Nat.eq_zero_or_pos z.size with e | e
    · rw [e] at h1; omega
    · exact e
  rw [getElem!_pos z (a % z.size) (Nat.mod_lt _ hz)]
  exact Array.mem_toList_iff.2 (Array.getElem_mem _)
set_option maxRecDepth 100000 in
theorem append_noint (w : World) {B c : Nat} {A : Option Addr} {xs : List Fx} (hown : Fr w B A c xs) (hno : NoI w A) (ad : Addr) (c2 : Nat) (ys : List Fx) (hr : RdF w (some ad) ys) (hy : 0 < ys.length) (hmax : xs.length + ys.length ≤ 1000)
    {v' : Value} {w' : World} (hrun : (Builtin.append_ #[62, 62] 62 #[.slice A xs.length c, .slice (some ad) ys.length c2]).run Try.prog w = .ok v' w') :
    ∀ g, v'.ownBlock = some g → ∃ cur t, w'.heap[g]? = some (.cells cur t (0, 0)) ∧ noInt cur := by
  obtain ⟨i, z, hi, hz, hsize, hzs, hby, hzn⟩ := frac_info2
  have hnews : ∀ j u, (fcells ys)[j]? = some u → w.cell? (ad.add j) = some u := by
    intro j u hu
    obtain ⟨k, hk, hcase⟩ := fcells_at ys j u hu
    obtain ⟨ad', e', _, hc⟩ := hr (by omega)
    injection e' with e'
    subst e'
    obtain ⟨h0, h1, h2⟩ := hc k hk
    have hoff : (ad.add (k * 3)).off = ad.off + k * 3 := by
      unfold Addr.add
      split
      · rename_i h0; rw [h0]; rfl
      · rfl
    rcases hcase with ⟨rfl, rfl⟩ | ⟨rfl, rfl⟩ | ⟨rfl, rfl⟩
    · exact h0
    · rw [show ad.add (k * 3 + 1) = ⟨(ad.add (k * 3)).block, (ad.add (k * 3)).off + 1, none⟩ from by rw [block_of_add, hoff]; exact if_neg (by omega)]
      exact h1
    · rw [show ad.add (k * 3 + 2) = ⟨(ad.add (k * 3)).block, (ad.add (k * 3)).off + 2, none⟩ from by rw [block_of_add, hoff]; exact if_neg (by omega)]
      exact h2
  have hl : (fcells ys).length = ys.length * i.size := by rw [hsize]; exact fcells_len ys
  have hb := Nat.mul_le_mul hmax hby
  rcases hown.2 with ⟨hv, h0⟩ | ⟨g, cap, cur, hv, hbg, hg, hnc, hcm, hcs, htake⟩
  · simp only [Value.slice.injEq] at hv
    obtain ⟨rfl, _, rfl⟩ := hv
    have hx : xs = [] := List.eq_nil_of_length_eq_zero h0
    subst hx
    rw [List.length_nil, run_append_nil (P := Try.prog) w 62 62 25 i z Try.underlying62 hi hz ad ys.length c2 (fcells ys) hl hnews hy (by simp at hmax; omega) (by simp at hb; omega)] at hrun
    injection hrun with e1 e2
    subst e1 e2
    intro g hg
    simp [Value.ownBlock] at hg
    subst hg
    refine ⟨_, _, heap_alloc_new _ _, fun u hu => ?_⟩
    rw [Array.toList_append, List.mem_append] at hu
    rcases hu with h | h
    · exact noInt_fcells ys u (by simpa using h)
    · exact hzn u (mem_zeroCells h)
  · simp only [Value.slice.injEq] at hv
    obtain ⟨rfl, _, rfl⟩ := hv
    obtain ⟨cur', t', hg', hcn⟩ := hno g rfl
    rw [hg] at hg'
    obtain ⟨rfl, rfl⟩ : cur = cur' ∧ 25 = t' := by simpa using hg'
    have hxl : (fcells xs).length = xs.length * i.size := by rw [hsize]; exact fcells_len xs
    by_cases hroom : xs.length + ys.length ≤ c
    · have hfit : xs.length * i.size + (fcells ys).length ≤ cur.size := by
        rw [hl, hcs, ← Nat.add_mul, hsize]; exact Nat.mul_le_mul_right _ hroom
      rw [run_append_room (P := Try.prog) w 62 62 25 i Try.underlying62 hi g xs.length c cur hg ad ys.length c2 (fcells ys) hl hnews (fcells_one ys) hroom hfit] at hrun
      injection hrun with e1 e2
      subst e1 e2
      intro g' hg'
      simp [Value.ownBlock] at hg'
      subst hg'
      refine ⟨_, _, setRow_heap w g cur _ _ _ hg, fun u hu => ?_⟩
      rw [List.mem_append, List.mem_append] at hu
      rcases hu with (h | h) | h
      · exact hcn u (List.mem_of_mem_take h)
      · exact noInt_fcells ys u h
      · exact hcn u (List.mem_of_mem_drop h)
    · have holds : ∀ j u, (fcells xs)[j]? = some u → w.cell? ((⟨g, 0, none⟩ : Addr).add j) = some u := World.ownsRow.cells (g := g) hown rfl
      rw [run_append_grow (P := Try.prog) w 62 62 25 i z Try.underlying62 hi hz ⟨g, 0, none⟩ xs.length c (fcells xs) hxl holds ad ys.length c2 (fcells ys) hl hnews (by omega) (by omega) (growslice_fits (by omega) (by omega))] at hrun
      injection hrun with e1 e2
      subst e1 e2
      intro g' hg'
      simp [Value.ownBlock] at hg'
      subst hg'
      refine ⟨_, _, heap_alloc_new _ _, fun u hu => ?_⟩
      rw [Array.toList_append, Array.toList_append, List.mem_append, List.mem_append] at hu
      rcases hu with (h | h) | h
      · exact noInt_fcells xs u h
      · exact noInt_fcells ys u h
      · exact hzn u (mem_zeroCells h)
set_option maxRecDepth 100000 in
theorem Fx.ok.grown {w w' : World} {A : Option Addr} {x : Fx} (h : x.ok w) (hn : NoI w A) (gr : w.grownBy w' (A.map (·.block))) : x.ok w' :=
  ⟨h.num.grown gr (fun hx => hn.sep h.num hx), h.den.grown gr (fun hx => hn.sep h.den hx)⟩
set_option maxRecDepth 100000 in
theorem OkF.grown {w w' : World} {A : Option Addr} {vs : List Fx} (h : OkF w vs) (hn : NoI w A) (gr : w.grownBy w' (A.map (·.block))) : OkF w' vs := fun v hv => ⟨(h v hv).1.grown hn gr, (h v hv).2⟩
set_option maxRecDepth 100000 in
/-- append of one fraction that lies in a literal just made -/
theorem wpList_append_frac (w : World) {ops : Array Oper} {rest : List Oper} {o : Oper} {a : Act} {Q : Exit → Act → World → Prop} (hgd : o.guard = none) (s x : Operand)
    (ho : o.op = .call { callee := .builtin .append, args := #[s, x], argTypes := #[62, 62] }) (hty : o.type = 62)
    {B c n : Nat} {A : Option Addr} {xs : List Fx} (hs : a.eval s = .slice A n c) (hn : n = xs.length) (hown : Fr w B A c xs) (hno : NoI w A)
    (ad : Addr) (m c2 : Nat) (ys : List Fx) (hx : a.eval x = .slice (some ad) m c2) (hm : m = ys.length) (hr : RdF w (some ad) ys) (hy : 0 < ys.length) (hmax : n + m ≤ 1000) (hbase : B ≤ w.heap.size)
    (h : ∀ A' c' w', Fr w' B A' c' (xs ++ ys) → NoI w' A' → Below B w w' → w.grownBy w' (A.map (·.block)) → (A'.map (·.block) = A.map (·.block) ∨ A'.map (·.block) = some w.heap.size) → wpList Try.prog ops Q rest (a.put o.dst (.slice A' (n + m) c')) w') :
    wpList Try.prog ops Q (o :: rest) a w := by
  subst hn hm
  obtain ⟨A', c', w', hrun, h1, h3, h4, h5⟩ := run_append_frac w hown (some ad) c2 ys hr hmax hbase
  have h6 := append_noint w hown hno ad c2 ys hr hy hmax hrun
  have h7 : NoI w' A' := fun g hg => h6 g (by cases A' with
    | none => cases hg
    | some a' => simpa [Value.ownBlock] using hg)
  refine wpList_plain hgd fun K hK => ?_
  unfold Oper.wp execOp
  simp only [ho, hty, resolve, invoke, builtin, Sem.run_bind, Sem.run_pure, Result.andThen_ok, List.map_toArray, List.map_cons, List.map_nil, hs, hx, hrun]
  exact hK _ _ (h A' c' w' h1 h7 h3 h4 h5)
set_option maxRecDepth 100000 in
theorem Fa.grown {w w' : World} {A : Option Addr} {x : Fx} {G : Nat} (h : Fa w G x) (hn : NoI w A) (gr : w.grownBy w' (A.map (·.block))) (hne : some G ≠ A.map (·.block)) : Fa w' G x := ⟨h.bk.grown gr hne, h.ok.grown hn gr⟩
set_option maxRecDepth 100000 in
theorem Fr.caps {w : World} {B : Nat} {A : Option Addr} {c : Nat} {vs : List Fx} (h : Fr w B A c vs) : vs.length ≤ c ∧ c ≤ maxLen := by
  rcases h.2 with ⟨hv, hn⟩ | ⟨g, cap, cur, hv, _, _, hnc, hcm, _⟩
  · simp only [Value.slice.injEq] at hv
    obtain ⟨_, _, rfl⟩ := hv
    exact ⟨by omega, by simp [maxLen]⟩
  · simp only [Value.slice.injEq] at hv
    obtain ⟨_, _, rfl⟩ := hv
    exact ⟨hnc, hcm⟩
set_option maxRecDepth 100000 in
theorem fr_nil (w : World) (B : Nat) : Fr w B none 0 [] := World.ownsRow_nil _ _ _ _
end Go.Proofs.Ytlcolmifmhdboaa
namespace Go.Proofs.Ytlcolmifmhdboaa
open Go.RowKit

/-- both are valid, the first is not greater -/
def leF (x y : Fx) : Prop := x.v ∧ y.v ∧ x.q ≤ y.q
instance (x y : Fx) : Decidable (leF x y) := inferInstanceAs (Decidable (_ ∧ _ ∧ _))
set_option maxRecDepth 100000 in
theorem cmpQ_le (p q : Rat) : decide (cmpQ p q ≤ 0) = decide (p ≤ q) := by
  rcases cmpQ_cases p q with ⟨h, e⟩ | ⟨h, e⟩ | ⟨h, e⟩ <;> rw [e]
  · rw [decide_eq_true (Rat.le_of_lt h)]; rfl
  · rw [h, decide_eq_true Rat.le_refl]; rfl
  · rw [decide_eq_false (Rat.not_le.2 h)]; rfl
set_option maxHeartbeats 800000 in
set_option maxRecDepth 100000 in
theorem atmost_any (w : World) (x1 x2 : Fx) (b : Bool) (ok1 : x1.ok w) (ok2 : x2.ok w) (l1 : x1.xs.length ≤ 10000) (m1 : x1.ys.length ≤ 10000) (l2 : x2.xs.length ≤ 10000) (m2 : x2.ys.length ≤ 10000) (hb : decide (leF x1 x2) = b) :
    Calls Try.prog 79 #[x1.val, x2.val] w fun e w' => e = .returned (.bool b) ∧ Below w.heap.size w w' := by
  by_cases hv : x1.v ∧ x2.v
  · have HB : Hid (decide (cmpQ x1.q x2.q ≤ 0) = b) := Lib.hid (by
      rw [cmpQ_le, ← hb, decide_eq_decide, leF]
      exact ⟨fun h => ⟨hv.1, hv.2, h⟩, fun h => h.2.2⟩)
    have HC : Hid (cmpF x1 x2 = (cmpQ x1.q x2.q, 0)) := Lib.hid (by rw [cmpF, if_pos hv])
    generalize cmpQ x1.q x2.q = z at HB HC
    clear hb hv
    go_enter Try.func79, Try.ntmps79
    go_upto_region 1 with fail
    have bw := Below.refl w.heap.size w
    have a1 := (fa_alloc ok1).1
    have bb := (fa_alloc ok1).2
    have sz1 := size_box w (.cells #[.bool x1.b, .slice x1.A x1.xs.length x1.c, .slice x1.D x1.ys.length x1.d] 25)
    clear ok1
    generalize (w.alloc (.cells #[.bool x1.b, .slice x1.A x1.xs.length x1.c, .slice x1.D x1.ys.length x1.d] 25)) = wA at a1 bb sz1 ⊢
    try replace ok1 := ok1.below bb
    try replace ok2 := ok2.below bb
    try replace a1 := a1.below bb
    replace bw := below_on bw bb bw.size
    clear bb
    have a2 := (fa_alloc ok2).1
    have bb := (fa_alloc ok2).2
    have sz2 := size_box wA (.cells #[.bool x2.b, .slice x2.A x2.xs.length x2.c, .slice x2.D x2.ys.length x2.d] 25)
    rw [sz1] at a2 sz2
    clear ok2 sz1
    generalize (wA.alloc (.cells #[.bool x2.b, .slice x2.A x2.xs.length x2.c, .slice x2.D x2.ys.length x2.d] 25)) = wm at a2 bb sz2 ⊢
    try replace ok1 := ok1.below bb
    try replace ok2 := ok2.below bb
    try replace a1 := a1.below bb
    try replace a2 := a2.below bb
    replace bw := below_on bw bb bw.size
    clear bb
    clear sz2
    have ci0 := a1.c0
    have ci1 := a1.c1
    have ci2 := a1.c2
    have cj0 := a2.c0
    have cj1 := a2.c1
    have cj2 := a2.c2
    go_wp2_with fail
    clear ci0 ci1 ci2 cj0 cj1 cj2
    refine (fcmp_any _ x1 x2 ((z, (0 : Int))) a1.ok a2.ok l1 m1 l2 m2 HC.out).mono ?_
    rintro e wn ⟨rfl, bb⟩
    try replace a1 := a1.below bb
    try replace a2 := a2.below bb
    replace bw := below_on bw bb bw.size
    clear bb
    go_wp2_with fail
    go_ret
    exact ⟨ret_bool HB.out, bw⟩
  · have HB : Hid (false = b) := Lib.hid (by
      rw [← hb, decide_eq_false]
      exact fun h => hv ⟨h.1, h.2.1⟩)
    have HC : Hid (cmpF x1 x2 = (0, 1)) := Lib.hid (by rw [cmpF, if_neg hv])
    clear hb hv
    go_enter Try.func79, Try.ntmps79
    go_upto_region 1 with fail
    have bw := Below.refl w.heap.size w
    have a1 := (fa_alloc ok1).1
    have bb := (fa_alloc ok1).2
    have sz1 := size_box w (.cells #[.bool x1.b, .slice x1.A x1.xs.length x1.c, .slice x1.D x1.ys.length x1.d] 25)
    clear ok1
    generalize (w.alloc (.cells #[.bool x1.b, .slice x1.A x1.xs.length x1.c, .slice x1.D x1.ys.length x1.d] 25)) = wA at a1 bb sz1 ⊢
    try replace ok1 := ok1.below bb
    try replace ok2 := ok2.below bb
    try replace a1 := a1.below bb
    try replace a2 := a2.below bb
    replace bw := below_on bw bb bw.size
    clear bb
    have a2 := (fa_alloc ok2).1
    have bb := (fa_alloc ok2).2
    have sz2 := size_box wA (.cells #[.bool x2.b, .slice x2.A x2.xs.length x2.c, .slice x2.D x2.ys.length x2.d] 25)
    rw [sz1] at a2 sz2
    clear ok2 sz1
    generalize (wA.alloc (.cells #[.bool x2.b, .slice x2.A x2.xs.length x2.c, .slice x2.D x2.ys.length x2.d] 25)) = wm at a2 bb sz2 ⊢
    try replace ok1 := ok1.below bb
    try replace ok2 := ok2.below bb
    try replace a1 := a1.below bb
    try replace a2 := a2.below bb
    replace bw := below_on bw bb bw.size
    clear bb
    clear sz2
    have ci0 := a1.c0
    have ci1 := a1.c1
    have ci2 := a1.c2
    have cj0 := a2.c0
    have cj1 := a2.c1
    have cj2 := a2.c2
    go_wp2_with fail
    clear ci0 ci1 ci2 cj0 cj1 cj2
    refine (fcmp_any _ x1 x2 (((0 : Int), (1 : Int))) a1.ok a2.ok l1 m1 l2 m2 HC.out).mono ?_
    rintro e wn ⟨rfl, bb⟩
    try replace a1 := a1.below bb
    try replace a2 := a2.below bb
    replace bw := below_on bw bb bw.size
    clear bb
    go_wp2_with fail
    go_ret
    exact ⟨ret_bool HB.out, bw⟩
def Ix.v (a : Ix) : Prop := leF a.lo a.hi
instance (a : Ix) : Decidable a.v := inferInstanceAs (Decidable (leF _ _))
/-- few enough limbs -/
structure Ix.few (a : Ix) : Prop where
  l1 : a.lo.xs.length ≤ 10000
  m1 : a.lo.ys.length ≤ 10000
  l2 : a.hi.xs.length ≤ 10000
  m2 : a.hi.ys.length ≤ 10000
set_option maxHeartbeats 800000 in
set_option maxRecDepth 100000 in
theorem ivalid_any (w : World) (x1 : Ix) (b : Bool) (ok1 : x1.ok w) (f1 : x1.few) (hb : decide x1.v = b) :
    Calls Try.prog 46 #[x1.val] w fun e w' => e = .returned (.bool b) ∧ Below w.heap.size w w' := by
  go_enter Try.func46, Try.ntmps46
  go_upto_region 1 with fail
  have bw := Below.refl w.heap.size w
  have a1 := (ia_alloc ok1).1
  have bb := (ia_alloc ok1).2
  have sz1 := size_box w (.cells x1.cells 41)
  clear ok1
  generalize (w.alloc (.cells x1.cells 41)) = wm at a1 bb sz1 ⊢
  try replace ok1 := ok1.below bb
  try replace a1 := a1.below bb
  replace bw := below_on bw bb bw.size
  clear bb
  clear sz1
  have ci0 := a1.c0
  have ci1 := a1.c1
  have ci2 := a1.c2
  have ci3 := a1.c3
  have ci4 := a1.c4
  have ci5 := a1.c5
  go_wp2_with fail
  clear ci0 ci1 ci2 ci3 ci4 ci5
  refine (atmost_any _ x1.lo x1.hi b a1.ok.lo a1.ok.hi f1.l1 f1.m1 f1.l2 f1.m2 hb).mono ?_
  rintro e wn ⟨rfl, bb⟩
  try replace a1 := a1.below bb
  replace bw := below_on bw bb bw.size
  clear bb
  go_wp2_with fail
  go_ret
  exact ⟨rfl, bw⟩
set_option maxHeartbeats 800000 in
set_option maxRecDepth 100000 in
theorem ibetween_any (w : World) (x1 x2 : Fx) (S T : FqS) (ok1 : x1.ok w) (ok2 : x2.ok w) (l1 : x1.xs.length ≤ 10000) (m1 : x1.ys.length ≤ 10000) (l2 : x2.xs.length ≤ 10000) (m2 : x2.ys.length ≤ 10000) (hs : redS x1 = S) (ht : redS x2 = T) :
    Calls Try.prog 82 #[x1.val, x2.val] w (IvlNew w S T) := by
  have HS := Lib.hid hs
  have HT := Lib.hid ht
  clear hs ht
  go_enter Try.func82, Try.ntmps82
  go_upto_region 1 with fail
  have bw := Below.refl w.heap.size w
  have a1 := (fa_alloc ok1).1
  have bb := (fa_alloc ok1).2
  have sz1 := size_box w (.cells x1.cells 25)
  clear ok1
  generalize (w.alloc (.cells x1.cells 25)) = wA at a1 bb sz1 ⊢
  try replace ok1 := ok1.below bb
  try replace ok2 := ok2.below bb
  try replace ok3 := ok3.below bb
  try replace ok4 := ok4.below bb
  try replace a1 := a1.below bb
  replace bw := below_on bw bb bw.size
  clear bb
  have a2 := (fa_alloc ok2).1
  have bb := (fa_alloc ok2).2
  have sz2 := size_box wA (.cells x2.cells 25)
  rw [sz1] at a2 sz2
  clear ok2 sz1
  generalize (wA.alloc (.cells x2.cells 25)) = wB at a2 bb sz2 ⊢
  try replace ok1 := ok1.below bb
  try replace ok2 := ok2.below bb
  try replace ok3 := ok3.below bb
  try replace ok4 := ok4.below bb
  try replace a1 := a1.below bb
  try replace a2 := a2.below bb
  replace bw := below_on bw bb bw.size
  clear bb
  have br := (zr_alloc wB).1
  have bb := (zr_alloc wB).2
  rw [sz2] at br
  clear sz2
  generalize (wB.alloc (.cells zcells 41)) = wm at br bb ⊢
  try replace a1 := a1.below bb
  try replace a2 := a2.below bb
  replace bw := below_on bw bb bw.size
  clear bb
  have ci0 := a1.c0
  have ci1 := a1.c1
  have ci2 := a1.c2
  go_wp2_with fail
  clear ci0 ci1 ci2
  refine (freduce_any _ x1 (S) a1.ok l1 m1 HS.out).mono ?_
  rintro e wn ⟨x3, rfl, hs3, ok3, bb⟩
  have HS3 := Lib.hid hs3
  clear hs3
  try replace br := br.below bb
  try replace a1 := a1.below bb
  try replace a2 := a2.below bb
  replace bw := below_on bw bb bw.size
  clear bb
  go_upto_region 2 with fail
  have a3 := (fa_alloc ok3).1
  have bb := (fa_alloc ok3).2
  clear ok3
  generalize (wn.alloc (.cells #[.bool x3.b, .slice x3.A x3.xs.length x3.c, .slice x3.D x3.ys.length x3.d] 25)) = wm at a3 bb ⊢
  try replace br := br.below bb
  try replace a1 := a1.below bb
  try replace a2 := a2.below bb
  try replace a3 := a3.below bb
  replace bw := below_on bw bb bw.size
  clear bb
  generalize wn.heap.size = g3 at a3 ⊢
  have ci0 := a2.c0
  have ci1 := a2.c1
  have ci2 := a2.c2
  go_wp2_with fail
  clear ci0 ci1 ci2
  refine (freduce_any _ x2 (T) a2.ok l2 m2 HT.out).mono ?_
  rintro e wn ⟨x4, rfl, hs4, ok4, bb⟩
  have HS4 := Lib.hid hs4
  clear hs4
  try replace br := br.below bb
  try replace a1 := a1.below bb
  try replace a2 := a2.below bb
  try replace a3 := a3.below bb
  replace bw := below_on bw bb bw.size
  clear bb
  go_upto_region 3 with fail
  have a4 := (fa_alloc ok4).1
  have bb := (fa_alloc ok4).2
  clear ok4
  generalize (wn.alloc (.cells #[.bool x4.b, .slice x4.A x4.xs.length x4.c, .slice x4.D x4.ys.length x4.d] 25)) = wm at a4 bb ⊢
  try replace br := br.below bb
  try replace a1 := a1.below bb
  try replace a2 := a2.below bb
  try replace a3 := a3.below bb
  try replace a4 := a4.below bb
  replace bw := below_on bw bb bw.size
  clear bb
  generalize wn.heap.size = g4 at a4 ⊢
  have ci0 := a3.c0
  have ci1 := a3.c1
  have ci2 := a3.c2
  have cj0 := a4.c0
  have cj1 := a4.c1
  have cj2 := a4.c2
  have r0 := br.cell 0
  have r1 := br.cell 1
  have r2 := br.cell 2
  have r3 := br.cell 3
  have r4 := br.cell 4
  have r5 := br.cell 5
  have rf0 := br.unf 0
  have rf1 := br.unf 1
  have rf2 := br.unf 2
  have rf3 := br.unf 3
  have rf4 := br.unf 4
  have rf5 := br.unf 5
  simp only [List.getElem?_toArray, List.getElem?_cons_succ, List.getElem?_cons_zero] at r0 r1 r2 r3 r4 r5
  go_wp2_with fail
  refine bodyPost_ret (v := (⟨x3, x4⟩ : Ix).val) (by simp [results, Try.results82, go_sem, r0, r1, r2, r3, r4, r5]) rfl ?_
  exact ⟨⟨x3, x4⟩, rfl, HS3.out, HS4.out, ⟨set6_ok a3.ok br noInt_z, set6_ok a4.ok br noInt_z⟩, set6_below bw (by omega)⟩
end Go.Proofs.Ytlcolmifmhdboaa
