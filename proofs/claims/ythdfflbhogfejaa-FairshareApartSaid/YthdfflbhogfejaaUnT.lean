/- Words for intervals: blocks whose cells are known, two fractions in a block. Appending fractions whose limbs the call has made itself: the row holds no limb. Flows that share links: the rounds of Units, as plain lists. No program in sight. -/
import Derived.Test.YthdfflbhogfejaaFrC
import Derived.Test.YthdfflbhogfejaaFrcA
namespace Go.Proofs.Ythdfflbhogfejaa
open Go.RowKit

/-- a block whose cells are known and can be written -/
def Blk (w : World) (G : Nat) (arr : Array Value) : Prop := ∃ t, w.heap[G]? = some (.cells arr t (0, 0))
section
variable {w w' : World} {G H : Nat} {arr : Array Value}
set_option maxRecDepth 100000 in
theorem Blk.lt (h : Blk w G arr) : G < w.heap.size := by
  obtain ⟨t, e⟩ := h
  exact (Array.getElem?_eq_some_iff.1 e).1
set_option maxRecDepth 100000 in
theorem Blk.cell (h : Blk w G arr) (k : Nat) : w.cell? ⟨G, k, none⟩ = arr[k]? := by
  obtain ⟨t, e⟩ := h
  simp [World.cell?, e]
set_option maxRecDepth 100000 in
theorem Blk.unf (h : Blk w G arr) (k : Nat) : w.frozen? ⟨G, k, none⟩ = false := by
  obtain ⟨t, e⟩ := h
  simp [World.frozen?, e]
set_option maxRecDepth 100000 in
theorem Blk.below (h : Blk w G arr) (hb : Below w.heap.size w w') : Blk w' G arr := by
  have hl := h.lt
  obtain ⟨t, e⟩ := h
  exact ⟨t, (hb.block G hl).trans e⟩
set_option maxRecDepth 100000 in
theorem blk_alloc (w : World) (arr : Array Value) (t : TypeId) : Blk (w.alloc (.cells arr t)) w.heap.size arr := ⟨t, heap_alloc_new w _⟩
set_option maxRecDepth 100000 in
theorem Blk.set (h : Blk w G arr) (k : Nat) (v : Value) : Blk (w.setCell ⟨G, k, none⟩ v) G (arr.setIfInBounds k v) := by
  obtain ⟨t, e⟩ := h
  exact ⟨t, by simp [World.setCell, Array.getElem?_modify, e]⟩
set_option maxRecDepth 100000 in
theorem Blk.far (h : Blk w G arr) {p : Addr} (hne : p.block ≠ G) (u : Value) : Blk (w.setCell p u) G arr := by
  obtain ⟨t, e⟩ := h
  exact ⟨t, by rw [Below.heap_setCell _ _ _ _ (fun e => hne e.symm)]; exact e⟩
/-- no cell of the block is a limb -/
def noInt (arr : Array Value) : Prop := ∀ v ∈ arr.toList, isInt v = false
set_option maxRecDepth 100000 in
theorem Nt.sepB {A : Option Addr} {c : Nat} {xs : List Nat} (h : Nt w A c xs) (bk : Blk w G arr) (hn : noInt arr) (hx : 0 < xs.length) : ∀ ad, A = some ad → ad.block ≠ G := fun ad e hG => by
  obtain ⟨ad', e', _, hc, _⟩ := h.at 0 hx
  rw [e] at e'
  injection e' with e'
  subst e'
  obtain ⟨t, hblk⟩ := bk
  have hb0 : (ad.add 0).block = G := by rw [block_of_add]; exact hG
  unfold World.cell? at hc
  rw [hb0, hblk] at hc
  simp only at hc
  split at hc
  · cases hc
  · have hm := Array.mem_of_getElem? hc
    have := hn (.int .u32 (xs[0] : Int)) (by simpa using hm)
    simp [isInt] at this
set_option maxRecDepth 100000 in
theorem Nt.putB {A : Option Addr} {c : Nat} {xs : List Nat} (h : Nt w A c xs) (bk : Blk w G arr) (hn : noInt arr) (k : Nat) (u : Value) : Nt (w.setCell ⟨G, k, none⟩ u) A c xs := by
  rcases Nat.eq_zero_or_pos xs.length with h0 | h0
  · exact h.nil_any h0 _
  · exact nt_far h (fun a e => h.sepB bk hn h0 a e) _
set_option maxRecDepth 100000 in
theorem Fx.ok.putB {x : Fx} (h : x.ok w) (bk : Blk w G arr) (hn : noInt arr) (k : Nat) (u : Value) : x.ok (w.setCell ⟨G, k, none⟩ u) := ⟨h.num.putB bk hn k u, h.den.putB bk hn k u⟩
set_option maxRecDepth 100000 in
theorem noInt.set {k : Nat} {u : Value} (hn : noInt arr) (hu : isInt u = false) : noInt (arr.setIfInBounds k u) := fun v hv => by
  rw [Array.toList_setIfInBounds] at hv
  rcases List.mem_or_eq_of_mem_set hv with h | h
  · exact hn v h
  · rw [h]; exact hu
end
/-- six stores, one behind the other -/
abbrev set6 (w : World) (G : Nat) (v0 v1 v2 v3 v4 v5 : Value) : World := (((((w.setCell ⟨G, 0, none⟩ v0).setCell ⟨G, 1, none⟩ v1).setCell ⟨G, 2, none⟩ v2).setCell ⟨G, 3, none⟩ v3).setCell ⟨G, 4, none⟩ v4).setCell ⟨G, 5, none⟩ v5
set_option maxRecDepth 100000 in
theorem set6_blk {w : World} {G : Nat} {arr : Array Value} {v0 v1 v2 v3 v4 v5 : Value} (h : Blk w G arr) (hs : arr.size = 6) : Blk (set6 w G v0 v1 v2 v3 v4 v5) G #[v0, v1, v2, v3, v4, v5] := by
  have h1 := (((((h.set 0 v0).set 1 v1).set 2 v2).set 3 v3).set 4 v4).set 5 v5
  have e : ((((((arr.setIfInBounds 0 v0).setIfInBounds 1 v1).setIfInBounds 2 v2).setIfInBounds 3 v3).setIfInBounds 4 v4).setIfInBounds 5 v5) = #[v0, v1, v2, v3, v4, v5] := by
    apply Array.toList_inj.1
    simp only [Array.toList_setIfInBounds]
    have hl : arr.toList.length = 6 := by simpa using hs
    generalize arr.toList = l at hl
    match l, hl with
    | [_, _, _, _, _, _], _ => rfl
  rw [e] at h1
  exact h1
set_option maxRecDepth 100000 in
theorem set6_ok {w : World} {x : Fx} {G : Nat} {arr : Array Value} {v0 v1 v2 v3 v4 v5 : Value} (h : x.ok w) (bk : Blk w G arr) (hn : noInt arr) : x.ok (set6 w G v0 v1 v2 v3 v4 v5) := by
  constructor
  · rcases Nat.eq_zero_or_pos x.xs.length with h0 | h0
    · exact h.num.nil_any h0 _
    · have hs := h.num.sepB bk hn h0
      exact nt_far (nt_far (nt_far (nt_far (nt_far (nt_far h.num hs _) hs _) hs _) hs _) hs _) hs _
  · rcases Nat.eq_zero_or_pos x.ys.length with h0 | h0
    · exact h.den.nil_any h0 _
    · have hs := h.den.sepB bk hn h0
      exact nt_far (nt_far (nt_far (nt_far (nt_far (nt_far h.den hs _) hs _) hs _) hs _) hs _) hs _
set_option maxRecDepth 100000 in
theorem set6_below {w wc : World} {B G : Nat} {v0 v1 v2 v3 v4 v5 : Value} (h : Below B w wc) (hG : B ≤ G) : Below B w (set6 wc G v0 v1 v2 v3 v4 v5) :=
  (((((h.setCell (p := ⟨G, 0, none⟩) hG _).setCell (p := ⟨G, 1, none⟩) hG _).setCell (p := ⟨G, 2, none⟩) hG _).setCell (p := ⟨G, 3, none⟩) hG _).setCell (p := ⟨G, 4, none⟩) hG _).setCell (p := ⟨G, 5, none⟩) hG _

/-- an interval: its two ends -/
structure Ix where
  lo : Fx
  hi : Fx
abbrev Ix.cells (a : Ix) : Array Value := #[.bool a.lo.b, .slice a.lo.A a.lo.xs.length a.lo.c, .slice a.lo.D a.lo.ys.length a.lo.d, .bool a.hi.b, .slice a.hi.A a.hi.xs.length a.hi.c, .slice a.hi.D a.hi.ys.length a.hi.d]
abbrev Ix.val (a : Ix) : Value := .agg a.cells
abbrev zcells : Array Value := #[.bool false, .slice none 0 0, .slice none 0 0, .bool false, .slice none 0 0, .slice none 0 0]
abbrev Ix.nil : Ix := ⟨Fx.nil, Fx.nil⟩
structure Ix.ok (a : Ix) (w : World) : Prop where
  lo : a.lo.ok w
  hi : a.hi.ok w
set_option maxRecDepth 100000 in
theorem Ix.ok.below {a : Ix} {w w' : World} (h : a.ok w) (hb : Below w.heap.size w w') : a.ok w' := ⟨h.lo.below hb, h.hi.below hb⟩
set_option maxRecDepth 100000 in
theorem Ix.nil_ok (w : World) : Ix.nil.ok w := ⟨Fx.nil_ok w, Fx.nil_ok w⟩
set_option maxRecDepth 100000 in
theorem noInt_z : noInt zcells := by intro v hv; simp only [List.mem_cons, List.not_mem_nil, or_false] at hv; rcases hv with rfl | rfl | rfl | rfl | rfl | rfl <;> rfl
set_option maxRecDepth 100000 in
theorem noInt_i (a : Ix) : noInt a.cells := by intro v hv; simp only [List.mem_cons, List.not_mem_nil, or_false] at hv; rcases hv with rfl | rfl | rfl | rfl | rfl | rfl <;> rfl
/-- a variable that holds an interval -/
structure Ia (w : World) (G : Nat) (a : Ix) : Prop where
  bk : Blk w G a.cells
  ok : a.ok w
section
variable {w w' : World} {G : Nat} {a : Ix}
set_option maxRecDepth 100000 in
theorem Ia.c0 (h : Ia w G a) : w.cell? ⟨G, 0, none⟩ = some (.bool a.lo.b) := h.bk.cell 0
set_option maxRecDepth 100000 in
theorem Ia.c1 (h : Ia w G a) : w.cell? ⟨G, 1, none⟩ = some (.slice a.lo.A a.lo.xs.length a.lo.c) := h.bk.cell 1
set_option maxRecDepth 100000 in
theorem Ia.c2 (h : Ia w G a) : w.cell? ⟨G, 2, none⟩ = some (.slice a.lo.D a.lo.ys.length a.lo.d) := h.bk.cell 2
set_option maxRecDepth 100000 in
theorem Ia.c3 (h : Ia w G a) : w.cell? ⟨G, 3, none⟩ = some (.bool a.hi.b) := h.bk.cell 3
set_option maxRecDepth 100000 in
theorem Ia.c4 (h : Ia w G a) : w.cell? ⟨G, 4, none⟩ = some (.slice a.hi.A a.hi.xs.length a.hi.c) := h.bk.cell 4
set_option maxRecDepth 100000 in
theorem Ia.c5 (h : Ia w G a) : w.cell? ⟨G, 5, none⟩ = some (.slice a.hi.D a.hi.ys.length a.hi.d) := h.bk.cell 5
set_option maxRecDepth 100000 in
theorem Ia.lt (h : Ia w G a) : G < w.heap.size := h.bk.lt
set_option maxRecDepth 100000 in
theorem Ia.below (h : Ia w G a) (hb : Below w.heap.size w w') : Ia w' G a := ⟨h.bk.below hb, h.ok.below hb⟩
end
abbrev FqS := Bool × List Nat × List Nat × Int
/-- how a fraction reads -/
def Fx.is (x : Fx) (s : FqS) : Prop := x.b = s.1 ∧ x.xs = s.2.1 ∧ x.ys = s.2.2.1
abbrev IvS := FqS × FqS × Int
def errI (e : Int) : IvS := (errF e, errF e, e)
/-- what a call hands back: an interval and an error -/
def IvlRes (w : World) (S : IvS) (e : Ending) (w' : World) : Prop :=
  ∃ a : Ix, e = .returned (.tuple #[a.val, .int .i64 S.2.2]) ∧ a.lo.is S.1 ∧ a.hi.is S.2.1 ∧ a.ok w' ∧ Below w.heap.size w w'
/-- an interval -/
def IvlNew (w : World) (S T : FqS) (e : Ending) (w' : World) : Prop :=
  ∃ a : Ix, e = .returned a.val ∧ a.lo.is S ∧ a.hi.is T ∧ a.ok w' ∧ Below w.heap.size w w'
/-- an interval and whether there is one -/
def IvlOk (w : World) (S T : FqS) (b : Bool) (e : Ending) (w' : World) : Prop :=
  ∃ a : Ix, e = .returned (.tuple #[a.val, .bool b]) ∧ a.lo.is S ∧ a.hi.is T ∧ a.ok w' ∧ Below w.heap.size w w'
def bothS (S T : FqS) : IvS := if S.2.2.2 ≠ 0 then errI S.2.2.2 else if T.2.2.2 ≠ 0 then errI T.2.2.2 else (S, T, 0)
end Go.Proofs.Ythdfflbhogfejaa
namespace Go.Proofs.Ythdfflbhogfejaa
open Go.RowKit

/-- the row's block holds no limb -/
def NoI (w : World) (A : Option Addr) : Prop := ∀ g, A.map (·.block) = some g → ∃ cur t, w.heap[g]? = some (.cells cur t (0, 0)) ∧ noInt cur
set_option maxRecDepth 100000 in
theorem NoI.nil (w : World) : NoI w none := fun g h => by cases h
set_option maxRecDepth 100000 in
theorem noi_alloc (w : World) (arr : Array Value) (t : TypeId) (h : noInt arr) : NoI (w.alloc (.cells arr t)) (some ⟨w.heap.size, 0, none⟩) := fun g hg => by
  simp at hg
  subst hg
  exact ⟨arr, t, heap_alloc_new w _, h⟩
set_option maxRecDepth 100000 in
theorem NoI.below {w w' : World} {A : Option Addr} (h : NoI w A) (hb : Below w.heap.size w w') : NoI w' A := fun g hg => by
  obtain ⟨cur, t, e, hn⟩ := h g hg
  have hl : g < w.heap.size := (Array.getElem?_eq_some_iff.1 e).1
  exact ⟨cur, t, (hb.block g hl).trans e, hn⟩
set_option maxRecDepth 100000 in
theorem NoI.sep {w : World} {A D : Option Addr} {c : Nat} {xs : List Nat} (h : NoI w A) (k : Nt w D c xs) (hx : 0 < xs.length) : ∀ ad, D = some ad → some ad.block ≠ A.map (·.block) := fun ad e he => by
  obtain ⟨cur, t, hc, hn⟩ := h ad.block he.symm
  exact k.sepB ⟨t, hc⟩ hn hx ad e rfl
set_option maxRecDepth 100000 in
theorem noInt_fcells (vs : List Fx) : ∀ u ∈ fcells vs, isInt u = false := by
  induction vs with
  | nil => intro u hu; cases hu
  | cons v vs ih =>
    intro u hu
    rw [fcells] at hu
    simp only [List.mem_cons] at hu
    rcases hu with rfl | rfl | rfl | hu
    · rfl
    · rfl
    · rfl
    · exact ih u hu
set_option maxRecDepth 100000 in
theorem frac_info2 : ∃ i z, Try.prog.info? 41 = some i ∧ i.zero = some z ∧ i.size = 3 ∧ z.cells.size = 3 ∧ i.bytes ≤ 1000 ∧ noInt z.cells := by
  have h : (Try.prog.info? 41).any (fun i => i.zero.any (fun z => decide (z.cells.size = 3) && z.cells.toList.all (fun v => !isInt v)) && decide (i.size = 3) && decide (i.bytes ≤ 1000)) = true := by kernel_rfl
  cases hi : Try.prog.info? 41 with
  | none => rw [hi] at h; cases h
  | some i =>
    rw [hi] at h
    cases hz : i.zero with
    | none => simp [hz] at h
    | some z =>
      simp only [hz, Option.any_some, Bool.and_eq_true, decide_eq_true_eq, List.all_eq_true, Bool.not_eq_true'] at h
      exact ⟨i, z, rfl, hz, h.1.2, h.1.1.1, h.2, h.1.1.2⟩
set_option maxRecDepth 100000 in
theorem mem_zeroCells {z : Array Value} {n : Nat} {u : Value} (h : u ∈ (Builtin.zeroCells z n).toList) : u ∈ z.toList := by
  rw [Builtin.zeroCells, Array.toList_map, List.mem_map] at h
  obtain ⟨a, ha, rfl⟩ := h
  have h1 : a < n * z.size := by simpa using ha
  have hz : 0 < z.size := by
    rcases Nat.eq_zero_or_pos z.size with e | e
    · rw [e] at h1; omega
    · exact e
  rw [getElem!_pos z (a % z.size) (Nat.mod_lt _ hz)]
  exact Array.mem_toList_iff.2 (Array.getElem_mem _)
set_option maxRecDepth 100000 in
theorem append_noint (w : World) {B c : Nat} {A : Option Addr} {xs : List Fx} (hown : Fr w B A c xs) (hno : NoI w A) (ad : Addr) (c2 : Nat) (ys : List Fx) (hr : RdF w (some ad) ys) (hy : 0 < ys.length) (hmax : xs.length + ys.length ≤ 1000)
    {v' : Value} {w' : World} (hrun : (Builtin.append_ #[29, 29] 29 #[.slice A xs.length c, .slice (some ad) ys.length c2]).run Try.prog w = .ok v' w') :
    ∀ g, v'.ownBlock = some g → ∃ cur t, w'.heap[g]? = some (.cells cur t (0, 0)) ∧ noInt cur := by
  obtain ⟨i, z, hi, hz, hsize, hzs, hby, hzn⟩ := frac_info2
  have hnews : ∀ j u, (fcells ys)[j]? = some u → w.cell? (ad.add j) = some u := by
    intro j u hu
    obtain ⟨k, hk, hcase⟩ := fcells_at ys j u hu
    obtain ⟨ad', e', _, hc⟩ := hr (by omega)
    injection e' with e'
    subst e'
    obtain ⟨h0, h1, h2⟩ := hc k hk
    have hoff : (ad.add (k * 3)).off = ad.off + k * 3 := by
      unfold Addr.add
      split
      · rename_i h0; rw [h0]; rfl
      · rfl
    rcases hcase with ⟨rfl, rfl⟩ | ⟨rfl, rfl⟩ | ⟨rfl, rfl⟩
    · exact h0
    · rw [show ad.add (k * 3 + 1) = ⟨(ad.add (k * 3)).block, (ad.add (k * 3)).off + 1, none⟩ from by rw [block_of_add, hoff]; exact if_neg (by omega)]
      exact h1
    · rw [show ad.add (k * 3 + 2) = ⟨(ad.add (k * 3)).block, (ad.add (k * 3)).off + 2, none⟩ from by rw [block_of_add, hoff]; exact if_neg (by omega)]
      exact h2
  have hl : (fcells ys).length = ys.length * i.size := by rw [hsize]; exact fcells_len ys
  have hb := Nat.mul_le_mul hmax hby
  rcases hown.2 with ⟨hv, h0⟩ | ⟨g, cap, cur, hv, hbg, hg, hnc, hcm, hcs, htake⟩
  · simp only [Value.slice.injEq] at hv
    obtain ⟨rfl, _, rfl⟩ := hv
    have hx : xs = [] := List.eq_nil_of_length_eq_zero h0
    subst hx
    rw [List.length_nil, run_append_nil (P := Try.prog) w 29 29 41 i z Try.underlying29 hi hz ad ys.length c2 (fcells ys) hl hnews hy (by simp at hmax; omega) (by simp at hb; omega)] at hrun
    injection hrun with e1 e2
    subst e1 e2
    intro g hg
    simp [Value.ownBlock] at hg
    subst hg
    refine ⟨_, _, heap_alloc_new _ _, fun u hu => ?_⟩
    rw [Array.toList_append, List.mem_append] at hu
    rcases hu with h | h
    · exact noInt_fcells ys u (by simpa using h)
    · exact hzn u (mem_zeroCells h)
  · simp only [Value.slice.injEq] at hv
    obtain ⟨rfl, _, rfl⟩ := hv
    obtain ⟨cur', t', hg', hcn⟩ := hno g rfl
    rw [hg] at hg'
    obtain ⟨rfl, rfl⟩ : cur = cur' ∧ 41 = t' := by simpa using hg'
    have hxl : (fcells xs).length = xs.length * i.size := by rw [hsize]; exact fcells_len xs
    by_cases hroom : xs.length + ys.length ≤ c
    · have hfit : xs.length * i.size + (fcells ys).length ≤ cur.size := by
        rw [hl, hcs, ← Nat.add_mul, hsize]; exact Nat.mul_le_mul_right _ hroom
      rw [run_append_room (P := Try.prog) w 29 29 41 i Try.underlying29 hi g xs.length c cur hg ad ys.length c2 (fcells ys) hl hnews (fcells_one ys) hroom hfit] at hrun
      injection hrun with e1 e2
      subst e1 e2
      intro g' hg'
      simp [Value.ownBlock] at hg'
      subst hg'
      refine ⟨_, _, setRow_heap w g cur _ _ _ hg, fun u hu => ?_⟩
      rw [List.mem_append, List.mem_append] at hu
      rcases hu with (h | h) | h
      · exact hcn u (List.mem_of_mem_take h)
      · exact noInt_fcells ys u h
      · exact hcn u (List.mem_of_mem_drop h)
    · have holds : ∀ j u, (fcells xs)[j]? = some u → w.cell? ((⟨g, 0, none⟩ : Addr).add j) = some u := World.ownsRow.cells (g := g) hown rfl
      rw [run_append_grow (P := Try.prog) w 29 29 41 i z Try.underlying29 hi hz ⟨g, 0, none⟩ xs.length c (fcells xs) hxl holds ad ys.length c2 (fcells ys) hl hnews (by omega) (by omega) (growslice_fits (by omega) (by omega))] at hrun
      injection hrun with e1 e2
      subst e1 e2
      intro g' hg'
      simp [Value.ownBlock] at hg'
      subst hg'
      refine ⟨_, _, heap_alloc_new _ _, fun u hu => ?_⟩
      rw [Array.toList_append, Array.toList_append, List.mem_append, List.mem_append] at hu
      rcases hu with (h | h) | h
      · exact noInt_fcells xs u h
      · exact noInt_fcells ys u h
      · exact hzn u (mem_zeroCells h)
set_option maxRecDepth 100000 in
theorem Fx.ok.grown {w w' : World} {A : Option Addr} {x : Fx} (h : x.ok w) (hn : NoI w A) (gr : w.grownBy w' (A.map (·.block))) : x.ok w' :=
  ⟨h.num.grown gr (fun hx => hn.sep h.num hx), h.den.grown gr (fun hx => hn.sep h.den hx)⟩
set_option maxRecDepth 100000 in
theorem OkF.grown {w w' : World} {A : Option Addr} {vs : List Fx} (h : OkF w vs) (hn : NoI w A) (gr : w.grownBy w' (A.map (·.block))) : OkF w' vs := fun v hv => ⟨(h v hv).1.grown hn gr, (h v hv).2⟩
set_option maxRecDepth 100000 in
/-- append of one fraction that lies in a literal just made -/
theorem wpList_append_frac (w : World) {ops : Array Oper} {rest : List Oper} {o : Oper} {a : Act} {Q : Exit → Act → World → Prop} (hgd : o.guard = none) (s x : Operand)
    (ho : o.op = .call { callee := .builtin .append, args := #[s, x], argTypes := #[29, 29] }) (hty : o.type = 29)
    {B c n : Nat} {A : Option Addr} {xs : List Fx} (hs : a.eval s = .slice A n c) (hn : n = xs.length) (hown : Fr w B A c xs) (hno : NoI w A)
    (ad : Addr) (m c2 : Nat) (ys : List Fx) (hx : a.eval x = .slice (some ad) m c2) (hm : m = ys.length) (hr : RdF w (some ad) ys) (hy : 0 < ys.length) (hmax : n + m ≤ 1000) (hbase : B ≤ w.heap.size)
    (h : ∀ A' c' w', Fr w' B A' c' (xs ++ ys) → NoI w' A' → Below B w w' → w.grownBy w' (A.map (·.block)) → (A'.map (·.block) = A.map (·.block) ∨ A'.map (·.block) = some w.heap.size) → wpList Try.prog ops Q rest (a.put o.dst (.slice A' (n + m) c')) w') :
    wpList Try.prog ops Q (o :: rest) a w := by
  subst hn hm
  obtain ⟨A', c', w', hrun, h1, h3, h4, h5⟩ := run_append_frac w hown (some ad) c2 ys hr hmax hbase
  have h6 := append_noint w hown hno ad c2 ys hr hy hmax hrun
  have h7 : NoI w' A' := fun g hg => h6 g (by cases A' with
    | none => cases hg
    | some a' => simpa [Value.ownBlock] using hg)
  refine wpList_plain hgd fun K hK => ?_
  unfold Oper.wp execOp
  simp only [ho, hty, resolve, invoke, builtin, Sem.run_bind, Sem.run_pure, Result.andThen_ok, List.map_toArray, List.map_cons, List.map_nil, hs, hx, hrun]
  exact hK _ _ (h A' c' w' h1 h7 h3 h4 h5)
set_option maxRecDepth 100000 in
theorem Fa.grown {w w' : World} {A : Option Addr} {x : Fx} {G : Nat} (h : Fa w G x) (hn : NoI w A) (gr : w.grownBy w' (A.map (·.block))) (hne : some G ≠ A.map (·.block)) : Fa w' G x := ⟨h.bk.grown gr hne, h.ok.grown hn gr⟩
set_option maxRecDepth 100000 in
theorem Fr.caps {w : World} {B : Nat} {A : Option Addr} {c : Nat} {vs : List Fx} (h : Fr w B A c vs) : vs.length ≤ c ∧ c ≤ maxLen := by
  rcases h.2 with ⟨hv, hn⟩ | ⟨g, cap, cur, hv, _, _, hnc, hcm, _⟩
  · simp only [Value.slice.injEq] at hv
    obtain ⟨_, _, rfl⟩ := hv
    exact ⟨by omega, by simp [maxLen]⟩
  · simp only [Value.slice.injEq] at hv
    obtain ⟨_, _, rfl⟩ := hv
    exact ⟨hnc, hcm⟩
set_option maxRecDepth 100000 in
theorem fr_nil (w : World) (B : Nat) : Fr w B none 0 [] := World.ownsRow_nil _ _ _ _
end Go.Proofs.Ythdfflbhogfejaa
namespace Go.Proofs.Ythdfflbhogfejaa

/-- a flow: its links and its limit -/
abbrev Fl := List Int × Int
/-- what the flows that use a link have -/
def ld : List Fl → List Int → Int → Int
  | f :: l, o :: out, e => (f.1.count e : Int) * o + ld l out e
  | [], _, _ => 0
  | _ :: _, [], _ => 0
/-- the state: how many units each flow has, and which are finished -/
structure Un where
  out : List Int
  fin : List Bool
def lkA (l : List Fl) (i : Nat) : List Int := (l.getD i ([], 0)).1
def lmA (l : List Fl) (i : Nat) : Int := (l.getD i ([], 0)).2
/-- one of its links has nothing left -/
def fullU (cp : Int → Int) (l : List Fl) (out : List Int) (i : Nat) : Prop := ∃ e ∈ lkA l i, cp e - ld l out e = 0
instance (cp : Int → Int) (l : List Fl) (out : List Int) (i : Nat) : Decidable (fullU cp l out i) := inferInstanceAs (Decidable (∃ e ∈ lkA l i, cp e - ld l out e = 0))
def stepU (cp : Int → Int) (l : List Fl) (s : Un) (i : Nat) : Un :=
  if s.fin.getD i true = true then s
  else if lmA l i ≤ s.out.getD i 0 ∨ fullU cp l s.out i then ⟨s.out, s.fin.set i true⟩
  else ⟨s.out.set i (s.out.getD i 0 + 1), s.fin⟩
def partU (cp : Int → Int) (l : List Fl) (s : Un) : Nat → Un
  | 0 => s
  | i + 1 => stepU cp l (partU cp l s i) i
def itU (cp : Int → Int) (l : List Fl) : Nat → Un
  | 0 => ⟨List.replicate l.length 0, List.replicate l.length false⟩
  | k + 1 => partU cp l (itU cp l k) l.length
def allFin (s : Un) : Prop := ∀ i, i < s.fin.length → s.fin.getD i true = true

set_option maxRecDepth 100000 in
theorem getD_set {α : Type} (xs : List α) (i j : Nat) (v d : α) : (xs.set i v).getD j d = if i = j ∧ j < xs.length then v else xs.getD j d := by
  rw [List.getD_eq_getElem?_getD, List.getD_eq_getElem?_getD, List.getElem?_set]
  by_cases h : i = j
  · subst h
    by_cases h2 : i < xs.length
    · simp [h2]
    · simp [h2]
  · simp [h]
set_option maxRecDepth 100000 in
theorem getD_rep {α : Type} (n : Nat) (a d : α) (i : Nat) (h : i < n) : (List.replicate n a).getD i d = a := by
  rw [List.getD_eq_getElem?_getD, List.getElem?_replicate, if_pos h]; rfl
set_option maxRecDepth 100000 in
theorem getD_ge {α : Type} (xs : List α) (i : Nat) (d : α) (h : xs.length ≤ i) : xs.getD i d = d := by
  rw [List.getD_eq_getElem?_getD, List.getElem?_eq_none h]; rfl
set_option maxRecDepth 100000 in
theorem getD_lt {α : Type} (xs : List α) (i : Nat) (d : α) (h : i < xs.length) : xs.getD i d = xs[i] := by
  rw [List.getD_eq_getElem?_getD, List.getElem?_eq_getElem h]; rfl
set_option maxRecDepth 100000 in
theorem getD_app {α : Type} (xs ys : List α) (i : Nat) (d : α) (h : i < xs.length) : (xs ++ ys).getD i d = xs.getD i d := by
  rw [getD_lt _ _ _ h, getD_lt _ _ _ (by rw [List.length_append]; omega), List.getElem_append_left h]
set_option maxRecDepth 100000 in
theorem ld_set (l : List Fl) : ∀ (out : List Int) (i : Nat) (v e : Int), i < out.length → ld l (out.set i v) e = ld l out e + ((lkA l i).count e : Int) * (v - out.getD i 0) := by
  induction l with
  | nil => intro out i v e _; simp [ld, lkA]
  | cons f l ih =>
    intro out i v e hi
    cases out with
    | nil => simp at hi
    | cons o out =>
      cases i with
      | zero => simp [ld, lkA, Int.mul_sub]; omega
      | succ i =>
        have := ih out i v e (by simpa using hi)
        simp only [List.set_cons_succ, ld, this]
        have e1 : lkA (f :: l) (i + 1) = lkA l i := by simp [lkA]
        have e2 : (o :: out).getD (i + 1) 0 = out.getD i 0 := by simp
        rw [e1, e2]; omega
set_option maxRecDepth 100000 in
theorem ld_rep (l : List Fl) (n : Nat) (e : Int) : ld l (List.replicate n 0) e = 0 := by
  induction l generalizing n with
  | nil => simp [ld]
  | cons f l ih => cases n with
    | zero => simp [ld]
    | succ n => simp [List.replicate_succ, ld, ih]
set_option maxRecDepth 100000 in
theorem ld_append (l m : List Fl) : ∀ (o p : List Int) (e : Int), o.length = l.length → ld (l ++ m) (o ++ p) e = ld l o e + ld m p e := by
  induction l with
  | nil => intro o p e h; have : o = [] := by cases o <;> simp_all
           subst this; simp [ld]
  | cons f l ih =>
    intro o p e h
    cases o with
    | nil => simp at h
    | cons a o => simp only [List.cons_append, ld, ih o p e (by simpa using h)]; omega
set_option maxRecDepth 100000 in
theorem ld_nonneg (l : List Fl) : ∀ (o : List Int) (e : Int), (∀ i, i < l.length → 0 ≤ o.getD i 0) → 0 ≤ ld l o e := by
  induction l with
  | nil => intro o e _; cases o <;> simp [ld]
  | cons f l ih =>
    intro o e h
    cases o with
    | nil => simp [ld]
    | cons a o =>
      have h0 : 0 ≤ a := by simpa using h 0 (by simp)
      have h1 := ih o e (fun i hi => by simpa using h (i + 1) (by simpa using hi))
      have := Int.mul_nonneg (show (0 : Int) ≤ (f.1.count e : Int) by omega) h0
      simp only [ld]; omega
set_option maxRecDepth 100000 in
/-- nobody uses the link -/
theorem ld_none (l : List Fl) : ∀ (o : List Int) (e : Int), (∀ i, i < l.length → e ∉ lkA l i) → ld l o e = 0 := by
  induction l with
  | nil => intro o e _; cases o <;> simp [ld]
  | cons f l ih =>
    intro o e h
    cases o with
    | nil => simp [ld]
    | cons a o =>
      have h0 := h 0 (by simp)
      have h1 := ih o e (fun i hi => by have := h (i + 1) (by simpa using hi); simpa [lkA] using this)
      have : f.1.count e = 0 := List.count_eq_zero.2 (by simpa [lkA] using h0)
      simp [ld, h1, this]
set_option maxRecDepth 100000 in
theorem stepU_len (cp : Int → Int) (l : List Fl) (s : Un) (i : Nat) : (stepU cp l s i).out.length = s.out.length ∧ (stepU cp l s i).fin.length = s.fin.length := by
  unfold stepU; split
  · exact ⟨rfl, rfl⟩
  · split <;> simp
set_option maxRecDepth 100000 in
theorem partU_len (cp : Int → Int) (l : List Fl) (s : Un) (i : Nat) : (partU cp l s i).out.length = s.out.length ∧ (partU cp l s i).fin.length = s.fin.length := by
  induction i with
  | zero => exact ⟨rfl, rfl⟩
  | succ i ih => rw [partU, (stepU_len cp l _ i).1, (stepU_len cp l _ i).2]; exact ih
set_option maxRecDepth 100000 in
theorem itU_len (cp : Int → Int) (l : List Fl) (k : Nat) : (itU cp l k).out.length = l.length ∧ (itU cp l k).fin.length = l.length := by
  induction k with
  | zero => simp [itU]
  | succ k ih => rw [itU, (partU_len cp l _ _).1, (partU_len cp l _ _).2]; exact ih
set_option maxRecDepth 100000 in
theorem stepU_fin {cp : Int → Int} {l : List Fl} {s : Un} {i j : Nat} (h : s.fin.getD j true = true) : (stepU cp l s i).fin.getD j true = true := by
  unfold stepU; split
  · exact h
  · split
    · rw [getD_set]; split
      · rfl
      · exact h
    · exact h
set_option maxRecDepth 100000 in
theorem partU_all {cp : Int → Int} {l : List Fl} {s : Un} (h : allFin s) (hl : s.fin.length = l.length) (i : Nat) (hi : i ≤ l.length) : partU cp l s i = s := by
  induction i with
  | zero => rfl
  | succ i ih =>
    rw [partU, ih (by omega), stepU, if_pos (h i (by omega))]
set_option maxRecDepth 100000 in
theorem itU_stay {cp : Int → Int} {l : List Fl} {k : Nat} (h : allFin (itU cp l k)) (m : Nat) : itU cp l (k + m) = itU cp l k := by
  induction m with
  | zero => rfl
  | succ m ih => rw [← Nat.add_assoc, itU, ih]; exact partU_all h (itU_len cp l k).2 _ (Nat.le_refl _)
set_option maxRecDepth 100000 in
theorem itU_unique {cp : Int → Int} {l : List Fl} {j k : Nat} (hj : allFin (itU cp l j)) (hk : allFin (itU cp l k)) : itU cp l j = itU cp l k := by
  rcases Nat.le_total j k with h | h
  · obtain ⟨m, rfl⟩ : ∃ m, k = j + m := ⟨k - j, by omega⟩
    exact (itU_stay hj m).symm
  · obtain ⟨m, rfl⟩ : ∃ m, j = k + m := ⟨j - k, by omega⟩
    exact itU_stay hk m

/-- what holds behind i flows of round k -/
structure UInv (cp : Int → Int) (l : List Fl) (k i : Nat) (s : Un) : Prop where
  lo : s.out.length = l.length
  lf : s.fin.length = l.length
  act : ∀ j, j < l.length → s.fin.getD j true = false → s.out.getD j 0 = (k : Int) + if j < i then 1 else 0
  bd : ∀ j, j < l.length → 0 ≤ s.out.getD j 0 ∧ s.out.getD j 0 ≤ lmA l j ∧ s.out.getD j 0 ≤ (k : Int) + if j < i then 1 else 0
  cap : ∀ j, j < l.length → ∀ e ∈ lkA l j, ld l s.out e ≤ cp e
  held : ∀ j, j < l.length → s.fin.getD j true = true → s.out.getD j 0 = lmA l j ∨ ∃ e ∈ lkA l j, ld l s.out e = cp e ∧ ∀ j', j' < l.length → e ∈ lkA l j' → s.out.getD j' 0 ≤ s.out.getD j 0 + 1
/-- a flow uses no link twice -/
def nodupL (l : List Fl) : Prop := ∀ i, i < l.length → ∀ e, (lkA l i).count e ≤ 1
set_option maxRecDepth 100000 in
theorem UInv.step {cp : Int → Int} {l : List Fl} {k i : Nat} {s : Un} (nd : nodupL l) (h : UInv cp l k i s) (hi : i < l.length) : UInv cp l k (i + 1) (stepU cp l s i) := by
  unfold stepU
  by_cases hf : s.fin.getD i true = true
  · rw [if_pos hf]
    refine ⟨h.lo, h.lf, fun j hj hjf => ?_, fun j hj => ?_, h.cap, h.held⟩
    · have := h.act j hj hjf
      have hne : j ≠ i := fun e => by subst e; rw [hf] at hjf; cases hjf
      rw [this]; split <;> split <;> omega
    · have := h.bd j hj
      refine ⟨this.1, this.2.1, ?_⟩
      have := this.2.2
      revert this
      split <;> split <;> omega
  · rw [if_neg hf]
    have hff : s.fin.getD i true = false := by simpa using hf
    have hact := h.act i hi hff
    rw [if_neg (Nat.lt_irrefl _), Int.add_zero] at hact
    by_cases hs : lmA l i ≤ s.out.getD i 0 ∨ fullU cp l s.out i
    · rw [if_pos hs]
      refine ⟨h.lo, by rw [List.length_set]; exact h.lf, fun j hj hjf => ?_, fun j hj => ?_, h.cap, fun j hj hjf => ?_⟩
      · rw [getD_set] at hjf
        split at hjf
        · cases hjf
        · rename_i hne
          have := h.act j hj hjf
          have hne : j ≠ i := fun e => hne ⟨e.symm, by rw [h.lf]; exact hj⟩
          show s.out.getD j 0 = _
          rw [this]; split <;> split <;> omega
      · have := h.bd j hj
        refine ⟨this.1, this.2.1, ?_⟩
        have := this.2.2
        show s.out.getD j 0 ≤ _
        revert this
        split <;> split <;> omega
      · show s.out.getD j 0 = lmA l j ∨ _
        by_cases hij : i = j
        · subst hij
          rcases hs with hs | ⟨e, he, hz⟩
          · left; have := (h.bd i hi).2.1; omega
          · right
            refine ⟨e, he, by show ld l s.out e = _; omega, fun j' hj' he' => ?_⟩
            have := (h.bd j' hj').2.2
            show s.out.getD j' 0 ≤ s.out.getD i 0 + 1
            rw [hact]
            revert this
            split <;> omega
        · have hjf' : s.fin.getD j true = true := by
            rw [getD_set, if_neg (by omega)] at hjf; exact hjf
          exact h.held j hj hjf'
    · rw [if_neg hs]
      have h1 : ¬ lmA l i ≤ s.out.getD i 0 := fun x => hs (.inl x)
      have h2 : ∀ e ∈ lkA l i, cp e - ld l s.out e ≠ 0 := fun e he x => hs (.inr ⟨e, he, x⟩)
      have hio : i < s.out.length := by rw [h.lo]; exact hi
      have hld : ∀ e, ld l (s.out.set i (s.out.getD i 0 + 1)) e = ld l s.out e + ((lkA l i).count e : Int) := by
        intro e
        rw [ld_set l s.out i _ e hio]
        have : s.out.getD i 0 + 1 - s.out.getD i 0 = 1 := by omega
        rw [this, Int.mul_one]
      have hget : ∀ j, j < l.length → (s.out.set i (s.out.getD i 0 + 1)).getD j 0 = if i = j then s.out.getD i 0 + 1 else s.out.getD j 0 := by
        intro j hj
        rw [getD_set]
        by_cases hij : i = j
        · subst hij; rw [if_pos ⟨rfl, hio⟩, if_pos rfl]
        · rw [if_neg (by omega), if_neg hij]
      refine ⟨by rw [List.length_set]; exact h.lo, h.lf, fun j hj hjf => ?_, fun j hj => ?_, fun j hj e he => ?_, fun j hj hjf => ?_⟩
      · show (s.out.set i _).getD j 0 = _
        rw [hget j hj]
        have := h.act j hj hjf
        by_cases hij : i = j
        · subst hij; rw [if_pos rfl, hact, if_pos (Nat.lt_succ_self _)]
        · rw [if_neg hij, this]; split <;> split <;> omega
      · show 0 ≤ (s.out.set i _).getD j 0 ∧ (s.out.set i _).getD j 0 ≤ _ ∧ (s.out.set i _).getD j 0 ≤ _
        rw [hget j hj]
        have := h.bd j hj
        by_cases hij : i = j
        · subst hij; rw [if_pos rfl, if_pos (Nat.lt_succ_self _)]; refine ⟨by omega, by omega, by omega⟩
        · rw [if_neg hij]
          refine ⟨this.1, this.2.1, ?_⟩
          have := this.2.2
          revert this
          split <;> split <;> omega
      · show ld l (s.out.set i _) e ≤ _
        rw [hld e]
        have hc := h.cap j hj e he
        by_cases hm : e ∈ lkA l i
        · have := h2 e hm
          have := nd i hi e
          omega
        · have : (lkA l i).count e = 0 := List.count_eq_zero.2 hm
          omega
      · show (s.out.set i _).getD j 0 = _ ∨ ∃ e ∈ lkA l j, ld l (s.out.set i _) e = _ ∧ ∀ j', j' < l.length → e ∈ lkA l j' → (s.out.set i _).getD j' 0 ≤ (s.out.set i _).getD j 0 + 1
        have hij : ¬ i = j := fun e => by subst e; exact hf hjf
        rcases h.held j hj hjf with h3 | ⟨e, he, hz, hm⟩
        · left; rw [hget j hj, if_neg hij]; exact h3
        · right
          have hni : e ∉ lkA l i := fun hx => h2 e hx (by omega)
          refine ⟨e, he, ?_, fun j' hj' he' => ?_⟩
          · rw [hld e]
            have : (lkA l i).count e = 0 := List.count_eq_zero.2 hni
            omega
          · have hne : ¬ i = j' := fun x => by subst x; exact hni he'
            rw [hget j' hj', if_neg hne, hget j hj, if_neg hij]
            exact hm j' hj' he'
set_option maxRecDepth 100000 in
theorem UInv.next {cp : Int → Int} {l : List Fl} {k : Nat} {s : Un} (h : UInv cp l k l.length s) : UInv cp l (k + 1) 0 s := by
  refine ⟨h.lo, h.lf, fun j hj hjf => ?_, fun j hj => ?_, h.cap, h.held⟩
  · have := h.act j hj hjf
    rw [if_pos hj] at this
    rw [this, if_neg (by omega)]; omega
  · have := h.bd j hj
    refine ⟨this.1, this.2.1, ?_⟩
    have := this.2.2
    rw [if_pos hj] at this
    rw [if_neg (by omega)]; omega
set_option maxRecDepth 100000 in
theorem UInv.part {cp : Int → Int} {l : List Fl} {k : Nat} {s : Un} (nd : nodupL l) (h : UInv cp l k 0 s) (i : Nat) (hi : i ≤ l.length) : UInv cp l k i (partU cp l s i) := by
  induction i with
  | zero => exact h
  | succ i ih => exact UInv.step nd (ih (by omega)) (by omega)
/-- limits and capacities that may be -/
def okFl (cp : Int → Int) (l : List Fl) : Prop := nodupL l ∧ ∀ j, j < l.length → 0 ≤ lmA l j ∧ lmA l j ≤ 4096 ∧ ∀ e ∈ lkA l j, 0 ≤ cp e
set_option maxRecDepth 100000 in
theorem UInv.it {cp : Int → Int} {l : List Fl} (h : okFl cp l) (k : Nat) : UInv cp l k 0 (itU cp l k) := by
  induction k with
  | zero =>
    refine ⟨by simp [itU], by simp [itU], fun j hj _ => ?_, fun j hj => ?_, fun j hj e he => ?_, fun j hj hjf => ?_⟩
    · show (List.replicate l.length (0 : Int)).getD j 0 = _; rw [getD_rep _ _ _ _ hj]; simp
    · show 0 ≤ (List.replicate l.length (0 : Int)).getD j 0 ∧ (List.replicate l.length (0 : Int)).getD j 0 ≤ _ ∧ (List.replicate l.length (0 : Int)).getD j 0 ≤ _
      rw [getD_rep _ _ _ _ hj]; exact ⟨by omega, (h.2 j hj).1, by simp⟩
    · show ld l (List.replicate l.length 0) e ≤ _
      rw [ld_rep]; exact (h.2 j hj).2.2 e he
    · have : (List.replicate l.length false).getD j true = true := hjf
      rw [getD_rep _ _ _ _ hj] at this; cases this
  | succ k ih => exact (UInv.part h.1 ih _ (Nat.le_refl _)).next
set_option maxRecDepth 100000 in
/-- behind so many rounds all are finished -/
theorem itU_done {cp : Int → Int} {l : List Fl} (h : okFl cp l) : allFin (itU cp l 4097) := by
  intro j hj
  have hi := UInv.it h 4097
  rw [hi.lf] at hj
  false_or_by_contra
  rename_i hf
  have hff : (itU cp l 4097).fin.getD j true = false := by simpa using hf
  have h1 := hi.act j hj hff
  have h2 := (hi.bd j hj).2.1
  have h3 := (h.2 j hj).2.1
  rw [if_neg (by omega)] at h1
  omega
/-- the units that the flows get -/
def unitsM (cp : Int → Int) (l : List Fl) : List Int := (itU cp l 4097).out
set_option maxRecDepth 100000 in
theorem unitsM_of {cp : Int → Int} {l : List Fl} {k : Nat} (h : okFl cp l) (hk : allFin (itU cp l k)) : (itU cp l k).out = unitsM cp l := by rw [unitsM, itU_unique hk (itU_done h)]
set_option maxRecDepth 100000 in
theorem unitsM_len (cp : Int → Int) (l : List Fl) : (unitsM cp l).length = l.length := (itU_len cp l _).1
set_option maxRecDepth 100000 in
theorem unitsM_bd {cp : Int → Int} {l : List Fl} (h : okFl cp l) (j : Nat) (hj : j < l.length) : 0 ≤ (unitsM cp l).getD j 0 ∧ (unitsM cp l).getD j 0 ≤ lmA l j := ⟨((UInv.it h 4097).bd j hj).1, ((UInv.it h 4097).bd j hj).2.1⟩
set_option maxRecDepth 100000 in
theorem unitsM_cap {cp : Int → Int} {l : List Fl} (h : okFl cp l) (j : Nat) (hj : j < l.length) (e : Int) (he : e ∈ lkA l j) : ld l (unitsM cp l) e ≤ cp e := (UInv.it h 4097).cap j hj e he
set_option maxRecDepth 100000 in
theorem unitsM_held {cp : Int → Int} {l : List Fl} (h : okFl cp l) (j : Nat) (hj : j < l.length) :
    (unitsM cp l).getD j 0 = lmA l j ∨ ∃ e ∈ lkA l j, ld l (unitsM cp l) e = cp e ∧ ∀ j', j' < l.length → e ∈ lkA l j' → (unitsM cp l).getD j' 0 ≤ (unitsM cp l).getD j 0 + 1 := by
  have hd := itU_done h j (by rw [(itU_len cp l _).2]; exact hj)
  exact (UInv.it h 4097).held j hj hd
set_option maxRecDepth 100000 in
theorem itU_all {cp : Int → Int} {l : List Fl} (h : okFl cp l) (k : Nat) (hk : 4097 ≤ k) : allFin (itU cp l k) := by
  obtain ⟨m, rfl⟩ : ∃ m, k = 4097 + m := ⟨k - 4097, by omega⟩
  rw [itU_stay (itU_done h) m]; exact itU_done h
set_option maxRecDepth 100000 in
theorem stepU_done {cp : Int → Int} {l : List Fl} {s : Un} {i : Nat} (h : s.fin.getD i true = true) : stepU cp l s i = s := by rw [stepU, if_pos h]
set_option maxRecDepth 100000 in
theorem stepU_stop {cp : Int → Int} {l : List Fl} {s : Un} {i : Nat} (h : ¬ s.fin.getD i true = true) (h2 : lmA l i ≤ s.out.getD i 0 ∨ fullU cp l s.out i) : stepU cp l s i = ⟨s.out, s.fin.set i true⟩ := by rw [stepU, if_neg h, if_pos h2]
set_option maxRecDepth 100000 in
theorem stepU_more {cp : Int → Int} {l : List Fl} {s : Un} {i : Nat} (h : ¬ s.fin.getD i true = true) (h2 : ¬ (lmA l i ≤ s.out.getD i 0 ∨ fullU cp l s.out i)) : stepU cp l s i = ⟨s.out.set i (s.out.getD i 0 + 1), s.fin⟩ := by rw [stepU, if_neg h, if_neg h2]
set_option maxRecDepth 100000 in
theorem partU_not {cp : Int → Int} {l : List Fl} {s : Un} {i : Nat} (hl : s.fin.length = l.length) (hi : i < l.length) (h : ¬ (partU cp l s i).fin.getD i true = true) : ¬ allFin s := by
  intro ha
  rw [partU_all ha hl i (by omega)] at h
  exact h (ha i (by omega))
end Go.Proofs.Ythdfflbhogfejaa
