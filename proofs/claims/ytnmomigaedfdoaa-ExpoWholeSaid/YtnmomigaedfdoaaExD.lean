/- The walks of package fraction: Reduce, Make. Words for intervals: blocks whose cells are known, two fractions in a block. Words for the walks of expo: two numbers in a block; the operations on numbers with their limits. The walks of expo's add, down, up and limb. -/
import Derived.Test.YtnmomigaedfdoaaFrA
import Derived.Deep.CutBlock
import Derived.Deep.DeepCutAuto
import Derived.Deep.RegionHeld3
namespace Go.Proofs.Ytnmomigaedfdoaa
set_option maxRecDepth 100000
open Go.RowKit

theorem bk3_alloc (w : World) (v0 v1 v2 : Value) : Bk3 (w.alloc (.cells #[v0, v1, v2] 26)) w.heap.size v0 v1 v2 :=
  ⟨by go_simp, by go_simp, by go_simp, by go_simp, by go_simp, by go_simp, by simp, _, (0, 0), heap_alloc_new w _⟩
theorem size_box (w : World) (o : Obj) : (w.alloc o).heap.size = w.heap.size + 1 := by simp
/-- the fraction that was stored into the block that is handed back -/
theorem set3_ok {w : World} {x : Fx} {G : Nat} {v0 v1 v2 u0 u1 u2 : Value} (h : x.ok w) (bk : Bk3 w G v0 v1 v2) (e0 : isInt v0 = false) (e1 : isInt v1 = false) (e2 : isInt v2 = false) :
    x.ok (((w.setCell ⟨G, 0, none⟩ u0).setCell ⟨G, 1, none⟩ u1).setCell ⟨G, 2, none⟩ u2) := by
  constructor
  · rcases Nat.eq_zero_or_pos x.xs.length with h0 | h0
    · exact h.num.nil_any h0 _
    · exact nt_set3 h.num (h.num.sep3 bk e0 e1 e2 h0)
  · rcases Nat.eq_zero_or_pos x.ys.length with h0 | h0
    · exact h.den.nil_any h0 _
    · exact nt_set3 h.den (h.den.sep3 bk e0 e1 e2 h0)
theorem set3g {w wc : World} {B G : Nat} {a b c : Value} (h : Below B w wc) (hG : B ≤ G) : Below B w (((wc.setCell ⟨G, 0, none⟩ a).setCell ⟨G, 1, none⟩ b).setCell ⟨G, 2, none⟩ c) :=
  ((h.setCell (p := ⟨G, 0, none⟩) hG _).setCell (p := ⟨G, 1, none⟩) hG _).setCell (p := ⟨G, 2, none⟩) hG _
def errF (e : Int) : Bool × List Nat × List Nat × Int := (false, [], [], e)
def redS (x : Fx) : Bool × List Nat × List Nat × Int := if x.v then frS x.q else errF 1

set_option maxHeartbeats 400000 in
theorem freduce_any (w : World) (x : Fx) (S : Bool × List Nat × List Nat × Int) (hx : x.ok w) (l1 : x.xs.length ≤ 10000) (l2 : x.ys.length ≤ 10000) (hs : redS x = S) : Calls Try.prog 87 #[x.val] w (FracRes w S) := by
  have HS := Lib.hid hs
  clear hs
  by_cases hv : x.v
  · have HV := Lib.hid hv
    have hv1 := hv.1
    have HV1 : Hid (nv x.ys ≠ 0) := hv1
    have lx : (lim (nv x.xs)).length ≤ 128 := hv.2.2
    have ly : (lim (nv x.ys)).length ≤ 128 := hv.2.1
    clear hv hv1
    go_enter Try.func87, Try.ntmps87
    go_wp2_with fail
    have hs1 : w.heap.size < (w.alloc (.cells x.cells 26)).heap.size := by simp
    have b0 := (Below.refl w.heap.size w).alloc (Nat.le_refl _) (.cells x.cells 26)
    have b1 := (Below.refl (w.alloc (.cells x.cells 26)).heap.size (w.alloc (.cells x.cells 26))).alloc (Nat.le_refl _) (.cells #[.bool false, .slice none 0 0, .slice none 0 0] 26)
    have bx := (bk3_alloc w (.bool x.b) (.slice x.A x.xs.length x.c) (.slice x.D x.ys.length x.d)).below b1
    have bk := bk3_new (w.alloc (.cells x.cells 26))
    rw [size_box] at bk
    have okx := (hx.below b0).below b1
    have bw := below_on b0 b1 (Nat.le_of_lt hs1)
    clear hs1 b0 b1
    revert bx bk okx bw
    generalize ((w.alloc (.cells x.cells 26)).alloc (.cells #[.bool false, .slice none 0 0, .slice none 0 0] 26)) = w1
    intro bx bk okx bw
    refine (fvalid_any w1 x true okx l1 l2 (decide_eq_true HV.out)).mono ?_
    rintro e wn ⟨rfl, bb⟩
    try replace bx := bx.below bb
    try replace by_ := by_.below bb
    try replace bk := bk.below bb
    try replace okx := okx.below bb
    try replace oky := oky.below bb
    try replace ok1 := ok1.below bb
    try replace na := na.below bb
    try replace nb := nb.below bb
    try replace nc := nc.below bb
    try replace nd := nd.below bb
    try replace ne := ne.below bb
    replace bw := below_on bw bb bw.size
    clear bb
    have tx := bx
    obtain ⟨x0, x1, x2, xf0, xf1, xf2, xlt, xb⟩ := tx
    clear xb
    go_wp2_with fail
    clear x0 x1 x2 xf0 xf1 xf2 xlt
    refine (flowest_any wn x.b x.A x.D x.c x.d _ _ x.xs x.ys okx.num okx.den rfl rfl HV1.out l1 l2 (by omega) (by omega)).mono ?_
    rintro e wn ⟨x1, rfl, hs1, ok1, bb⟩
    have HS1 := Lib.hid hs1
    clear hs1
    try replace bx := bx.below bb
    try replace by_ := by_.below bb
    try replace bk := bk.below bb
    try replace okx := okx.below bb
    try replace oky := oky.below bb
    try replace ok1 := ok1.below bb
    try replace na := na.below bb
    try replace nb := nb.below bb
    try replace nc := nc.below bb
    try replace nd := nd.below bb
    try replace ne := ne.below bb
    replace bw := below_on bw bb bw.size
    clear bb
    have tk := bk
    obtain ⟨k0, k1, k2, kf0, kf1, kf2, klt, kb⟩ := tk
    clear kb
    go_wp2_with fail
    refine bodyPost_ret (v := .tuple #[(x1 : Fx).val, .int .i64 (frS (qv x.b (nv x.xs) (nv x.ys))).2.2.2]) (by simp [results, Try.results87, go_sem, k0, k1, k2]) rfl ?_
    have hS : S = frS (qv x.b (nv x.xs) (nv x.ys)) := by rw [← HS.out, redS, if_pos HV.out]; rfl
    rw [hS]
    exact ⟨x1, rfl, HS1.out, set3_ok ok1 bk rfl rfl rfl, set3g bw (by omega)⟩
  · have HV : Hid (¬ x.v) := hv
    clear hv
    go_enter Try.func87, Try.ntmps87
    go_wp2_with fail
    have hs1 : w.heap.size < (w.alloc (.cells x.cells 26)).heap.size := by simp
    have b0 := (Below.refl w.heap.size w).alloc (Nat.le_refl _) (.cells x.cells 26)
    have b1 := (Below.refl (w.alloc (.cells x.cells 26)).heap.size (w.alloc (.cells x.cells 26))).alloc (Nat.le_refl _) (.cells #[.bool false, .slice none 0 0, .slice none 0 0] 26)
    have bx := (bk3_alloc w (.bool x.b) (.slice x.A x.xs.length x.c) (.slice x.D x.ys.length x.d)).below b1
    have bk := bk3_new (w.alloc (.cells x.cells 26))
    rw [size_box] at bk
    have okx := (hx.below b0).below b1
    have bw := below_on b0 b1 (Nat.le_of_lt hs1)
    clear hs1 b0 b1
    revert bx bk okx bw
    generalize ((w.alloc (.cells x.cells 26)).alloc (.cells #[.bool false, .slice none 0 0, .slice none 0 0] 26)) = w1
    intro bx bk okx bw
    refine (fvalid_any w1 x false okx l1 l2 (decide_eq_false HV.out)).mono ?_
    rintro e wn ⟨rfl, bb⟩
    try replace bx := bx.below bb
    try replace by_ := by_.below bb
    try replace bk := bk.below bb
    try replace okx := okx.below bb
    try replace oky := oky.below bb
    try replace ok1 := ok1.below bb
    try replace na := na.below bb
    try replace nb := nb.below bb
    try replace nc := nc.below bb
    try replace nd := nd.below bb
    try replace ne := ne.below bb
    replace bw := below_on bw bb bw.size
    clear bb
    have tk := bk
    obtain ⟨k0, k1, k2, kf0, kf1, kf2, klt, kb⟩ := tk
    clear kb
    go_wp2_with fail
    refine bodyPost_ret (v := .tuple #[(Fx.nil : Fx).val, .int .i64 1]) (by simp [results, Try.results87, go_sem, k0, k1, k2]) rfl ?_
    rw [← HS.out, redS, if_neg HV.out]
    exact ⟨Fx.nil, rfl, ⟨rfl, rfl, rfl⟩, Fx.nil_ok _, set3g bw (by omega)⟩
end Go.Proofs.Ytnmomigaedfdoaa
namespace Go.Proofs.Ytnmomigaedfdoaa
set_option maxRecDepth 100000
open Go.RowKit

/-- a block whose cells are known and can be written -/
def Blk (w : World) (G : Nat) (arr : Array Value) : Prop := ∃ t, w.heap[G]? = some (.cells arr t (0, 0))
section
variable {w w' : World} {G H : Nat} {arr : Array Value}
theorem Blk.lt (h : Blk w G arr) : G < w.heap.size := by
  obtain ⟨t, e⟩ := h
  exact (Array.getElem?_eq_some_iff.1 e).1
theorem Blk.cell (h : Blk w G arr) (k : Nat) : w.cell? ⟨G, k, none⟩ = arr[k]? := by
  obtain ⟨t, e⟩ := h
  simp [World.cell?, e]
theorem Blk.unf (h : Blk w G arr) (k : Nat) : w.frozen? ⟨G, k, none⟩ = false := by
  obtain ⟨t, e⟩ := h
  simp [World.frozen?, e]
theorem Blk.below (h : Blk w G arr) (hb : Below w.heap.size w w') : Blk w' G arr := by
  have hl := h.lt
  obtain ⟨t, e⟩ := h
  exact ⟨t, (hb.block G hl).trans e⟩
theorem blk_alloc (w : World) (arr : Array Value) (t : TypeId) : Blk (w.alloc (.cells arr t)) w.heap.size arr := ⟨t, heap_alloc_new w _⟩
theorem Blk.set (h : Blk w G arr) (k : Nat) (v : Value) : Blk (w.setCell ⟨G, k, none⟩ v) G (arr.setIfInBounds k v) := by
  obtain ⟨t, e⟩ := h
  exact ⟨t, by simp [World.setCell, Array.getElem?_modify, e]⟩
theorem Blk.far (h : Blk w G arr) {p : Addr} (hne : p.block ≠ G) (u : Value) : Blk (w.setCell p u) G arr := by
  obtain ⟨t, e⟩ := h
  exact ⟨t, by rw [Below.heap_setCell _ _ _ _ (fun e => hne e.symm)]; exact e⟩
/-- no cell of the block is a limb -/
def noInt (arr : Array Value) : Prop := ∀ v ∈ arr.toList, isInt v = false
theorem Nt.sepB {A : Option Addr} {c : Nat} {xs : List Nat} (h : Nt w A c xs) (bk : Blk w G arr) (hn : noInt arr) (hx : 0 < xs.length) : ∀ ad, A = some ad → ad.block ≠ G := fun ad e hG => by
  obtain ⟨ad', e', _, hc, _⟩ := h.at 0 hx
  rw [e] at e'
  injection e' with e'
  subst e'
  obtain ⟨t, hblk⟩ := bk
  have hb0 : (ad.add 0).block = G := by rw [block_of_add]; exact hG
  unfold World.cell? at hc
  rw [hb0, hblk] at hc
  simp only at hc
  split at hc
  · cases hc
  · have hm := Array.mem_of_getElem? hc
    have := hn (.int .u32 (xs[0] : Int)) (by simpa using hm)
    simp [isInt] at this
theorem noInt.set {k : Nat} {u : Value} (hn : noInt arr) (hu : isInt u = false) : noInt (arr.setIfInBounds k u) := fun v hv => by
  rw [Array.toList_setIfInBounds] at hv
  rcases List.mem_or_eq_of_mem_set hv with h | h
  · exact hn v h
  · rw [h]; exact hu
end
/-- six stores, one behind the other -/
abbrev set6 (w : World) (G : Nat) (v0 v1 v2 v3 v4 v5 : Value) : World := (((((w.setCell ⟨G, 0, none⟩ v0).setCell ⟨G, 1, none⟩ v1).setCell ⟨G, 2, none⟩ v2).setCell ⟨G, 3, none⟩ v3).setCell ⟨G, 4, none⟩ v4).setCell ⟨G, 5, none⟩ v5
theorem set6_blk {w : World} {G : Nat} {arr : Array Value} {v0 v1 v2 v3 v4 v5 : Value} (h : Blk w G arr) (hs : arr.size = 6) : Blk (set6 w G v0 v1 v2 v3 v4 v5) G #[v0, v1, v2, v3, v4, v5] := by
  have h1 := (((((h.set 0 v0).set 1 v1).set 2 v2).set 3 v3).set 4 v4).set 5 v5
  have e : ((((((arr.setIfInBounds 0 v0).setIfInBounds 1 v1).setIfInBounds 2 v2).setIfInBounds 3 v3).setIfInBounds 4 v4).setIfInBounds 5 v5) = #[v0, v1, v2, v3, v4, v5] := by
    apply Array.toList_inj.1
    simp only [Array.toList_setIfInBounds]
    have hl : arr.toList.length = 6 := by simpa using hs
    generalize arr.toList = l at hl
    match l, hl with
    | [_, _, _, _, _, _], _ => rfl
  rw [e] at h1
  exact h1
theorem set6_ok {w : World} {x : Fx} {G : Nat} {arr : Array Value} {v0 v1 v2 v3 v4 v5 : Value} (h : x.ok w) (bk : Blk w G arr) (hn : noInt arr) : x.ok (set6 w G v0 v1 v2 v3 v4 v5) := by
  constructor
  · rcases Nat.eq_zero_or_pos x.xs.length with h0 | h0
    · exact h.num.nil_any h0 _
    · have hs := h.num.sepB bk hn h0
      exact nt_far (nt_far (nt_far (nt_far (nt_far (nt_far h.num hs _) hs _) hs _) hs _) hs _) hs _
  · rcases Nat.eq_zero_or_pos x.ys.length with h0 | h0
    · exact h.den.nil_any h0 _
    · have hs := h.den.sepB bk hn h0
      exact nt_far (nt_far (nt_far (nt_far (nt_far (nt_far h.den hs _) hs _) hs _) hs _) hs _) hs _
theorem set6_below {w wc : World} {B G : Nat} {v0 v1 v2 v3 v4 v5 : Value} (h : Below B w wc) (hG : B ≤ G) : Below B w (set6 wc G v0 v1 v2 v3 v4 v5) :=
  (((((h.setCell (p := ⟨G, 0, none⟩) hG _).setCell (p := ⟨G, 1, none⟩) hG _).setCell (p := ⟨G, 2, none⟩) hG _).setCell (p := ⟨G, 3, none⟩) hG _).setCell (p := ⟨G, 4, none⟩) hG _).setCell (p := ⟨G, 5, none⟩) hG _

/-- an interval: its two ends -/
structure Ix where
  lo : Fx
  hi : Fx
abbrev Ix.cells (a : Ix) : Array Value := #[.bool a.lo.b, .slice a.lo.A a.lo.xs.length a.lo.c, .slice a.lo.D a.lo.ys.length a.lo.d, .bool a.hi.b, .slice a.hi.A a.hi.xs.length a.hi.c, .slice a.hi.D a.hi.ys.length a.hi.d]
abbrev Ix.val (a : Ix) : Value := .agg a.cells
abbrev zcells : Array Value := #[.bool false, .slice none 0 0, .slice none 0 0, .bool false, .slice none 0 0, .slice none 0 0]
abbrev Ix.nil : Ix := ⟨Fx.nil, Fx.nil⟩
structure Ix.ok (a : Ix) (w : World) : Prop where
  lo : a.lo.ok w
  hi : a.hi.ok w
theorem Ix.ok.below {a : Ix} {w w' : World} (h : a.ok w) (hb : Below w.heap.size w w') : a.ok w' := ⟨h.lo.below hb, h.hi.below hb⟩
theorem Ix.nil_ok (w : World) : Ix.nil.ok w := ⟨Fx.nil_ok w, Fx.nil_ok w⟩
theorem noInt_z : noInt zcells := by intro v hv; simp only [List.mem_cons, List.not_mem_nil, or_false] at hv; rcases hv with rfl | rfl | rfl | rfl | rfl | rfl <;> rfl
theorem noInt_i (a : Ix) : noInt a.cells := by intro v hv; simp only [List.mem_cons, List.not_mem_nil, or_false] at hv; rcases hv with rfl | rfl | rfl | rfl | rfl | rfl <;> rfl
/-- a variable that holds an interval -/
structure Ia (w : World) (G : Nat) (a : Ix) : Prop where
  bk : Blk w G a.cells
  ok : a.ok w
section
variable {w w' : World} {G : Nat} {a : Ix}
theorem Ia.c0 (h : Ia w G a) : w.cell? ⟨G, 0, none⟩ = some (.bool a.lo.b) := h.bk.cell 0
theorem Ia.c1 (h : Ia w G a) : w.cell? ⟨G, 1, none⟩ = some (.slice a.lo.A a.lo.xs.length a.lo.c) := h.bk.cell 1
theorem Ia.c2 (h : Ia w G a) : w.cell? ⟨G, 2, none⟩ = some (.slice a.lo.D a.lo.ys.length a.lo.d) := h.bk.cell 2
theorem Ia.c3 (h : Ia w G a) : w.cell? ⟨G, 3, none⟩ = some (.bool a.hi.b) := h.bk.cell 3
theorem Ia.c4 (h : Ia w G a) : w.cell? ⟨G, 4, none⟩ = some (.slice a.hi.A a.hi.xs.length a.hi.c) := h.bk.cell 4
theorem Ia.c5 (h : Ia w G a) : w.cell? ⟨G, 5, none⟩ = some (.slice a.hi.D a.hi.ys.length a.hi.d) := h.bk.cell 5
theorem Ia.lt (h : Ia w G a) : G < w.heap.size := h.bk.lt
theorem Ia.below (h : Ia w G a) (hb : Below w.heap.size w w') : Ia w' G a := ⟨h.bk.below hb, h.ok.below hb⟩
end
theorem ia_alloc {w : World} {a : Ix} (h : a.ok w) : Ia (w.alloc (.cells a.cells 35)) w.heap.size a ∧ Below w.heap.size w (w.alloc (.cells a.cells 35)) := by
  have b0 := (Below.refl w.heap.size w).alloc (Nat.le_refl _) (.cells a.cells 35)
  exact ⟨⟨blk_alloc _ _ _, h.below b0⟩, b0⟩
theorem zr_alloc (w : World) : Blk (w.alloc (.cells zcells 35)) w.heap.size zcells ∧ Below w.heap.size w (w.alloc (.cells zcells 35)) :=
  ⟨blk_alloc _ _ _, (Below.refl w.heap.size w).alloc (Nat.le_refl _) _⟩
abbrev FqS := Bool × List Nat × List Nat × Int
/-- how a fraction reads -/
def Fx.is (x : Fx) (s : FqS) : Prop := x.b = s.1 ∧ x.xs = s.2.1 ∧ x.ys = s.2.2.1
abbrev IvS := FqS × FqS × Int
def errI (e : Int) : IvS := (errF e, errF e, e)
/-- what a call hands back: an interval and an error -/
def IvlRes (w : World) (S : IvS) (e : Ending) (w' : World) : Prop :=
  ∃ a : Ix, e = .returned (.tuple #[a.val, .int .i64 S.2.2]) ∧ a.lo.is S.1 ∧ a.hi.is S.2.1 ∧ a.ok w' ∧ Below w.heap.size w w'
/-- an interval -/
def IvlNew (w : World) (S T : FqS) (e : Ending) (w' : World) : Prop :=
  ∃ a : Ix, e = .returned a.val ∧ a.lo.is S ∧ a.hi.is T ∧ a.ok w' ∧ Below w.heap.size w w'
/-- an interval and whether there is one -/
def IvlOk (w : World) (S T : FqS) (b : Bool) (e : Ending) (w' : World) : Prop :=
  ∃ a : Ix, e = .returned (.tuple #[a.val, .bool b]) ∧ a.lo.is S ∧ a.hi.is T ∧ a.ok w' ∧ Below w.heap.size w w'
def bothS (S T : FqS) : IvS := if S.2.2.2 ≠ 0 then errI S.2.2.2 else if T.2.2.2 ≠ 0 then errI T.2.2.2 else (S, T, 0)
end Go.Proofs.Ytnmomigaedfdoaa
namespace Go.Proofs.Ytnmomigaedfdoaa
set_option maxRecDepth 100000
open Go.RowKit

theorem size_al (w : World) (o : Obj) : (w.alloc o).heap.size = w.heap.size + 1 := Array.size_push _
/-- two numbers in memory -/
structure Px where
  A : Option Addr
  c : Nat
  lo : Nat
  D : Option Addr
  d : Nat
  hi : Nat
abbrev Px.cells (x : Px) : Array Value := #[.slice x.A (lim x.lo).length x.c, .slice x.D (lim x.hi).length x.d]
abbrev Px.val (x : Px) : Value := .agg x.cells
abbrev Px.pr (x : Px) : Pr := ⟨x.lo, x.hi⟩
structure Px.ok (x : Px) (w : World) : Prop where
  lo : Nt w x.A x.c (lim x.lo)
  hi : Nt w x.D x.d (lim x.hi)
theorem Px.ok.below {x : Px} {w w' : World} (h : x.ok w) (hb : Below w.heap.size w w') : x.ok w' := ⟨h.lo.below hb, h.hi.below hb⟩
abbrev Px.nil : Px := ⟨none, 0, 0, none, 0, 0⟩
theorem nt_nil0 (w : World) : Nt w none 0 (lim 0) := by rw [lim_zero]; exact ⟨Nat.le_refl _, by omega, U32.nil, Rd.nil⟩
theorem Px.nil_ok (w : World) : Px.nil.ok w := ⟨nt_nil0 w, nt_nil0 w⟩
theorem noInt_p (x : Px) : noInt x.cells := by intro v hv; simp only [List.mem_cons, List.not_mem_nil, or_false] at hv; rcases hv with rfl | rfl <;> rfl
/-- a variable that holds them -/
structure Pv (w : World) (G : Nat) (x : Px) : Prop where
  bk : Blk w G x.cells
  ok : x.ok w
/-- two stores, one behind the other -/
abbrev set2 (w : World) (G : Nat) (v0 v1 : Value) : World := (w.setCell ⟨G, 0, none⟩ v0).setCell ⟨G, 1, none⟩ v1
section
variable {w w' wc : World} {B G H : Nat} {arr : Array Value} {v0 v1 : Value} {x y : Px}
theorem Pv.c0 (h : Pv w G x) : w.cell? ⟨G, 0, none⟩ = some (.slice x.A (lim x.lo).length x.c) := h.bk.cell 0
theorem Pv.c1 (h : Pv w G x) : w.cell? ⟨G, 1, none⟩ = some (.slice x.D (lim x.hi).length x.d) := h.bk.cell 1
theorem Pv.f0 (h : Pv w G x) : w.frozen? ⟨G, 0, none⟩ = false := h.bk.unf 0
theorem Pv.f1 (h : Pv w G x) : w.frozen? ⟨G, 1, none⟩ = false := h.bk.unf 1
theorem Pv.lt (h : Pv w G x) : G < w.heap.size := h.bk.lt
theorem Pv.below (h : Pv w G x) (hb : Below w.heap.size w w') : Pv w' G x := ⟨h.bk.below hb, h.ok.below hb⟩
theorem set2_blk (h : Blk w G arr) (hs : arr.size = 2) : Blk (set2 w G v0 v1) G #[v0, v1] := by
  have h1 := (h.set 0 v0).set 1 v1
  have e : ((arr.setIfInBounds 0 v0).setIfInBounds 1 v1) = #[v0, v1] := by
    apply Array.toList_inj.1
    simp only [Array.toList_setIfInBounds]
    have hl : arr.toList.length = 2 := by simpa using hs
    generalize arr.toList = l at hl
    match l, hl with
    | [_, _], _ => rfl
  rw [e] at h1
  exact h1
theorem nt_set2 {A : Option Addr} {c : Nat} {xs : List Nat} (h : Nt w A c xs) (bk : Blk w G arr) (hn : noInt arr) : Nt (set2 w G v0 v1) A c xs := by
  rcases Nat.eq_zero_or_pos xs.length with h0 | h0
  · exact h.nil_any h0 _
  · have hs := h.sepB bk hn h0
    exact nt_far (nt_far h hs _) hs _
theorem Px.ok.set2 (h : x.ok w) (bk : Blk w G arr) (hn : noInt arr) : x.ok (Proofs.Ytnmomigaedfdoaa.set2 w G v0 v1) := ⟨nt_set2 h.lo bk hn, nt_set2 h.hi bk hn⟩
theorem Fx.ok.set2 {x : Fx} (h : x.ok w) (bk : Blk w G arr) (hn : noInt arr) : x.ok (Proofs.Ytnmomigaedfdoaa.set2 w G v0 v1) := ⟨nt_set2 h.num bk hn, nt_set2 h.den bk hn⟩
theorem set2_below (h : Below B w wc) (hG : B ≤ G) : Below B w (set2 wc G v0 v1) := (h.setCell (p := ⟨G, 0, none⟩) hG _).setCell (p := ⟨G, 1, none⟩) hG _
theorem Blk.set2 (h : Blk w H arr) (hne : G ≠ H) : Blk (Proofs.Ytnmomigaedfdoaa.set2 w G v0 v1) H arr := (h.far (p := ⟨G, 0, none⟩) hne _).far (p := ⟨G, 1, none⟩) hne _
theorem Pv.put (h : Pv w G x) (hy : y.ok w) : Pv (set2 w G (.slice y.A (lim y.lo).length y.c) (.slice y.D (lim y.hi).length y.d)) G y := ⟨set2_blk h.bk rfl, hy.set2 h.bk (noInt_p x)⟩
theorem Pv.far (h : Pv w H y) (k : Pv w G x) (hne : G ≠ H) : Pv (set2 w G v0 v1) H y := ⟨h.bk.set2 hne, h.ok.set2 k.bk (noInt_p x)⟩
theorem pv_alloc (h : x.ok w) (t : TypeId) : Pv (w.alloc (.cells x.cells t)) w.heap.size x ∧ Below w.heap.size w (w.alloc (.cells x.cells t)) := by
  have b0 := (Below.refl w.heap.size w).alloc (Nat.le_refl _) (.cells x.cells t)
  exact ⟨⟨blk_alloc _ _ _, h.below b0⟩, b0⟩
end
theorem nil_cells : Px.nil.cells = #[.slice none 0 0, .slice none 0 0] := by simp [Px.cells, lim_zero]
abbrev zcell2 : Array Value := #[.slice none 0 0, .slice none 0 0]
theorem pv_new (w : World) (t : TypeId) : Pv (w.alloc (.cells #[.slice none 0 0, .slice none 0 0] t)) w.heap.size Px.nil ∧ Below w.heap.size w (w.alloc (.cells #[.slice none 0 0, .slice none 0 0] t)) := by
  have h := pv_alloc (Px.nil_ok w) t
  rwa [nil_cells] at h
/-- a fraction in a block -/
structure Qv (w : World) (G : Nat) (x : Fx) : Prop where
  bk : Blk w G x.cells
  ok : x.ok w
section
variable {w w' : World} {G H : Nat} {v0 v1 : Value} {x : Fx} {y : Px}
theorem Qv.c0 (h : Qv w G x) : w.cell? ⟨G, 0, none⟩ = some (.bool x.b) := h.bk.cell 0
theorem Qv.c1 (h : Qv w G x) : w.cell? ⟨G, 1, none⟩ = some (.slice x.A x.xs.length x.c) := h.bk.cell 1
theorem Qv.c2 (h : Qv w G x) : w.cell? ⟨G, 2, none⟩ = some (.slice x.D x.ys.length x.d) := h.bk.cell 2
theorem Qv.lt (h : Qv w G x) : G < w.heap.size := h.bk.lt
theorem Qv.below (h : Qv w G x) (hb : Below w.heap.size w w') : Qv w' G x := ⟨h.bk.below hb, h.ok.below hb⟩
theorem Qv.far (h : Qv w H x) (k : Pv w G y) (hne : G ≠ H) : Qv (set2 w G v0 v1) H x := ⟨h.bk.set2 hne, h.ok.set2 k.bk (noInt_p y)⟩
theorem qv_alloc (h : x.ok w) (t : TypeId) : Qv (w.alloc (.cells x.cells t)) w.heap.size x ∧ Below w.heap.size w (w.alloc (.cells x.cells t)) := by
  have b0 := (Below.refl w.heap.size w).alloc (Nat.le_refl _) (.cells x.cells t)
  exact ⟨⟨blk_alloc _ _ _, h.below b0⟩, b0⟩
end
/-! the operations on numbers -/
theorem nadd_any (w : World) (A D : Option Addr) (c d a b : Nat) (h : Nt w A c (lim a)) (k : Nt w D d (lim b)) :
    Calls Try.prog 96 #[.slice A (lim a).length c, .slice D (lim b).length d] w fun e w' => ∃ A' c' E, e = .returned (.tuple #[.slice A' (lim (addO a b)).length c', .int .i64 E]) ∧ Nt w' A' c' (lim (addO a b)) ∧ Below w.heap.size w w' := by
  refine (add_any w A D c d _ _ (lim a) (lim b) (lim (addO a b)) (addS a b).2 h k rfl rfl (by rw [nv_lim, nv_lim, ← addS_lim])).mono ?_
  rintro e w' ⟨A', c', rfl, hn, bb⟩
  exact ⟨A', c', _, rfl, hn, bb⟩
theorem nmul_any (w : World) (A D : Option Addr) (c d a b : Nat) (h : Nt w A c (lim a)) (k : Nt w D d (lim b)) :
    Calls Try.prog 104 #[.slice A (lim a).length c, .slice D (lim b).length d] w fun e w' => ∃ A' c' E, e = .returned (.tuple #[.slice A' (lim (mulO a b)).length c', .int .i64 E]) ∧ Nt w' A' c' (lim (mulO a b)) ∧ Below w.heap.size w w' := by
  refine (mul_any w A D c d _ _ (lim a) (lim b) (lim (mulO a b)) (mulS a b).2 h k rfl rfl (by rw [nv_lim, nv_lim, ← mulS_lim])).mono ?_
  rintro e w' ⟨A', c', rfl, hn, bb⟩
  exact ⟨A', c', _, rfl, hn, bb⟩
theorem ndiv_any (w : World) (A D : Option Addr) (c d a b : Nat) (h : Nt w A c (lim a)) (k : Nt w D d (lim b)) :
    Calls Try.prog 101 #[.slice A (lim a).length c, .slice D (lim b).length d] w fun e w' => ∃ A' c' D' d' E, e = .returned (.tuple #[.slice A' (lim (divO a b)).length c', .slice D' (lim (modO a b)).length d', .int .i64 E]) ∧ Nt w' A' c' (lim (divO a b)) ∧ Nt w' D' d' (lim (modO a b)) ∧ Below w.heap.size w w' := by
  refine (div_any w A D c d _ _ (lim a) (lim b) (lim (divO a b)) (lim (modO a b)) (divS a b).2.2 h k rfl rfl (by rw [nv_lim, nv_lim, ← (divS_lim a b).1, ← (divS_lim a b).2])).mono ?_
  rintro e w' ⟨A', c', D', d', rfl, hn, hm, bb⟩
  exact ⟨A', c', D', d', _, rfl, hn, hm, bb⟩
theorem nsh_any (w : World) (A : Option Addr) (c k : Nat) (h : Nt w A c (lim 1)) :
    Calls Try.prog 91 #[.slice A (lim 1).length c, .int .i64 (k : Int)] w fun e w' => ∃ A' c' E, e = .returned (.tuple #[.slice A' (lim (shO k)).length c', .int .i64 E]) ∧ Nt w' A' c' (lim (shO k)) ∧ Below w.heap.size w w' := by
  refine (shift_any w A c _ (k : Int) (lim 1) (lim (shO k)) (shiftS 1 (k : Int)).2 h rfl (by rw [nv_lim, ← shS_lim])).mono ?_
  rintro e w' ⟨A', c', rfl, hn, bb⟩
  exact ⟨A', c', _, rfl, hn, bb⟩
theorem nbits_any (w : World) (A : Option Addr) (c a : Nat) (h : Nt w A c (lim a)) (hl : (lim a).length ≤ 1000000) :
    Calls Try.prog 63 #[.slice A (lim a).length c] w fun e w' => e = .returned (.int .i64 (bits2 a)) ∧ w = w' := by
  have := bits_any w A c _ (lim a) h rfl hl
  rwa [nv_lim] at this
theorem ncmp_any (w : World) (A D : Option Addr) (c d a b : Nat) (z : Int) (h : Nt w A c (lim a)) (k : Nt w D d (lim b)) (hz : cmp3 a b = z) :
    Calls Try.prog 93 #[.slice A (lim a).length c, .slice D (lim b).length d] w fun e w' => e = .returned (.int .i64 z) ∧ Qt w w' :=
  cmp_any w A D c d _ _ (lim a) (lim b) z h k rfl rfl (by rw [nv_lim, nv_lim]; exact hz)
theorem modO_len (a b : Nat) : (lim (modO a b)).length ≤ 512 := by
  by_cases h : 512 < (lim a).length ∨ 512 < (lim b).length
  · rw [modO, divS, if_pos h]; show (lim 0).length ≤ _; rw [lim_zero]; simp
  · rw [modO, divS, if_neg h]
    split
    · show (lim 0).length ≤ _; rw [lim_zero]; simp
    · show (lim (nv (lim (a % b)))).length ≤ _
      rw [nv_lim]
      exact lim_len_mono (Nat.mod_le a b) (by omega)
end Go.Proofs.Ytnmomigaedfdoaa
namespace Go.Proofs.Ytnmomigaedfdoaa
set_option maxRecDepth 100000
open Go.RowKit

set_option maxHeartbeats 1600000 in
theorem xadd_any (w : World) (x y : Px) (hx : x.ok w) (hy : y.ok w) :
    Calls Try.prog 103 #[x.val, y.val] w fun e w' => ∃ z : Px, e = .returned z.val ∧ z.pr = plusP x.pr y.pr ∧ z.ok w' ∧ Below w.heap.size w w' := by
  go_enter Try.func103, Try.ntmps103
  go_upto_region 1 with fail
  have a2 := (pv_alloc hx 97).1
  have b2 := (pv_alloc hx 97).2
  have hy2 := hy.below b2
  have z2 := size_al w (.cells x.cells 97)
  generalize (w.alloc (.cells x.cells 97)) = w2 at a2 b2 hy2 z2 ⊢
  have a3 := (pv_alloc hy2 97).1
  have b3 := (pv_alloc hy2 97).2
  have z3 := size_al w2 (.cells y.cells 97)
  replace a2 := a2.below b3
  replace b2 := below_on b2 b3 b2.size
  rw [z2] at a3 z3
  clear hx hy hy2 b3
  generalize (w2.alloc (.cells y.cells 97)) = w3 at a2 a3 b2 z3 ⊢
  have a4 := (pv_new w3 97).1
  have b4 := (pv_new w3 97).2
  replace a2 := a2.below b4
  replace a3 := a3.below b4
  replace b2 := below_on b2 b4 b2.size
  rw [z3] at a4
  clear b4
  generalize (w3.alloc (.cells #[.slice none 0 0, .slice none 0 0] 97)) = w4 at a2 a3 a4 b2 ⊢
  clear z2 z3
  obtain ⟨g2, hg2⟩ : ∃ g2, w.heap.size = g2 := ⟨_, rfl⟩
  rw [hg2] at a2 a3 a4 ⊢
  have p0 := a2.c0
  have p1 := a2.c1
  have q0 := a3.c0
  have q1 := a3.c1
  go_wp2_with fail
  refine (nadd_any w4 _ _ _ _ x.lo y.lo a2.ok.lo a3.ok.lo).mono ?_
  rintro _ w5 ⟨A5, c5, E5, rfl, n5, bb⟩
  replace a2 := a2.below bb
  replace a3 := a3.below bb
  replace a4 := a4.below bb
  replace b2 := below_on b2 bb b2.size
  clear p0 p1 q0 q1 bb
  have p0 := a2.c0
  have p1 := a2.c1
  have q0 := a3.c0
  have q1 := a3.c1
  go_wp2_with fail
  refine (nadd_any w5 _ _ _ _ x.hi y.hi a2.ok.hi a3.ok.hi).mono ?_
  rintro _ w6 ⟨A6, c6, E6, rfl, n6, bb⟩
  replace n5 := n5.below bb
  replace a4 := a4.below bb
  replace b2 := below_on b2 bb b2.size
  clear p0 p1 q0 q1 bb a2 a3
  have r0 := a4.c0
  have r1 := a4.c1
  have s0 := a4.f0
  have s1 := a4.f1
  go_wp2_with fail
  refine bodyPost_ret (v := (⟨A5, c5, addO x.lo y.lo, A6, c6, addO x.hi y.hi⟩ : Px).val) (by simp [results, Try.results103, go_sem, r0, r1]) rfl ?_
  have hok : (⟨A5, c5, addO x.lo y.lo, A6, c6, addO x.hi y.hi⟩ : Px).ok w6 := ⟨n5, n6⟩
  exact ⟨⟨A5, c5, addO x.lo y.lo, A6, c6, addO x.hi y.hi⟩, rfl, rfl, hok.set2 a4.bk (noInt_p _), set2_below b2 (by omega)⟩
set_option maxHeartbeats 1600000 in
theorem xdown_any (w : World) (A D E : Option Addr) (c d e a b k : Nat) (hA : Nt w A c (lim a)) (hD : Nt w D d (lim b)) (hE : Nt w E e (lim k)) :
    Calls Try.prog 92 #[.slice A (lim a).length c, .slice D (lim b).length d, .slice E (lim k).length e] w fun e w' => ∃ A' c', e = .returned (.slice A' (lim (downO a b k)).length c') ∧ Nt w' A' c' (lim (downO a b k)) ∧ Below w.heap.size w w' := by
  go_enter Try.func92, Try.ntmps92
  go_wp2_with fail
  refine (nmul_any w A D c d a b hA hD).mono ?_
  rintro _ w1 ⟨A1, c1, E1, rfl, n1, bw⟩
  replace hE := hE.below bw
  go_wp2_with fail
  refine (ndiv_any w1 A1 E c1 e _ k n1 hE).mono ?_
  rintro _ w2 ⟨A2, c2, D2, d2, E2, rfl, n2, _, bb⟩
  replace bw := below_on bw bb bw.size
  go_wp2_with fail
  go_ret
  exact ⟨A2, c2, rfl, n2, bw⟩
set_option maxHeartbeats 1600000 in
theorem xup_any (w : World) (A D E : Option Addr) (c d e a b k : Nat) (hA : Nt w A c (lim a)) (hD : Nt w D d (lim b)) (hE : Nt w E e (lim k)) :
    Calls Try.prog 105 #[.slice A (lim a).length c, .slice D (lim b).length d, .slice E (lim k).length e] w fun e w' => ∃ A' c', e = .returned (.slice A' (lim (upO a b k)).length c') ∧ Nt w' A' c' (lim (upO a b k)) ∧ Below w.heap.size w w' := by
  go_enter Try.func105, Try.ntmps105
  go_wp2_with fail
  refine (nmul_any w A D c d a b hA hD).mono ?_
  rintro _ w1 ⟨A1, c1, E1, rfl, n1, bw⟩
  replace hE := hE.below bw
  go_wp2_with fail
  refine (ndiv_any w1 A1 E c1 e _ k n1 hE).mono ?_
  rintro _ w2 ⟨A2, c2, D2, d2, E2, rfl, n2, m2, bb⟩
  replace bw := below_on bw bb bw.size
  have hml := modO_len (mulO a b) k
  go_wp2_with fail
  refine (nbits_any w2 D2 d2 _ m2 (by omega)).mono ?_
  rintro _ w3 ⟨rfl, rfl⟩
  by_cases hm : modO (mulO a b) k = 0
  · have h0 : bits2 (modO (mulO a b) k) = 0 := by rw [hm]; rfl
    rw [h0]
    have hu : Hid (upO a b k = divO (mulO a b) k) := Lib.hid (by rw [upO, if_pos hm])
    go_wp2_with fail
    go_ret
    exact ⟨A2, c2, by rw [hu.out]; rfl, by rw [hu.out]; exact n2, bw⟩
  · have h0 : 0 < bits2 (modO (mulO a b) k) := by
      rw [bits2, if_neg hm]; omega
    obtain ⟨bt, hbt⟩ : ∃ bt, bits2 (modO (mulO a b) k) = bt := ⟨_, rfl⟩
    rw [hbt] at h0 ⊢
    have hd : decide ((0 : Int) < (bt : Int)) = true := decide_eq_true (by omega)
    have hu : Hid (upO a b k = addO (divO (mulO a b) k) 1) := Lib.hid (by rw [upO, if_neg hm])
    clear hm hbt
    go_wp2_with fail
    refine (make_any w2 1 (by omega)).mono ?_
    rintro _ w3 ⟨A3, c3, rfl, n3, bb⟩
    replace n2 := n2.below bb
    replace bw := below_on bw bb bw.size
    go_wp2_with fail
    refine (nadd_any w3 A2 A3 c2 c3 _ 1 n2 n3).mono ?_
    rintro _ w4 ⟨A4, c4, E4, rfl, n4, bb⟩
    replace bw := below_on bw bb bw.size
    go_wp2_with fail
    go_ret
    exact ⟨A4, c4, by rw [hu.out]; rfl, by rw [hu.out]; exact n4, bw⟩
set_option maxHeartbeats 1600000 in
theorem xlimb_any (w : World) (A : Option Addr) (c a : Nat) (hA : Nt w A c (lim a)) (ha : a < 4294967296) :
    Calls Try.prog 102 #[.slice A (lim a).length c] w fun e w' => e = .returned (.int .u32 (a : Int)) ∧ w = w' := by
  by_cases h0 : a = 0
  · subst h0
    have hl : (lim 0).length = 0 := by rw [lim_zero]; rfl
    rw [hl]
    go_enter Try.func102, Try.ntmps102
    go_wp2_with fail
    go_ret
    exact ⟨rfl, rfl⟩
  · have hl : lim a = [a] := by
      rw [lim_pos h0, Nat.mod_eq_of_lt ha, Nat.div_eq_of_lt ha, lim_zero]
    rw [hl] at hA ⊢
    obtain ⟨ad, rfl, _, hc, _⟩ := hA.at 0 (by simp)
    have hcap := hA.cap
    have e0 : ad.add 0 = ad := by unfold Addr.add; rfl
    rw [e0] at hc
    go_enter Try.func102, Try.ntmps102
    go_wp2_with fail
    go_ret
    exact ⟨rfl, rfl⟩
end Go.Proofs.Ytnmomigaedfdoaa
