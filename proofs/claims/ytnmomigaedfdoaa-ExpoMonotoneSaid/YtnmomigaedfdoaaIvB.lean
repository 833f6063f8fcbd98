/- The walks of package fraction: Reduce, Make. Words for intervals: blocks whose cells are known, two fractions in a block. -/
import Derived.Test.YtnmomigaedfdoaaFrA
namespace Go.Proofs.Ytnmomigaedfdoaa
set_option maxRecDepth 100000
open Go.RowKit

theorem bk3_alloc (w : World) (v0 v1 v2 : Value) : Bk3 (w.alloc (.cells #[v0, v1, v2] 26)) w.heap.size v0 v1 v2 :=
  ⟨by go_simp, by go_simp, by go_simp, by go_simp, by go_simp, by go_simp, by simp, _, (0, 0), heap_alloc_new w _⟩
theorem size_box (w : World) (o : Obj) : (w.alloc o).heap.size = w.heap.size + 1 := by simp
/-- the fraction that was stored into the block that is handed back -/
theorem set3_ok {w : World} {x : Fx} {G : Nat} {v0 v1 v2 u0 u1 u2 : Value} (h : x.ok w) (bk : Bk3 w G v0 v1 v2) (e0 : isInt v0 = false) (e1 : isInt v1 = false) (e2 : isInt v2 = false) :
    x.ok (((w.setCell ⟨G, 0, none⟩ u0).setCell ⟨G, 1, none⟩ u1).setCell ⟨G, 2, none⟩ u2) := by
  constructor
  · rcases Nat.eq_zero_or_pos x.xs.length with h0 | h0
    · exact h.num.nil_any h0 _
    · exact nt_set3 h.num (h.num.sep3 bk e0 e1 e2 h0)
  · rcases Nat.eq_zero_or_pos x.ys.length with h0 | h0
    · exact h.den.nil_any h0 _
    · exact nt_set3 h.den (h.den.sep3 bk e0 e1 e2 h0)
theorem set3g {w wc : World} {B G : Nat} {a b c : Value} (h : Below B w wc) (hG : B ≤ G) : Below B w (((wc.setCell ⟨G, 0, none⟩ a).setCell ⟨G, 1, none⟩ b).setCell ⟨G, 2, none⟩ c) :=
  ((h.setCell (p := ⟨G, 0, none⟩) hG _).setCell (p := ⟨G, 1, none⟩) hG _).setCell (p := ⟨G, 2, none⟩) hG _
def errF (e : Int) : Bool × List Nat × List Nat × Int := (false, [], [], e)
def redS (x : Fx) : Bool × List Nat × List Nat × Int := if x.v then frS x.q else errF 1

set_option maxHeartbeats 400000 in
theorem freduce_any (w : World) (x : Fx) (S : Bool × List Nat × List Nat × Int) (hx : x.ok w) (l1 : x.xs.length ≤ 10000) (l2 : x.ys.length ≤ 10000) (hs : redS x = S) : Calls Try.prog 87 #[x.val] w (FracRes w S) := by
  have HS := Lib.hid hs
  clear hs
  by_cases hv : x.v
  · have HV := Lib.hid hv
    have hv1 := hv.1
    have HV1 : Hid (nv x.ys ≠ 0) := hv1
    have lx : (lim (nv x.xs)).length ≤ 128 := hv.2.2
    have ly : (lim (nv x.ys)).length ≤ 128 := hv.2.1
    clear hv hv1
    go_enter Try.func87, Try.ntmps87
    go_wp2_with fail
    have hs1 : w.heap.size < (w.alloc (.cells x.cells 26)).heap.size := by simp
    have b0 := (Below.refl w.heap.size w).alloc (Nat.le_refl _) (.cells x.cells 26)
    have b1 := (Below.refl (w.alloc (.cells x.cells 26)).heap.size (w.alloc (.cells x.cells 26))).alloc (Nat.le_refl _) (.cells #[.bool false, .slice none 0 0, .slice none 0 0] 26)
    have bx := (bk3_alloc w (.bool x.b) (.slice x.A x.xs.length x.c) (.slice x.D x.ys.length x.d)).below b1
    have bk := bk3_new (w.alloc (.cells x.cells 26))
    rw [size_box] at bk
    have okx := (hx.below b0).below b1
    have bw := below_on b0 b1 (Nat.le_of_lt hs1)
    clear hs1 b0 b1
    revert bx bk okx bw
    generalize ((w.alloc (.cells x.cells 26)).alloc (.cells #[.bool false, .slice none 0 0, .slice none 0 0] 26)) = w1
    intro bx bk okx bw
    refine (fvalid_any w1 x true okx l1 l2 (decide_eq_true HV.out)).mono ?_
    rintro e wn ⟨rfl, bb⟩
    try replace bx := bx.below bb
    try replace by_ := by_.below bb
    try replace bk := bk.below bb
    try replace okx := okx.below bb
    try replace oky := oky.below bb
    try replace ok1 := ok1.below bb
    try replace na := na.below bb
    try replace nb := nb.below bb
    try replace nc := nc.below bb
    try replace nd := nd.below bb
    try replace ne := ne.below bb
    replace bw := below_on bw bb bw.size
    clear bb
    have tx := bx
    obtain ⟨x0, x1, x2, xf0, xf1, xf2, xlt, xb⟩ := tx
    clear xb
    go_wp2_with fail
    clear x0 x1 x2 xf0 xf1 xf2 xlt
    refine (flowest_any wn x.b x.A x.D x.c x.d _ _ x.xs x.ys okx.num okx.den rfl rfl HV1.out l1 l2 (by omega) (by omega)).mono ?_
    rintro e wn ⟨x1, rfl, hs1, ok1, bb⟩
    have HS1 := Lib.hid hs1
    clear hs1
    try replace bx := bx.below bb
    try replace by_ := by_.below bb
    try replace bk := bk.below bb
    try replace okx := okx.below bb
    try replace oky := oky.below bb
    try replace ok1 := ok1.below bb
    try replace na := na.below bb
    try replace nb := nb.below bb
    try replace nc := nc.below bb
    try replace nd := nd.below bb
    try replace ne := ne.below bb
    replace bw := below_on bw bb bw.size
    clear bb
    have tk := bk
    obtain ⟨k0, k1, k2, kf0, kf1, kf2, klt, kb⟩ := tk
    clear kb
    go_wp2_with fail
    refine bodyPost_ret (v := .tuple #[(x1 : Fx).val, .int .i64 (frS (qv x.b (nv x.xs) (nv x.ys))).2.2.2]) (by simp [results, Try.results87, go_sem, k0, k1, k2]) rfl ?_
    have hS : S = frS (qv x.b (nv x.xs) (nv x.ys)) := by rw [← HS.out, redS, if_pos HV.out]; rfl
    rw [hS]
    exact ⟨x1, rfl, HS1.out, set3_ok ok1 bk rfl rfl rfl, set3g bw (by omega)⟩
  · have HV : Hid (¬ x.v) := hv
    clear hv
    go_enter Try.func87, Try.ntmps87
    go_wp2_with fail
    have hs1 : w.heap.size < (w.alloc (.cells x.cells 26)).heap.size := by simp
    have b0 := (Below.refl w.heap.size w).alloc (Nat.le_refl _) (.cells x.cells 26)
    have b1 := (Below.refl (w.alloc (.cells x.cells 26)).heap.size (w.alloc (.cells x.cells 26))).alloc (Nat.le_refl _) (.cells #[.bool false, .slice none 0 0, .slice none 0 0] 26)
    have bx := (bk3_alloc w (.bool x.b) (.slice x.A x.xs.length x.c) (.slice x.D x.ys.length x.d)).below b1
    have bk := bk3_new (w.alloc (.cells x.cells 26))
    rw [size_box] at bk
    have okx := (hx.below b0).below b1
    have bw := below_on b0 b1 (Nat.le_of_lt hs1)
    clear hs1 b0 b1
    revert bx bk okx bw
    generalize ((w.alloc (.cells x.cells 26)).alloc (.cells #[.bool false, .slice none 0 0, .slice none 0 0] 26)) = w1
    intro bx bk okx bw
    refine (fvalid_any w1 x false okx l1 l2 (decide_eq_false HV.out)).mono ?_
    rintro e wn ⟨rfl, bb⟩
    try replace bx := bx.below bb
    try replace by_ := by_.below bb
    try replace bk := bk.below bb
    try replace okx := okx.below bb
    try replace oky := oky.below bb
    try replace ok1 := ok1.below bb
    try replace na := na.below bb
    try replace nb := nb.below bb
    try replace nc := nc.below bb
    try replace nd := nd.below bb
    try replace ne := ne.below bb
    replace bw := below_on bw bb bw.size
    clear bb
    have tk := bk
    obtain ⟨k0, k1, k2, kf0, kf1, kf2, klt, kb⟩ := tk
    clear kb
    go_wp2_with fail
    refine bodyPost_ret (v := .tuple #[(Fx.nil : Fx).val, .int .i64 1]) (by simp [results, Try.results87, go_sem, k0, k1, k2]) rfl ?_
    rw [← HS.out, redS, if_neg HV.out]
    exact ⟨Fx.nil, rfl, ⟨rfl, rfl, rfl⟩, Fx.nil_ok _, set3g bw (by omega)⟩
end Go.Proofs.Ytnmomigaedfdoaa
namespace Go.Proofs.Ytnmomigaedfdoaa
set_option maxRecDepth 100000
open Go.RowKit

/-- a block whose cells are known and can be written -/
def Blk (w : World) (G : Nat) (arr : Array Value) : Prop := ∃ t, w.heap[G]? = some (.cells arr t (0, 0))
section
variable {w w' : World} {G H : Nat} {arr : Array Value}
theorem Blk.lt (h : Blk w G arr) : G < w.heap.size := by
  obtain ⟨t, e⟩ := h
  exact (Array.getElem?_eq_some_iff.1 e).1
theorem Blk.cell (h : Blk w G arr) (k : Nat) : w.cell? ⟨G, k, none⟩ = arr[k]? := by
  obtain ⟨t, e⟩ := h
  simp [World.cell?, e]
theorem Blk.unf (h : Blk w G arr) (k : Nat) : w.frozen? ⟨G, k, none⟩ = false := by
  obtain ⟨t, e⟩ := h
  simp [World.frozen?, e]
theorem Blk.below (h : Blk w G arr) (hb : Below w.heap.size w w') : Blk w' G arr := by
  have hl := h.lt
  obtain ⟨t, e⟩ := h
  exact ⟨t, (hb.block G hl).trans e⟩
theorem blk_alloc (w : World) (arr : Array Value) (t : TypeId) : Blk (w.alloc (.cells arr t)) w.heap.size arr := ⟨t, heap_alloc_new w _⟩
theorem Blk.set (h : Blk w G arr) (k : Nat) (v : Value) : Blk (w.setCell ⟨G, k, none⟩ v) G (arr.setIfInBounds k v) := by
  obtain ⟨t, e⟩ := h
  exact ⟨t, by simp [World.setCell, Array.getElem?_modify, e]⟩
theorem Blk.far (h : Blk w G arr) {p : Addr} (hne : p.block ≠ G) (u : Value) : Blk (w.setCell p u) G arr := by
  obtain ⟨t, e⟩ := h
  exact ⟨t, by rw [Below.heap_setCell _ _ _ _ (fun e => hne e.symm)]; exact e⟩
/-- no cell of the block is a limb -/
def noInt (arr : Array Value) : Prop := ∀ v ∈ arr.toList, isInt v = false
theorem Nt.sepB {A : Option Addr} {c : Nat} {xs : List Nat} (h : Nt w A c xs) (bk : Blk w G arr) (hn : noInt arr) (hx : 0 < xs.length) : ∀ ad, A = some ad → ad.block ≠ G := fun ad e hG => by
  obtain ⟨ad', e', _, hc, _⟩ := h.at 0 hx
  rw [e] at e'
  injection e' with e'
  subst e'
  obtain ⟨t, hblk⟩ := bk
  have hb0 : (ad.add 0).block = G := by rw [block_of_add]; exact hG
  unfold World.cell? at hc
  rw [hb0, hblk] at hc
  simp only at hc
  split at hc
  · cases hc
  · have hm := Array.mem_of_getElem? hc
    have := hn (.int .u32 (xs[0] : Int)) (by simpa using hm)
    simp [isInt] at this
theorem noInt.set {k : Nat} {u : Value} (hn : noInt arr) (hu : isInt u = false) : noInt (arr.setIfInBounds k u) := fun v hv => by
  rw [Array.toList_setIfInBounds] at hv
  rcases List.mem_or_eq_of_mem_set hv with h | h
  · exact hn v h
  · rw [h]; exact hu
end
/-- six stores, one behind the other -/
abbrev set6 (w : World) (G : Nat) (v0 v1 v2 v3 v4 v5 : Value) : World := (((((w.setCell ⟨G, 0, none⟩ v0).setCell ⟨G, 1, none⟩ v1).setCell ⟨G, 2, none⟩ v2).setCell ⟨G, 3, none⟩ v3).setCell ⟨G, 4, none⟩ v4).setCell ⟨G, 5, none⟩ v5
theorem set6_ok {w : World} {x : Fx} {G : Nat} {arr : Array Value} {v0 v1 v2 v3 v4 v5 : Value} (h : x.ok w) (bk : Blk w G arr) (hn : noInt arr) : x.ok (set6 w G v0 v1 v2 v3 v4 v5) := by
  constructor
  · rcases Nat.eq_zero_or_pos x.xs.length with h0 | h0
    · exact h.num.nil_any h0 _
    · have hs := h.num.sepB bk hn h0
      exact nt_far (nt_far (nt_far (nt_far (nt_far (nt_far h.num hs _) hs _) hs _) hs _) hs _) hs _
  · rcases Nat.eq_zero_or_pos x.ys.length with h0 | h0
    · exact h.den.nil_any h0 _
    · have hs := h.den.sepB bk hn h0
      exact nt_far (nt_far (nt_far (nt_far (nt_far (nt_far h.den hs _) hs _) hs _) hs _) hs _) hs _
theorem set6_below {w wc : World} {B G : Nat} {v0 v1 v2 v3 v4 v5 : Value} (h : Below B w wc) (hG : B ≤ G) : Below B w (set6 wc G v0 v1 v2 v3 v4 v5) :=
  (((((h.setCell (p := ⟨G, 0, none⟩) hG _).setCell (p := ⟨G, 1, none⟩) hG _).setCell (p := ⟨G, 2, none⟩) hG _).setCell (p := ⟨G, 3, none⟩) hG _).setCell (p := ⟨G, 4, none⟩) hG _).setCell (p := ⟨G, 5, none⟩) hG _

/-- an interval: its two ends -/
structure Ix where
  lo : Fx
  hi : Fx
abbrev Ix.cells (a : Ix) : Array Value := #[.bool a.lo.b, .slice a.lo.A a.lo.xs.length a.lo.c, .slice a.lo.D a.lo.ys.length a.lo.d, .bool a.hi.b, .slice a.hi.A a.hi.xs.length a.hi.c, .slice a.hi.D a.hi.ys.length a.hi.d]
abbrev Ix.val (a : Ix) : Value := .agg a.cells
abbrev zcells : Array Value := #[.bool false, .slice none 0 0, .slice none 0 0, .bool false, .slice none 0 0, .slice none 0 0]
abbrev Ix.nil : Ix := ⟨Fx.nil, Fx.nil⟩
structure Ix.ok (a : Ix) (w : World) : Prop where
  lo : a.lo.ok w
  hi : a.hi.ok w
theorem Ix.ok.below {a : Ix} {w w' : World} (h : a.ok w) (hb : Below w.heap.size w w') : a.ok w' := ⟨h.lo.below hb, h.hi.below hb⟩
theorem Ix.nil_ok (w : World) : Ix.nil.ok w := ⟨Fx.nil_ok w, Fx.nil_ok w⟩
theorem noInt_z : noInt zcells := by intro v hv; simp only [List.mem_cons, List.not_mem_nil, or_false] at hv; rcases hv with rfl | rfl | rfl | rfl | rfl | rfl <;> rfl
/-- a variable that holds an interval -/
structure Ia (w : World) (G : Nat) (a : Ix) : Prop where
  bk : Blk w G a.cells
  ok : a.ok w
section
variable {w w' : World} {G : Nat} {a : Ix}
theorem Ia.c0 (h : Ia w G a) : w.cell? ⟨G, 0, none⟩ = some (.bool a.lo.b) := h.bk.cell 0
theorem Ia.c1 (h : Ia w G a) : w.cell? ⟨G, 1, none⟩ = some (.slice a.lo.A a.lo.xs.length a.lo.c) := h.bk.cell 1
theorem Ia.c2 (h : Ia w G a) : w.cell? ⟨G, 2, none⟩ = some (.slice a.lo.D a.lo.ys.length a.lo.d) := h.bk.cell 2
theorem Ia.c3 (h : Ia w G a) : w.cell? ⟨G, 3, none⟩ = some (.bool a.hi.b) := h.bk.cell 3
theorem Ia.c4 (h : Ia w G a) : w.cell? ⟨G, 4, none⟩ = some (.slice a.hi.A a.hi.xs.length a.hi.c) := h.bk.cell 4
theorem Ia.c5 (h : Ia w G a) : w.cell? ⟨G, 5, none⟩ = some (.slice a.hi.D a.hi.ys.length a.hi.d) := h.bk.cell 5
theorem Ia.lt (h : Ia w G a) : G < w.heap.size := h.bk.lt
theorem Ia.below (h : Ia w G a) (hb : Below w.heap.size w w') : Ia w' G a := ⟨h.bk.below hb, h.ok.below hb⟩
end
theorem ia_alloc {w : World} {a : Ix} (h : a.ok w) : Ia (w.alloc (.cells a.cells 35)) w.heap.size a ∧ Below w.heap.size w (w.alloc (.cells a.cells 35)) := by
  have b0 := (Below.refl w.heap.size w).alloc (Nat.le_refl _) (.cells a.cells 35)
  exact ⟨⟨blk_alloc _ _ _, h.below b0⟩, b0⟩
theorem zr_alloc (w : World) : Blk (w.alloc (.cells zcells 35)) w.heap.size zcells ∧ Below w.heap.size w (w.alloc (.cells zcells 35)) :=
  ⟨blk_alloc _ _ _, (Below.refl w.heap.size w).alloc (Nat.le_refl _) _⟩
abbrev FqS := Bool × List Nat × List Nat × Int
/-- how a fraction reads -/
def Fx.is (x : Fx) (s : FqS) : Prop := x.b = s.1 ∧ x.xs = s.2.1 ∧ x.ys = s.2.2.1
abbrev IvS := FqS × FqS × Int
def errI (e : Int) : IvS := (errF e, errF e, e)
/-- what a call hands back: an interval and an error -/
def IvlRes (w : World) (S : IvS) (e : Ending) (w' : World) : Prop :=
  ∃ a : Ix, e = .returned (.tuple #[a.val, .int .i64 S.2.2]) ∧ a.lo.is S.1 ∧ a.hi.is S.2.1 ∧ a.ok w' ∧ Below w.heap.size w w'
/-- an interval -/
def IvlNew (w : World) (S T : FqS) (e : Ending) (w' : World) : Prop :=
  ∃ a : Ix, e = .returned a.val ∧ a.lo.is S ∧ a.hi.is T ∧ a.ok w' ∧ Below w.heap.size w w'
/-- an interval and whether there is one -/
def IvlOk (w : World) (S T : FqS) (b : Bool) (e : Ending) (w' : World) : Prop :=
  ∃ a : Ix, e = .returned (.tuple #[a.val, .bool b]) ∧ a.lo.is S ∧ a.hi.is T ∧ a.ok w' ∧ Below w.heap.size w w'
def bothS (S T : FqS) : IvS := if S.2.2.2 ≠ 0 then errI S.2.2.2 else if T.2.2.2 ≠ 0 then errI T.2.2.2 else (S, T, 0)
end Go.Proofs.Ytnmomigaedfdoaa
