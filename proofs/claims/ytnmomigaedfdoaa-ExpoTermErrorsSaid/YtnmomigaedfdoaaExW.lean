/- Words for the walks of expo: two numbers in a block; the operations on numbers with their limits. -/
import Derived.Test.YtnmomigaedfdoaaExA
import Derived.Test.YtnmomigaedfdoaaIvB
namespace Go.Proofs.Ytnmomigaedfdoaa
set_option maxRecDepth 100000
open Go.RowKit

theorem size_al (w : World) (o : Obj) : (w.alloc o).heap.size = w.heap.size + 1 := Array.size_push _
/-- two numbers in memory -/
structure Px where
  A : Option Addr
  c : Nat
  lo : Nat
  D : Option Addr
  d : Nat
  hi : Nat
abbrev Px.cells (x : Px) : Array Value := #[.slice x.A (lim x.lo).length x.c, .slice x.D (lim x.hi).length x.d]
abbrev Px.val (x : Px) : Value := .agg x.cells
abbrev Px.pr (x : Px) : Pr := ⟨x.lo, x.hi⟩
structure Px.ok (x : Px) (w : World) : Prop where
  lo : Nt w x.A x.c (lim x.lo)
  hi : Nt w x.D x.d (lim x.hi)
theorem Px.ok.below {x : Px} {w w' : World} (h : x.ok w) (hb : Below w.heap.size w w') : x.ok w' := ⟨h.lo.below hb, h.hi.below hb⟩
abbrev Px.nil : Px := ⟨none, 0, 0, none, 0, 0⟩
theorem nt_nil0 (w : World) : Nt w none 0 (lim 0) := by rw [lim_zero]; exact ⟨Nat.le_refl _, by omega, U32.nil, Rd.nil⟩
theorem Px.nil_ok (w : World) : Px.nil.ok w := ⟨nt_nil0 w, nt_nil0 w⟩
theorem noInt_p (x : Px) : noInt x.cells := by intro v hv; simp only [List.mem_cons, List.not_mem_nil, or_false] at hv; rcases hv with rfl | rfl <;> rfl
/-- a variable that holds them -/
structure Pv (w : World) (G : Nat) (x : Px) : Prop where
  bk : Blk w G x.cells
  ok : x.ok w
/-- two stores, one behind the other -/
abbrev set2 (w : World) (G : Nat) (v0 v1 : Value) : World := (w.setCell ⟨G, 0, none⟩ v0).setCell ⟨G, 1, none⟩ v1
section
variable {w w' wc : World} {B G H : Nat} {arr : Array Value} {v0 v1 : Value} {x y : Px}
theorem Pv.c0 (h : Pv w G x) : w.cell? ⟨G, 0, none⟩ = some (.slice x.A (lim x.lo).length x.c) := h.bk.cell 0
theorem Pv.c1 (h : Pv w G x) : w.cell? ⟨G, 1, none⟩ = some (.slice x.D (lim x.hi).length x.d) := h.bk.cell 1
theorem Pv.f0 (h : Pv w G x) : w.frozen? ⟨G, 0, none⟩ = false := h.bk.unf 0
theorem Pv.f1 (h : Pv w G x) : w.frozen? ⟨G, 1, none⟩ = false := h.bk.unf 1
theorem Pv.lt (h : Pv w G x) : G < w.heap.size := h.bk.lt
theorem Pv.below (h : Pv w G x) (hb : Below w.heap.size w w') : Pv w' G x := ⟨h.bk.below hb, h.ok.below hb⟩
theorem set2_blk (h : Blk w G arr) (hs : arr.size = 2) : Blk (set2 w G v0 v1) G #[v0, v1] := by
  have h1 := (h.set 0 v0).set 1 v1
  have e : ((arr.setIfInBounds 0 v0).setIfInBounds 1 v1) = #[v0, v1] := by
    apply Array.toList_inj.1
    simp only [Array.toList_setIfInBounds]
    have hl : arr.toList.length = 2 := by simpa using hs
    generalize arr.toList = l at hl
    match l, hl with
    | [_, _], _ => rfl
  rw [e] at h1
  exact h1
theorem nt_set2 {A : Option Addr} {c : Nat} {xs : List Nat} (h : Nt w A c xs) (bk : Blk w G arr) (hn : noInt arr) : Nt (set2 w G v0 v1) A c xs := by
  rcases Nat.eq_zero_or_pos xs.length with h0 | h0
  · exact h.nil_any h0 _
  · have hs := h.sepB bk hn h0
    exact nt_far (nt_far h hs _) hs _
theorem Px.ok.set2 (h : x.ok w) (bk : Blk w G arr) (hn : noInt arr) : x.ok (Proofs.Ytnmomigaedfdoaa.set2 w G v0 v1) := ⟨nt_set2 h.lo bk hn, nt_set2 h.hi bk hn⟩
theorem Fx.ok.set2 {x : Fx} (h : x.ok w) (bk : Blk w G arr) (hn : noInt arr) : x.ok (Proofs.Ytnmomigaedfdoaa.set2 w G v0 v1) := ⟨nt_set2 h.num bk hn, nt_set2 h.den bk hn⟩
theorem set2_below (h : Below B w wc) (hG : B ≤ G) : Below B w (set2 wc G v0 v1) := (h.setCell (p := ⟨G, 0, none⟩) hG _).setCell (p := ⟨G, 1, none⟩) hG _
theorem Blk.set2 (h : Blk w H arr) (hne : G ≠ H) : Blk (Proofs.Ytnmomigaedfdoaa.set2 w G v0 v1) H arr := (h.far (p := ⟨G, 0, none⟩) hne _).far (p := ⟨G, 1, none⟩) hne _
theorem Pv.put (h : Pv w G x) (hy : y.ok w) : Pv (set2 w G (.slice y.A (lim y.lo).length y.c) (.slice y.D (lim y.hi).length y.d)) G y := ⟨set2_blk h.bk rfl, hy.set2 h.bk (noInt_p x)⟩
theorem Pv.far (h : Pv w H y) (k : Pv w G x) (hne : G ≠ H) : Pv (set2 w G v0 v1) H y := ⟨h.bk.set2 hne, h.ok.set2 k.bk (noInt_p x)⟩
theorem pv_alloc (h : x.ok w) (t : TypeId) : Pv (w.alloc (.cells x.cells t)) w.heap.size x ∧ Below w.heap.size w (w.alloc (.cells x.cells t)) := by
  have b0 := (Below.refl w.heap.size w).alloc (Nat.le_refl _) (.cells x.cells t)
  exact ⟨⟨blk_alloc _ _ _, h.below b0⟩, b0⟩
end
theorem nil_cells : Px.nil.cells = #[.slice none 0 0, .slice none 0 0] := by simp [Px.cells, lim_zero]
abbrev zcell2 : Array Value := #[.slice none 0 0, .slice none 0 0]
theorem pv_new (w : World) (t : TypeId) : Pv (w.alloc (.cells #[.slice none 0 0, .slice none 0 0] t)) w.heap.size Px.nil ∧ Below w.heap.size w (w.alloc (.cells #[.slice none 0 0, .slice none 0 0] t)) := by
  have h := pv_alloc (Px.nil_ok w) t
  rwa [nil_cells] at h
/-- a fraction in a block -/
structure Qv (w : World) (G : Nat) (x : Fx) : Prop where
  bk : Blk w G x.cells
  ok : x.ok w
section
variable {w w' : World} {G H : Nat} {v0 v1 : Value} {x : Fx} {y : Px}
theorem Qv.c0 (h : Qv w G x) : w.cell? ⟨G, 0, none⟩ = some (.bool x.b) := h.bk.cell 0
theorem Qv.c1 (h : Qv w G x) : w.cell? ⟨G, 1, none⟩ = some (.slice x.A x.xs.length x.c) := h.bk.cell 1
theorem Qv.c2 (h : Qv w G x) : w.cell? ⟨G, 2, none⟩ = some (.slice x.D x.ys.length x.d) := h.bk.cell 2
theorem Qv.lt (h : Qv w G x) : G < w.heap.size := h.bk.lt
theorem Qv.below (h : Qv w G x) (hb : Below w.heap.size w w') : Qv w' G x := ⟨h.bk.below hb, h.ok.below hb⟩
theorem Qv.far (h : Qv w H x) (k : Pv w G y) (hne : G ≠ H) : Qv (set2 w G v0 v1) H x := ⟨h.bk.set2 hne, h.ok.set2 k.bk (noInt_p y)⟩
theorem qv_alloc (h : x.ok w) (t : TypeId) : Qv (w.alloc (.cells x.cells t)) w.heap.size x ∧ Below w.heap.size w (w.alloc (.cells x.cells t)) := by
  have b0 := (Below.refl w.heap.size w).alloc (Nat.le_refl _) (.cells x.cells t)
  exact ⟨⟨blk_alloc _ _ _, h.below b0⟩, b0⟩
end
/-! the operations on numbers -/
theorem nadd_any (w : World) (A D : Option Addr) (c d a b : Nat) (h : Nt w A c (lim a)) (k : Nt w D d (lim b)) :
    Calls Try.prog 96 #[.slice A (lim a).length c, .slice D (lim b).length d] w fun e w' => ∃ A' c' E, e = .returned (.tuple #[.slice A' (lim (addO a b)).length c', .int .i64 E]) ∧ Nt w' A' c' (lim (addO a b)) ∧ Below w.heap.size w w' := by
  refine (add_any w A D c d _ _ (lim a) (lim b) (lim (addO a b)) (addS a b).2 h k rfl rfl (by rw [nv_lim, nv_lim, ← addS_lim])).mono ?_
  rintro e w' ⟨A', c', rfl, hn, bb⟩
  exact ⟨A', c', _, rfl, hn, bb⟩
theorem nmul_any (w : World) (A D : Option Addr) (c d a b : Nat) (h : Nt w A c (lim a)) (k : Nt w D d (lim b)) :
    Calls Try.prog 104 #[.slice A (lim a).length c, .slice D (lim b).length d] w fun e w' => ∃ A' c' E, e = .returned (.tuple #[.slice A' (lim (mulO a b)).length c', .int .i64 E]) ∧ Nt w' A' c' (lim (mulO a b)) ∧ Below w.heap.size w w' := by
  refine (mul_any w A D c d _ _ (lim a) (lim b) (lim (mulO a b)) (mulS a b).2 h k rfl rfl (by rw [nv_lim, nv_lim, ← mulS_lim])).mono ?_
  rintro e w' ⟨A', c', rfl, hn, bb⟩
  exact ⟨A', c', _, rfl, hn, bb⟩
theorem ndiv_any (w : World) (A D : Option Addr) (c d a b : Nat) (h : Nt w A c (lim a)) (k : Nt w D d (lim b)) :
    Calls Try.prog 101 #[.slice A (lim a).length c, .slice D (lim b).length d] w fun e w' => ∃ A' c' D' d' E, e = .returned (.tuple #[.slice A' (lim (divO a b)).length c', .slice D' (lim (modO a b)).length d', .int .i64 E]) ∧ Nt w' A' c' (lim (divO a b)) ∧ Nt w' D' d' (lim (modO a b)) ∧ Below w.heap.size w w' := by
  refine (div_any w A D c d _ _ (lim a) (lim b) (lim (divO a b)) (lim (modO a b)) (divS a b).2.2 h k rfl rfl (by rw [nv_lim, nv_lim, ← (divS_lim a b).1, ← (divS_lim a b).2])).mono ?_
  rintro e w' ⟨A', c', D', d', rfl, hn, hm, bb⟩
  exact ⟨A', c', D', d', _, rfl, hn, hm, bb⟩
theorem nsh_any (w : World) (A : Option Addr) (c k : Nat) (h : Nt w A c (lim 1)) :
    Calls Try.prog 91 #[.slice A (lim 1).length c, .int .i64 (k : Int)] w fun e w' => ∃ A' c' E, e = .returned (.tuple #[.slice A' (lim (shO k)).length c', .int .i64 E]) ∧ Nt w' A' c' (lim (shO k)) ∧ Below w.heap.size w w' := by
  refine (shift_any w A c _ (k : Int) (lim 1) (lim (shO k)) (shiftS 1 (k : Int)).2 h rfl (by rw [nv_lim, ← shS_lim])).mono ?_
  rintro e w' ⟨A', c', rfl, hn, bb⟩
  exact ⟨A', c', _, rfl, hn, bb⟩
theorem nbits_any (w : World) (A : Option Addr) (c a : Nat) (h : Nt w A c (lim a)) (hl : (lim a).length ≤ 1000000) :
    Calls Try.prog 63 #[.slice A (lim a).length c] w fun e w' => e = .returned (.int .i64 (bits2 a)) ∧ w = w' := by
  have := bits_any w A c _ (lim a) h rfl hl
  rwa [nv_lim] at this
theorem ncmp_any (w : World) (A D : Option Addr) (c d a b : Nat) (z : Int) (h : Nt w A c (lim a)) (k : Nt w D d (lim b)) (hz : cmp3 a b = z) :
    Calls Try.prog 93 #[.slice A (lim a).length c, .slice D (lim b).length d] w fun e w' => e = .returned (.int .i64 z) ∧ Qt w w' :=
  cmp_any w A D c d _ _ (lim a) (lim b) z h k rfl rfl (by rw [nv_lim, nv_lim]; exact hz)
theorem modO_len (a b : Nat) : (lim (modO a b)).length ≤ 512 := by
  by_cases h : 512 < (lim a).length ∨ 512 < (lim b).length
  · rw [modO, divS, if_pos h]; show (lim 0).length ≤ _; rw [lim_zero]; simp
  · rw [modO, divS, if_neg h]
    split
    · show (lim 0).length ≤ _; rw [lim_zero]; simp
    · show (lim (nv (lim (a % b)))).length ≤ _
      rw [nv_lim]
      exact lim_len_mono (Nat.mod_le a b) (by omega)
theorem downO_len (a b c : Nat) : (lim (downO a b c)).length ≤ 512 := divO_len _ _
end Go.Proofs.Ytnmomigaedfdoaa
