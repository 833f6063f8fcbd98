/- Words for the walks of expo: two numbers in a block; the operations on numbers with their limits. The walks of expo's add, down, up and limb. -/
import Derived.Test.YtnmomigaedfdoaaFrx
import Derived.Test.YtnmomigaedfdoaaIvB
import Derived.Deep.CutBlock
import Derived.Deep.DeepCutAuto
import Derived.Deep.RegionHeld3
namespace Go.Proofs.Ytnmomigaedfdoaa
set_option maxRecDepth 100000
open Go.RowKit

theorem size_al (w : World) (o : Obj) : (w.alloc o).heap.size = w.heap.size + 1 := Array.size_push _
/-- two numbers in memory -/
structure Px where
  A : Option Addr
  c : Nat
  lo : Nat
  D : Option Addr
  d : Nat
  hi : Nat
abbrev Px.cells (x : Px) : Array Value := #[.slice x.A (lim x.lo).length x.c, .slice x.D (lim x.hi).length x.d]
abbrev Px.val (x : Px) : Value := .agg x.cells
abbrev Px.pr (x : Px) : Pr := ⟨x.lo, x.hi⟩
structure Px.ok (x : Px) (w : World) : Prop where
  lo : Nt w x.A x.c (lim x.lo)
  hi : Nt w x.D x.d (lim x.hi)
theorem Px.ok.below {x : Px} {w w' : World} (h : x.ok w) (hb : Below w.heap.size w w') : x.ok w' := ⟨h.lo.below hb, h.hi.below hb⟩
abbrev Px.nil : Px := ⟨none, 0, 0, none, 0, 0⟩
theorem nt_nil0 (w : World) : Nt w none 0 (lim 0) := by rw [lim_zero]; exact ⟨Nat.le_refl _, by omega, U32.nil, Rd.nil⟩
theorem Px.nil_ok (w : World) : Px.nil.ok w := ⟨nt_nil0 w, nt_nil0 w⟩
theorem noInt_p (x : Px) : noInt x.cells := by intro v hv; simp only [List.mem_cons, List.not_mem_nil, or_false] at hv; rcases hv with rfl | rfl <;> rfl
/-- a variable that holds them -/
structure Pv (w : World) (G : Nat) (x : Px) : Prop where
  bk : Blk w G x.cells
  ok : x.ok w
/-- two stores, one behind the other -/
abbrev set2 (w : World) (G : Nat) (v0 v1 : Value) : World := (w.setCell ⟨G, 0, none⟩ v0).setCell ⟨G, 1, none⟩ v1
section
variable {w w' wc : World} {B G H : Nat} {arr : Array Value} {v0 v1 : Value} {x y : Px}
theorem Pv.c0 (h : Pv w G x) : w.cell? ⟨G, 0, none⟩ = some (.slice x.A (lim x.lo).length x.c) := h.bk.cell 0
theorem Pv.c1 (h : Pv w G x) : w.cell? ⟨G, 1, none⟩ = some (.slice x.D (lim x.hi).length x.d) := h.bk.cell 1
theorem Pv.f0 (h : Pv w G x) : w.frozen? ⟨G, 0, none⟩ = false := h.bk.unf 0
theorem Pv.f1 (h : Pv w G x) : w.frozen? ⟨G, 1, none⟩ = false := h.bk.unf 1
theorem Pv.lt (h : Pv w G x) : G < w.heap.size := h.bk.lt
theorem Pv.below (h : Pv w G x) (hb : Below w.heap.size w w') : Pv w' G x := ⟨h.bk.below hb, h.ok.below hb⟩
theorem set2_blk (h : Blk w G arr) (hs : arr.size = 2) : Blk (set2 w G v0 v1) G #[v0, v1] := by
  have h1 := (h.set 0 v0).set 1 v1
  have e : ((arr.setIfInBounds 0 v0).setIfInBounds 1 v1) = #[v0, v1] := by
    apply Array.toList_inj.1
    simp only [Array.toList_setIfInBounds]
    have hl : arr.toList.length = 2 := by simpa using hs
    generalize arr.toList = l at hl
    match l, hl with
    | [_, _], _ => rfl
  rw [e] at h1
  exact h1
theorem nt_set2 {A : Option Addr} {c : Nat} {xs : List Nat} (h : Nt w A c xs) (bk : Blk w G arr) (hn : noInt arr) : Nt (set2 w G v0 v1) A c xs := by
  rcases Nat.eq_zero_or_pos xs.length with h0 | h0
  · exact h.nil_any h0 _
  · have hs := h.sepB bk hn h0
    exact nt_far (nt_far h hs _) hs _
theorem Px.ok.set2 (h : x.ok w) (bk : Blk w G arr) (hn : noInt arr) : x.ok (Proofs.Ytnmomigaedfdoaa.set2 w G v0 v1) := ⟨nt_set2 h.lo bk hn, nt_set2 h.hi bk hn⟩
theorem Fx.ok.set2 {x : Fx} (h : x.ok w) (bk : Blk w G arr) (hn : noInt arr) : x.ok (Proofs.Ytnmomigaedfdoaa.set2 w G v0 v1) := ⟨nt_set2 h.num bk hn, nt_set2 h.den bk hn⟩
theorem set2_below (h : Below B w wc) (hG : B ≤ G) : Below B w (set2 wc G v0 v1) := (h.setCell (p := ⟨G, 0, none⟩) hG _).setCell (p := ⟨G, 1, none⟩) hG _
theorem Blk.set2 (h : Blk w H arr) (hne : G ≠ H) : Blk (Proofs.Ytnmomigaedfdoaa.set2 w G v0 v1) H arr := (h.far (p := ⟨G, 0, none⟩) hne _).far (p := ⟨G, 1, none⟩) hne _
theorem Pv.put (h : Pv w G x) (hy : y.ok w) : Pv (set2 w G (.slice y.A (lim y.lo).length y.c) (.slice y.D (lim y.hi).length y.d)) G y := ⟨set2_blk h.bk rfl, hy.set2 h.bk (noInt_p x)⟩
theorem Pv.far (h : Pv w H y) (k : Pv w G x) (hne : G ≠ H) : Pv (set2 w G v0 v1) H y := ⟨h.bk.set2 hne, h.ok.set2 k.bk (noInt_p x)⟩
theorem pv_alloc (h : x.ok w) (t : TypeId) : Pv (w.alloc (.cells x.cells t)) w.heap.size x ∧ Below w.heap.size w (w.alloc (.cells x.cells t)) := by
  have b0 := (Below.refl w.heap.size w).alloc (Nat.le_refl _) (.cells x.cells t)
  exact ⟨⟨blk_alloc _ _ _, h.below b0⟩, b0⟩
end
theorem nil_cells : Px.nil.cells = #[.slice none 0 0, .slice none 0 0] := by simp [Px.cells, lim_zero]
abbrev zcell2 : Array Value := #[.slice none 0 0, .slice none 0 0]
theorem pv_new (w : World) (t : TypeId) : Pv (w.alloc (.cells #[.slice none 0 0, .slice none 0 0] t)) w.heap.size Px.nil ∧ Below w.heap.size w (w.alloc (.cells #[.slice none 0 0, .slice none 0 0] t)) := by
  have h := pv_alloc (Px.nil_ok w) t
  rwa [nil_cells] at h
/-- a fraction in a block -/
structure Qv (w : World) (G : Nat) (x : Fx) : Prop where
  bk : Blk w G x.cells
  ok : x.ok w
section
variable {w w' : World} {G H : Nat} {v0 v1 : Value} {x : Fx} {y : Px}
theorem Qv.c0 (h : Qv w G x) : w.cell? ⟨G, 0, none⟩ = some (.bool x.b) := h.bk.cell 0
theorem Qv.c1 (h : Qv w G x) : w.cell? ⟨G, 1, none⟩ = some (.slice x.A x.xs.length x.c) := h.bk.cell 1
theorem Qv.c2 (h : Qv w G x) : w.cell? ⟨G, 2, none⟩ = some (.slice x.D x.ys.length x.d) := h.bk.cell 2
theorem Qv.lt (h : Qv w G x) : G < w.heap.size := h.bk.lt
theorem Qv.below (h : Qv w G x) (hb : Below w.heap.size w w') : Qv w' G x := ⟨h.bk.below hb, h.ok.below hb⟩
theorem Qv.far (h : Qv w H x) (k : Pv w G y) (hne : G ≠ H) : Qv (set2 w G v0 v1) H x := ⟨h.bk.set2 hne, h.ok.set2 k.bk (noInt_p y)⟩
theorem qv_alloc (h : x.ok w) (t : TypeId) : Qv (w.alloc (.cells x.cells t)) w.heap.size x ∧ Below w.heap.size w (w.alloc (.cells x.cells t)) := by
  have b0 := (Below.refl w.heap.size w).alloc (Nat.le_refl _) (.cells x.cells t)
  exact ⟨⟨blk_alloc _ _ _, h.below b0⟩, b0⟩
end
/-! the operations on numbers -/
theorem nadd_any (w : World) (A D : Option Addr) (c d a b : Nat) (h : Nt w A c (lim a)) (k : Nt w D d (lim b)) :
    Calls Try.prog 96 #[.slice A (lim a).length c, .slice D (lim b).length d] w fun e w' => ∃ A' c' E, e = .returned (.tuple #[.slice A' (lim (addO a b)).length c', .int .i64 E]) ∧ Nt w' A' c' (lim (addO a b)) ∧ Below w.heap.size w w' := by
  refine (add_any w A D c d _ _ (lim a) (lim b) (lim (addO a b)) (addS a b).2 h k rfl rfl (by rw [nv_lim, nv_lim, ← addS_lim])).mono ?_
  rintro e w' ⟨A', c', rfl, hn, bb⟩
  exact ⟨A', c', _, rfl, hn, bb⟩
theorem nmul_any (w : World) (A D : Option Addr) (c d a b : Nat) (h : Nt w A c (lim a)) (k : Nt w D d (lim b)) :
    Calls Try.prog 104 #[.slice A (lim a).length c, .slice D (lim b).length d] w fun e w' => ∃ A' c' E, e = .returned (.tuple #[.slice A' (lim (mulO a b)).length c', .int .i64 E]) ∧ Nt w' A' c' (lim (mulO a b)) ∧ Below w.heap.size w w' := by
  refine (mul_any w A D c d _ _ (lim a) (lim b) (lim (mulO a b)) (mulS a b).2 h k rfl rfl (by rw [nv_lim, nv_lim, ← mulS_lim])).mono ?_
  rintro e w' ⟨A', c', rfl, hn, bb⟩
  exact ⟨A', c', _, rfl, hn, bb⟩
theorem ndiv_any (w : World) (A D : Option Addr) (c d a b : Nat) (h : Nt w A c (lim a)) (k : Nt w D d (lim b)) :
    Calls Try.prog 101 #[.slice A (lim a).length c, .slice D (lim b).length d] w fun e w' => ∃ A' c' D' d' E, e = .returned (.tuple #[.slice A' (lim (divO a b)).length c', .slice D' (lim (modO a b)).length d', .int .i64 E]) ∧ Nt w' A' c' (lim (divO a b)) ∧ Nt w' D' d' (lim (modO a b)) ∧ Below w.heap.size w w' := by
  refine (div_any w A D c d _ _ (lim a) (lim b) (lim (divO a b)) (lim (modO a b)) (divS a b).2.2 h k rfl rfl (by rw [nv_lim, nv_lim, ← (divS_lim a b).1, ← (divS_lim a b).2])).mono ?_
  rintro e w' ⟨A', c', D', d', rfl, hn, hm, bb⟩
  exact ⟨A', c', D', d', _, rfl, hn, hm, bb⟩
theorem nsh_any (w : World) (A : Option Addr) (c k : Nat) (h : Nt w A c (lim 1)) :
    Calls Try.prog 91 #[.slice A (lim 1).length c, .int .i64 (k : Int)] w fun e w' => ∃ A' c' E, e = .returned (.tuple #[.slice A' (lim (shO k)).length c', .int .i64 E]) ∧ Nt w' A' c' (lim (shO k)) ∧ Below w.heap.size w w' := by
  refine (shift_any w A c _ (k : Int) (lim 1) (lim (shO k)) (shiftS 1 (k : Int)).2 h rfl (by rw [nv_lim, ← shS_lim])).mono ?_
  rintro e w' ⟨A', c', rfl, hn, bb⟩
  exact ⟨A', c', _, rfl, hn, bb⟩
theorem nbits_any (w : World) (A : Option Addr) (c a : Nat) (h : Nt w A c (lim a)) (hl : (lim a).length ≤ 1000000) :
    Calls Try.prog 63 #[.slice A (lim a).length c] w fun e w' => e = .returned (.int .i64 (bits2 a)) ∧ w = w' := by
  have := bits_any w A c _ (lim a) h rfl hl
  rwa [nv_lim] at this
theorem ncmp_any (w : World) (A D : Option Addr) (c d a b : Nat) (z : Int) (h : Nt w A c (lim a)) (k : Nt w D d (lim b)) (hz : cmp3 a b = z) :
    Calls Try.prog 93 #[.slice A (lim a).length c, .slice D (lim b).length d] w fun e w' => e = .returned (.int .i64 z) ∧ Qt w w' :=
  cmp_any w A D c d _ _ (lim a) (lim b) z h k rfl rfl (by rw [nv_lim, nv_lim]; exact hz)
theorem modO_len (a b : Nat) : (lim (modO a b)).length ≤ 512 := by
  by_cases h : 512 < (lim a).length ∨ 512 < (lim b).length
  · rw [modO, divS, if_pos h]; show (lim 0).length ≤ _; rw [lim_zero]; simp
  · rw [modO, divS, if_neg h]
    split
    · show (lim 0).length ≤ _; rw [lim_zero]; simp
    · show (lim (nv (lim (a % b)))).length ≤ _
      rw [nv_lim]
      exact lim_len_mono (Nat.mod_le a b) (by omega)
end Go.Proofs.Ytnmomigaedfdoaa
namespace Go.Proofs.Ytnmomigaedfdoaa
set_option maxRecDepth 100000
open Go.RowKit

set_option maxHeartbeats 1600000 in
theorem xadd_any (w : World) (x y : Px) (hx : x.ok w) (hy : y.ok w) :
    Calls Try.prog 103 #[x.val, y.val] w fun e w' => ∃ z : Px, e = .returned z.val ∧ z.pr = plusP x.pr y.pr ∧ z.ok w' ∧ Below w.heap.size w w' := by
  go_enter Try.func103, Try.ntmps103
  go_upto_region 1 with fail
  have a2 := (pv_alloc hx 97).1
  have b2 := (pv_alloc hx 97).2
  have hy2 := hy.below b2
  have z2 := size_al w (.cells x.cells 97)
  generalize (w.alloc (.cells x.cells 97)) = w2 at a2 b2 hy2 z2 ⊢
  have a3 := (pv_alloc hy2 97).1
  have b3 := (pv_alloc hy2 97).2
  have z3 := size_al w2 (.cells y.cells 97)
  replace a2 := a2.below b3
  replace b2 := below_on b2 b3 b2.size
  rw [z2] at a3 z3
  clear hx hy hy2 b3
  generalize (w2.alloc (.cells y.cells 97)) = w3 at a2 a3 b2 z3 ⊢
  have a4 := (pv_new w3 97).1
  have b4 := (pv_new w3 97).2
  replace a2 := a2.below b4
  replace a3 := a3.below b4
  replace b2 := below_on b2 b4 b2.size
  rw [z3] at a4
  clear b4
  generalize (w3.alloc (.cells #[.slice none 0 0, .slice none 0 0] 97)) = w4 at a2 a3 a4 b2 ⊢
  clear z2 z3
  obtain ⟨g2, hg2⟩ : ∃ g2, w.heap.size = g2 := ⟨_, rfl⟩
  rw [hg2] at a2 a3 a4 ⊢
  have p0 := a2.c0
  have p1 := a2.c1
  have q0 := a3.c0
  have q1 := a3.c1
  go_wp2_with fail
  refine (nadd_any w4 _ _ _ _ x.lo y.lo a2.ok.lo a3.ok.lo).mono ?_
  rintro _ w5 ⟨A5, c5, E5, rfl, n5, bb⟩
  replace a2 := a2.below bb
  replace a3 := a3.below bb
  replace a4 := a4.below bb
  replace b2 := below_on b2 bb b2.size
  clear p0 p1 q0 q1 bb
  have p0 := a2.c0
  have p1 := a2.c1
  have q0 := a3.c0
  have q1 := a3.c1
  go_wp2_with fail
  refine (nadd_any w5 _ _ _ _ x.hi y.hi a2.ok.hi a3.ok.hi).mono ?_
  rintro _ w6 ⟨A6, c6, E6, rfl, n6, bb⟩
  replace n5 := n5.below bb
  replace a4 := a4.below bb
  replace b2 := below_on b2 bb b2.size
  clear p0 p1 q0 q1 bb a2 a3
  have r0 := a4.c0
  have r1 := a4.c1
  have s0 := a4.f0
  have s1 := a4.f1
  go_wp2_with fail
  refine bodyPost_ret (v := (⟨A5, c5, addO x.lo y.lo, A6, c6, addO x.hi y.hi⟩ : Px).val) (by simp [results, Try.results103, go_sem, r0, r1]) rfl ?_
  have hok : (⟨A5, c5, addO x.lo y.lo, A6, c6, addO x.hi y.hi⟩ : Px).ok w6 := ⟨n5, n6⟩
  exact ⟨⟨A5, c5, addO x.lo y.lo, A6, c6, addO x.hi y.hi⟩, rfl, rfl, hok.set2 a4.bk (noInt_p _), set2_below b2 (by omega)⟩
set_option maxHeartbeats 1600000 in
theorem xdown_any (w : World) (A D E : Option Addr) (c d e a b k : Nat) (hA : Nt w A c (lim a)) (hD : Nt w D d (lim b)) (hE : Nt w E e (lim k)) :
    Calls Try.prog 92 #[.slice A (lim a).length c, .slice D (lim b).length d, .slice E (lim k).length e] w fun e w' => ∃ A' c', e = .returned (.slice A' (lim (downO a b k)).length c') ∧ Nt w' A' c' (lim (downO a b k)) ∧ Below w.heap.size w w' := by
  go_enter Try.func92, Try.ntmps92
  go_wp2_with fail
  refine (nmul_any w A D c d a b hA hD).mono ?_
  rintro _ w1 ⟨A1, c1, E1, rfl, n1, bw⟩
  replace hE := hE.below bw
  go_wp2_with fail
  refine (ndiv_any w1 A1 E c1 e _ k n1 hE).mono ?_
  rintro _ w2 ⟨A2, c2, D2, d2, E2, rfl, n2, _, bb⟩
  replace bw := below_on bw bb bw.size
  go_wp2_with fail
  go_ret
  exact ⟨A2, c2, rfl, n2, bw⟩
set_option maxHeartbeats 1600000 in
theorem xup_any (w : World) (A D E : Option Addr) (c d e a b k : Nat) (hA : Nt w A c (lim a)) (hD : Nt w D d (lim b)) (hE : Nt w E e (lim k)) :
    Calls Try.prog 105 #[.slice A (lim a).length c, .slice D (lim b).length d, .slice E (lim k).length e] w fun e w' => ∃ A' c', e = .returned (.slice A' (lim (upO a b k)).length c') ∧ Nt w' A' c' (lim (upO a b k)) ∧ Below w.heap.size w w' := by
  go_enter Try.func105, Try.ntmps105
  go_wp2_with fail
  refine (nmul_any w A D c d a b hA hD).mono ?_
  rintro _ w1 ⟨A1, c1, E1, rfl, n1, bw⟩
  replace hE := hE.below bw
  go_wp2_with fail
  refine (ndiv_any w1 A1 E c1 e _ k n1 hE).mono ?_
  rintro _ w2 ⟨A2, c2, D2, d2, E2, rfl, n2, m2, bb⟩
  replace bw := below_on bw bb bw.size
  have hml := modO_len (mulO a b) k
  go_wp2_with fail
  refine (nbits_any w2 D2 d2 _ m2 (by omega)).mono ?_
  rintro _ w3 ⟨rfl, rfl⟩
  by_cases hm : modO (mulO a b) k = 0
  · have h0 : bits2 (modO (mulO a b) k) = 0 := by rw [hm]; rfl
    rw [h0]
    have hu : Hid (upO a b k = divO (mulO a b) k) := Lib.hid (by rw [upO, if_pos hm])
    go_wp2_with fail
    go_ret
    exact ⟨A2, c2, by rw [hu.out]; rfl, by rw [hu.out]; exact n2, bw⟩
  · have h0 : 0 < bits2 (modO (mulO a b) k) := by
      rw [bits2, if_neg hm]; omega
    obtain ⟨bt, hbt⟩ : ∃ bt, bits2 (modO (mulO a b) k) = bt := ⟨_, rfl⟩
    rw [hbt] at h0 ⊢
    have hd : decide ((0 : Int) < (bt : Int)) = true := decide_eq_true (by omega)
    have hu : Hid (upO a b k = addO (divO (mulO a b) k) 1) := Lib.hid (by rw [upO, if_neg hm])
    clear hm hbt
    go_wp2_with fail
    refine (make_any w2 1 (by omega)).mono ?_
    rintro _ w3 ⟨A3, c3, rfl, n3, bb⟩
    replace n2 := n2.below bb
    replace bw := below_on bw bb bw.size
    go_wp2_with fail
    refine (nadd_any w3 A2 A3 c2 c3 _ 1 n2 n3).mono ?_
    rintro _ w4 ⟨A4, c4, E4, rfl, n4, bb⟩
    replace bw := below_on bw bb bw.size
    go_wp2_with fail
    go_ret
    exact ⟨A4, c4, by rw [hu.out]; rfl, by rw [hu.out]; exact n4, bw⟩
set_option maxHeartbeats 1600000 in
theorem xlimb_any (w : World) (A : Option Addr) (c a : Nat) (hA : Nt w A c (lim a)) (ha : a < 4294967296) :
    Calls Try.prog 102 #[.slice A (lim a).length c] w fun e w' => e = .returned (.int .u32 (a : Int)) ∧ w = w' := by
  by_cases h0 : a = 0
  · subst h0
    have hl : (lim 0).length = 0 := by rw [lim_zero]; rfl
    rw [hl]
    go_enter Try.func102, Try.ntmps102
    go_wp2_with fail
    go_ret
    exact ⟨rfl, rfl⟩
  · have hl : lim a = [a] := by
      rw [lim_pos h0, Nat.mod_eq_of_lt ha, Nat.div_eq_of_lt ha, lim_zero]
    rw [hl] at hA ⊢
    obtain ⟨ad, rfl, _, hc, _⟩ := hA.at 0 (by simp)
    have hcap := hA.cap
    have e0 : ad.add 0 = ad := by unfold Addr.add; rfl
    rw [e0] at hc
    go_enter Try.func102, Try.ntmps102
    go_wp2_with fail
    go_ret
    exact ⟨rfl, rfl⟩
end Go.Proofs.Ytnmomigaedfdoaa
