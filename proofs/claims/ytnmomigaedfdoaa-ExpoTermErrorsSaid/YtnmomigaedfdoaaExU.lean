/- The reference's series. -/
import Derived.Test.YtnmomigaedfdoaaExT
namespace Go.Proofs.Ytnmomigaedfdoaa
set_option maxRecDepth 100000
open Go.RowKit

/-- its two cells -/
def Cel (w : World) (G : Nat) (x : Px) : Prop := w.cell? ⟨G, 0, none⟩ = some (.slice x.A (lim x.lo).length x.c) ∧ w.cell? ⟨G, 1, none⟩ = some (.slice x.D (lim x.hi).length x.d)
theorem Pv.cel {w : World} {G : Nat} {x : Px} (h : Pv w G x) : Cel w G x := ⟨h.c0, h.c1⟩
/-- at most 512 limbs, and zero where the unit is -/
def Sg (one : Nat) (a : Pr) : Prop := (lim a.lo).length ≤ 512 ∧ (lim a.hi).length ≤ 512 ∧ (one = 0 → a.lo = 0 ∧ a.hi = 0)
theorem sg_nil (one : Nat) : Sg one ⟨0, 0⟩ := ⟨by rw [lim_zero]; simp, by rw [lim_zero]; simp, fun _ => ⟨rfl, rfl⟩⟩
theorem sg_plus {one : Nat} {a b : Pr} (h : Sg one a) (k : Sg one b) : Sg one ⟨addO a.lo b.lo, addO a.hi b.hi⟩ :=
  ⟨addO_len _ _, addO_len _ _, fun e => ⟨by show addO a.lo b.lo = 0; rw [(h.2.2 e).1, (k.2.2 e).1, addO_zero], by show addO a.hi b.hi = 0; rw [(h.2.2 e).2, (k.2.2 e).2, addO_zero]⟩⟩
theorem sg_rest {one : Nat} {a : Pr} (h : Sg one a) : Sg one ⟨0, addO a.hi a.hi⟩ := ⟨by rw [lim_zero]; simp, addO_len _ _, fun e => ⟨rfl, by show addO a.hi a.hi = 0; rw [(h.2.2 e).2, addO_zero]⟩⟩
theorem shO_len (p : Nat) : (lim (shO p)).length ≤ 512 := by
  rw [← shS_lim, shiftS]
  split
  · simp
  · split
    · simp
    · split
      · rw [sizS]; split
        · simp
        · rename_i h; show (lim _).length ≤ 512; omega
      · exact lim_len_mono (Nat.div_le_self _ _) (by have := lim_len_le (n := 1) (k := 1) (by omega); omega)
theorem sg_t (num den p i : Nat) : Sg (shO p) (tP num den (shO p) i) := by
  refine ⟨?_, ?_, fun e => by rw [e, tP_zero]; exact ⟨rfl, rfl⟩⟩
  · cases i with
    | zero => exact shO_len p
    | succ i => exact downO_len _ _ _
  · cases i with
    | zero => exact shO_len p
    | succ i => exact upO_len _ _ _
theorem lim_small {k : Nat} (h0 : 0 < k) (h : k < 4294967296) : lim k = [k] := by rw [lim_pos (by omega), Nat.mod_eq_of_lt h, Nat.div_eq_of_lt h, lim_zero]
theorem two_lim {num : Nat} (h : num < 18446744073709551616) : shiftS num 1 = (lim (num * 2), 0) := by
  have h1 := lim_len_le (n := num) (k := 2) (by omega)
  by_cases h0 : num = 0
  · rw [shiftS_zero h0, h0, Nat.zero_mul, lim_zero]
  · have h2 := lim_len_le (n := num * 2) (k := 3) (by omega)
    have e := shiftS_up (m := num) (k := 1) (by omega) h0 (by omega)
    rw [show ((1 : Nat) : Int) = 1 from rfl] at e
    rw [e, Nat.pow_one, sizS_small (by omega)]
theorem bits_lt_3 {a : Nat} : bits2 a < 3 ↔ a < 4 := by
  have h := bits2_le a 2
  omega
/-- the reference may end at the stop -/
theorem ref_stop {num den n p k : Nat} (ho : XOk num den) (h : endP num den (shO p) n k) (hk : k ≤ 40000) : n < k ∧ num * 2 < mulO k den ∧ bits2 (tP num den (shO p) k).hi < 3 := by
  refine ⟨h.1, ?_, ?_⟩
  · have h1 := h.2.1
    have e : mulO k den = k * den := by
      refine mulO_ok ?_ (Nat.le_trans (lim_len_le (k := 1) (by omega)) (by omega)) (Nat.le_trans (lim_len_le (k := 2) ho.d1) (by omega))
      refine Nat.le_trans (lim_len_le (k := 3) ?_) (by omega)
      have : k * den < 4294967296 * 18446744073709551616 := Nat.mul_lt_mul_of_lt_of_lt (by omega) ho.d1
      omega
    rw [e]
    have h5 := Nat.div_add_mod num den
    have h6 := Nat.mod_lt num ho.d0
    have h7 : (2 * (num / den) + 3) * den ≤ k * den := Nat.mul_le_mul_right _ (by omega)
    have e2 : (2 * (num / den) + 3) * den = 2 * (den * (num / den)) + 3 * den := by grind
    omega
  · have := h.2.2
    exact bits_lt_3.2 (by omega)

/-- what the series of the reference holds in memory -/
structure SrW (w wr : World) (g G : Nat) (x : Fx) (r6 r7 r8 t term all tail : Px) (A2 : Option Addr) (c2 : Nat) (two : List Nat) : Prop where
  q : Qv wr g x
  v6 : Pv wr (g + 1) r6
  v7 : Pv wr (g + 1 + 1) r7
  v8 : Pv wr (g + 1 + 1 + 1) r8
  v11 : Pv wr (G) t
  v12 : Pv wr (G + 1) term
  v13 : Pv wr (G + 1 + 1) all
  v14 : Pv wr (G + 1 + 1 + 1) tail
  tw : Nt wr A2 c2 two
  bw : Below w.heap.size w wr
  hg : w.heap.size = g
  h11 : g + 1 + 1 + 1 < G
section
variable {w wr wn : World} {g G : Nat} {x : Fx} {r6 r7 r8 t term all tail y : Px} {A2 : Option Addr} {c2 : Nat} {two : List Nat}
theorem SrW.below (h : SrW w wr g G x r6 r7 r8 t term all tail A2 c2 two) (bb : Below wr.heap.size wr wn) : SrW w wn g G x r6 r7 r8 t term all tail A2 c2 two :=
  ⟨h.q.below bb, h.v6.below bb, h.v7.below bb, h.v8.below bb, h.v11.below bb, h.v12.below bb, h.v13.below bb, h.v14.below bb, h.tw.below bb, below_on h.bw bb h.bw.size, h.hg, h.h11⟩
theorem SrW.put6 (h : SrW w wr g G x r6 r7 r8 t term all tail A2 c2 two) (hy : y.ok wr) : SrW w (set2 wr (g + 1) (.slice y.A (lim y.lo).length y.c) (.slice y.D (lim y.hi).length y.d)) g G x y r7 r8 t term all tail A2 c2 two :=
  have := h.h11
  have := h.hg
  ⟨h.q.far h.v6 (by omega), h.v6.put hy, h.v7.far h.v6 (by omega), h.v8.far h.v6 (by omega), h.v11.far h.v6 (by omega), h.v12.far h.v6 (by omega), h.v13.far h.v6 (by omega), h.v14.far h.v6 (by omega), nt_set2 h.tw h.v6.bk (noInt_p _), set2_below h.bw (by omega), h.hg, h.h11⟩
theorem SrW.put7 (h : SrW w wr g G x r6 r7 r8 t term all tail A2 c2 two) (hy : y.ok wr) : SrW w (set2 wr (g + 1 + 1) (.slice y.A (lim y.lo).length y.c) (.slice y.D (lim y.hi).length y.d)) g G x r6 y r8 t term all tail A2 c2 two :=
  have := h.h11
  have := h.hg
  ⟨h.q.far h.v7 (by omega), h.v6.far h.v7 (by omega), h.v7.put hy, h.v8.far h.v7 (by omega), h.v11.far h.v7 (by omega), h.v12.far h.v7 (by omega), h.v13.far h.v7 (by omega), h.v14.far h.v7 (by omega), nt_set2 h.tw h.v7.bk (noInt_p _), set2_below h.bw (by omega), h.hg, h.h11⟩
theorem SrW.put8 (h : SrW w wr g G x r6 r7 r8 t term all tail A2 c2 two) (hy : y.ok wr) : SrW w (set2 wr (g + 1 + 1 + 1) (.slice y.A (lim y.lo).length y.c) (.slice y.D (lim y.hi).length y.d)) g G x r6 r7 y t term all tail A2 c2 two :=
  have := h.h11
  have := h.hg
  ⟨h.q.far h.v8 (by omega), h.v6.far h.v8 (by omega), h.v7.far h.v8 (by omega), h.v8.put hy, h.v11.far h.v8 (by omega), h.v12.far h.v8 (by omega), h.v13.far h.v8 (by omega), h.v14.far h.v8 (by omega), nt_set2 h.tw h.v8.bk (noInt_p _), set2_below h.bw (by omega), h.hg, h.h11⟩
theorem SrW.put11 (h : SrW w wr g G x r6 r7 r8 t term all tail A2 c2 two) (hy : y.ok wr) : SrW w (set2 wr (G) (.slice y.A (lim y.lo).length y.c) (.slice y.D (lim y.hi).length y.d)) g G x r6 r7 r8 y term all tail A2 c2 two :=
  have := h.h11
  have := h.hg
  ⟨h.q.far h.v11 (by omega), h.v6.far h.v11 (by omega), h.v7.far h.v11 (by omega), h.v8.far h.v11 (by omega), h.v11.put hy, h.v12.far h.v11 (by omega), h.v13.far h.v11 (by omega), h.v14.far h.v11 (by omega), nt_set2 h.tw h.v11.bk (noInt_p _), set2_below h.bw (by omega), h.hg, h.h11⟩
theorem SrW.put12 (h : SrW w wr g G x r6 r7 r8 t term all tail A2 c2 two) (hy : y.ok wr) : SrW w (set2 wr (G + 1) (.slice y.A (lim y.lo).length y.c) (.slice y.D (lim y.hi).length y.d)) g G x r6 r7 r8 t y all tail A2 c2 two :=
  have := h.h11
  have := h.hg
  ⟨h.q.far h.v12 (by omega), h.v6.far h.v12 (by omega), h.v7.far h.v12 (by omega), h.v8.far h.v12 (by omega), h.v11.far h.v12 (by omega), h.v12.put hy, h.v13.far h.v12 (by omega), h.v14.far h.v12 (by omega), nt_set2 h.tw h.v12.bk (noInt_p _), set2_below h.bw (by omega), h.hg, h.h11⟩
theorem SrW.put13 (h : SrW w wr g G x r6 r7 r8 t term all tail A2 c2 two) (hy : y.ok wr) : SrW w (set2 wr (G + 1 + 1) (.slice y.A (lim y.lo).length y.c) (.slice y.D (lim y.hi).length y.d)) g G x r6 r7 r8 t term y tail A2 c2 two :=
  have := h.h11
  have := h.hg
  ⟨h.q.far h.v13 (by omega), h.v6.far h.v13 (by omega), h.v7.far h.v13 (by omega), h.v8.far h.v13 (by omega), h.v11.far h.v13 (by omega), h.v12.far h.v13 (by omega), h.v13.put hy, h.v14.far h.v13 (by omega), nt_set2 h.tw h.v13.bk (noInt_p _), set2_below h.bw (by omega), h.hg, h.h11⟩
theorem SrW.put14 (h : SrW w wr g G x r6 r7 r8 t term all tail A2 c2 two) (hy : y.ok wr) : SrW w (set2 wr (G + 1 + 1 + 1) (.slice y.A (lim y.lo).length y.c) (.slice y.D (lim y.hi).length y.d)) g G x r6 r7 r8 t term all y A2 c2 two :=
  have := h.h11
  have := h.hg
  ⟨h.q.far h.v14 (by omega), h.v6.far h.v14 (by omega), h.v7.far h.v14 (by omega), h.v8.far h.v14 (by omega), h.v11.far h.v14 (by omega), h.v12.far h.v14 (by omega), h.v13.far h.v14 (by omega), h.v14.put hy, nt_set2 h.tw h.v14.bk (noInt_p _), set2_below h.bw (by omega), h.hg, h.h11⟩
end
theorem rser_init {w : World} {x : Fx} (hx : x.ok w) (T : TypeId) : Qv ((((w.alloc (.cells x.cells 26)).alloc (.cells #[.slice none 0 0, .slice none 0 0] T)).alloc (.cells #[.slice none 0 0, .slice none 0 0] T)).alloc (.cells #[.slice none 0 0, .slice none 0 0] T)) w.heap.size x ∧
    Pv ((((w.alloc (.cells x.cells 26)).alloc (.cells #[.slice none 0 0, .slice none 0 0] T)).alloc (.cells #[.slice none 0 0, .slice none 0 0] T)).alloc (.cells #[.slice none 0 0, .slice none 0 0] T)) (w.heap.size + 1) Px.nil ∧
    Pv ((((w.alloc (.cells x.cells 26)).alloc (.cells #[.slice none 0 0, .slice none 0 0] T)).alloc (.cells #[.slice none 0 0, .slice none 0 0] T)).alloc (.cells #[.slice none 0 0, .slice none 0 0] T)) (w.heap.size + 1 + 1) Px.nil ∧
    Pv ((((w.alloc (.cells x.cells 26)).alloc (.cells #[.slice none 0 0, .slice none 0 0] T)).alloc (.cells #[.slice none 0 0, .slice none 0 0] T)).alloc (.cells #[.slice none 0 0, .slice none 0 0] T)) (w.heap.size + 1 + 1 + 1) Px.nil ∧
    Below w.heap.size w ((((w.alloc (.cells x.cells 26)).alloc (.cells #[.slice none 0 0, .slice none 0 0] T)).alloc (.cells #[.slice none 0 0, .slice none 0 0] T)).alloc (.cells #[.slice none 0 0, .slice none 0 0] T)) ∧
    ((((w.alloc (.cells x.cells 26)).alloc (.cells #[.slice none 0 0, .slice none 0 0] T)).alloc (.cells #[.slice none 0 0, .slice none 0 0] T)).alloc (.cells #[.slice none 0 0, .slice none 0 0] T)).heap.size = w.heap.size + 1 + 1 + 1 + 1 := by
  obtain ⟨q, b⟩ := qv_alloc hx 26
  have z := size_al w (.cells x.cells 26)
  generalize (w.alloc (.cells x.cells 26)) = w1 at q b z ⊢
  obtain ⟨v6, b1⟩ := pv_new w1 T
  have z1 := size_al w1 (.cells #[.slice none 0 0, .slice none 0 0] T)
  replace q := q.below b1
  replace b := below_on b b1 b.size
  rw [z] at v6 z1
  generalize (w1.alloc (.cells #[.slice none 0 0, .slice none 0 0] T)) = w2 at q b v6 z1 ⊢
  obtain ⟨v7, b2⟩ := pv_new w2 T
  have z2 := size_al w2 (.cells #[.slice none 0 0, .slice none 0 0] T)
  replace q := q.below b2
  replace v6 := v6.below b2
  replace b := below_on b b2 b.size
  rw [z1] at v7 z2
  generalize (w2.alloc (.cells #[.slice none 0 0, .slice none 0 0] T)) = w3 at q b v6 v7 z2 ⊢
  obtain ⟨v8, b3⟩ := pv_new w3 T
  have z3 := size_al w3 (.cells #[.slice none 0 0, .slice none 0 0] T)
  rw [z2] at v8 z3
  exact ⟨q.below b3, v6.below b3, v7.below b3, v8, below_on b b3 b.size, z3⟩
theorem rser_more {w : World} {x : Px} (hx : x.ok w) (T : TypeId) : Pv ((((w.alloc (.cells x.cells T)).alloc (.cells #[.slice none 0 0, .slice none 0 0] T)).alloc (.cells #[.slice none 0 0, .slice none 0 0] T)).alloc (.cells #[.slice none 0 0, .slice none 0 0] T)) w.heap.size x ∧
    Pv ((((w.alloc (.cells x.cells T)).alloc (.cells #[.slice none 0 0, .slice none 0 0] T)).alloc (.cells #[.slice none 0 0, .slice none 0 0] T)).alloc (.cells #[.slice none 0 0, .slice none 0 0] T)) (w.heap.size + 1) Px.nil ∧
    Pv ((((w.alloc (.cells x.cells T)).alloc (.cells #[.slice none 0 0, .slice none 0 0] T)).alloc (.cells #[.slice none 0 0, .slice none 0 0] T)).alloc (.cells #[.slice none 0 0, .slice none 0 0] T)) (w.heap.size + 1 + 1) Px.nil ∧
    Pv ((((w.alloc (.cells x.cells T)).alloc (.cells #[.slice none 0 0, .slice none 0 0] T)).alloc (.cells #[.slice none 0 0, .slice none 0 0] T)).alloc (.cells #[.slice none 0 0, .slice none 0 0] T)) (w.heap.size + 1 + 1 + 1) Px.nil ∧
    Below w.heap.size w ((((w.alloc (.cells x.cells T)).alloc (.cells #[.slice none 0 0, .slice none 0 0] T)).alloc (.cells #[.slice none 0 0, .slice none 0 0] T)).alloc (.cells #[.slice none 0 0, .slice none 0 0] T)) := by
  obtain ⟨q, b⟩ := pv_alloc hx T
  have z := size_al w (.cells x.cells T)
  generalize (w.alloc (.cells x.cells T)) = w1 at q b z ⊢
  obtain ⟨v6, b1⟩ := pv_new w1 T
  have z1 := size_al w1 (.cells #[.slice none 0 0, .slice none 0 0] T)
  replace q := q.below b1
  replace b := below_on b b1 b.size
  rw [z] at v6 z1
  generalize (w1.alloc (.cells #[.slice none 0 0, .slice none 0 0] T)) = w2 at q b v6 z1 ⊢
  obtain ⟨v7, b2⟩ := pv_new w2 T
  have z2 := size_al w2 (.cells #[.slice none 0 0, .slice none 0 0] T)
  replace q := q.below b2
  replace v6 := v6.below b2
  replace b := below_on b b2 b.size
  rw [z1] at v7 z2
  generalize (w2.alloc (.cells #[.slice none 0 0, .slice none 0 0] T)) = w3 at q b v6 v7 z2 ⊢
  obtain ⟨v8, b3⟩ := pv_new w3 T
  rw [z2] at v8
  exact ⟨q.below b3, v6.below b3, v7.below b3, v8, below_on b b3 b.size⟩
set_option maxHeartbeats 6400000 in
theorem eseries_any (w : World) (x : Fx) (num den n p : Nat) (hx : x.ok w) (hn : x.xs = lim num) (hd : x.ys = lim den) (ho : XOk num den) (hn2 : n ≤ 256) (_hp : p ≤ 100000) :
    Calls Try.prog 56 #[x.val, .int .i64 (n : Int), .int .i64 (p : Int)] w fun e w' => ∃ a b c : Px, e = .returned (.tuple #[a.val, b.val, c.val]) ∧ Sg (shO p) a.pr ∧ Sg (shO p) b.pr ∧ Sg (shO p) c.pr ∧ a.ok w' ∧ b.ok w' ∧ c.ok w' ∧ Below w.heap.size w w' := by
  obtain ⟨b, A, c, xs, D, d, ys⟩ := x
  simp only at hn hd
  subst hn hd
  have HO := Lib.hid ho
  have HST := Lib.hid (stop_spec (shO p) ho hn2)
  have HSH : Hid (shiftS (nv [1]) (p : Int) = (lim (shO p), (shiftS 1 (p : Int)).2)) := Lib.hid (by rw [show nv [1] = 1 from rfl, ← shS_lim])
  have HTW : Hid (shiftS (nv (lim num)) 1 = (lim (num * 2), 0)) := Lib.hid (by rw [nv_lim]; exact two_lim ho.n1)
  have HL1 : Hid ((lim num).length ≤ 10000) := Lib.hid (Nat.le_trans (lim_len_le (k := 2) ho.n1) (by omega))
  have HL2 : Hid ((lim den).length ≤ 10000) := Lib.hid (Nat.le_trans (lim_len_le (k := 2) ho.d1) (by omega))
  clear ho
  go_enter Try.func56, Try.ntmps56
  go_upto_region 1 with fail
  have h0 := rser_init hx 75
  clear hx
  generalize ((((w.alloc (.cells #[.bool b, .slice A (lim num).length c, .slice D (lim den).length d] 26)).alloc (.cells #[.slice none 0 0, .slice none 0 0] 75)).alloc (.cells #[.slice none 0 0, .slice none 0 0] 75)).alloc (.cells #[.slice none 0 0, .slice none 0 0] 75)) = w1 at h0 ⊢
  obtain ⟨q, v6, v7, v8, bw, hz⟩ := h0
  obtain ⟨g, hg⟩ : ∃ g, w.heap.size = g := ⟨_, rfl⟩
  rw [hg] at q v6 v7 v8 hz ⊢
  go_wp2_with fail
  obtain ⟨no, bb⟩ := lit_1 w1
  generalize (w1.alloc (.cells #[.int .u32 1] 82)) = w2 at no bb ⊢
  replace q := q.below bb
  replace v6 := v6.below bb
  replace v7 := v7.below bb
  replace v8 := v8.below bb
  replace bw := below_on bw bb bw.size
  have hz1 := bb.size
  clear bb
  rw [hz] at no hz1
  refine (rshift_any w2 _ 1 1 (p : Int) [1] (lim (shO p)) (shiftS 1 (p : Int)).2 no rfl (by simp) HSH.out).mono ?_
  rintro _ w3 ⟨A1, c1, rfl, n1, bb⟩
  replace q := q.below bb
  replace v6 := v6.below bb
  replace v7 := v7.below bb
  replace v8 := v8.below bb
  replace bw := below_on bw bb bw.size
  have hz2 := bb.size
  clear bb no
  go_upto_region 4 with fail
  have hok : (⟨A1, c1, shO p, A1, c1, shO p⟩ : Px).ok w3 := ⟨n1, n1⟩
  obtain ⟨v11, v12, v13, v14, bb⟩ := rser_more hok 75
  have h11 : g + 1 + 1 + 1 < w3.heap.size := by omega
  replace q := q.below bb
  replace v6 := v6.below bb
  replace v7 := v7.below bb
  replace v8 := v8.below bb
  replace bw := below_on bw bb bw.size
  clear bb hok n1 hz hz1 hz2
  generalize ((((w3.alloc (.cells #[.slice A1 (lim (shO p)).length c1, .slice A1 (lim (shO p)).length c1] 75)).alloc (.cells #[.slice none 0 0, .slice none 0 0] 75)).alloc (.cells #[.slice none 0 0, .slice none 0 0] 75)).alloc (.cells #[.slice none 0 0, .slice none 0 0] 75)) = w4 at q v6 v7 v8 v11 v12 v13 v14 bw ⊢
  generalize w3.heap.size = G at v11 v12 v13 v14 h11 ⊢
  have c1q := q.c1
  go_wp2_with fail
  refine (rshift_any w4 A c _ 1 (lim num) (lim (num * 2)) 0 q.ok.num rfl HL1.out HTW.out).mono ?_
  rintro _ w5 ⟨A2, c2, rfl, n2, bb⟩
  clear c1q
  have hse : SrW w w5 g G ⟨b, A, c, lim num, D, d, lim den⟩ Px.nil Px.nil Px.nil ⟨A1, c1, shO p, A1, c1, shO p⟩ Px.nil Px.nil Px.nil A2 c2 (lim (num * 2)) := ⟨q.below bb, v6.below bb, v7.below bb, v8.below bb, v11.below bb, v12.below bb, v13.below bb, v14.below bb, n2, below_on bw bb bw.size, hg, h11⟩
  clear q v6 v7 v8 v11 v12 v13 v14 n2 bw bb h11 hg
  obtain ⟨I, hI⟩ : ∃ I, stopI num den (shO p) n = I := ⟨_, rfl⟩
  rw [hI] at HST
  have hI2 := HST.out.2.1
  clear hI
  go_wp2_with fail
  go_loopw [17] (fun i wr => ∃ (k : Nat) (t term all tail : Px), k ≤ I ∧ i = .int .i64 k ∧ t.pr = tP num den (shO p) k ∧ Sg (shO p) term.pr ∧ Sg (shO p) all.pr ∧ Sg (shO p) tail.pr ∧ SrW w wr g G ⟨b, A, c, lim num, D, d, lim den⟩ Px.nil Px.nil Px.nil t term all tail A2 c2 (lim (num * 2))) (fun i _ => 40001 - (intOf i).toNat)
  case atStart => exact ⟨0, _, _, _, _, by omega, rfl, rfl, sg_nil _, sg_nil _, sg_nil _, hse⟩
  case round =>
    clear hse
    obtain ⟨k, t, term, all, tail, hk, rfl, ht, hm, ha, hl, S⟩ := hrel
    have HT := Lib.hid ht
    have HM := Lib.hid hm
    have HA := Lib.hid ha
    have HL := Lib.hid hl
    have HS := Lib.hid S
    have HGT : Hid (Sg (shO p) t.pr) := Lib.hid (by rw [ht]; exact sg_t _ _ _ _)
    clear ht hm ha hl S
    go_upto_if 39 with fail
    go_cut [] (fun wx => ∃ term : Px, Sg (shO p) term.pr ∧ SrW w wx g G ⟨b, A, c, lim num, D, d, lim den⟩ Px.nil Px.nil Px.nil t term all tail A2 c2 (lim (num * 2)))
    case first =>
      by_cases hkn : k = n
      · have e1 : ((k : Int) == (n : Int)) = true := by simp [hkn]
        have p0 := HS.out.v11.c0
        have p1 := HS.out.v11.c1
        have q0 := HS.out.v12.c0
        have q1 := HS.out.v12.c1
        have r0 := HS.out.v12.f0
        have r1 := HS.out.v12.f1
        have hput := HS.out.put12 HS.out.v11.ok
        go_wp2_with fail
        go_meet
        case rel => exact ⟨t, HGT.out, hput⟩
      · have e1 : ((k : Int) == (n : Int)) = false := beq_eq_false_iff_ne.2 (by omega)
        go_wp2_with fail
        go_meet
        case rel => exact ⟨term, HM.out, HS.out⟩
    case rest =>
      obtain ⟨term, hm, S⟩ := hcut
      have HM := Lib.hid hm
      have HS := Lib.hid S
      clear hm S
      go_upto_region 9 with fail
      go_cut [60] (fun s60 w2 => s60 = .bool (decide (n < k ∧ num * 2 < mulO k den ∧ bits2 t.hi < 3)) ∧ SrW w w2 g G ⟨b, A, c, lim num, D, d, lim den⟩ Px.nil Px.nil Px.nil t term all tail A2 c2 (lim (num * 2)))
      case first =>
        by_cases hkn : n < k
        · have e1 : decide ((n : Int) < (k : Int)) = true := decide_eq_true (by omega)
          obtain ⟨no, bl⟩ := lit_one wc k (by omega)
          have S2 := HS.out.below bl
          have p1 := S2.q.c2
          have HK1 : Hid (lim k = [k]) := Lib.hid (lim_small (by omega) (by omega))
          go_wp2_with fail
          generalize (wc.alloc (.cells #[.int .u32 k] 82)) = w2 at no S2 p1 ⊢
          generalize wc.heap.size = gk at no ⊢
          clear bl
          refine (emul_any w2 _ D 1 d k den 1 _ (HK1.out.symm ▸ no) S2.q.ok.den (by rw [HK1.out]; rfl) rfl (by rw [HK1.out]; simp) HL2.out).mono ?_
          rintro _ w3 ⟨A3, c3, rfl, n3, bb⟩
          replace S2 := S2.below bb
          clear bb no p1
          obtain ⟨z, hz⟩ : ∃ z, cmp3 (nv (lim (mulO k den))) (nv (lim (num * 2))) = z := ⟨_, rfl⟩
          have HZ := Lib.hid hz
          have HML : Hid ((lim (nv (lim (mulO k den)))).length ≤ 1000000 ∧ (lim (nv (lim (num * 2)))).length ≤ 1000000) := Lib.hid (by
            rw [nv_lim, nv_lim]
            exact ⟨Nat.le_trans (mulO_len _ _) (by omega), Nat.le_trans (lim_len_le (k := 3) (by have := HO.out.n1; omega)) (by omega)⟩)
          have HZP : Hid (0 < z ↔ num * 2 < mulO k den) := Lib.hid (by
            rw [← hz, nv_lim, nv_lim, cmp3]
            split
            · exact ⟨fun h => by omega, fun h => by omega⟩
            · split
              · exact ⟨fun _ => by omega, fun _ => by omega⟩
              · exact ⟨fun h => by omega, fun h => by omega⟩)
          clear hz
          go_wp2_with fail
          refine (rcmp_any w3 A3 A2 c3 c2 _ _ (lim (mulO k den)) (lim (num * 2)) z n3 S2.tw rfl rfl HML.out.1 HML.out.2 HZ.out).mono ?_
          rintro _ w4 ⟨rfl, bb⟩
          replace S2 := S2.below bb
          clear bb n3
          by_cases hz0 : 0 < z
          · have e2 : decide (0 < z) = true := decide_eq_true hz0
            have HZ0 := Lib.hid hz0
            clear hz0
            have p1 := S2.v11.c1
            go_wp2_with fail
            refine (rbits_any w4 t.D t.d _ (lim t.hi) S2.v11.ok.hi rfl (Nat.le_trans HGT.out.2.1 (by omega))).mono ?_
            rintro _ w5 ⟨rfl, bb⟩
            replace S2 := S2.below bb
            clear bb p1
            obtain ⟨bt, hbt⟩ : ∃ bt, bits2 (nv (lim t.hi)) = bt := ⟨_, rfl⟩
            rw [hbt]
            have HP : Hid (Value.bool (decide ((bt : Int) < 3)) = .bool (decide (n < k ∧ num * 2 < mulO k den ∧ bits2 t.hi < 3))) := Lib.hid (by
              congr 1
              rw [nv_lim] at hbt
              rw [decide_eq_decide, hbt]
              exact ⟨fun h => ⟨hkn, HZP.out.1 HZ0.out, by omega⟩, fun h => by have := h.2.2; omega⟩)
            clear hbt
            go_wp2_with fail
            go_meet
            case rel => exact ⟨HP.out, S2⟩
          · have e2 : decide (0 < z) = false := decide_eq_false hz0
            have HP : Hid (Value.bool false = .bool (decide (n < k ∧ num * 2 < mulO k den ∧ bits2 t.hi < 3))) := Lib.hid (by rw [decide_eq_false (fun h => hz0 (HZP.out.2 h.2.1))])
            clear hz0
            go_wp2_with fail
            go_meet
            case rel => exact ⟨HP.out, S2⟩
        · have e1 : decide ((n : Int) < (k : Int)) = false := decide_eq_false (by omega)
          have HP : Hid (Value.bool false = .bool (decide (n < k ∧ num * 2 < mulO k den ∧ bits2 t.hi < 3))) := Lib.hid (by rw [decide_eq_false (fun h => hkn h.1)])
          go_wp2_with fail
          go_meet
          case rel => exact ⟨HP.out, HS.out⟩
      case rest =>
        obtain ⟨rfl, S⟩ := hcut
        have HS := Lib.hid S
        clear S
        by_cases hend : n < k ∧ num * 2 < mulO k den ∧ bits2 t.hi < 3
        · rw [decide_eq_true hend]
          clear hend
          have p1 := HS.out.v11.c1
          go_wp2_with fail
          refine (eadd_any wc t.D t.D t.d t.d t.hi t.hi _ _ HS.out.v11.ok.hi HS.out.v11.ok.hi rfl rfl (Nat.le_trans HGT.out.2.1 (by omega)) (Nat.le_trans HGT.out.2.1 (by omega))).mono ?_
          rintro _ w2 ⟨A3, c3, rfl, n3, bb⟩
          have S2 := HS.out.below bb
          clear bb p1 HS
          go_upto_region 11 with fail
          have hok : (⟨none, 0, 0, A3, c3, addO t.hi t.hi⟩ : Px).ok w2 := ⟨nt_nil0 _, n3⟩
          have v18 := (pv_alloc hok 75).1
          have bb := (pv_alloc hok 75).2
          have e0 : (⟨none, 0, 0, A3, c3, addO t.hi t.hi⟩ : Px).cells = #[.slice none 0 0, .slice A3 (lim (addO t.hi t.hi)).length c3] := by simp [Px.cells, lim_zero]
          rw [e0] at v18 bb
          have h18 : G + 1 + 1 + 1 < w2.heap.size := S2.v14.lt
          replace S2 := S2.below bb
          clear hok e0 bb n3
          generalize (w2.alloc (.cells #[.slice none 0 0, .slice A3 (lim (addO t.hi t.hi)).length c3] 75)) = wx at v18 S2 ⊢
          generalize w2.heap.size = g18 at v18 h18 ⊢
          obtain ⟨tl, htl⟩ : ∃ tl : Px, (⟨none, 0, 0, A3, c3, addO t.hi t.hi⟩ : Px) = tl := ⟨_, rfl⟩
          rw [htl] at v18
          have HGL : Hid (Sg (shO p) tl.pr) := Lib.hid (by rw [← htl]; exact sg_rest HGT.out)
          have HSL : Hid (smallP tl) := Lib.hid ⟨Nat.le_trans HGL.out.1 (by omega), Nat.le_trans HGL.out.2.1 (by omega)⟩
          have HSA : Hid (smallP all) := Lib.hid ⟨Nat.le_trans HA.out.1 (by omega), Nat.le_trans HA.out.2.1 (by omega)⟩
          have HST2 : Hid (smallP tail) := Lib.hid ⟨Nat.le_trans HL.out.1 (by omega), Nat.le_trans HL.out.2.1 (by omega)⟩
          have H18 := Lib.hid v18
          have H18G := Lib.hid h18
          have HX := Lib.hid S2
          clear htl v18 S2 h18
          refine wp_region_held_drew (S := fun w' => Cel w' (G + 1) term ∧ Cel w' (G + 1 + 1) all ∧ Cel w' (G + 1 + 1 + 1) tail ∧ Cel w' g18 tl) (by kernel_rfl) ⟨(HX.out.below ((Below.refl wx.heap.size wx).drew)).v12.cel, (HX.out.below ((Below.refl wx.heap.size wx).drew)).v13.cel, (HX.out.below ((Below.refl wx.heap.size wx).drew)).v14.cel, (H18.out.below ((Below.refl wx.heap.size wx).drew)).cel⟩ (fun hHeld => ?_)
          have bz := (Below.refl wx.heap.size wx).drew
          generalize wx.drew = wd at *
          refine tkw 0 (term.val) rfl (by kernel_rfl) (by kernel_rfl) (by kernel_rfl) (fun _ _ _ h => h) ⟨by rfl, ?_⟩ (by assumption) ?_
          ·intro w hSw; (try dsimp only at hSw); obtain ⟨⟨s0, s1⟩, _⟩ := hSw; go_simp; (try with_reducible rfl)
          try simp only [Act.put, tzA, tzB, tzD, tzE, tzF]
          refine tkw 1 (all.val) rfl (by kernel_rfl) (by kernel_rfl) (by kernel_rfl) (fun _ _ _ h => h) ⟨by rfl, ?_⟩ (by assumption) ?_
          ·intro w hSw; (try dsimp only at hSw); obtain ⟨_, ⟨s0, s1⟩, _⟩ := hSw; go_simp; (try with_reducible rfl)
          try simp only [Act.put, tzA, tzB, tzC, tzD, tzE, tzF]
          refine tkw 2 (tl.val) rfl (by kernel_rfl) (by kernel_rfl) (by kernel_rfl) (fun _ _ _ h => h) ⟨by rfl, ?_⟩ (by assumption) ?_
          ·intro w hSw; (try dsimp only at hSw); obtain ⟨_, _, _, s0, s1⟩ := hSw; go_simp; (try with_reducible rfl)
          try simp only [Act.put, tzA, tzB, tzC, tzD, tzE, tzF]
          refine tkw 4 (tail.val) rfl (by kernel_rfl) (by kernel_rfl) (by kernel_rfl) (fun _ _ _ h => h) ⟨by rfl, ?_⟩ (by assumption) ?_
          ·intro w hSw; (try dsimp only at hSw); obtain ⟨_, _, ⟨s0, s1⟩, _⟩ := hSw; go_simp; (try with_reducible rfl)
          try simp only [Act.put, tzA, tzB, tzC, tzD, tzE, tzF]
          refine tkw 5 (tl.val) rfl (by kernel_rfl) (by kernel_rfl) (by kernel_rfl) (fun _ _ _ h => h) ⟨by rfl, ?_⟩ (by assumption) ?_
          ·intro w hSw; (try dsimp only at hSw); obtain ⟨_, _, _, s0, s1⟩ := hSw; go_simp; (try with_reducible rfl)
          try simp only [Act.put, tzA, tzB, tzC, tzD, tzE, tzF]
          refine wpAnyH_ready (rs := [3]) (by kernel_rfl) (by simp) ?_
          refine AllReadyH.cons rfl (fun K hK => ?_) ?_
          ·go_simp
           go_at_call 81
           refine (eplus_any wd all tl (HX.out.below bz).v13.ok (H18.out.below bz).ok HSA.out HSL.out).mono ?_
           rintro _ wd ⟨z7, rfl, h7, o7, bb⟩
           try replace o7 := o7.below bb
           try replace o8 := o8.below bb
           replace bz := below_on bz bb bz.size
           clear bb
           refine hK.out _ _ (by first | exact ⟨n8.v12.cel, n8.v13.cel, n8.v14.cel, k8.cel⟩ | exact ⟨n7.v12.cel, n7.v13.cel, n7.v14.cel, k7.cel⟩ | exact ⟨n6.v12.cel, n6.v13.cel, n6.v14.cel, k6.cel⟩ | exact ⟨(HX.out.below bz).v12.cel, (HX.out.below bz).v13.cel, (HX.out.below bz).v14.cel, (H18.out.below bz).cel⟩) (fun hHeld => ?_)
           clear hK K
           try simp only [Act.put]
           try simp only [tzD, tzE, tzF]
           refine wpAnyH_ready (rs := [6]) (by kernel_rfl) (by simp) ?_
           refine AllReadyH.cons rfl (fun K hK => ?_) ?_
           ·go_simp
            go_at_call 81
            refine (eplus_any wd tail tl (HX.out.below bz).v14.ok (H18.out.below bz).ok HST2.out HSL.out).mono ?_
            rintro _ wd ⟨z8, rfl, h8, o8, bb⟩
            try replace o7 := o7.below bb
            try replace o8 := o8.below bb
            replace bz := below_on bz bb bz.size
            clear bb
            refine hK.out _ _ (by first | exact ⟨n8.v12.cel, n8.v13.cel, n8.v14.cel, k8.cel⟩ | exact ⟨n7.v12.cel, n7.v13.cel, n7.v14.cel, k7.cel⟩ | exact ⟨n6.v12.cel, n6.v13.cel, n6.v14.cel, k6.cel⟩ | exact ⟨(HX.out.below bz).v12.cel, (HX.out.below bz).v13.cel, (HX.out.below bz).v14.cel, (H18.out.below bz).cel⟩) (fun hHeld => ?_)
            clear hK K
            try simp only [Act.put]
            try simp only [tzD, tzE, tzF]
            refine wpAnyH_ready (rs := [7]) (by kernel_rfl) (by simp) ?_
            refine AllReadyH.cons rfl (fun K hK => ?_) ?_
            ·have hd := HX.out.below bz
             have hk := H18.out.below bz
             have k0 := hd.v6.c0
             have k1 := hd.v6.c1
             have k2 := hd.v6.f0
             have k3 := hd.v6.f1
             have n6 := hd.put6 (HX.out.below bz).v12.ok
             have k6 := hk.far hd.v6 (v0 := .slice term.A (lim term.lo).length term.c) (v1 := .slice term.D (lim term.hi).length term.d) (by have := hd.h11; have := H18G.out; omega)
             have q7 := o7.set2 (v0 := .slice term.A (lim term.lo).length term.c) (v1 := .slice term.D (lim term.hi).length term.d) hd.v6.bk (noInt_p _)
             have q8 := o8.set2 (v0 := .slice term.A (lim term.lo).length term.c) (v1 := .slice term.D (lim term.hi).length term.d) hd.v6.bk (noInt_p _)
             dsimp only [set2] at n6 k6 q7 q8
             go_simp
             clear k0 k1 k2 k3 hd hk hHeld
             clear o7 o8 bz
             generalize ((wd.setCell ⟨g + 1, 0, none⟩ (.slice term.A (lim term.lo).length term.c)).setCell ⟨g + 1, 1, none⟩ (.slice term.D (lim term.hi).length term.d)) = we at *
             generalize we = wd at *
             refine hK.out _ _ (by first | exact ⟨n8.v12.cel, n8.v13.cel, n8.v14.cel, k8.cel⟩ | exact ⟨n7.v12.cel, n7.v13.cel, n7.v14.cel, k7.cel⟩ | exact ⟨n6.v12.cel, n6.v13.cel, n6.v14.cel, k6.cel⟩ | exact ⟨(HX.out.below bz).v12.cel, (HX.out.below bz).v13.cel, (HX.out.below bz).v14.cel, (H18.out.below bz).cel⟩) (fun hHeld => ?_)
             clear hK K
             try simp only [Act.put]
             try simp only [tzD, tzE, tzF]
             refine wpAnyH_ready (rs := [8]) (by kernel_rfl) (by simp) ?_
             refine AllReadyH.cons rfl (fun K hK => ?_) ?_
             ·have hd := n6
              have hk := k6
              have k0 := hd.v7.c0
              have k1 := hd.v7.c1
              have k2 := hd.v7.f0
              have k3 := hd.v7.f1
              have n7 := hd.put7 q7
              have k7 := hk.far hd.v7 (v0 := .slice z7.A (lim z7.lo).length z7.c) (v1 := .slice z7.D (lim z7.hi).length z7.d) (by have := hd.h11; have := H18G.out; omega)
              have r8 := q8.set2 (v0 := .slice z7.A (lim z7.lo).length z7.c) (v1 := .slice z7.D (lim z7.hi).length z7.d) hd.v7.bk (noInt_p _)
              dsimp only [set2] at n7 k7 r8
              go_simp
              clear k0 k1 k2 k3 hd hk hHeld
              clear n6 k6 q7 q8
              generalize ((wd.setCell ⟨g + 1 + 1, 0, none⟩ (.slice z7.A (lim z7.lo).length z7.c)).setCell ⟨g + 1 + 1, 1, none⟩ (.slice z7.D (lim z7.hi).length z7.d)) = we at *
              generalize we = wd at *
              refine hK.out _ _ (by first | exact ⟨n8.v12.cel, n8.v13.cel, n8.v14.cel, k8.cel⟩ | exact ⟨n7.v12.cel, n7.v13.cel, n7.v14.cel, k7.cel⟩ | exact ⟨n6.v12.cel, n6.v13.cel, n6.v14.cel, k6.cel⟩ | exact ⟨(HX.out.below bz).v12.cel, (HX.out.below bz).v13.cel, (HX.out.below bz).v14.cel, (H18.out.below bz).cel⟩) (fun hHeld => ?_)
              clear hK K
              try simp only [Act.put]
              try simp only [tzD, tzE, tzF]
              refine wpAnyH_ready (rs := [9]) (by kernel_rfl) (by simp) ?_
              refine AllReadyH.cons rfl (fun K hK => ?_) ?_
              ·have hd := n7
               have hk := k7
               have k0 := hd.v8.c0
               have k1 := hd.v8.c1
               have k2 := hd.v8.f0
               have k3 := hd.v8.f1
               have n8 := hd.put8 r8
               have k8 := hk.far hd.v8 (v0 := .slice z8.A (lim z8.lo).length z8.c) (v1 := .slice z8.D (lim z8.hi).length z8.d) (by have := hd.h11; have := H18G.out; omega)
               dsimp only [set2] at n8 k8
               go_simp
               clear k0 k1 k2 k3 hd hk hHeld
               clear n7 k7 r8
               generalize ((wd.setCell ⟨g + 1 + 1 + 1, 0, none⟩ (.slice z8.A (lim z8.lo).length z8.c)).setCell ⟨g + 1 + 1 + 1, 1, none⟩ (.slice z8.D (lim z8.hi).length z8.d)) = we at *
               generalize we = wd at *
               refine hK.out _ _ (by first | exact ⟨n8.v12.cel, n8.v13.cel, n8.v14.cel, k8.cel⟩ | exact ⟨n7.v12.cel, n7.v13.cel, n7.v14.cel, k7.cel⟩ | exact ⟨n6.v12.cel, n6.v13.cel, n6.v14.cel, k6.cel⟩ | exact ⟨(HX.out.below bz).v12.cel, (HX.out.below bz).v13.cel, (HX.out.below bz).v14.cel, (H18.out.below bz).cel⟩) (fun hHeld => ?_)
               clear hK K
               try simp only [Act.put]
               try simp only [tzD, tzE, tzF]
               refine wpAnyH_done (by kernel_rfl) ?_ _
               have c60 := n8.v6.c0
               have c61 := n8.v6.c1
               have c70 := n8.v7.c0
               have c71 := n8.v7.c1
               have c80 := n8.v8.c0
               have c81 := n8.v8.c1
               go_wp2_with fail
               refine bodyPost_ret (v := .tuple #[term.val, z7.val, z8.val]) (by simp [results, Try.results56, go_sem, c60, c61, c70, c71, c80, c81]) rfl ?_
               exact ⟨term, z7, z8, rfl, HM.out, by rw [h7]; exact sg_plus HA.out HGL.out, by rw [h8]; exact sg_plus HL.out HGL.out, n8.v6.ok, n8.v7.ok, n8.v8.ok, n8.bw⟩
              exact AllReadyH.nil
             exact AllReadyH.nil
            exact AllReadyH.nil
           exact AllReadyH.nil
          exact AllReadyH.nil
        · have HKI : Hid (k < I) := Lib.hid (by
            rcases Nat.lt_or_ge k I with h1 | h1
            · exact h1
            · obtain rfl : k = I := by omega
              have h2 := ref_stop HO.out HST.out.1 hI2
              rw [← congrArg Pr.hi HT.out] at h2
              exact absurd h2 hend)
          rw [decide_eq_false hend]
          clear hend
          have p0 := HS.out.v11.c0
          have p1 := HS.out.v11.c1
          have q0 := HS.out.v13.c0
          have q1 := HS.out.v13.c1
          go_wp2_with fail
          refine (eplus_any _ all t HS.out.v13.ok HS.out.v11.ok ⟨Nat.le_trans HA.out.1 (by omega), Nat.le_trans HA.out.2.1 (by omega)⟩ ⟨Nat.le_trans HGT.out.1 (by omega), Nat.le_trans HGT.out.2.1 (by omega)⟩).mono ?_
          rintro _ wn ⟨z, rfl, hz, oz, bb⟩
          have S := HS.out.below bb
          have HZ : Hid (Sg (shO p) z.pr) := Lib.hid (by rw [hz]; exact sg_plus HA.out HGT.out)
          clear p0 p1 q0 q1 bb hz HS HA
          have q0 := S.v13.c0
          have q1 := S.v13.c1
          have r0 := S.v13.f0
          have r1 := S.v13.f1
          go_upto_if 79 with fail
          have S2 := S.put13 oz
          dsimp only [set2] at S2
          clear q0 q1 r0 r1 S oz
          generalize (wn.setCell ⟨G + 1 + 1, 0, none⟩ (.slice z.A (lim z.lo).length z.c)).setCell ⟨G + 1 + 1, 1, none⟩ (.slice z.D (lim z.hi).length z.d) = wa at S2 ⊢
          have HS := Lib.hid S2
          clear S2
          go_cut [] (fun wx => ∃ tail : Px, Sg (shO p) tail.pr ∧ SrW w wx g G ⟨b, A, c, lim num, D, d, lim den⟩ Px.nil Px.nil Px.nil t term z tail A2 c2 (lim (num * 2)))
          case first =>
            by_cases hkn : n < k
            · have e1 : decide ((n : Int) < (k : Int)) = true := decide_eq_true (by omega)
              have p0 := HS.out.v11.c0
              have p1 := HS.out.v11.c1
              have q0 := HS.out.v14.c0
              have q1 := HS.out.v14.c1
              go_wp2_with fail
              refine (eplus_any _ tail t HS.out.v14.ok HS.out.v11.ok ⟨Nat.le_trans HL.out.1 (by omega), Nat.le_trans HL.out.2.1 (by omega)⟩ ⟨Nat.le_trans HGT.out.1 (by omega), Nat.le_trans HGT.out.2.1 (by omega)⟩).mono ?_
              rintro _ wn ⟨y, rfl, hy, oy, bb⟩
              have S := HS.out.below bb
              have HY : Hid (Sg (shO p) y.pr) := Lib.hid (by rw [hy]; exact sg_plus HL.out HGT.out)
              clear p0 p1 q0 q1 bb hy
              have q0 := S.v14.c0
              have q1 := S.v14.c1
              have r0 := S.v14.f0
              have r1 := S.v14.f1
              have hput := S.put14 oy
              go_wp2_with fail
              go_meet
              case rel => exact ⟨y, HY.out, hput⟩
            · have e1 : decide ((n : Int) < (k : Int)) = false := decide_eq_false (by omega)
              go_wp2_with fail
              go_meet
              case rel => exact ⟨tail, HL.out, HS.out⟩
          case rest =>
            obtain ⟨tail, hl, S⟩ := hcut
            have HL := Lib.hid hl
            obtain ⟨no, bl⟩ := lit_one wc (k + 1) (by omega)
            rw [Int.natCast_succ] at no bl
            have S2 := S.below bl
            have p1 := S.q.c2
            have HK1 : Hid (lim (k + 1) = [k + 1]) := Lib.hid (lim_small (by omega) (by omega))
            clear hl S
            go_wp2_with fail
            generalize (wc.alloc (.cells #[.int .u32 ((k : Int) + 1)] 82)) = w2 at no S2 ⊢
            generalize wc.heap.size = gk at no ⊢
            clear bl p1
            refine (emul_any w2 D _ d 1 den (k + 1) _ 1 S2.q.ok.den (HK1.out.symm ▸ no) rfl (by rw [HK1.out]; rfl) HL2.out (by rw [HK1.out]; simp)).mono ?_
            rintro _ wc ⟨A3, c3, rfl, n3, bb⟩
            have HS1 := Lib.hid (S2.below bb)
            obtain ⟨by_, hby⟩ : ∃ by_, mulO den (k + 1) = by_ := ⟨_, rfl⟩
            rw [hby] at n3 ⊢
            have HBY := Lib.hid n3
            have HBL : Hid ((lim by_).length ≤ 10000) := Lib.hid (by rw [← hby]; exact Nat.le_trans (mulO_len _ _) (by omega))
            have HM1 : Hid ((lim (mulO t.lo num)).length ≤ 10000) := Lib.hid (Nat.le_trans (mulO_len _ _) (by omega))
            have HM2 : Hid ((lim (mulO t.hi num)).length ≤ 10000) := Lib.hid (Nat.le_trans (mulO_len _ _) (by omega))
            have HG1 : Hid ((lim t.lo).length ≤ 10000) := Lib.hid (Nat.le_trans HGT.out.1 (by omega))
            have HG2 : Hid ((lim t.hi).length ≤ 10000) := Lib.hid (Nat.le_trans HGT.out.2.1 (by omega))
            have HNT : Hid (tP num den (shO p) (k + 1) = ⟨divO (mulO t.lo num) by_, overO (mulO t.hi num) by_⟩) := Lib.hid (by
              rw [tP, ← HT.out, hby]
              rfl)
            clear n3 hby bb no S2 HS
            go_upto_region 16 with fail
            refine wp_region_held_drew (S := fun w' => w'.cell? ⟨g, 1, none⟩ = some (.slice A (lim num).length c)) (by kernel_rfl) (HS1.out.below ((Below.refl wc.heap.size wc).drew)).q.c1 (fun hHeld => ?_)
            have bz := (Below.refl wc.heap.size wc).drew
            generalize wc.drew = wd at *
            refine tkw 0 (.pointer (some ⟨G, 0, none⟩)) rfl (by kernel_rfl) (by kernel_rfl) (by kernel_rfl) (fun _ _ _ h => h) ⟨by rfl, ?_⟩ (by assumption) ?_
            ·intro w hSw; go_simp; (try with_reducible rfl)
            try simp only [Act.put, tzA, tzB, tzD, tzE, tzF]
            refine tkw 2 (.pointer (some ⟨g, 1, none⟩)) rfl (by kernel_rfl) (by kernel_rfl) (by kernel_rfl) (fun _ _ _ h => h) ⟨by rfl, ?_⟩ (by assumption) ?_
            ·intro w hSw; go_simp; (try with_reducible rfl)
            try simp only [Act.put, tzA, tzB, tzC, tzD, tzE, tzF]
            refine tkw 3 (.slice A (lim num).length c) rfl (by kernel_rfl) (by kernel_rfl) (by kernel_rfl) (fun _ _ _ h => h) ⟨by rfl, ?_⟩ (by assumption) ?_
            ·intro w hSw; go_simp; (try with_reducible rfl)
            try simp only [Act.put, tzA, tzB, tzC, tzD, tzE, tzF]
            refine tkw 5 ((.slice A3 (lim by_).length c3)) rfl (by kernel_rfl) (by kernel_rfl) (by kernel_rfl) (fun _ _ _ h => h) ⟨by rfl, ?_⟩ (by assumption) ?_
            ·intro w hSw; go_simp; (try with_reducible rfl)
            try simp only [Act.put, tzA, tzB, tzC, tzD, tzE, tzF]
            refine tkw 7 (.pointer (some ⟨G, 1, none⟩)) rfl (by kernel_rfl) (by kernel_rfl) (by kernel_rfl) (fun _ _ _ h => h) ⟨by rfl, ?_⟩ (by assumption) ?_
            ·intro w hSw; go_simp; (try with_reducible rfl)
            try simp only [Act.put, tzA, tzB, tzC, tzD, tzE, tzF]
            refine tkw 9 (.pointer (some ⟨g, 1, none⟩)) rfl (by kernel_rfl) (by kernel_rfl) (by kernel_rfl) (fun _ _ _ h => h) ⟨by rfl, ?_⟩ (by assumption) ?_
            ·intro w hSw; go_simp; (try with_reducible rfl)
            try simp only [Act.put, tzA, tzB, tzC, tzD, tzE, tzF]
            refine tkw 10 (.slice A (lim num).length c) rfl (by kernel_rfl) (by kernel_rfl) (by kernel_rfl) (fun _ _ _ h => h) ⟨by rfl, ?_⟩ (by assumption) ?_
            ·intro w hSw; go_simp; (try with_reducible rfl)
            try simp only [Act.put, tzA, tzB, tzC, tzD, tzE, tzF]
            refine tkw 12 ((.slice A3 (lim by_).length c3)) rfl (by kernel_rfl) (by kernel_rfl) (by kernel_rfl) (fun _ _ _ h => h) ⟨by rfl, ?_⟩ (by assumption) ?_
            ·intro w hSw; go_simp; (try with_reducible rfl)
            try simp only [Act.put, tzA, tzB, tzC, tzD, tzE, tzF]
            refine wpAnyH_ready (rs := [1, 8]) (by kernel_rfl) (by simp) ?_
            refine AllReadyH.cons rfl (fun K hK => ?_) ?_
            ·have vd := (HS1.out.below bz).v11
             have k0 := vd.c0
             go_simp
             clear vd k0
             refine hK.out _ _ (by first | exact n6.q.c1 | exact (HS1.out.below bz).q.c1) (fun hHeld => ?_)
             clear hK K
             try simp only [Act.put]
             try simp only [tzD, tzE, tzF]
             refine wpAnyH_ready (rs := [4, 8]) (by kernel_rfl) (by simp) ?_
             refine AllReadyH.cons rfl (fun K hK => ?_) ?_
             ·go_simp
              go_at_call 78
              refine (emul_any wd _ _ _ _ t.lo num _ _ (HS1.out.below bz).v11.ok.lo (HS1.out.below bz).q.ok.num rfl rfl HG1.out HL1.out).mono ?_
              rintro _ wd ⟨B1, e1, rfl, m1, bb⟩
              try replace m1 := m1.below bb
              try replace m2 := m2.below bb
              try replace m3 := m3.below bb
              try replace m4 := m4.below bb
              replace bz := below_on bz bb bz.size
              clear bb
              refine hK.out _ _ (by first | exact n6.q.c1 | exact (HS1.out.below bz).q.c1) (fun hHeld => ?_)
              clear hK K
              try simp only [Act.put]
              try simp only [tzD, tzE, tzF]
              refine wpAnyH_ready (rs := [6, 8]) (by kernel_rfl) (by simp) ?_
              refine AllReadyH.cons rfl (fun K hK => ?_) ?_
              ·go_simp
               go_at_call 82
               refine (eunder_any wd _ _ _ _ (mulO t.lo num) by_ m1 (HBY.out.below bz) HM1.out HBL.out).mono ?_
               rintro _ wd ⟨B2, e2, rfl, m2, bb⟩
               try replace m1 := m1.below bb
               try replace m2 := m2.below bb
               try replace m3 := m3.below bb
               try replace m4 := m4.below bb
               replace bz := below_on bz bb bz.size
               clear bb
               refine hK.out _ _ (by first | exact n6.q.c1 | exact (HS1.out.below bz).q.c1) (fun hHeld => ?_)
               clear hK K
               try simp only [Act.put]
               try simp only [tzD, tzE, tzF]
               refine wpAnyH_ready (rs := [8]) (by kernel_rfl) (by simp) ?_
               refine AllReadyH.cons rfl (fun K hK => ?_) ?_
               ·have vd := (HS1.out.below bz).v11
                have k1 := vd.c1
                go_simp
                clear vd k1
                refine hK.out _ _ (by first | exact n6.q.c1 | exact (HS1.out.below bz).q.c1) (fun hHeld => ?_)
                clear hK K
                try simp only [Act.put]
                try simp only [tzD, tzE, tzF]
                refine wpAnyH_ready (rs := [11]) (by kernel_rfl) (by simp) ?_
                refine AllReadyH.cons rfl (fun K hK => ?_) ?_
                ·go_simp
                 go_at_call 78
                 refine (emul_any wd _ _ _ _ t.hi num _ _ (HS1.out.below bz).v11.ok.hi (HS1.out.below bz).q.ok.num rfl rfl HG2.out HL1.out).mono ?_
                 rintro _ wd ⟨B3, e3, rfl, m3, bb⟩
                 try replace m1 := m1.below bb
                 try replace m2 := m2.below bb
                 try replace m3 := m3.below bb
                 try replace m4 := m4.below bb
                 replace bz := below_on bz bb bz.size
                 clear bb
                 refine hK.out _ _ (by first | exact n6.q.c1 | exact (HS1.out.below bz).q.c1) (fun hHeld => ?_)
                 clear hK K
                 try simp only [Act.put]
                 try simp only [tzD, tzE, tzF]
                 refine wpAnyH_ready (rs := [13]) (by kernel_rfl) (by simp) ?_
                 refine AllReadyH.cons rfl (fun K hK => ?_) ?_
                 ·go_simp
                  go_at_call 83
                  refine (eover_any wd _ _ _ _ (mulO t.hi num) by_ m3 (HBY.out.below bz) HM2.out HBL.out).mono ?_
                  rintro _ wd ⟨B4, e4, rfl, m4, bb⟩
                  try replace m1 := m1.below bb
                  try replace m2 := m2.below bb
                  try replace m3 := m3.below bb
                  try replace m4 := m4.below bb
                  replace bz := below_on bz bb bz.size
                  clear bb
                  refine hK.out _ _ (by first | exact n6.q.c1 | exact (HS1.out.below bz).q.c1) (fun hHeld => ?_)
                  clear hK K
                  try simp only [Act.put]
                  try simp only [tzD, tzE, tzF]
                  refine tkw 14 (.agg #[.slice B2 (lim (divO (mulO t.lo num) by_)).length e2, .slice B4 (lim (overO (mulO t.hi num) by_)).length e4]) rfl (by kernel_rfl) (by kernel_rfl) (by kernel_rfl) (fun _ _ _ h => h) ⟨by rfl, ?_⟩ (by assumption) ?_
                  ·intro w hSw; go_simp; (try with_reducible rfl)
                  try simp only [Act.put, tzA, tzB, tzC, tzD, tzE, tzF]
                  refine wpAnyH_ready (rs := [15]) (by kernel_rfl) (by simp) ?_
                  refine AllReadyH.cons rfl (fun K hK => ?_) ?_
                  ·have hd := HS1.out.below bz
                   have k0 := hd.v11.c0
                   have k1 := hd.v11.c1
                   have k2 := hd.v11.f0
                   have k3 := hd.v11.f1
                   have n6 := hd.put11 (y := ⟨B2, e2, divO (mulO t.lo num) by_, B4, e4, overO (mulO t.hi num) by_⟩) ⟨m2, m4⟩
                   dsimp only [set2] at n6
                   go_simp
                   clear k0 k1 k2 k3 hd hHeld m1 m2 m3 m4 bz
                   generalize ((wd.setCell ⟨G, 0, none⟩ (.slice B2 (lim (divO (mulO t.lo num) by_)).length e2)).setCell ⟨G, 1, none⟩ (.slice B4 (lim (overO (mulO t.hi num) by_)).length e4)) = we at *
                   generalize we = wd at *
                   refine hK.out _ _ (by first | exact n6.q.c1 | exact (HS1.out.below bz).q.c1) (fun hHeld => ?_)
                   clear hK K
                   try simp only [Act.put]
                   try simp only [tzD, tzE, tzF]
                   refine wpAnyH_done (by kernel_rfl) ?_ _
                   go_wp2_with fail
                   go_roundw
                   case rel => exact ⟨k + 1, _, term, z, tail, by have := HKI.out; omega, by go_num, HNT.out.symm, HM.out, HZ.out, HL.out, n6⟩
                   case measure => simp [intOf]; omega
                  exact AllReadyH.nil
                 exact AllReadyH.nil
                exact AllReadyH.nil
               exact AllReadyH.nil
              refine AllReadyH.cons rfl (fun K hK => ?_) ?_
              ·have vd := (HS1.out.below bz).v11
               have k1 := vd.c1
               go_simp
               clear vd k1
               refine hK.out _ _ (by first | exact n6.q.c1 | exact (HS1.out.below bz).q.c1) (fun hHeld => ?_)
               clear hK K
               try simp only [Act.put]
               try simp only [tzD, tzE, tzF]
               refine wpAnyH_ready (rs := [6]) (by kernel_rfl) (by simp) ?_
               refine AllReadyH.cons rfl (fun K hK => ?_) ?_
               ·go_simp
                go_at_call 82
                refine (eunder_any wd _ _ _ _ (mulO t.lo num) by_ m1 (HBY.out.below bz) HM1.out HBL.out).mono ?_
                rintro _ wd ⟨B2, e2, rfl, m2, bb⟩
                try replace m1 := m1.below bb
                try replace m2 := m2.below bb
                try replace m3 := m3.below bb
                try replace m4 := m4.below bb
                replace bz := below_on bz bb bz.size
                clear bb
                refine hK.out _ _ (by first | exact n6.q.c1 | exact (HS1.out.below bz).q.c1) (fun hHeld => ?_)
                clear hK K
                try simp only [Act.put]
                try simp only [tzD, tzE, tzF]
                refine wpAnyH_ready (rs := [11]) (by kernel_rfl) (by simp) ?_
                refine AllReadyH.cons rfl (fun K hK => ?_) ?_
                ·go_simp
                 go_at_call 78
                 refine (emul_any wd _ _ _ _ t.hi num _ _ (HS1.out.below bz).v11.ok.hi (HS1.out.below bz).q.ok.num rfl rfl HG2.out HL1.out).mono ?_
                 rintro _ wd ⟨B3, e3, rfl, m3, bb⟩
                 try replace m1 := m1.below bb
                 try replace m2 := m2.below bb
                 try replace m3 := m3.below bb
                 try replace m4 := m4.below bb
                 replace bz := below_on bz bb bz.size
                 clear bb
                 refine hK.out _ _ (by first | exact n6.q.c1 | exact (HS1.out.below bz).q.c1) (fun hHeld => ?_)
                 clear hK K
                 try simp only [Act.put]
                 try simp only [tzD, tzE, tzF]
                 refine wpAnyH_ready (rs := [13]) (by kernel_rfl) (by simp) ?_
                 refine AllReadyH.cons rfl (fun K hK => ?_) ?_
                 ·go_simp
                  go_at_call 83
                  refine (eover_any wd _ _ _ _ (mulO t.hi num) by_ m3 (HBY.out.below bz) HM2.out HBL.out).mono ?_
                  rintro _ wd ⟨B4, e4, rfl, m4, bb⟩
                  try replace m1 := m1.below bb
                  try replace m2 := m2.below bb
                  try replace m3 := m3.below bb
                  try replace m4 := m4.below bb
                  replace bz := below_on bz bb bz.size
                  clear bb
                  refine hK.out _ _ (by first | exact n6.q.c1 | exact (HS1.out.below bz).q.c1) (fun hHeld => ?_)
                  clear hK K
                  try simp only [Act.put]
                  try simp only [tzD, tzE, tzF]
                  refine tkw 14 (.agg #[.slice B2 (lim (divO (mulO t.lo num) by_)).length e2, .slice B4 (lim (overO (mulO t.hi num) by_)).length e4]) rfl (by kernel_rfl) (by kernel_rfl) (by kernel_rfl) (fun _ _ _ h => h) ⟨by rfl, ?_⟩ (by assumption) ?_
                  ·intro w hSw; go_simp; (try with_reducible rfl)
                  try simp only [Act.put, tzA, tzB, tzC, tzD, tzE, tzF]
                  refine wpAnyH_ready (rs := [15]) (by kernel_rfl) (by simp) ?_
                  refine AllReadyH.cons rfl (fun K hK => ?_) ?_
                  ·have hd := HS1.out.below bz
                   have k0 := hd.v11.c0
                   have k1 := hd.v11.c1
                   have k2 := hd.v11.f0
                   have k3 := hd.v11.f1
                   have n6 := hd.put11 (y := ⟨B2, e2, divO (mulO t.lo num) by_, B4, e4, overO (mulO t.hi num) by_⟩) ⟨m2, m4⟩
                   dsimp only [set2] at n6
                   go_simp
                   clear k0 k1 k2 k3 hd hHeld m1 m2 m3 m4 bz
                   generalize ((wd.setCell ⟨G, 0, none⟩ (.slice B2 (lim (divO (mulO t.lo num) by_)).length e2)).setCell ⟨G, 1, none⟩ (.slice B4 (lim (overO (mulO t.hi num) by_)).length e4)) = we at *
                   generalize we = wd at *
                   refine hK.out _ _ (by first | exact n6.q.c1 | exact (HS1.out.below bz).q.c1) (fun hHeld => ?_)
                   clear hK K
                   try simp only [Act.put]
                   try simp only [tzD, tzE, tzF]
                   refine wpAnyH_done (by kernel_rfl) ?_ _
                   go_wp2_with fail
                   go_roundw
                   case rel => exact ⟨k + 1, _, term, z, tail, by have := HKI.out; omega, by go_num, HNT.out.symm, HM.out, HZ.out, HL.out, n6⟩
                   case measure => simp [intOf]; omega
                  exact AllReadyH.nil
                 exact AllReadyH.nil
                exact AllReadyH.nil
               exact AllReadyH.nil
              exact AllReadyH.nil
             refine AllReadyH.cons rfl (fun K hK => ?_) ?_
             ·have vd := (HS1.out.below bz).v11
              have k1 := vd.c1
              go_simp
              clear vd k1
              refine hK.out _ _ (by first | exact n6.q.c1 | exact (HS1.out.below bz).q.c1) (fun hHeld => ?_)
              clear hK K
              try simp only [Act.put]
              try simp only [tzD, tzE, tzF]
              refine wpAnyH_ready (rs := [4]) (by kernel_rfl) (by simp) ?_
              refine AllReadyH.cons rfl (fun K hK => ?_) ?_
              ·go_simp
               go_at_call 78
               refine (emul_any wd _ _ _ _ t.lo num _ _ (HS1.out.below bz).v11.ok.lo (HS1.out.below bz).q.ok.num rfl rfl HG1.out HL1.out).mono ?_
               rintro _ wd ⟨B1, e1, rfl, m1, bb⟩
               try replace m1 := m1.below bb
               try replace m2 := m2.below bb
               try replace m3 := m3.below bb
               try replace m4 := m4.below bb
               replace bz := below_on bz bb bz.size
               clear bb
               refine hK.out _ _ (by first | exact n6.q.c1 | exact (HS1.out.below bz).q.c1) (fun hHeld => ?_)
               clear hK K
               try simp only [Act.put]
               try simp only [tzD, tzE, tzF]
               refine wpAnyH_ready (rs := [6]) (by kernel_rfl) (by simp) ?_
               refine AllReadyH.cons rfl (fun K hK => ?_) ?_
               ·go_simp
                go_at_call 82
                refine (eunder_any wd _ _ _ _ (mulO t.lo num) by_ m1 (HBY.out.below bz) HM1.out HBL.out).mono ?_
                rintro _ wd ⟨B2, e2, rfl, m2, bb⟩
                try replace m1 := m1.below bb
                try replace m2 := m2.below bb
                try replace m3 := m3.below bb
                try replace m4 := m4.below bb
                replace bz := below_on bz bb bz.size
                clear bb
                refine hK.out _ _ (by first | exact n6.q.c1 | exact (HS1.out.below bz).q.c1) (fun hHeld => ?_)
                clear hK K
                try simp only [Act.put]
                try simp only [tzD, tzE, tzF]
                refine wpAnyH_ready (rs := [11]) (by kernel_rfl) (by simp) ?_
                refine AllReadyH.cons rfl (fun K hK => ?_) ?_
                ·go_simp
                 go_at_call 78
                 refine (emul_any wd _ _ _ _ t.hi num _ _ (HS1.out.below bz).v11.ok.hi (HS1.out.below bz).q.ok.num rfl rfl HG2.out HL1.out).mono ?_
                 rintro _ wd ⟨B3, e3, rfl, m3, bb⟩
                 try replace m1 := m1.below bb
                 try replace m2 := m2.below bb
                 try replace m3 := m3.below bb
                 try replace m4 := m4.below bb
                 replace bz := below_on bz bb bz.size
                 clear bb
                 refine hK.out _ _ (by first | exact n6.q.c1 | exact (HS1.out.below bz).q.c1) (fun hHeld => ?_)
                 clear hK K
                 try simp only [Act.put]
                 try simp only [tzD, tzE, tzF]
                 refine wpAnyH_ready (rs := [13]) (by kernel_rfl) (by simp) ?_
                 refine AllReadyH.cons rfl (fun K hK => ?_) ?_
                 ·go_simp
                  go_at_call 83
                  refine (eover_any wd _ _ _ _ (mulO t.hi num) by_ m3 (HBY.out.below bz) HM2.out HBL.out).mono ?_
                  rintro _ wd ⟨B4, e4, rfl, m4, bb⟩
                  try replace m1 := m1.below bb
                  try replace m2 := m2.below bb
                  try replace m3 := m3.below bb
                  try replace m4 := m4.below bb
                  replace bz := below_on bz bb bz.size
                  clear bb
                  refine hK.out _ _ (by first | exact n6.q.c1 | exact (HS1.out.below bz).q.c1) (fun hHeld => ?_)
                  clear hK K
                  try simp only [Act.put]
                  try simp only [tzD, tzE, tzF]
                  refine tkw 14 (.agg #[.slice B2 (lim (divO (mulO t.lo num) by_)).length e2, .slice B4 (lim (overO (mulO t.hi num) by_)).length e4]) rfl (by kernel_rfl) (by kernel_rfl) (by kernel_rfl) (fun _ _ _ h => h) ⟨by rfl, ?_⟩ (by assumption) ?_
                  ·intro w hSw; go_simp; (try with_reducible rfl)
                  try simp only [Act.put, tzA, tzB, tzC, tzD, tzE, tzF]
                  refine wpAnyH_ready (rs := [15]) (by kernel_rfl) (by simp) ?_
                  refine AllReadyH.cons rfl (fun K hK => ?_) ?_
                  ·have hd := HS1.out.below bz
                   have k0 := hd.v11.c0
                   have k1 := hd.v11.c1
                   have k2 := hd.v11.f0
                   have k3 := hd.v11.f1
                   have n6 := hd.put11 (y := ⟨B2, e2, divO (mulO t.lo num) by_, B4, e4, overO (mulO t.hi num) by_⟩) ⟨m2, m4⟩
                   dsimp only [set2] at n6
                   go_simp
                   clear k0 k1 k2 k3 hd hHeld m1 m2 m3 m4 bz
                   generalize ((wd.setCell ⟨G, 0, none⟩ (.slice B2 (lim (divO (mulO t.lo num) by_)).length e2)).setCell ⟨G, 1, none⟩ (.slice B4 (lim (overO (mulO t.hi num) by_)).length e4)) = we at *
                   generalize we = wd at *
                   refine hK.out _ _ (by first | exact n6.q.c1 | exact (HS1.out.below bz).q.c1) (fun hHeld => ?_)
                   clear hK K
                   try simp only [Act.put]
                   try simp only [tzD, tzE, tzF]
                   refine wpAnyH_done (by kernel_rfl) ?_ _
                   go_wp2_with fail
                   go_roundw
                   case rel => exact ⟨k + 1, _, term, z, tail, by have := HKI.out; omega, by go_num, HNT.out.symm, HM.out, HZ.out, HL.out, n6⟩
                   case measure => simp [intOf]; omega
                  exact AllReadyH.nil
                 exact AllReadyH.nil
                exact AllReadyH.nil
               exact AllReadyH.nil
              exact AllReadyH.nil
             exact AllReadyH.nil
            refine AllReadyH.cons rfl (fun K hK => ?_) ?_
            ·have vd := (HS1.out.below bz).v11
             have k1 := vd.c1
             go_simp
             clear vd k1
             refine hK.out _ _ (by first | exact n6.q.c1 | exact (HS1.out.below bz).q.c1) (fun hHeld => ?_)
             clear hK K
             try simp only [Act.put]
             try simp only [tzD, tzE, tzF]
             refine wpAnyH_ready (rs := [1]) (by kernel_rfl) (by simp) ?_
             refine AllReadyH.cons rfl (fun K hK => ?_) ?_
             ·have vd := (HS1.out.below bz).v11
              have k0 := vd.c0
              go_simp
              clear vd k0
              refine hK.out _ _ (by first | exact n6.q.c1 | exact (HS1.out.below bz).q.c1) (fun hHeld => ?_)
              clear hK K
              try simp only [Act.put]
              try simp only [tzD, tzE, tzF]
              refine wpAnyH_ready (rs := [4]) (by kernel_rfl) (by simp) ?_
              refine AllReadyH.cons rfl (fun K hK => ?_) ?_
              ·go_simp
               go_at_call 78
               refine (emul_any wd _ _ _ _ t.lo num _ _ (HS1.out.below bz).v11.ok.lo (HS1.out.below bz).q.ok.num rfl rfl HG1.out HL1.out).mono ?_
               rintro _ wd ⟨B1, e1, rfl, m1, bb⟩
               try replace m1 := m1.below bb
               try replace m2 := m2.below bb
               try replace m3 := m3.below bb
               try replace m4 := m4.below bb
               replace bz := below_on bz bb bz.size
               clear bb
               refine hK.out _ _ (by first | exact n6.q.c1 | exact (HS1.out.below bz).q.c1) (fun hHeld => ?_)
               clear hK K
               try simp only [Act.put]
               try simp only [tzD, tzE, tzF]
               refine wpAnyH_ready (rs := [6]) (by kernel_rfl) (by simp) ?_
               refine AllReadyH.cons rfl (fun K hK => ?_) ?_
               ·go_simp
                go_at_call 82
                refine (eunder_any wd _ _ _ _ (mulO t.lo num) by_ m1 (HBY.out.below bz) HM1.out HBL.out).mono ?_
                rintro _ wd ⟨B2, e2, rfl, m2, bb⟩
                try replace m1 := m1.below bb
                try replace m2 := m2.below bb
                try replace m3 := m3.below bb
                try replace m4 := m4.below bb
                replace bz := below_on bz bb bz.size
                clear bb
                refine hK.out _ _ (by first | exact n6.q.c1 | exact (HS1.out.below bz).q.c1) (fun hHeld => ?_)
                clear hK K
                try simp only [Act.put]
                try simp only [tzD, tzE, tzF]
                refine wpAnyH_ready (rs := [11]) (by kernel_rfl) (by simp) ?_
                refine AllReadyH.cons rfl (fun K hK => ?_) ?_
                ·go_simp
                 go_at_call 78
                 refine (emul_any wd _ _ _ _ t.hi num _ _ (HS1.out.below bz).v11.ok.hi (HS1.out.below bz).q.ok.num rfl rfl HG2.out HL1.out).mono ?_
                 rintro _ wd ⟨B3, e3, rfl, m3, bb⟩
                 try replace m1 := m1.below bb
                 try replace m2 := m2.below bb
                 try replace m3 := m3.below bb
                 try replace m4 := m4.below bb
                 replace bz := below_on bz bb bz.size
                 clear bb
                 refine hK.out _ _ (by first | exact n6.q.c1 | exact (HS1.out.below bz).q.c1) (fun hHeld => ?_)
                 clear hK K
                 try simp only [Act.put]
                 try simp only [tzD, tzE, tzF]
                 refine wpAnyH_ready (rs := [13]) (by kernel_rfl) (by simp) ?_
                 refine AllReadyH.cons rfl (fun K hK => ?_) ?_
                 ·go_simp
                  go_at_call 83
                  refine (eover_any wd _ _ _ _ (mulO t.hi num) by_ m3 (HBY.out.below bz) HM2.out HBL.out).mono ?_
                  rintro _ wd ⟨B4, e4, rfl, m4, bb⟩
                  try replace m1 := m1.below bb
                  try replace m2 := m2.below bb
                  try replace m3 := m3.below bb
                  try replace m4 := m4.below bb
                  replace bz := below_on bz bb bz.size
                  clear bb
                  refine hK.out _ _ (by first | exact n6.q.c1 | exact (HS1.out.below bz).q.c1) (fun hHeld => ?_)
                  clear hK K
                  try simp only [Act.put]
                  try simp only [tzD, tzE, tzF]
                  refine tkw 14 (.agg #[.slice B2 (lim (divO (mulO t.lo num) by_)).length e2, .slice B4 (lim (overO (mulO t.hi num) by_)).length e4]) rfl (by kernel_rfl) (by kernel_rfl) (by kernel_rfl) (fun _ _ _ h => h) ⟨by rfl, ?_⟩ (by assumption) ?_
                  ·intro w hSw; go_simp; (try with_reducible rfl)
                  try simp only [Act.put, tzA, tzB, tzC, tzD, tzE, tzF]
                  refine wpAnyH_ready (rs := [15]) (by kernel_rfl) (by simp) ?_
                  refine AllReadyH.cons rfl (fun K hK => ?_) ?_
                  ·have hd := HS1.out.below bz
                   have k0 := hd.v11.c0
                   have k1 := hd.v11.c1
                   have k2 := hd.v11.f0
                   have k3 := hd.v11.f1
                   have n6 := hd.put11 (y := ⟨B2, e2, divO (mulO t.lo num) by_, B4, e4, overO (mulO t.hi num) by_⟩) ⟨m2, m4⟩
                   dsimp only [set2] at n6
                   go_simp
                   clear k0 k1 k2 k3 hd hHeld m1 m2 m3 m4 bz
                   generalize ((wd.setCell ⟨G, 0, none⟩ (.slice B2 (lim (divO (mulO t.lo num) by_)).length e2)).setCell ⟨G, 1, none⟩ (.slice B4 (lim (overO (mulO t.hi num) by_)).length e4)) = we at *
                   generalize we = wd at *
                   refine hK.out _ _ (by first | exact n6.q.c1 | exact (HS1.out.below bz).q.c1) (fun hHeld => ?_)
                   clear hK K
                   try simp only [Act.put]
                   try simp only [tzD, tzE, tzF]
                   refine wpAnyH_done (by kernel_rfl) ?_ _
                   go_wp2_with fail
                   go_roundw
                   case rel => exact ⟨k + 1, _, term, z, tail, by have := HKI.out; omega, by go_num, HNT.out.symm, HM.out, HZ.out, HL.out, n6⟩
                   case measure => simp [intOf]; omega
                  exact AllReadyH.nil
                 exact AllReadyH.nil
                exact AllReadyH.nil
               exact AllReadyH.nil
              exact AllReadyH.nil
             exact AllReadyH.nil
            exact AllReadyH.nil
end Go.Proofs.Ytnmomigaedfdoaa
