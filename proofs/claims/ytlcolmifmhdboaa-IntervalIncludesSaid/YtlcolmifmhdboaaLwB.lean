/- The order of rational numbers, as Cmp tells it. No program in sight. The walk of same.Nat: two numbers have the same limbs. The walk of same.Frac: two fractions have the same sign and the same limbs. The walk of drydocklaw02.long. The walk of drydocklaw02.awake. -/
import Derived.Test.YtlcolmifmhdboaaFrcU
import Derived.Test.YtlcolmifmhdboaaNatA
import Derived.Test.YtlcolmifmhdboaaFrB
import Derived.Test.YtlcolmifmhdboaaFrC
import Derived.Test.YtlcolmifmhdboaaFrD
import Derived.Test.YtlcolmifmhdboaaNatL
namespace Go.Proofs.Ytlcolmifmhdboaa

set_option maxRecDepth 100000 in
theorem cmpQ_lt {p q : Rat} (h : p < q) : cmpQ p q = -1 := by rw [cmpQ, if_pos h]
set_option maxRecDepth 100000 in
theorem cmpQ_gt {p q : Rat} (h : q < p) : cmpQ p q = 1 := by rw [cmpQ, if_neg (by grind), if_pos h]
set_option maxRecDepth 100000 in
theorem cmpQ_eq {p q : Rat} (h : p = q) : cmpQ p q = 0 := by subst h; rw [cmpQ, if_neg (by grind), if_neg (by grind)]
set_option maxRecDepth 100000 in
theorem tri (p q : Rat) : p < q ∨ p = q ∨ q < p := by grind
set_option maxRecDepth 100000 in
theorem cmpQ_cases (p q : Rat) : (p < q ∧ cmpQ p q = -1) ∨ (p = q ∧ cmpQ p q = 0) ∨ (q < p ∧ cmpQ p q = 1) := by
  rcases tri p q with h | h | h
  · exact .inl ⟨h, cmpQ_lt h⟩
  · exact .inr (.inl ⟨h, cmpQ_eq h⟩)
  · exact .inr (.inr ⟨h, cmpQ_gt h⟩)
set_option maxRecDepth 100000 in
theorem cmpQ_swap (p q : Rat) : cmpQ q p = - cmpQ p q := by
  rcases tri p q with h | h | h
  · rw [cmpQ_lt h, cmpQ_gt h]; rfl
  · rw [cmpQ_eq h, cmpQ_eq h.symm]; rfl
  · rw [cmpQ_gt h, cmpQ_lt h]
set_option maxRecDepth 100000 in
theorem cmpQ_add (p q r : Rat) : cmpQ (p + r) (q + r) = cmpQ p q := by
  rcases tri p q with h | h | h
  · rw [cmpQ_lt h, cmpQ_lt (by grind)]
  · rw [cmpQ_eq h, cmpQ_eq (by rw [h])]
  · rw [cmpQ_gt h, cmpQ_gt (by grind)]
set_option maxRecDepth 100000 in
theorem mul_lt_pos {p q r : Rat} (h : p < q) (hr : 0 < r) : p * r < q * r := Rat.mul_lt_mul_of_pos_right h hr
set_option maxRecDepth 100000 in
theorem mul_lt_neg {p q r : Rat} (h : p < q) (hr : r < 0) : q * r < p * r := by
  have := mul_lt_pos h (r := -r) (by grind)
  grind
set_option maxRecDepth 100000 in
theorem cmpQ_mul (p q r : Rat) : cmpQ (p * r) (q * r) = cmpQ p q * cmpQ r 0 := by
  rcases tri r 0 with hr | hr | hr
  · rw [cmpQ_lt hr]
    rcases tri p q with h | h | h
    · rw [cmpQ_lt h, cmpQ_gt (mul_lt_neg h hr)]; rfl
    · rw [cmpQ_eq h, cmpQ_eq (by rw [h])]; rfl
    · rw [cmpQ_gt h, cmpQ_lt (mul_lt_neg h hr)]; rfl
  · rw [cmpQ_eq hr, Int.mul_zero, cmpQ_eq (by rw [hr, Rat.mul_zero, Rat.mul_zero])]
  · rw [cmpQ_gt hr, Int.mul_one]
    rcases tri p q with h | h | h
    · rw [cmpQ_lt h, cmpQ_lt (mul_lt_pos h hr)]
    · rw [cmpQ_eq h, cmpQ_eq (by rw [h])]
    · rw [cmpQ_gt h, cmpQ_gt (mul_lt_pos h hr)]
set_option maxRecDepth 100000 in
/-- the nine ways in which three numbers can lie -/
theorem cmpQ_three (p q r : Rat) : (cmpQ p q = -1 ∨ cmpQ p q = 0 ∨ cmpQ p q = 1) ∧ (cmpQ q r = -1 ∨ cmpQ q r = 0 ∨ cmpQ q r = 1) ∧ (cmpQ p r = -1 ∨ cmpQ p r = 0 ∨ cmpQ p r = 1) ∧
    (cmpQ p q ≤ 0 → cmpQ q r ≤ 0 → cmpQ p r ≤ 0) ∧ (0 ≤ cmpQ p q → 0 ≤ cmpQ q r → 0 ≤ cmpQ p r) := by
  rcases cmpQ_cases p q with ⟨h1, e1⟩ | ⟨h1, e1⟩ | ⟨h1, e1⟩ <;> rcases cmpQ_cases q r with ⟨h2, e2⟩ | ⟨h2, e2⟩ | ⟨h2, e2⟩ <;> rcases cmpQ_cases p r with ⟨h3, e3⟩ | ⟨h3, e3⟩ | ⟨h3, e3⟩ <;> rw [e1, e2, e3] <;>
    first | (refine ⟨?_, ?_, ?_, ?_, ?_⟩ <;> omega) | (exfalso; grind)
end Go.Proofs.Ytlcolmifmhdboaa
namespace Go.Proofs.Ytlcolmifmhdboaa
open Go.RowKit

set_option maxRecDepth 100000 in
theorem same_any (w : World) (A D : Option Addr) (c d n m : Nat) (xs ys : List Nat) (b : Bool) (h : Nt w A c xs) (k : Nt w D d ys) (hn : n = xs.length) (hm : m = ys.length) (hb : decide (xs = ys) = b) :
    Calls Try.prog 66 #[.slice A n c, .slice D m d] w fun e w' => e = .returned (.bool b) ∧ Qt w w' := by
  have HB := Lib.hid hb; clear hb
  subst hn hm
  have h3 := h.len
  have k3 := k.len
  by_cases hl : xs.length = ys.length
  · have HL := Lib.hid hl
    have hl1 : ((xs.length : Int) != (ys.length : Int)) = false := by simp [hl]
    have hl2 : xs.length ≤ ys.length := by omega
    clear hl
    go_enter Try.func66, Try.ntmps66
    go_wp2_with fail
    go_loopw [5] (fun i wr => ∃ k : Nat, k ≤ xs.length ∧ i = .int .i64 k ∧ (∀ j (h1 : j < xs.length) (h2 : j < ys.length), j < k → xs[j] = ys[j]) ∧ Qt w wr) (fun i _ => xs.length - (intOf i).toNat)
    case atStart => exact ⟨0, by omega, rfl, fun j _ _ h => absurd h (by omega), Qt.refl _⟩
    case round =>
      obtain ⟨i, hi, rfl, he, q⟩ := hrel
      have HE := Lib.hid he
      clear he
      by_cases hlt : i < xs.length
      · have hlt2 : i < ys.length := by omega
        obtain ⟨adX, rfl, hbX, hcX, hvX⟩ := (h.below (q.below _)).at i hlt
        obtain ⟨adY, rfl, hbY, hcY, hvY⟩ := (k.below (q.below _)).at i hlt2
        clear h k
        by_cases hxy : xs[i] = ys[i]
        · have HX := Lib.hid hxy
          have hx1 : ((xs[i] : Int) != (ys[i] : Int)) = false := by simp [hxy]
          clear hxy
          go_wp2_with fail
          go_quiet (fail)
          go_wp2_with fail
          go_roundw
          case rel => exact ⟨i + 1, by omega, by go_num, fun j h1 h2 h3 => by
            rcases Nat.lt_or_ge j i with h4 | h4
            · exact HE.out j h1 h2 h4
            · have : j = i := by omega
              subst this
              exact HX.out, q.drewN _⟩
          case measure => simp [intOf]; omega
        · have hx1 : ((xs[i] : Int) != (ys[i] : Int)) = true := by rw [bne_iff_ne]; omega
          go_wp2_with fail
          go_quiet (fail)
          go_wp2_with fail
          go_ret
          exact ⟨ret_bool (by rw [← HB.out]; symm; apply decide_eq_false; intro e; subst e; exact hxy rfl), q.drewN _⟩
      · go_wp2_with fail
        go_ret
        exact ⟨ret_bool (by rw [← HB.out]; symm; apply decide_eq_true; exact List.ext_getElem HL.out fun j h1 h2 => HE.out j h1 h2 (by omega)), q⟩
  · have hl1 : ((xs.length : Int) != (ys.length : Int)) = true := by rw [bne_iff_ne]; omega
    go_enter Try.func66, Try.ntmps66
    go_wp2_with fail
    go_ret
    exact ⟨ret_bool (by rw [← HB.out]; symm; apply decide_eq_false; intro e; exact hl (by rw [e])), Qt.refl _⟩
end Go.Proofs.Ytlcolmifmhdboaa
namespace Go.Proofs.Ytlcolmifmhdboaa
open Go.RowKit

set_option maxRecDepth 100000 in
set_option maxHeartbeats 1600000 in
theorem samef_any (w : World) (x y : Fx) (b : Bool) (hx : x.ok w) (hy : y.ok w) (hb : decide (x.b = y.b ∧ x.xs = y.xs ∧ x.ys = y.ys) = b) :
    Calls Try.prog 18 #[x.val, y.val] w fun e w' => e = .returned (.bool b) ∧ Below w.heap.size w w' := by
  have HB := Lib.hid hb; clear hb
  by_cases h1 : x.b = y.b
  · have h1b : (x.b == y.b) = true := by simp [h1]
    have H1 := Lib.hid h1
    clear h1
    by_cases h2 : x.xs = y.xs
    · have H2 := Lib.hid h2
      clear h2
      go_enter Try.func18, Try.ntmps18
      go_wp2_with fail
      have b0 := (Below.refl w.heap.size w).alloc (Nat.le_refl _) (.cells x.cells 25)
      have bx := bk3_alloc w (.bool x.b) (.slice x.A x.xs.length x.c) (.slice x.D x.ys.length x.d)
      have okx := hx.below b0
      have oky := hy.below b0
      have sz0 := size_box w (.cells x.cells 25)
      have bw := b0
      clear b0
      generalize (w.alloc (.cells x.cells 25)) = wa at bx okx oky sz0 bw ⊢
      have b1 := (Below.refl wa.heap.size wa).alloc (Nat.le_refl _) (.cells y.cells 25)
      have by_ := bk3_alloc wa (.bool y.b) (.slice y.A y.xs.length y.c) (.slice y.D y.ys.length y.d)
      rw [sz0] at by_
      replace bx := bx.below b1
      replace okx := okx.below b1
      replace oky := oky.below b1
      replace bw := below_on bw b1 bw.size
      clear b1 sz0
      generalize (wa.alloc (.cells y.cells 25)) = w1 at bx by_ okx oky bw ⊢
      have tx := bx
      obtain ⟨x0, x1, x2, xf0, xf1, xf2, xlt, xb⟩ := tx
      clear xb
      have ty := by_
      obtain ⟨y0, y1, y2, yf0, yf1, yf2, ylt, yb⟩ := ty
      clear yb
      go_wp2_with fail
      clear x0 x1 x2 xf0 xf1 xf2 xlt
      clear y0 y1 y2 yf0 yf1 yf2 ylt
      refine (same_any _ x.A y.A x.c y.c _ _ x.xs y.xs true okx.num oky.num rfl rfl (decide_eq_true H2.out)).mono ?_
      rintro e wn ⟨rfl, qq⟩
      have bb := qq.keep
      clear qq
      replace bx := bx.below bb
      replace by_ := by_.below bb
      replace okx := okx.below bb
      replace oky := oky.below bb
      replace bw := below_on bw bb bw.size
      clear bb
      have tx := bx
      obtain ⟨x0, x1, x2, xf0, xf1, xf2, xlt, xb⟩ := tx
      clear xb
      have ty := by_
      obtain ⟨y0, y1, y2, yf0, yf1, yf2, ylt, yb⟩ := ty
      clear yb
      go_wp2_with fail
      clear x0 x1 x2 xf0 xf1 xf2 xlt
      clear y0 y1 y2 yf0 yf1 yf2 ylt
      refine (same_any _ x.D y.D x.d y.d _ _ x.ys y.ys _ okx.den oky.den rfl rfl rfl).mono ?_
      rintro e wn ⟨rfl, qq⟩
      have bb := qq.keep
      clear qq
      replace bx := bx.below bb
      replace by_ := by_.below bb
      replace okx := okx.below bb
      replace oky := oky.below bb
      replace bw := below_on bw bb bw.size
      clear bb
      go_wp2_with fail
      go_ret
      exact ⟨ret_bool (by rw [← HB.out]; have h1 := H1.out; have h2 := H2.out; simp [h1, h2]), bw⟩
    · have H2 : Hid (¬ x.xs = y.xs) := h2
      clear h2
      go_enter Try.func18, Try.ntmps18
      go_wp2_with fail
      have b0 := (Below.refl w.heap.size w).alloc (Nat.le_refl _) (.cells x.cells 25)
      have bx := bk3_alloc w (.bool x.b) (.slice x.A x.xs.length x.c) (.slice x.D x.ys.length x.d)
      have okx := hx.below b0
      have oky := hy.below b0
      have sz0 := size_box w (.cells x.cells 25)
      have bw := b0
      clear b0
      generalize (w.alloc (.cells x.cells 25)) = wa at bx okx oky sz0 bw ⊢
      have b1 := (Below.refl wa.heap.size wa).alloc (Nat.le_refl _) (.cells y.cells 25)
      have by_ := bk3_alloc wa (.bool y.b) (.slice y.A y.xs.length y.c) (.slice y.D y.ys.length y.d)
      rw [sz0] at by_
      replace bx := bx.below b1
      replace okx := okx.below b1
      replace oky := oky.below b1
      replace bw := below_on bw b1 bw.size
      clear b1 sz0
      generalize (wa.alloc (.cells y.cells 25)) = w1 at bx by_ okx oky bw ⊢
      have tx := bx
      obtain ⟨x0, x1, x2, xf0, xf1, xf2, xlt, xb⟩ := tx
      clear xb
      have ty := by_
      obtain ⟨y0, y1, y2, yf0, yf1, yf2, ylt, yb⟩ := ty
      clear yb
      go_wp2_with fail
      clear x0 x1 x2 xf0 xf1 xf2 xlt
      clear y0 y1 y2 yf0 yf1 yf2 ylt
      refine (same_any _ x.A y.A x.c y.c _ _ x.xs y.xs false okx.num oky.num rfl rfl (decide_eq_false H2.out)).mono ?_
      rintro e wn ⟨rfl, qq⟩
      have bb := qq.keep
      clear qq
      replace bx := bx.below bb
      replace by_ := by_.below bb
      replace okx := okx.below bb
      replace oky := oky.below bb
      replace bw := below_on bw bb bw.size
      clear bb
      go_wp2_with fail
      go_ret
      exact ⟨ret_bool (by rw [← HB.out]; symm; apply decide_eq_false; intro h; exact H2.out h.2.1), bw⟩
  · have h1b : (x.b == y.b) = false := by simpa using h1
    have H1 : Hid (¬ x.b = y.b) := h1
    clear h1
    go_enter Try.func18, Try.ntmps18
    go_wp2_with fail
    have b0 := (Below.refl w.heap.size w).alloc (Nat.le_refl _) (.cells x.cells 25)
    have bx := bk3_alloc w (.bool x.b) (.slice x.A x.xs.length x.c) (.slice x.D x.ys.length x.d)
    have okx := hx.below b0
    have oky := hy.below b0
    have sz0 := size_box w (.cells x.cells 25)
    have bw := b0
    clear b0
    generalize (w.alloc (.cells x.cells 25)) = wa at bx okx oky sz0 bw ⊢
    have b1 := (Below.refl wa.heap.size wa).alloc (Nat.le_refl _) (.cells y.cells 25)
    have by_ := bk3_alloc wa (.bool y.b) (.slice y.A y.xs.length y.c) (.slice y.D y.ys.length y.d)
    rw [sz0] at by_
    replace bx := bx.below b1
    replace okx := okx.below b1
    replace oky := oky.below b1
    replace bw := below_on bw b1 bw.size
    clear b1 sz0
    generalize (wa.alloc (.cells y.cells 25)) = w1 at bx by_ okx oky bw ⊢
    have tx := bx
    obtain ⟨x0, x1, x2, xf0, xf1, xf2, xlt, xb⟩ := tx
    clear xb
    have ty := by_
    obtain ⟨y0, y1, y2, yf0, yf1, yf2, ylt, yb⟩ := ty
    clear yb
    go_wp2_with fail
    go_ret
    exact ⟨ret_bool (by rw [← HB.out]; symm; apply decide_eq_false; intro h; exact H1.out h.1), bw⟩
end Go.Proofs.Ytlcolmifmhdboaa
namespace Go.Proofs.Ytlcolmifmhdboaa
open Go.RowKit

/-- a slice that reads as fractions -/
def RdF (w : World) (A : Option Addr) (vs : List Fx) : Prop := 0 < vs.length → ∃ ad, A = some ad ∧ ad.block < w.heap.size ∧
  ∀ k (hk : k < vs.length), w.cell? (ad.add (k * 3)) = some (.bool vs[k].b) ∧ w.cell? ⟨(ad.add (k * 3)).block, (ad.add (k * 3)).off + 1, none⟩ = some (.slice vs[k].A vs[k].xs.length vs[k].c) ∧ w.cell? ⟨(ad.add (k * 3)).block, (ad.add (k * 3)).off + 2, none⟩ = some (.slice vs[k].D vs[k].ys.length vs[k].d)
def longB (vs : List Fx) : Bool := vs.any (fun v => decide (24 < v.xs.length) || decide (24 < v.ys.length))
set_option maxRecDepth 100000 in
theorem flong_any (w : World) (A : Option Addr) (n c : Nat) (vs : List Fx) (b : Bool) (h : RdF w A vs) (hn : n = vs.length) (hc : vs.length ≤ 1000) (hs : ∀ v ∈ vs, v.xs.length ≤ 9223372036854775807 ∧ v.ys.length ≤ 9223372036854775807)
    (hb : longB vs = b) :
    Calls Try.prog 10 #[.slice A n c] w fun e w' => e = .returned (.bool b) ∧ w = w' := by
  have HB := Lib.hid hb; clear hb
  have HS := Lib.hid hs; clear hs
  subst hn
  go_enter Try.func10, Try.ntmps10
  go_wp2_with fail
  go_loop [3] (fun i => ∃ k : Nat, k ≤ vs.length ∧ i = .int .i64 k ∧ longB (vs.take k) = false) (fun i => vs.length - (intOf i).toNat)
  case atStart => exact ⟨0, by omega, rfl, rfl⟩
  case round =>
    obtain ⟨k, hk, rfl, ha⟩ := hrel
    have HA := Lib.hid ha
    clear ha
    by_cases hlt : k < vs.length
    · obtain ⟨ad, rfl, _, hcc⟩ := h (by omega)
      obtain ⟨_, hc1, hc2⟩ := hcc k hlt
      have hle := HS.out _ (List.getElem_mem hlt)
      clear hcc h
      by_cases h60 : 24 < vs[k].xs.length
      · go_wp2_with fail
        go_ret
        exact ⟨ret_bool (by rw [← HB.out]; symm; unfold longB; rw [List.any_eq_true]; exact ⟨vs[k], List.getElem_mem hlt, by simp [h60]⟩), rfl⟩
      · by_cases h61 : 24 < vs[k].ys.length
        · go_wp2_with fail
          go_ret
          exact ⟨ret_bool (by rw [← HB.out]; symm; unfold longB; rw [List.any_eq_true]; exact ⟨vs[k], List.getElem_mem hlt, by simp [h61]⟩), rfl⟩
        · go_wp2_with fail
          go_round
          case rel => exact ⟨k + 1, by omega, by go_num, by have := HA.out; unfold longB at *; rw [List.take_succ_eq_append_getElem hlt, List.any_append, this]; simp; omega⟩
          case measure => simp [intOf]; omega
    · go_wp2_with fail
      go_ret
      exact ⟨ret_bool (by rw [← HB.out, ← HA.out, List.take_of_length_le (by omega)]), rfl⟩
end Go.Proofs.Ytlcolmifmhdboaa
namespace Go.Proofs.Ytlcolmifmhdboaa
open Go.RowKit

def q12 : Rat := Rat.divInt 1 2
def q13 : Rat := Rat.divInt (-1) (-3)
def q56 : Rat := q12 + q13
set_option maxRecDepth 100000 in
theorem sz12 : Sz q12 128 128 := by constructor <;> (rw [lim_length_le]; decide)
set_option maxRecDepth 100000 in
theorem sz13 : Sz q13 128 128 := by constructor <;> (rw [lim_length_le]; decide)
set_option maxRecDepth 100000 in
theorem sz56 : Sz q56 128 128 := by constructor <;> (rw [lim_length_le]; decide +kernel)
set_option maxRecDepth 100000 in
theorem num56 : q56.num = 5 := by decide +kernel
set_option maxRecDepth 100000 in
theorem den56 : q56.den = 6 := by decide +kernel
set_option maxRecDepth 100000 in
theorem txt56 : txtQ q56 = (⟨#[53, 47, 54]⟩ : ByteArray) := by
  rw [txtQ, num56, den56, if_pos (by omega), if_neg (by omega), decT, decT, if_neg (by decide), if_neg (by decide)]
  simp only [decR_pos, decR_zero, show Int.natAbs 5 = 5 from rfl, ne_eq, Nat.reduceEqDiff, not_false_eq_true, Nat.reduceDiv, Nat.reduceMod]
  rfl
set_option maxRecDepth 100000 in
set_option maxHeartbeats 1600000 in
theorem awakef_any (w : World) : Calls Try.prog 12 #[] w fun e w' => e = .returned (.bool true) ∧ Below w.heap.size w w' := by
  go_enter Try.func12, Try.ntmps12
  go_wp2_with fail
  refine (fmake_any w 1 2 (okS q12) (by omega) (by omega) (by omega) (by omega) (by rw [makeF, if_neg (by omega)]; exact frS_ok sz12)).mono ?_
  rintro e wn ⟨x1, rfl, hs, ok1, bb⟩
  have R1 := Rp.of hs
  have e0 : (okS q12).2.2.2 = 0 := rfl
  have bw := Below.refl w.heap.size w
  clear hs
  replace bw := below_on bw bb bw.size
  clear bb
  go_upto_region 2 with fail
  have a1 := (fa_alloc ok1).1
  have bb := (fa_alloc ok1).2
  clear ok1
  generalize (wn.alloc (.cells #[.bool x1.b, .slice x1.A x1.xs.length x1.c, .slice x1.D x1.ys.length x1.d] 25)) = wm at a1 bb ⊢
  try replace a1 := a1.below bb
  replace bw := below_on bw bb bw.size
  clear bb
  generalize wn.heap.size = g1 at a1 ⊢
  clear e0
  go_wp2_with fail
  refine (fmake_any _ (-1) (-3) (okS q13) (by omega) (by omega) (by omega) (by omega) (by rw [makeF, if_neg (by omega)]; exact frS_ok sz13)).mono ?_
  rintro e wn ⟨x2, rfl, hs, ok2, bb⟩
  have R2 := Rp.of hs
  have e0 : (okS q13).2.2.2 = 0 := rfl
  clear hs
  try replace a1 := a1.below bb
  replace bw := below_on bw bb bw.size
  clear bb
  go_upto_region 3 with fail
  have a2 := (fa_alloc ok2).1
  have bb := (fa_alloc ok2).2
  clear ok2
  generalize (wn.alloc (.cells #[.bool x2.b, .slice x2.A x2.xs.length x2.c, .slice x2.D x2.ys.length x2.d] 25)) = wm at a2 bb ⊢
  try replace a1 := a1.below bb
  try replace a2 := a2.below bb
  replace bw := below_on bw bb bw.size
  clear bb
  generalize wn.heap.size = g2 at a2 ⊢
  clear e0
  have l1 := R1.l1 sz12
  have m1 := R1.l2 sz12
  have l2 := R2.l1 sz13
  have m2 := R2.l2 sz13
  have e0 : (okS q56).2.2.2 = 0 := rfl
  have ci0 := a1.c0
  have ci1 := a1.c1
  have ci2 := a1.c2
  have cj0 := a2.c0
  have cj1 := a2.c1
  have cj2 := a2.c2
  go_wp2_with fail
  clear ci0 ci1 ci2 cj0 cj1 cj2
  refine (fadd_any _ x1 x2 (okS q56) a1.ok a2.ok l1 m1 l2 m2 (by rw [addF, if_pos ⟨R1.v sz12, R2.v sz13⟩, R1.q, R2.q]; exact frS_ok sz56)).mono ?_
  rintro e wn ⟨x3, rfl, hs3, ok3, bb⟩
  have HS3 := Lib.hid hs3
  clear hs3
  try replace a1 := a1.below bb
  try replace a2 := a2.below bb
  replace bw := below_on bw bb bw.size
  clear bb
  go_upto_region 4 with fail
  have a3 := (fa_alloc ok3).1
  have bb := (fa_alloc ok3).2
  clear ok3
  generalize (wn.alloc (.cells #[.bool x3.b, .slice x3.A x3.xs.length x3.c, .slice x3.D x3.ys.length x3.d] 25)) = wm at a3 bb ⊢
  try replace a1 := a1.below bb
  try replace a2 := a2.below bb
  try replace a3 := a3.below bb
  replace bw := below_on bw bb bw.size
  clear bb
  generalize wn.heap.size = g3 at a3 ⊢
  have R3 := Rp.of HS3.out
  clear e0
  have l3 := R3.l1 sz56
  have m3 := R3.l2 sz56
  have ci0 := a3.c0
  have ci1 := a3.c1
  have ci2 := a3.c2
  go_wp2_with fail
  clear ci0 ci1 ci2
  refine (fformat_any _ x3 ((⟨#[53, 47, 54]⟩ : ByteArray), 0) a3.ok l3 m3 (by rw [fmtF, if_pos (R3.v sz56), R3.q, txt56])).mono ?_
  rintro e wn ⟨rfl, bb⟩
  try replace a1 := a1.below bb
  try replace a2 := a2.below bb
  try replace a3 := a3.below bb
  replace bw := below_on bw bb bw.size
  clear bb
  go_wp2_with fail
  refine (fmake_any _ 1 0 (errF 3) (by omega) (by omega) (by omega) (by omega) (by rw [makeF, if_pos rfl])).mono ?_
  rintro e wn ⟨x4, rfl, hs4, ok4, bb⟩
  have e0 : (errF 3).2.2.2 = 3 := rfl
  clear hs4
  try replace a1 := a1.below bb
  try replace a2 := a2.below bb
  try replace a3 := a3.below bb
  replace bw := below_on bw bb bw.size
  clear bb
  go_upto_region 6 with fail
  have a4 := (fa_alloc ok4).1
  have bb := (fa_alloc ok4).2
  clear ok4
  generalize (wn.alloc (.cells #[.bool x4.b, .slice x4.A x4.xs.length x4.c, .slice x4.D x4.ys.length x4.d] 25)) = wm at a4 bb ⊢
  try replace a1 := a1.below bb
  try replace a2 := a2.below bb
  try replace a3 := a3.below bb
  try replace a4 := a4.below bb
  replace bw := below_on bw bb bw.size
  clear bb
  generalize wn.heap.size = g4 at a4 ⊢
  clear e0
  go_wp2_with fail
  go_ret
  exact ⟨rfl, bw⟩
end Go.Proofs.Ytlcolmifmhdboaa
