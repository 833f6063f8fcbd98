/- The walks of the reference's Whole and SameFrac. Max-min fair rates as pure lists: the rounds, what they keep, the certificate and that it is unique. No program in sight. Max-min fair rates as pure lists: what a round keeps, and that the rates have the certificate. No program in sight. Max-min fair rates as pure lists: what a round keeps, and that the rates have the certificate. No program in sight. Max-min fair rates as pure lists: what a round keeps, and that the rates have the certificate. No program in sight. -/
import Derived.Test.YthdfflbhogfejaaFhA
import Derived.Test.YthdfflbhogfejaaFrS
import Derived.Test.YthdfflbhogfejaaRfF
import Derived.BigQuiet
import Derived.Deep.QuietTactic
import Derived.Test.YthdfflbhogfejaaTrX
namespace Go.Proofs.Ythdfflbhogfejaa
set_option maxRecDepth 100000
open Go.RowKit

set_option maxHeartbeats 1600000 in
theorem rwhole_any (w : World) (n : Int) (n0 : -9223372036854775808 ≤ n) (n1 : n ≤ 9223372036854775807) : Calls Try.prog 34 #[.int .i64 n] w fun e w' => ∃ x : Fx, e = .returned x.val ∧ Rp x (n : Rat) ∧ Nm w' x (n : Rat) ∧ Below w.heap.size w w' := by
  have HZ : Hid (makeF n 1 = okS (n : Rat)) := Lib.hid (by rw [makeF_int n0 n1, okS_int])
  have HSZ := Lib.hid (sz_whole n0 n1)
  go_enter Try.func34, Try.ntmps34
  go_wp2_with fail
  have bw := (Below.refl w.heap.size w).alloc (Nat.le_refl _) (.cells #[.bool false, .slice none 0 0, .slice none 0 0] 41)
  have bk := bk3_new w
  generalize (w.alloc (.cells #[.bool false, .slice none 0 0, .slice none 0 0] 41)) = w1 at bw bk ⊢
  refine (rfmake_any w1 n 1 _ n0 n1 (by omega) (by omega) HZ.out).mono ?_
  rintro e wn ⟨x1, rfl, hs1, ok1, bb⟩
  have HS1 := Lib.hid (Rp.of hs1)
  clear hs1
  replace bk := bk.below bb
  replace bw := below_on bw bb bw.size
  clear bb
  go_upto_region 2 with fail
  have a1 := (fa_alloc ok1).1
  have bb := (fa_alloc ok1).2
  clear ok1
  generalize (wn.alloc (.cells #[.bool x1.b, .slice x1.A x1.xs.length x1.c, .slice x1.D x1.ys.length x1.d] 41)) = wm at a1 bb ⊢
  replace bk := bk.below bb
  replace bw := below_on bw bb bw.size
  clear bb
  generalize wn.heap.size = g1 at a1 ⊢
  have ci0 := a1.c0
  have ci1 := a1.c1
  have ci2 := a1.c2
  have tk := bk
  obtain ⟨k0, k1, k2, kf0, kf1, kf2, klt, kb⟩ := tk
  clear kb
  go_wp2_with fail
  refine bodyPost_ret (v := x1.val) (by simp [results, Try.results34, go_sem, k0, k1, k2]) rfl ?_
  exact ⟨x1, rfl, HS1.out, Nm.of (set3_ok a1.ok bk rfl rfl rfl) HS1.out HSZ.out, set3g bw (Nat.le_refl _)⟩
theorem limbs_same {xs ys : List Nat} (hl : xs.length = ys.length) (h : ∀ j (h1 : j < xs.length) (h2 : j < ys.length), xs[j] = ys[j]) : xs = ys := List.ext_getElem hl h
set_option maxHeartbeats 4000000 in
theorem samefr_any (w : World) (x y : Fx) (b : Bool) (hx : x.ok w) (hy : y.ok w) (hb : decide (x.b = y.b ∧ x.xs = y.xs ∧ x.ys = y.ys) = b) :
    Calls Try.prog 32 #[x.val, y.val] w fun e w' => e = .returned (.bool b) ∧ Below w.heap.size w w' := by
  have HF : Hid (∀ P : Prop, (x.b = y.b ∧ x.xs = y.xs ∧ x.ys = y.ys → P) → (¬ P → b = false)) := Lib.hid (fun P h hn => by rw [← hb]; exact decide_eq_false (fun h2 => hn (h h2)))
  have HT : Hid (x.b = y.b → x.xs = y.xs → x.ys = y.ys → b = true) := Lib.hid (fun h1 h2 h3 => by rw [← hb]; exact decide_eq_true ⟨h1, h2, h3⟩)
  have hlx := hx.num.len
  have hly := hx.den.len
  clear hb
  by_cases h1 : x.b = y.b
  · have h1b : (x.b != y.b) = false := by simp [h1]
    have H1 := Lib.hid h1
    clear h1
    by_cases h2 : x.xs.length = y.xs.length
    · have h2b : ((x.xs.length : Int) != (y.xs.length : Int)) = false := by simp [h2]
      have H2 := Lib.hid h2
      clear h2
      by_cases h3 : x.ys.length = y.ys.length
      · have h3b : ((x.ys.length : Int) != (y.ys.length : Int)) = false := by simp [h3]
        have H3 := Lib.hid h3
        clear h3
        go_enter Try.func32, Try.ntmps32
        go_upto_region 1 with fail
        have b0 := (Below.refl w.heap.size w).alloc (Nat.le_refl _) (.cells x.cells 41)
        have bx := bk3_alloc w (.bool x.b) (.slice x.A x.xs.length x.c) (.slice x.D x.ys.length x.d)
        have okx := hx.below b0
        have oky := hy.below b0
        have sz0 := size_box w (.cells x.cells 41)
        have bw := b0
        clear b0
        generalize (w.alloc (.cells x.cells 41)) = wa at bx okx oky sz0 bw ⊢
        have b1 := (Below.refl wa.heap.size wa).alloc (Nat.le_refl _) (.cells y.cells 41)
        have by_ := bk3_alloc wa (.bool y.b) (.slice y.A y.xs.length y.c) (.slice y.D y.ys.length y.d)
        rw [sz0] at by_
        replace bx := bx.below b1
        replace okx := okx.below b1
        replace oky := oky.below b1
        replace bw := below_on bw b1 bw.size
        clear b1 sz0
        generalize (wa.alloc (.cells y.cells 41)) = w1 at bx by_ okx oky bw ⊢
        have HBX := Lib.hid bx
        have HBY := Lib.hid by_
        have HOX := Lib.hid okx
        have HOY := Lib.hid oky
        have tx := bx
        obtain ⟨x0, x1, x2, xf0, xf1, xf2, xlt, xb⟩ := tx
        clear xb
        have ty := by_
        obtain ⟨y0, y1, y2, yf0, yf1, yf2, ylt, yb⟩ := ty
        clear yb
        go_wp2_with fail
        clear x0 x1 x2 xf0 xf1 xf2 xlt
        clear y0 y1 y2 yf0 yf1 yf2 ylt
        clear bx by_ okx oky
        go_loopw [5] (fun i wr => ∃ k : Nat, k ≤ x.xs.length ∧ i = .int .i64 k ∧ (∀ j (h1 : j < x.xs.length) (h2 : j < y.xs.length), j < k → x.xs[j] = y.xs[j]) ∧ Below w1.heap.size w1 wr) (fun i _ => x.xs.length - (intOf i).toNat)
        case atStart => exact ⟨0, by omega, rfl, (fun j _ _ h => absurd h (by omega)), Below.refl _ _⟩
        case round =>
          obtain ⟨i, hi, rfl, he, bz⟩ := hrel
          have HE := Lib.hid he
          clear he
          have bx := HBX.out.below bz
          have by_ := HBY.out.below bz
          have tx := bx
          obtain ⟨x0, x1, x2, xf0, xf1, xf2, xlt, xb⟩ := tx
          clear xb
          have ty := by_
          obtain ⟨y0, y1, y2, yf0, yf1, yf2, ylt, yb⟩ := ty
          clear yb
          by_cases hlt : i < x.xs.length
          · have hlt2 : i < y.xs.length := by have := H2.out; omega
            obtain ⟨adX, hax, hbX, hcX, hvX⟩ := (HOX.out.num.below bz).at i hlt
            obtain ⟨adY, hay, hbY, hcY, hvY⟩ := (HOY.out.num.below bz).at i hlt2
            by_cases hxy : x.xs[i] = y.xs[i]
            · have HX := Lib.hid hxy
              have hx1 : ((x.xs[i] : Int) != (y.xs[i] : Int)) = false := by simp [hxy]
              clear hxy
              go_upto_region 6 with fail
              rw [hax] at x1
              rw [hay] at y1
              go_quiet (fail)
              go_wp2_with fail
              go_roundw
              case rel => exact ⟨i + 1, by omega, by go_num, (fun j h1 h2 h3 => by
                rcases Nat.lt_or_ge j i with h4 | h4
                · exact HE.out j h1 h2 h4
                · have : j = i := by omega
                  subst this
                  exact HX.out), below_drewN bz _⟩
              case measure => simp [intOf]; omega
            · have hx1 : ((x.xs[i] : Int) != (y.xs[i] : Int)) = true := by rw [bne_iff_ne]; omega
              have HBB : Hid (b = false) := Lib.hid (HF.out (x.xs = y.xs) (fun h => h.2.1) (fun e => hxy (by simp only [e])))
              clear hxy
              go_upto_region 6 with fail
              rw [hax] at x1
              rw [hay] at y1
              go_quiet (fail)
              go_wp2_with fail
              go_ret
              exact ⟨ret_bool HBB.out.symm, below_drewN (below_on bw bz bw.size) _⟩
          · have HXE : Hid (x.xs = y.xs) := Lib.hid (limbs_same H2.out (fun j h1 h2 => HE.out j h1 h2 (by omega)))
            go_wp2_with fail
            clear x0 x1 x2 xf0 xf1 xf2 xlt
            clear y0 y1 y2 yf0 yf1 yf2 ylt
            clear bx by_ hlt hi
            go_loopw [6] (fun i wr => ∃ k : Nat, k ≤ x.ys.length ∧ i = .int .i64 k ∧ (∀ j (h1 : j < x.ys.length) (h2 : j < y.ys.length), j < k → x.ys[j] = y.ys[j]) ∧ Below w1.heap.size w1 wr) (fun i _ => x.ys.length - (intOf i).toNat)
            case atStart => exact ⟨0, by omega, rfl, (fun j _ _ h => absurd h (by omega)), bz⟩
            case round =>
              clear bz
              obtain ⟨i, hi, rfl, he, bz⟩ := hrel
              have HE := Lib.hid he
              clear he
              have bx := HBX.out.below bz
              have by_ := HBY.out.below bz
              have tx := bx
              obtain ⟨x0, x1, x2, xf0, xf1, xf2, xlt, xb⟩ := tx
              clear xb
              have ty := by_
              obtain ⟨y0, y1, y2, yf0, yf1, yf2, ylt, yb⟩ := ty
              clear yb
              by_cases hlt : i < x.ys.length
              · have hlt2 : i < y.ys.length := by have := H3.out; omega
                obtain ⟨adX, hax, hbX, hcX, hvX⟩ := (HOX.out.den.below bz).at i hlt
                obtain ⟨adY, hay, hbY, hcY, hvY⟩ := (HOY.out.den.below bz).at i hlt2
                by_cases hxy : x.ys[i] = y.ys[i]
                · have HX := Lib.hid hxy
                  have hx1 : ((x.ys[i] : Int) != (y.ys[i] : Int)) = false := by simp [hxy]
                  clear hxy
                  go_upto_region 11 with fail
                  rw [hax] at x2
                  rw [hay] at y2
                  go_quiet (fail)
                  go_wp2_with fail
                  go_roundw
                  case rel => exact ⟨i + 1, by omega, by go_num, (fun j h1 h2 h3 => by
                    rcases Nat.lt_or_ge j i with h4 | h4
                    · exact HE.out j h1 h2 h4
                    · have : j = i := by omega
                      subst this
                      exact HX.out), below_drewN bz _⟩
                  case measure => simp [intOf]; omega
                · have hx1 : ((x.ys[i] : Int) != (y.ys[i] : Int)) = true := by rw [bne_iff_ne]; omega
                  have HBB : Hid (b = false) := Lib.hid (HF.out (x.ys = y.ys) (fun h => h.2.2) (fun e => hxy (by simp only [e])))
                  clear hxy
                  go_upto_region 11 with fail
                  rw [hax] at x2
                  rw [hay] at y2
                  go_quiet (fail)
                  go_wp2_with fail
                  go_ret
                  exact ⟨ret_bool HBB.out.symm, below_drewN (below_on bw bz bw.size) _⟩
              · have HYE : Hid (x.ys = y.ys) := Lib.hid (limbs_same H3.out (fun j h1 h2 => HE.out j h1 h2 (by omega)))
                have HBB := Lib.hid (HT.out H1.out HXE.out HYE.out)
                go_wp2_with fail
                go_ret
                exact ⟨ret_bool HBB.out.symm, below_on bw bz bw.size⟩
      · have h3b : ((x.ys.length : Int) != (y.ys.length : Int)) = true := by rw [bne_iff_ne]; omega
        have HBB : Hid (b = false) := Lib.hid (HF.out (x.ys = y.ys) (fun h => h.2.2) (fun e => h3 (by rw [e])))
        go_enter Try.func32, Try.ntmps32
        go_upto_region 1 with fail
        have b0 := (Below.refl w.heap.size w).alloc (Nat.le_refl _) (.cells x.cells 41)
        have bx := bk3_alloc w (.bool x.b) (.slice x.A x.xs.length x.c) (.slice x.D x.ys.length x.d)
        have okx := hx.below b0
        have oky := hy.below b0
        have sz0 := size_box w (.cells x.cells 41)
        have bw := b0
        clear b0
        generalize (w.alloc (.cells x.cells 41)) = wa at bx okx oky sz0 bw ⊢
        have b1 := (Below.refl wa.heap.size wa).alloc (Nat.le_refl _) (.cells y.cells 41)
        have by_ := bk3_alloc wa (.bool y.b) (.slice y.A y.xs.length y.c) (.slice y.D y.ys.length y.d)
        rw [sz0] at by_
        replace bx := bx.below b1
        replace okx := okx.below b1
        replace oky := oky.below b1
        replace bw := below_on bw b1 bw.size
        clear b1 sz0
        generalize (wa.alloc (.cells y.cells 41)) = w1 at bx by_ okx oky bw ⊢
        have tx := bx
        obtain ⟨x0, x1, x2, xf0, xf1, xf2, xlt, xb⟩ := tx
        clear xb
        have ty := by_
        obtain ⟨y0, y1, y2, yf0, yf1, yf2, ylt, yb⟩ := ty
        clear yb
        go_wp2_with fail
        go_ret
        exact ⟨ret_bool HBB.out.symm, bw⟩
    · have h2b : ((x.xs.length : Int) != (y.xs.length : Int)) = true := by rw [bne_iff_ne]; omega
      have HBB : Hid (b = false) := Lib.hid (HF.out (x.xs = y.xs) (fun h => h.2.1) (fun e => h2 (by rw [e])))
      go_enter Try.func32, Try.ntmps32
      go_upto_region 1 with fail
      have b0 := (Below.refl w.heap.size w).alloc (Nat.le_refl _) (.cells x.cells 41)
      have bx := bk3_alloc w (.bool x.b) (.slice x.A x.xs.length x.c) (.slice x.D x.ys.length x.d)
      have okx := hx.below b0
      have oky := hy.below b0
      have sz0 := size_box w (.cells x.cells 41)
      have bw := b0
      clear b0
      generalize (w.alloc (.cells x.cells 41)) = wa at bx okx oky sz0 bw ⊢
      have b1 := (Below.refl wa.heap.size wa).alloc (Nat.le_refl _) (.cells y.cells 41)
      have by_ := bk3_alloc wa (.bool y.b) (.slice y.A y.xs.length y.c) (.slice y.D y.ys.length y.d)
      rw [sz0] at by_
      replace bx := bx.below b1
      replace okx := okx.below b1
      replace oky := oky.below b1
      replace bw := below_on bw b1 bw.size
      clear b1 sz0
      generalize (wa.alloc (.cells y.cells 41)) = w1 at bx by_ okx oky bw ⊢
      have tx := bx
      obtain ⟨x0, x1, x2, xf0, xf1, xf2, xlt, xb⟩ := tx
      clear xb
      have ty := by_
      obtain ⟨y0, y1, y2, yf0, yf1, yf2, ylt, yb⟩ := ty
      clear yb
      go_wp2_with fail
      go_ret
      exact ⟨ret_bool HBB.out.symm, bw⟩
  · have h1b : (x.b != y.b) = true := by rw [bne_iff_ne]; exact h1
    have HBB : Hid (b = false) := Lib.hid (HF.out (x.b = y.b) (fun h => h.1) h1)
    go_enter Try.func32, Try.ntmps32
    go_upto_region 1 with fail
    have b0 := (Below.refl w.heap.size w).alloc (Nat.le_refl _) (.cells x.cells 41)
    have bx := bk3_alloc w (.bool x.b) (.slice x.A x.xs.length x.c) (.slice x.D x.ys.length x.d)
    have okx := hx.below b0
    have oky := hy.below b0
    have sz0 := size_box w (.cells x.cells 41)
    have bw := b0
    clear b0
    generalize (w.alloc (.cells x.cells 41)) = wa at bx okx oky sz0 bw ⊢
    have b1 := (Below.refl wa.heap.size wa).alloc (Nat.le_refl _) (.cells y.cells 41)
    have by_ := bk3_alloc wa (.bool y.b) (.slice y.A y.xs.length y.c) (.slice y.D y.ys.length y.d)
    rw [sz0] at by_
    replace bx := bx.below b1
    replace okx := okx.below b1
    replace oky := oky.below b1
    replace bw := below_on bw b1 bw.size
    clear b1 sz0
    generalize (wa.alloc (.cells y.cells 41)) = w1 at bx by_ okx oky bw ⊢
    have tx := bx
    obtain ⟨x0, x1, x2, xf0, xf1, xf2, xlt, xb⟩ := tx
    clear xb
    have ty := by_
    obtain ⟨y0, y1, y2, yf0, yf1, yf2, ylt, yb⟩ := ty
    clear yb
    go_wp2_with fail
    go_ret
    exact ⟨ret_bool HBB.out.symm, bw⟩
end Go.Proofs.Ythdfflbhogfejaa
namespace Go.Proofs.Ythdfflbhogfejaa
set_option maxRecDepth 100000

/-- the sum of the first numbers of a row -/
def sumTo (g : Nat → Rat) : Nat → Rat
  | 0 => 0
  | n + 1 => sumTo g n + g n
theorem sumTo_congr {g h : Nat → Rat} {n : Nat} (e : ∀ i, i < n → g i = h i) : sumTo g n = sumTo h n := by
  induction n with
  | zero => rfl
  | succ n ih => rw [sumTo, sumTo, ih (fun i hi => e i (by omega)), e n (by omega)]
theorem sumTo_le {g h : Nat → Rat} {n : Nat} (e : ∀ i, i < n → g i ≤ h i) : sumTo g n ≤ sumTo h n := by
  induction n with
  | zero => exact Rat.le_refl
  | succ n ih =>
    have h1 := ih (fun i hi => e i (by omega))
    have h2 := e n (by omega)
    rw [sumTo, sumTo]; grind
theorem sumTo_lt {g h : Nat → Rat} {n : Nat} (e : ∀ i, i < n → g i ≤ h i) (k : Nat) (hk : k < n) (hs : g k < h k) : sumTo g n < sumTo h n := by
  induction n with
  | zero => omega
  | succ n ih =>
    have h2 := e n (by omega)
    rw [sumTo, sumTo]
    rcases Nat.lt_or_ge k n with h3 | h3
    · have h1 := ih (fun i hi => e i (by omega)) h3; grind
    · obtain rfl : k = n := by omega
      have h1 := sumTo_le (g := g) (h := h) (n := k) (fun i hi => e i (by omega)); grind
/-- rates and who still rises -/
structure Rt where
  r : List Rat
  a : List Bool
/-- what a flow takes of a link -/
def tk (l : List Fl) (r : List Rat) (k : Int) (i : Nat) : Rat := if k ∈ lkA l i then r.getD i 0 else 0
/-- the load of a link -/
def ldq (l : List Fl) (r : List Rat) (k : Int) : Rat := sumTo (tk l r k) l.length
/-- what a flow that has stopped takes of a link -/
def tkS (l : List Fl) (s : Rt) (k : Int) (i : Nat) : Rat := if k ∈ lkA l i ∧ s.a.getD i false = false then s.r.getD i 0 else 0
/-- how many of the first flows use a link and rise -/
def cnt (l : List Fl) (s : Rt) (k : Int) : Nat → Nat
  | 0 => 0
  | i + 1 => cnt l s k i + if k ∈ lkA l i ∧ s.a.getD i false = true then 1 else 0
/-- the level at which a link is full -/
def lev (cp : Int → Int) (l : List Fl) (s : Rt) (k : Int) : Option Rat :=
  if cnt l s k l.length = 0 then none else some (((cp k : Rat) - sumTo (tkS l s k) l.length) / (cnt l s k l.length : Nat))
/-- the lesser of what was found and a number -/
def mn : Option Rat → Rat → Option Rat
  | none, x => some x
  | some y, x => if x < y then some x else some y
def lowK (cp : Int → Int) (l : List Fl) (s : Rt) : Nat → Option Rat
  | 0 => none
  | k + 1 => match lev cp l s (k : Int) with
    | none => lowK cp l s k
    | some x => mn (lowK cp l s k) x
def lowF (cp : Int → Int) (l : List Fl) (s : Rt) (n : Nat) : Nat → Option Rat
  | 0 => lowK cp l s n
  | i + 1 => if s.a.getD i false = true then mn (lowF cp l s n i) (lmA l i : Rat) else lowF cp l s n i
/-- does a flow stop at a level -/
def stopQ (cp : Int → Int) (l : List Fl) (s : Rt) (q : Rat) (i : Nat) : Prop := (lmA l i : Rat) = q ∨ ∃ k ∈ lkA l i, lev cp l s k = some q
instance (cp : Int → Int) (l : List Fl) (s : Rt) (q : Rat) (i : Nat) : Decidable (stopQ cp l s q i) := inferInstanceAs (Decidable (_ ∨ _))
/-- the first flows brought up to date; s0: the state at the round's start -/
def partR (cp : Int → Int) (l : List Fl) (s0 : Rt) (q : Rat) : Nat → Rt
  | 0 => s0
  | i + 1 => if s0.a.getD i false = true ∧ stopQ cp l s0 q i then ⟨(partR cp l s0 q i).r.set i q, (partR cp l s0 q i).a.set i false⟩ else partR cp l s0 q i
def roundR (cp : Int → Int) (l : List Fl) (n : Nat) (s : Rt) : Rt := partR cp l s ((lowF cp l s n l.length).getD 0) l.length
def itR (cp : Int → Int) (l : List Fl) (n : Nat) : Nat → Rt
  | 0 => ⟨List.replicate l.length 0, List.replicate l.length true⟩
  | k + 1 => if true ∈ (itR cp l n k).a then roundR cp l n (itR cp l n k) else itR cp l n k
def ratesM (cp : Int → Int) (l : List Fl) (n : Nat) : List Rat := (itR cp l n l.length).r

/-- rates that are proved max-min fair -/
structure Cert (cp : Int → Int) (l : List Fl) (n : Nat) (r : List Rat) : Prop where
  lo : r.length = l.length
  nn : ∀ i, i < l.length → 0 ≤ r.getD i 0 ∧ r.getD i 0 ≤ (lmA l i : Rat)
  cap : ∀ k : Nat, k < n → ldq l r (k : Int) ≤ (cp (k : Int) : Rat)
  held : ∀ i, i < l.length → r.getD i 0 = (lmA l i : Rat) ∨ ∃ k ∈ lkA l i, ldq l r k = (cp k : Rat) ∧ ∀ j, j < l.length → k ∈ lkA l j → r.getD j 0 ≤ r.getD i 0

/-- a number of a finite row is least -/
theorem exists_least (g : Nat → Rat) (p : Nat → Prop) : ∀ n, (∃ i, i < n ∧ p i) → ∃ i, i < n ∧ p i ∧ ∀ j, j < n → p j → g i ≤ g j := by
  intro n
  induction n with
  | zero => rintro ⟨i, hi, _⟩; omega
  | succ n ih =>
    rintro ⟨i, hi, hp⟩
    by_cases h : ∃ i, i < n ∧ p i
    · obtain ⟨a, ha, pa, la⟩ := ih h
      by_cases h2 : p n ∧ g n < g a
      · refine ⟨n, by omega, h2.1, fun j hj pj => ?_⟩
        rcases Nat.lt_or_ge j n with h3 | h3
        · have := la j h3 pj; grind
        · obtain rfl : j = n := by omega
          exact Rat.le_refl
      · refine ⟨a, by omega, pa, fun j hj pj => ?_⟩
        rcases Nat.lt_or_ge j n with h3 | h3
        · exact la j h3 pj
        · obtain rfl : j = n := by omega
          by_cases h4 : g j < g a
          · exact absurd ⟨pj, h4⟩ h2
          · grind
    · have hin : i = n := by
        rcases Nat.lt_or_ge i n with h3 | h3
        · exact absurd ⟨i, h3, hp⟩ h
        · omega
      subst hin
      refine ⟨i, by omega, hp, fun j hj pj => ?_⟩
      rcases Nat.lt_or_ge j i with h3 | h3
      · exact absurd ⟨j, h3, pj⟩ h
      · obtain rfl : j = i := by omega
        exact Rat.le_refl

/-- half of the proof that the certificate is unique: the least rate at which two lists differ -/
theorem Cert.half {cp : Int → Int} {l : List Fl} {n : Nat} {r t : List Rat} (hl : ∀ i, i < l.length → ∀ k ∈ lkA l i, 0 ≤ k ∧ k < n) (hr : Cert cp l n r) (ht : Cert cp l n t) (i : Nat) (hi : i < l.length) (hlt : r.getD i 0 < t.getD i 0)
    (hm : ∀ j, j < l.length → r.getD j 0 ≠ t.getD j 0 → r.getD i 0 ≤ min (r.getD j 0) (t.getD j 0)) : False := by
  rcases hr.held i hi with h | ⟨k, hk, hf, hg⟩
  · have := (ht.nn i hi).2
    grind
  · have hb := hl i hi k hk
    obtain ⟨m, rfl⟩ : ∃ m : Nat, k = (m : Int) := ⟨k.toNat, by omega⟩
    have hc := ht.cap m (by omega)
    have hlt2 : ldq l r (m : Int) < ldq l t (m : Int) := by
      refine sumTo_lt (fun j hj => ?_) i hi ?_
      · unfold tk
        by_cases hu : (m : Int) ∈ lkA l j
        · rw [if_pos hu, if_pos hu]
          by_cases he : r.getD j 0 = t.getD j 0
          · rw [he]; exact Rat.le_refl
          · have h1 := hm j hj he
            have h2 := hg j hj hu
            grind
        · rw [if_neg hu, if_neg hu]; exact Rat.le_refl
      · unfold tk
        rw [if_pos hk, if_pos hk]; exact hlt
    grind
theorem Cert.unique {cp : Int → Int} {l : List Fl} {n : Nat} {r t : List Rat} (hl : ∀ i, i < l.length → ∀ k ∈ lkA l i, 0 ≤ k ∧ k < n) (hr : Cert cp l n r) (ht : Cert cp l n t) : r = t := by
  by_cases h : ∃ i, i < l.length ∧ r.getD i 0 ≠ t.getD i 0
  · exfalso
    obtain ⟨i, hi, hne, hm⟩ := exists_least (fun i => min (r.getD i 0) (t.getD i 0)) _ l.length h
    by_cases h1 : r.getD i 0 < t.getD i 0
    · exact Cert.half hl hr ht i hi h1 (fun j hj hne => by have := hm j hj hne; grind)
    · exact Cert.half hl ht hr i hi (by grind) (fun j hj hne => by have := hm j hj (fun e => hne e.symm); grind)
  · apply List.ext_getElem (by rw [hr.lo, ht.lo])
    intro i h1 h2
    have h3 : r.getD i 0 = t.getD i 0 := Classical.byContradiction fun e => h ⟨i, by rw [← hr.lo]; exact h1, e⟩
    rwa [getD_lt _ _ _ h1, getD_lt _ _ _ h2] at h3
end Go.Proofs.Ythdfflbhogfejaa
namespace Go.Proofs.Ythdfflbhogfejaa
set_option maxRecDepth 100000

theorem mn_spec {o : Option Rat} {x y : Rat} (h : mn o x = some y) : y ≤ x ∧ (∀ z, o = some z → y ≤ z) ∧ (y = x ∨ o = some y) := by
  cases o with
  | none => cases h; exact ⟨Rat.le_refl, fun z hz => (by cases hz), .inl rfl⟩
  | some w =>
    replace h : (if x < w then some x else some w) = some y := h
    by_cases hw : x < w
    · rw [if_pos hw] at h; cases h
      exact ⟨Rat.le_refl, fun z hz => (by cases hz; grind), .inl rfl⟩
    · rw [if_neg hw] at h; cases h
      exact ⟨by grind, fun z hz => (by cases hz; exact Rat.le_refl), .inr rfl⟩
theorem mn_some (o : Option Rat) (x : Rat) : ∃ y, mn o x = some y := by
  cases o with
  | none => exact ⟨_, rfl⟩
  | some w =>
    show ∃ y, (if x < w then some x else some w) = some y
    by_cases hw : x < w
    · exact ⟨x, if_pos hw⟩
    · exact ⟨w, if_neg hw⟩
theorem lowK_le {cp : Int → Int} {l : List Fl} {s : Rt} : ∀ n (k : Nat), k < n → ∀ x, lev cp l s (k : Int) = some x → ∃ y, lowK cp l s n = some y ∧ y ≤ x := by
  intro n
  induction n with
  | zero => intro k hk; omega
  | succ n ih =>
    intro k hk x hx
    unfold lowK
    rcases Nat.lt_or_ge k n with h4 | h4
    · obtain ⟨y, h1, h2⟩ := ih k h4 x hx
      cases hl : lev cp l s (n : Int) with
      | none => exact ⟨y, h1, h2⟩
      | some x0 =>
        obtain ⟨z, hz⟩ := mn_some (lowK cp l s n) x0
        exact ⟨z, hz, Rat.le_trans ((mn_spec hz).2.1 y h1) h2⟩
    · obtain rfl : k = n := by omega
      rw [hx]
      obtain ⟨z, hz⟩ := mn_some (lowK cp l s k) x
      exact ⟨z, hz, (mn_spec hz).1⟩
theorem lowK_at {cp : Int → Int} {l : List Fl} {s : Rt} : ∀ n y, lowK cp l s n = some y → ∃ k : Nat, k < n ∧ lev cp l s (k : Int) = some y := by
  intro n
  induction n with
  | zero => intro y h; cases h
  | succ n ih =>
    intro y h
    unfold lowK at h
    cases hl : lev cp l s (n : Int) with
    | none =>
      rw [hl] at h
      obtain ⟨k, h2, h3⟩ := ih y h
      exact ⟨k, by omega, h3⟩
    | some x0 =>
      rw [hl] at h
      rcases (mn_spec h).2.2 with h3 | h3
      · exact ⟨n, by omega, by rw [hl, h3]⟩
      · obtain ⟨k, h5, h6⟩ := ih y h3
        exact ⟨k, by omega, h6⟩
theorem lowF_k {cp : Int → Int} {l : List Fl} {s : Rt} {n : Nat} : ∀ m y, lowK cp l s n = some y → ∃ z, lowF cp l s n m = some z ∧ z ≤ y := by
  intro m
  induction m with
  | zero => intro y h; exact ⟨y, h, Rat.le_refl⟩
  | succ m ih =>
    intro y h
    obtain ⟨z, h1, h2⟩ := ih y h
    unfold lowF
    by_cases ha : s.a.getD m false = true
    · rw [if_pos ha]
      obtain ⟨u, hu⟩ := mn_some (lowF cp l s n m) (lmA l m : Rat)
      exact ⟨u, hu, Rat.le_trans ((mn_spec hu).2.1 z h1) h2⟩
    · rw [if_neg ha]; exact ⟨z, h1, h2⟩
theorem lowF_le {cp : Int → Int} {l : List Fl} {s : Rt} {n : Nat} : ∀ m i, i < m → s.a.getD i false = true → ∃ z, lowF cp l s n m = some z ∧ z ≤ (lmA l i : Rat) := by
  intro m
  induction m with
  | zero => intro i hi; omega
  | succ m ih =>
    intro i hi hai
    unfold lowF
    rcases Nat.lt_or_ge i m with h4 | h4
    · obtain ⟨z, h1, h2⟩ := ih i h4 hai
      by_cases ha : s.a.getD m false = true
      · rw [if_pos ha]
        obtain ⟨u, hu⟩ := mn_some (lowF cp l s n m) (lmA l m : Rat)
        exact ⟨u, hu, Rat.le_trans ((mn_spec hu).2.1 z h1) h2⟩
      · rw [if_neg ha]; exact ⟨z, h1, h2⟩
    · obtain rfl : i = m := by omega
      rw [if_pos hai]
      obtain ⟨u, hu⟩ := mn_some (lowF cp l s n i) (lmA l i : Rat)
      exact ⟨u, hu, (mn_spec hu).1⟩
theorem lowF_at {cp : Int → Int} {l : List Fl} {s : Rt} {n : Nat} : ∀ m y, lowF cp l s n m = some y → (∃ k : Nat, k < n ∧ lev cp l s (k : Int) = some y) ∨ ∃ i, i < m ∧ s.a.getD i false = true ∧ (lmA l i : Rat) = y := by
  intro m
  induction m with
  | zero => intro y h; exact .inl (lowK_at n y h)
  | succ m ih =>
    intro y h
    unfold lowF at h
    have key : lowF cp l s n m = some y → (∃ k : Nat, k < n ∧ lev cp l s (k : Int) = some y) ∨ ∃ i, i < m + 1 ∧ s.a.getD i false = true ∧ (lmA l i : Rat) = y := fun h => by
      rcases ih y h with h1 | ⟨i, h1, h2⟩
      · exact .inl h1
      · exact .inr ⟨i, by omega, h2⟩
    by_cases ha : s.a.getD m false = true
    · rw [if_pos ha] at h
      rcases (mn_spec h).2.2 with h3 | h3
      · exact .inr ⟨m, by omega, ha, h3.symm⟩
      · exact key h3
    · rw [if_neg ha] at h; exact key h
/-- the lowest level: below all, and met -/
structure IsLow (cp : Int → Int) (l : List Fl) (s : Rt) (n : Nat) (q : Rat) : Prop where
  lev : ∀ k : Nat, k < n → ∀ x, lev cp l s (k : Int) = some x → q ≤ x
  lim : ∀ i, i < l.length → s.a.getD i false = true → q ≤ (lmA l i : Rat)
  met : (∃ k : Nat, k < n ∧ Proofs.Ythdfflbhogfejaa.lev cp l s (k : Int) = some q) ∨ ∃ i, i < l.length ∧ s.a.getD i false = true ∧ (lmA l i : Rat) = q
theorem IsLow.unique {cp : Int → Int} {l : List Fl} {s : Rt} {n : Nat} {q p : Rat} (h : IsLow cp l s n q) (k : IsLow cp l s n p) : q = p := by
  have h1 : q ≤ p := by
    rcases k.met with ⟨j, h1, h2⟩ | ⟨i, h1, h2, h3⟩
    · exact h.lev j h1 p h2
    · rw [← h3]; exact h.lim i h1 h2
  have h2 : p ≤ q := by
    rcases h.met with ⟨j, h1, h2⟩ | ⟨i, h1, h2, h3⟩
    · exact k.lev j h1 q h2
    · rw [← h3]; exact k.lim i h1 h2
  grind
theorem lowF_low {cp : Int → Int} {l : List Fl} {s : Rt} {n : Nat} {q : Rat} (h : lowF cp l s n l.length = some q) : IsLow cp l s n q := by
  refine ⟨fun k hk x hx => ?_, fun i hi ha => ?_, lowF_at _ _ h⟩
  · obtain ⟨y, h1, h2⟩ := lowK_le n k hk x hx
    obtain ⟨z, h3, h4⟩ := lowF_k l.length y h1
    rw [h] at h3; cases h3
    exact Rat.le_trans h4 h2
  · obtain ⟨z, h3, h4⟩ := lowF_le (cp := cp) (n := n) l.length i hi ha
    rw [h] at h3; cases h3
    exact h4
end Go.Proofs.Ythdfflbhogfejaa
namespace Go.Proofs.Ythdfflbhogfejaa
set_option maxRecDepth 100000

theorem partR_len (cp : Int → Int) (l : List Fl) (s : Rt) (q : Rat) (m : Nat) : (partR cp l s q m).r.length = s.r.length ∧ (partR cp l s q m).a.length = s.a.length := by
  induction m with
  | zero => exact ⟨rfl, rfl⟩
  | succ m ih =>
    unfold partR
    split
    · exact ⟨by rw [List.length_set]; exact ih.1, by rw [List.length_set]; exact ih.2⟩
    · exact ih
theorem partR_at {cp : Int → Int} {l : List Fl} {s : Rt} {q : Rat} (lr : s.r.length = l.length) (la : s.a.length = l.length) : ∀ m, m ≤ l.length → ∀ i,
    (partR cp l s q m).a.getD i false = (if i < m ∧ s.a.getD i false = true ∧ stopQ cp l s q i then false else s.a.getD i false) ∧
    (partR cp l s q m).r.getD i 0 = (if i < m ∧ s.a.getD i false = true ∧ stopQ cp l s q i then q else s.r.getD i 0) := by
  intro m
  induction m with
  | zero => intro _ i; rw [if_neg (by omega), if_neg (by omega)]; exact ⟨rfl, rfl⟩
  | succ m ih =>
    intro hm i
    obtain ⟨h1, h2⟩ := ih (by omega) i
    have hl := partR_len cp l s q m
    unfold partR
    by_cases hc : s.a.getD m false = true ∧ stopQ cp l s q m
    · rw [if_pos hc]
      show ((partR cp l s q m).a.set m false).getD i false = _ ∧ ((partR cp l s q m).r.set m q).getD i 0 = _
      rw [getD_set, getD_set]
      by_cases hi : m = i
      · subst hi
        have e1 : m = m ∧ m < (partR cp l s q m).a.length := ⟨rfl, by omega⟩
        have e2 : m = m ∧ m < (partR cp l s q m).r.length := ⟨rfl, by omega⟩
        have e3 : m < m + 1 ∧ s.a.getD m false = true ∧ stopQ cp l s q m := ⟨by omega, hc⟩
        rw [if_pos e1, if_pos e2, if_pos e3, if_pos e3]
        exact ⟨rfl, rfl⟩
      · have e1 : ¬ (m = i ∧ i < (partR cp l s q m).a.length) := fun h => hi h.1
        have e2 : ¬ (m = i ∧ i < (partR cp l s q m).r.length) := fun h => hi h.1
        rw [if_neg e1, if_neg e2, h1, h2]
        by_cases hi2 : i < m ∧ s.a.getD i false = true ∧ stopQ cp l s q i
        · rw [if_pos hi2, if_pos hi2, if_pos ⟨by omega, hi2.2⟩, if_pos ⟨by omega, hi2.2⟩]; exact ⟨rfl, rfl⟩
        · have hn : ¬ (i < m + 1 ∧ s.a.getD i false = true ∧ stopQ cp l s q i) := fun h => hi2 ⟨by omega, h.2⟩
          rw [if_neg hi2, if_neg hi2, if_neg hn, if_neg hn]; exact ⟨rfl, rfl⟩
    · rw [if_neg hc, h1, h2]
      by_cases hi2 : i < m ∧ s.a.getD i false = true ∧ stopQ cp l s q i
      · rw [if_pos hi2, if_pos hi2, if_pos ⟨by omega, hi2.2⟩, if_pos ⟨by omega, hi2.2⟩]; exact ⟨rfl, rfl⟩
      · have hn : ¬ (i < m + 1 ∧ s.a.getD i false = true ∧ stopQ cp l s q i) := fun h => by
          rcases Nat.lt_or_ge i m with h3 | h3
          · exact hi2 ⟨h3, h.2⟩
          · obtain rfl : i = m := by omega
            exact hc h.2
        rw [if_neg hi2, if_neg hi2, if_neg hn, if_neg hn]; exact ⟨rfl, rfl⟩
/-- what the flows of a link take, if those that rise take q -/
theorem load_at (l : List Fl) (s : Rt) (k : Int) (q : Rat) : ∀ n, sumTo (tkS l s k) n + (cnt l s k n : Nat) * q = sumTo (fun i => if k ∈ lkA l i then (if s.a.getD i false = true then q else s.r.getD i 0) else 0) n := by
  intro n
  induction n with
  | zero => show (0 : Rat) + ((0 : Nat) : Rat) * q = 0; grind
  | succ n ih =>
    rw [sumTo, sumTo, ← ih, cnt]
    by_cases hk : k ∈ lkA l n
    · by_cases ha : s.a.getD n false = true
      · rw [if_pos ⟨hk, ha⟩, if_pos hk, if_pos ha, tkS, if_neg (by rw [ha]; simp), Rat.natCast_add]; grind
      · rw [if_neg (fun h => ha h.2), if_pos hk, if_neg ha, tkS, if_pos ⟨hk, by simpa using ha⟩, Nat.add_zero]; grind
    · rw [if_neg (fun h => hk h.1), if_neg hk, tkS, if_neg (fun h => hk h.1), Nat.add_zero]; grind
theorem cnt_zero {l : List Fl} {s : Rt} {k : Int} : ∀ n, cnt l s k n = 0 ↔ ∀ i, i < n → k ∈ lkA l i → s.a.getD i false = false := by
  intro n
  induction n with
  | zero => exact ⟨fun _ i hi => by omega, fun _ => rfl⟩
  | succ n ih =>
    rw [cnt]
    constructor
    · intro h i hi hk
      by_cases hx : k ∈ lkA l n ∧ s.a.getD n false = true
      · rw [if_pos hx] at h; omega
      · rw [if_neg hx] at h
        rcases Nat.lt_or_ge i n with h3 | h3
        · exact ih.1 (by omega) i h3 hk
        · obtain rfl : i = n := by omega
          cases hb : s.a.getD i false
          · rfl
          · exact absurd ⟨hk, hb⟩ hx
    · intro h
      have h1 := ih.2 (fun i hi => h i (by omega))
      rw [h1, if_neg (fun hx => by have := h n (by omega) hx.1; rw [this] at hx; exact absurd hx.2 (by simp))]
end Go.Proofs.Ythdfflbhogfejaa
namespace Go.Proofs.Ythdfflbhogfejaa
set_option maxRecDepth 100000

theorem lev_some {cp : Int → Int} {l : List Fl} {s : Rt} {k : Int} {x : Rat} (h : lev cp l s k = some x) : 0 < cnt l s k l.length ∧ sumTo (tkS l s k) l.length + (cnt l s k l.length : Nat) * x = (cp k : Rat) := by
  unfold lev at h
  by_cases hc : cnt l s k l.length = 0
  · rw [if_pos hc] at h; cases h
  · rw [if_neg hc] at h
    have h2 : ((cp k : Rat) - sumTo (tkS l s k) l.length) / (cnt l s k l.length : Nat) = x := Option.some.inj h
    have h3 : ((cnt l s k l.length : Nat) : Rat) ≠ 0 := by simpa using hc
    refine ⟨by omega, ?_⟩
    rw [← h2]
    grind
structure RInv (cp : Int → Int) (l : List Fl) (n : Nat) (s : Rt) (q : Rat) : Prop where
  lr : s.r.length = l.length
  la : s.a.length = l.length
  q0 : 0 ≤ q
  st : ∀ i, i < l.length → s.a.getD i false = false → 0 ≤ s.r.getD i 0 ∧ s.r.getD i 0 ≤ q ∧ s.r.getD i 0 ≤ (lmA l i : Rat)
  up : ∀ i, i < l.length → s.a.getD i false = true → q ≤ (lmA l i : Rat)
  cap : ∀ k : Nat, k < n → sumTo (tkS l s (k : Int)) l.length + (cnt l s (k : Int) l.length : Nat) * q ≤ (cp (k : Int) : Rat)
  held : ∀ i, i < l.length → s.a.getD i false = false → s.r.getD i 0 = (lmA l i : Rat) ∨ ∃ k ∈ lkA l i, sumTo (tkS l s k) l.length = (cp k : Rat) ∧ ∀ j, j < l.length → k ∈ lkA l j → s.a.getD j false = false ∧ s.r.getD j 0 ≤ s.r.getD i 0
theorem le_of_cmul {c : Nat} {p q : Rat} (hc : 0 < c) (h : (c : Rat) * p ≤ (c : Rat) * q) : p ≤ q := by
  have h1 : (0 : Rat) < (c : Rat) := by exact_mod_cast hc
  by_cases h2 : q < p
  · have := Rat.mul_lt_mul_of_pos_left h2 h1
    grind
  · grind
theorem cmul_le (c : Nat) {p q : Rat} (h : p ≤ q) : (c : Rat) * p ≤ (c : Rat) * q := by
  have h1 : (0 : Rat) ≤ (c : Rat) := by exact_mod_cast Nat.zero_le c
  exact Rat.mul_le_mul_of_nonneg_left h h1
theorem RInv.rise {cp : Int → Int} {l : List Fl} {n : Nat} {s : Rt} {q p : Rat} (h : RInv cp l n s q) (hp : IsLow cp l s n p) : q ≤ p := by
  rcases hp.met with ⟨k, h1, h2⟩ | ⟨i, h1, h2, h3⟩
  · obtain ⟨h3, h4⟩ := lev_some h2
    have h5 := h.cap k h1
    exact le_of_cmul h3 (by grind)
  · rw [← h3]; exact h.up i h1 h2
theorem RInv.round {cp : Int → Int} {l : List Fl} {n : Nat} {s : Rt} {q p : Rat} (_hl : ∀ i, i < l.length → ∀ k ∈ lkA l i, 0 ≤ k ∧ k < n) (h : RInv cp l n s q) (hp : IsLow cp l s n p) : RInv cp l n (partR cp l s p l.length) p := by
  have hq := h.rise hp
  have hat := partR_at (cp := cp) (q := p) h.lr h.la l.length (Nat.le_refl _)
  have hln := partR_len cp l s p l.length
  -- who has stopped
  have hA : ∀ i, i < l.length → (s.a.getD i false = true ∧ stopQ cp l s p i ∧ (partR cp l s p l.length).a.getD i false = false ∧ (partR cp l s p l.length).r.getD i 0 = p) ∨
      (s.a.getD i false = true ∧ ¬ stopQ cp l s p i ∧ (partR cp l s p l.length).a.getD i false = true) ∨
      (s.a.getD i false = false ∧ (partR cp l s p l.length).a.getD i false = false ∧ (partR cp l s p l.length).r.getD i 0 = s.r.getD i 0) := by
    intro i hi
    obtain ⟨h1, h2⟩ := hat i
    cases ha : s.a.getD i false
    · have hn : ¬ (i < l.length ∧ s.a.getD i false = true ∧ stopQ cp l s p i) := fun h => by rw [ha] at h; exact absurd h.2.1 (by simp)
      rw [if_neg hn] at h1 h2
      exact .inr (.inr ⟨rfl, h1.trans ha, h2⟩)
    · by_cases hs : stopQ cp l s p i
      · rw [if_pos ⟨hi, ha, hs⟩] at h1 h2
        exact .inl ⟨rfl, hs, h1, h2⟩
      · have hn : ¬ (i < l.length ∧ s.a.getD i false = true ∧ stopQ cp l s p i) := fun h => hs h.2.2
        rw [if_neg hn] at h1
        exact .inr (.inl ⟨rfl, hs, h1.trans ha⟩)
  generalize partR cp l s p l.length = t at hat hln hA ⊢
  have hload : ∀ k, sumTo (tkS l t k) l.length + (cnt l t k l.length : Nat) * p = sumTo (tkS l s k) l.length + (cnt l s k l.length : Nat) * p := by
    intro k
    rw [load_at, load_at]
    refine sumTo_congr fun i hi => ?_
    rcases hA i hi with ⟨a1, a2, a3, a4⟩ | ⟨a1, a2, a3⟩ | ⟨a1, a2, a3⟩
    · rw [a1, a3, a4]; simp
    · rw [a1, a3]; simp
    · rw [a1, a2, a3]
  -- a link that is full at p: nobody rises on it any more
  have hfull : ∀ k, lev cp l s k = some p → sumTo (tkS l t k) l.length = (cp k : Rat) ∧ ∀ j, j < l.length → k ∈ lkA l j → t.a.getD j false = false := by
    intro k hk
    have hz : ∀ j, j < l.length → k ∈ lkA l j → t.a.getD j false = false := by
      intro j hj hkj
      rcases hA j hj with ⟨a1, a2, a3, a4⟩ | ⟨a1, a2, a3⟩ | ⟨a1, a2, a3⟩
      · exact a3
      · exact absurd (.inr ⟨k, hkj, hk⟩) a2
      · exact a2
    have h0 := (cnt_zero l.length).2 hz
    have h1 := hload k
    rw [h0, (lev_some hk).2] at h1
    refine ⟨?_, hz⟩
    rw [← h1]
    have : ((0 : Nat) : Rat) = 0 := rfl
    grind
  refine ⟨hln.1.trans h.lr, hln.2.trans h.la, by have := h.q0; grind, ?_, ?_, ?_, ?_⟩
  · intro i hi ha
    rcases hA i hi with ⟨a1, a2, a3, a4⟩ | ⟨a1, a2, a3⟩ | ⟨a1, a2, a3⟩
    · have h1 := hp.lim i hi a1
      have h2 := h.q0
      rw [a4]; grind
    · rw [a3] at ha; exact absurd ha (by simp)
    · have h1 := h.st i hi a1
      rw [a3]; grind
  · intro i hi ha
    rcases hA i hi with ⟨a1, a2, a3, a4⟩ | ⟨a1, a2, a3⟩ | ⟨a1, a2, a3⟩
    · exact hp.lim i hi a1
    · exact hp.lim i hi a1
    · rw [a2] at ha; exact absurd ha (by simp)
  · intro k hk
    rw [hload]
    by_cases hc : cnt l s (k : Int) l.length = 0
    · have h1 := h.cap k hk
      rw [hc] at h1 ⊢
      have : ((0 : Nat) : Rat) = 0 := rfl
      grind
    · have hx : ∃ x, lev cp l s (k : Int) = some x := by unfold lev; rw [if_neg hc]; exact ⟨_, rfl⟩
      obtain ⟨x, hx⟩ := hx
      have h1 := cmul_le (cnt l s (k : Int) l.length) (hp.lev k hk x hx)
      have h2 := (lev_some hx).2
      grind
  · intro i hi ha
    rcases hA i hi with ⟨a1, a2, a3, a4⟩ | ⟨a1, a2, a3⟩ | ⟨a1, a2, a3⟩
    · rcases a2 with a2 | ⟨k, hk, a2⟩
      · exact .inl (by rw [a4, a2])
      · obtain ⟨f1, f2⟩ := hfull k a2
        refine .inr ⟨k, hk, f1, fun j hj hkj => ⟨f2 j hj hkj, ?_⟩⟩
        rw [a4]
        rcases hA j hj with ⟨b1, b2, b3, b4⟩ | ⟨b1, b2, b3⟩ | ⟨b1, b2, b3⟩
        · rw [b4]; exact Rat.le_refl
        · rw [f2 j hj hkj] at b3; cases b3
        · have := (h.st j hj b1).2.1
          rw [b3]; grind
    · rw [a3] at ha; exact absurd ha (by simp)
    · rw [a3]
      rcases h.held i hi a1 with h1 | ⟨k, hk, h1, h2⟩
      · exact .inl h1
      · refine .inr ⟨k, hk, ?_, fun j hj hkj => ?_⟩
        · rw [← h1]
          refine sumTo_congr fun j hj => ?_
          unfold tkS
          by_cases hkj : k ∈ lkA l j
          · have h3 := (h2 j hj hkj).1
            rcases hA j hj with ⟨b1, b2, b3, b4⟩ | ⟨b1, b2, b3⟩ | ⟨b1, b2, b3⟩
            · rw [h3] at b1; cases b1
            · rw [h3] at b1; cases b1
            · rw [b1, b2, b3]
          · rw [if_neg (fun h => hkj h.1), if_neg (fun h => hkj h.1)]
        · have h3 := h2 j hj hkj
          rcases hA j hj with ⟨b1, b2, b3, b4⟩ | ⟨b1, b2, b3⟩ | ⟨b1, b2, b3⟩
          · rw [h3.1] at b1; cases b1
          · rw [h3.1] at b1; cases b1
          · rw [b3]; exact ⟨b2, h3.2⟩
end Go.Proofs.Ythdfflbhogfejaa
