/- The walks of package fraction: Mul, Quo. The walk of fraction.Cmp. The walk of same.Nat: two numbers have the same limbs. The walk of same.Frac: two fractions have the same sign and the same limbs. The walk of drydocklaw02.long. A variable that holds a fraction. Fractions in lowest terms and the rational numbers that they show; how long they are. No program in sight. The walks of package fraction: Add, Sub. The walks of package fraction: absolute, Make. Decimal digits of a number. No program in sight. The walk of natural.Format. The walk of fraction.Format. The walk of drydocklaw02.awake. The walks of package fraction: round, Floor, Ceil. -/
import Derived.Test.YtnmomigaedfdoaaExD
import Derived.Deep.RegionHeld3
import Derived.Test.YtnmomigaedfdoaaNatB
import Derived.Test.YtnmomigaedfdoaaNatH
import Derived.BigRegion
import Derived.RegionTactic
import Derived.Test.YtnmomigaedfdoaaNatL
namespace Go.Proofs.Ytnmomigaedfdoaa
set_option maxRecDepth 100000
open Go.RowKit

theorem cell_set3 {w : World} {G P k : Nat} {a b c v : Value} (h : w.cell? ⟨P, k, none⟩ = some v) (hne : G ≠ P) : (((w.setCell ⟨G, 0, none⟩ a).setCell ⟨G, 1, none⟩ b).setCell ⟨G, 2, none⟩ c).cell? ⟨P, k, none⟩ = some v := by
  rw [World.cell?_setCell_far _ _ _ _ hne, World.cell?_setCell_far _ _ _ _ hne, World.cell?_setCell_far _ _ _ _ hne]; exact h
def mulF (x y : Fx) : Bool × List Nat × List Nat × Int := if x.v ∧ y.v then frS (x.q * y.q) else errF 1
def quoF (x y : Fx) : Bool × List Nat × List Nat × Int := if x.v ∧ y.v then (if nv y.xs = 0 then errF 3 else frS (x.q / y.q)) else errF 1
end Go.Proofs.Ytnmomigaedfdoaa
namespace Go.Proofs.Ytnmomigaedfdoaa
set_option maxRecDepth 100000
open Go.RowKit

theorem cmp3_bd (a b : Nat) : -1 ≤ cmp3 a b ∧ cmp3 a b ≤ 1 := by
  unfold cmp3
  repeat' split
  all_goals omega
def cmpF (x y : Fx) : Int × Int := if x.v ∧ y.v then (cmpQ x.q y.q, 0) else (0, 1)
/-- two numbers that a call hands back -/
def IntsRes (w : World) (p : Int × Int) (e : Ending) (w' : World) : Prop := e = .returned (.tuple #[.int .i64 p.1, .int .i64 p.2]) ∧ Below w.heap.size w w'
set_option maxHeartbeats 4000000 in
theorem fcmp_any (w : World) (x y : Fx) (S : Int × Int) (hx : x.ok w) (hy : y.ok w) (l1 : x.xs.length ≤ 10000) (l2 : x.ys.length ≤ 10000) (m1 : y.xs.length ≤ 10000) (m2 : y.ys.length ≤ 10000) (hs : cmpF x y = S) : Calls Try.prog 88 #[x.val, y.val] w (IntsRes w S) := by
  have HS := Lib.hid hs
  clear hs
  by_cases hv : x.v ∧ y.v
  · have HV := Lib.hid hv
    have HVX := Lib.hid hv.1
    have HVY := Lib.hid hv.2
    have DX : Hid (nv x.ys ≠ 0) := Lib.hid hv.1.1
    have DY : Hid (nv y.ys ≠ 0) := Lib.hid hv.2.1
    have lx1 : (lim (nv x.xs)).length ≤ 128 := hv.1.2.2
    have lx2 : (lim (nv x.ys)).length ≤ 128 := hv.1.2.1
    have ly1 : (lim (nv y.xs)).length ≤ 128 := hv.2.2.2
    have ly2 : (lim (nv y.ys)).length ≤ 128 := hv.2.2.1
    obtain ⟨z, hz⟩ : ∃ z, cmp3 (nv x.xs * nv y.ys) (nv y.xs * nv x.ys) = z := ⟨_, rfl⟩
    have hz1 : -1 ≤ z ∧ z ≤ 1 := by rw [← hz]; exact cmp3_bd _ _
    obtain ⟨hz1, hz2⟩ := hz1
    have HZ : Hid (cmp3 (nv (lim (nv x.xs * nv y.ys))) (nv (lim (nv y.xs * nv x.ys))) = z) := Lib.hid (by rw [nv_lim, nv_lim]; exact hz)
    have hcode := cmpQ_code (b := x.b) (b' := y.b) (n := nv x.xs) (n' := nv y.xs) hv.1.1 hv.2.1
    rw [hz] at hcode
    obtain ⟨a1, ha1⟩ : ∃ a1, (x.b && decide (nv x.xs ≠ 0)) = a1 := ⟨_, rfl⟩
    obtain ⟨a2, ha2⟩ : ∃ a2, (y.b && decide (nv y.xs ≠ 0)) = a2 := ⟨_, rfl⟩
    rw [ha1, ha2] at hcode
    have HCODE := Lib.hid hcode
    have HA1 := Lib.hid ha1
    have HA2 := Lib.hid ha2
    clear hv hz hcode ha1 ha2
    go_enter Try.func88, Try.ntmps88
    go_wp2_with fail
    have b0 := (Below.refl w.heap.size w).alloc (Nat.le_refl _) (.cells x.cells 26)
    have bx := bk3_alloc w (.bool x.b) (.slice x.A x.xs.length x.c) (.slice x.D x.ys.length x.d)
    have okx := hx.below b0
    have oky := hy.below b0
    have sz0 := size_box w (.cells x.cells 26)
    have bw := b0
    clear b0
    generalize (w.alloc (.cells x.cells 26)) = wa at bx okx oky sz0 bw ⊢
    have b1 := (Below.refl wa.heap.size wa).alloc (Nat.le_refl _) (.cells y.cells 26)
    have by_ := bk3_alloc wa (.bool y.b) (.slice y.A y.xs.length y.c) (.slice y.D y.ys.length y.d)
    rw [sz0] at by_
    replace bx := bx.below b1
    replace okx := okx.below b1
    replace oky := oky.below b1
    replace bw := below_on bw b1 bw.size
    clear b1 sz0
    generalize (wa.alloc (.cells y.cells 26)) = w1 at bx by_ okx oky bw ⊢
    refine (fvalid_any w1 x true okx l1 l2 (decide_eq_true HVX.out)).mono ?_
    rintro e wn ⟨rfl, bb⟩
    replace bx := bx.below bb
    replace by_ := by_.below bb
    replace okx := okx.below bb
    replace oky := oky.below bb
    replace bw := below_on bw bb bw.size
    clear bb
    have ty := by_
    obtain ⟨y0, y1, y2, yf0, yf1, yf2, ylt, yb⟩ := ty
    clear yb
    go_wp2_with fail
    clear y0 y1 y2 yf0 yf1 yf2 ylt
    refine (fvalid_any wn y true oky m1 m2 (decide_eq_true HVY.out)).mono ?_
    rintro e wn ⟨rfl, bb⟩
    replace bx := bx.below bb
    replace by_ := by_.below bb
    replace okx := okx.below bb
    replace oky := oky.below bb
    replace bw := below_on bw bb bw.size
    clear bb
    go_upto_region 3 with fail
    go_cut [6] (fun zv wx => zv = .int .i64 z ∧ Below wn.heap.size wn wx)
    case first =>
      have bw0 := Below.refl wn.heap.size wn
      have bb := below_drew (Below.refl wn.heap.size wn)
      replace bw0 := below_on bw0 bb bw0.size
      replace bx := bx.below bb
      replace by_ := by_.below bb
      replace okx := okx.below bb
      replace oky := oky.below bb
      replace bw := below_on bw bb bw.size
      clear bb
      go_region_held3 (fun w' => w'.cell? ⟨w.heap.size, 0, none⟩ = some (.bool x.b) ∧ w'.cell? ⟨w.heap.size, 1, none⟩ = some (.slice x.A x.xs.length x.c) ∧ w'.cell? ⟨w.heap.size, 2, none⟩ = some (.slice x.D x.ys.length x.d) ∧ w'.cell? ⟨w.heap.size + 1, 0, none⟩ = some (.bool y.b) ∧ w'.cell? ⟨w.heap.size + 1, 1, none⟩ = some (.slice y.A y.xs.length y.c) ∧ w'.cell? ⟨w.heap.size + 1, 2, none⟩ = some (.slice y.D y.ys.length y.d))
        (first | exact ⟨bx.c0, bx.c1, bx.c2, by_.c0, by_.c1, by_.c2⟩ | go_keep)
        (first
          | (go_at_call 99
             with_reducible refine (ftimes_ok _ x.A y.D x.c y.d _ _ x.xs y.ys okx.num oky.den rfl rfl lx1 ly2).mono ?_
             rintro e wn ⟨AN, cN, rfl, na, bb⟩
             try replace nb := nb.below bb
             replace bw0 := below_on bw0 bb bw0.size
             replace bx := bx.below bb
             replace by_ := by_.below bb
             replace okx := okx.below bb
             replace oky := oky.below bb
             clear bb)
          | (go_at_call 99
             with_reducible refine (ftimes_ok _ y.A x.D y.c x.d _ _ y.xs x.ys oky.num okx.den rfl rfl ly1 lx2).mono ?_
             rintro e wn ⟨AD, cD, rfl, nb, bb⟩
             try replace na := na.below bb
             replace bw0 := below_on bw0 bb bw0.size
             replace bx := bx.below bb
             replace by_ := by_.below bb
             replace okx := okx.below bb
             replace oky := oky.below bb
             clear bb)
          | (go_at_call 93
             with_reducible refine (cmp_any _ AN AD cN cD _ _ (lim (nv x.xs * nv y.ys)) (lim (nv y.xs * nv x.ys)) z na nb rfl rfl HZ.out).mono ?_
             rintro e wn ⟨rfl, qq⟩
             have bb := qq.keep
             replace bw0 := below_on bw0 bb bw0.size
             replace bx := bx.below bb
             replace by_ := by_.below bb
             clear bb qq))
      all_goals
        go_wp2_with fail
        go_meet
        case rel => exact ⟨rfl, bw0⟩
    case rest =>
      obtain ⟨rfl, bb⟩ := hcut
      replace bx := bx.below bb
      replace by_ := by_.below bb
      replace okx := okx.below bb
      replace oky := oky.below bb
      replace bw := below_on bw bb bw.size
      clear bb
      go_upto_region 4 with fail
      go_cut [7, 8] (fun av bv wx => av = .bool a1 ∧ bv = .bool a2 ∧ Below wc.heap.size wc wx)
      case first =>
        have bw0 := Below.refl wc.heap.size wc
        have bb := below_drew (Below.refl wc.heap.size wc)
        replace bw0 := below_on bw0 bb bw0.size
        replace bx := bx.below bb
        replace by_ := by_.below bb
        replace okx := okx.below bb
        replace oky := oky.below bb
        replace bw := below_on bw bb bw.size
        clear bb
        cases hxb : x.b
        · cases hyb : y.b
          all_goals
            skip
            have tx := bx
            obtain ⟨x0, x1, x2, xf0, xf1, xf2, xlt, xb⟩ := tx
            clear xb
            have ty := by_
            obtain ⟨y0, y1, y2, yf0, yf1, yf2, ylt, yb⟩ := ty
            clear yb
            go_region_with (first
              | (go_at_call 100
                 with_reducible refine (fzero_any _ ⟨true, x.A, x.c, x.xs, x.D, x.d, x.ys⟩ (decide (nv x.xs = 0)) okx.num l1 rfl).mono ?_
                 rintro e wn ⟨rfl, bb⟩
                 replace bw0 := below_on bw0 bb bw0.size
                 replace bx := bx.below bb
                 replace by_ := by_.below bb
                 replace okx := okx.below bb
                 replace oky := oky.below bb
                 clear bb
                 have tx := bx
                 obtain ⟨x0, x1, x2, xf0, xf1, xf2, xlt, _⟩ := tx
                 have ty := by_
                 obtain ⟨y0, y1, y2, yf0, yf1, yf2, ylt, _⟩ := ty)
              | (go_at_call 100
                 with_reducible refine (fzero_any _ ⟨true, y.A, y.c, y.xs, y.D, y.d, y.ys⟩ (decide (nv y.xs = 0)) oky.num m1 rfl).mono ?_
                 rintro e wn ⟨rfl, bb⟩
                 replace bw0 := below_on bw0 bb bw0.size
                 replace bx := bx.below bb
                 replace by_ := by_.below bb
                 replace okx := okx.below bb
                 replace oky := oky.below bb
                 clear bb
                 have tx := bx
                 obtain ⟨x0, x1, x2, xf0, xf1, xf2, xlt, _⟩ := tx
                 have ty := by_
                 obtain ⟨y0, y1, y2, yf0, yf1, yf2, ylt, _⟩ := ty))
            all_goals
              skip
              go_wp2_with fail
              go_meet
              case rel => exact ⟨congrArg Value.bool (by rw [← HA1.out, hxb]; simp), congrArg Value.bool (by rw [← HA2.out, hyb]; simp), bw0⟩
        · cases hyb : y.b
          · skip
            have tx := bx
            obtain ⟨x0, x1, x2, xf0, xf1, xf2, xlt, xb⟩ := tx
            clear xb
            have ty := by_
            obtain ⟨y0, y1, y2, yf0, yf1, yf2, ylt, yb⟩ := ty
            clear yb
            go_region_with (first
              | (go_at_call 100
                 with_reducible refine (fzero_any _ ⟨true, x.A, x.c, x.xs, x.D, x.d, x.ys⟩ (decide (nv x.xs = 0)) okx.num l1 rfl).mono ?_
                 rintro e wn ⟨rfl, bb⟩
                 replace bw0 := below_on bw0 bb bw0.size
                 replace bx := bx.below bb
                 replace by_ := by_.below bb
                 replace okx := okx.below bb
                 replace oky := oky.below bb
                 clear bb
                 have tx := bx
                 obtain ⟨x0, x1, x2, xf0, xf1, xf2, xlt, _⟩ := tx
                 have ty := by_
                 obtain ⟨y0, y1, y2, yf0, yf1, yf2, ylt, _⟩ := ty)
              | (go_at_call 100
                 with_reducible refine (fzero_any _ ⟨true, y.A, y.c, y.xs, y.D, y.d, y.ys⟩ (decide (nv y.xs = 0)) oky.num m1 rfl).mono ?_
                 rintro e wn ⟨rfl, bb⟩
                 replace bw0 := below_on bw0 bb bw0.size
                 replace bx := bx.below bb
                 replace by_ := by_.below bb
                 replace okx := okx.below bb
                 replace oky := oky.below bb
                 clear bb
                 have tx := bx
                 obtain ⟨x0, x1, x2, xf0, xf1, xf2, xlt, _⟩ := tx
                 have ty := by_
                 obtain ⟨y0, y1, y2, yf0, yf1, yf2, ylt, _⟩ := ty))
            all_goals
              skip
              go_wp2_with fail
              go_meet
              case rel => exact ⟨congrArg Value.bool (by rw [← HA1.out, hxb]; simp), congrArg Value.bool (by rw [← HA2.out, hyb]; simp), bw0⟩
          · skip
            go_region_held3 (fun w' => w'.cell? ⟨w.heap.size, 0, none⟩ = some (.bool x.b) ∧ w'.cell? ⟨w.heap.size, 1, none⟩ = some (.slice x.A x.xs.length x.c) ∧ w'.cell? ⟨w.heap.size, 2, none⟩ = some (.slice x.D x.ys.length x.d) ∧ w'.cell? ⟨w.heap.size + 1, 0, none⟩ = some (.bool y.b) ∧ w'.cell? ⟨w.heap.size + 1, 1, none⟩ = some (.slice y.A y.xs.length y.c) ∧ w'.cell? ⟨w.heap.size + 1, 2, none⟩ = some (.slice y.D y.ys.length y.d))
              (first | exact ⟨bx.c0, bx.c1, bx.c2, by_.c0, by_.c1, by_.c2⟩ | go_keep)
              (first
                | (go_at_call 100
                   with_reducible refine (fzero_any _ ⟨true, x.A, x.c, x.xs, x.D, x.d, x.ys⟩ (decide (nv x.xs = 0)) okx.num l1 rfl).mono ?_
                   rintro e wn ⟨rfl, bb⟩
                   replace bw0 := below_on bw0 bb bw0.size
                   replace bx := bx.below bb
                   replace by_ := by_.below bb
                   replace okx := okx.below bb
                   replace oky := oky.below bb
                   clear bb
                   have tx := bx
                   obtain ⟨x0, x1, x2, xf0, xf1, xf2, xlt, _⟩ := tx
                   have ty := by_
                   obtain ⟨y0, y1, y2, yf0, yf1, yf2, ylt, _⟩ := ty)
                | (go_at_call 100
                   with_reducible refine (fzero_any _ ⟨true, y.A, y.c, y.xs, y.D, y.d, y.ys⟩ (decide (nv y.xs = 0)) oky.num m1 rfl).mono ?_
                   rintro e wn ⟨rfl, bb⟩
                   replace bw0 := below_on bw0 bb bw0.size
                   replace bx := bx.below bb
                   replace by_ := by_.below bb
                   replace okx := okx.below bb
                   replace oky := oky.below bb
                   clear bb
                   have tx := bx
                   obtain ⟨x0, x1, x2, xf0, xf1, xf2, xlt, _⟩ := tx
                   have ty := by_
                   obtain ⟨y0, y1, y2, yf0, yf1, yf2, ylt, _⟩ := ty))
            all_goals
              skip
              go_wp2_with fail
              go_meet
              case rel => exact ⟨congrArg Value.bool (by rw [← HA1.out, hxb]; simp), congrArg Value.bool (by rw [← HA2.out, hyb]; simp), bw0⟩
      case rest =>
        obtain ⟨rfl, rfl, bb⟩ := hcut
        replace bx := bx.below bb
        replace by_ := by_.below bb
        replace okx := okx.below bb
        replace oky := oky.below bb
        replace bw := below_on bw bb bw.size
        clear bb
        have hneg : IntKind.i64.wrap (-z) = -z := IntWalk.i64_in _ (by omega)
        cases a1 <;> cases a2
        all_goals
          go_wp2_with fail
          go_ret2
          refine ⟨?_, bw⟩
          rw [← HS.out, cmpF, if_pos HV.out, Fx.q, Fx.q, HCODE.out]
          rfl
  · by_cases hvx : x.v
    · have hvy : ¬ y.v := fun h => hv ⟨hvx, h⟩
      have HVX := Lib.hid hvx
      have HVY : Hid (¬ y.v) := hvy
      have HV : Hid (¬ (x.v ∧ y.v)) := hv
      clear hvx hvy hv
      go_enter Try.func88, Try.ntmps88
      go_wp2_with fail
      have b0 := (Below.refl w.heap.size w).alloc (Nat.le_refl _) (.cells x.cells 26)
      have bx := bk3_alloc w (.bool x.b) (.slice x.A x.xs.length x.c) (.slice x.D x.ys.length x.d)
      have okx := hx.below b0
      have oky := hy.below b0
      have sz0 := size_box w (.cells x.cells 26)
      have bw := b0
      clear b0
      generalize (w.alloc (.cells x.cells 26)) = wa at bx okx oky sz0 bw ⊢
      have b1 := (Below.refl wa.heap.size wa).alloc (Nat.le_refl _) (.cells y.cells 26)
      have by_ := bk3_alloc wa (.bool y.b) (.slice y.A y.xs.length y.c) (.slice y.D y.ys.length y.d)
      rw [sz0] at by_
      replace bx := bx.below b1
      replace okx := okx.below b1
      replace oky := oky.below b1
      replace bw := below_on bw b1 bw.size
      clear b1 sz0
      generalize (wa.alloc (.cells y.cells 26)) = w1 at bx by_ okx oky bw ⊢
      refine (fvalid_any w1 x true okx l1 l2 (decide_eq_true HVX.out)).mono ?_
      rintro e wn ⟨rfl, bb⟩
      replace bx := bx.below bb
      replace by_ := by_.below bb
      replace okx := okx.below bb
      replace oky := oky.below bb
      replace bw := below_on bw bb bw.size
      clear bb
      have ty := by_
      obtain ⟨y0, y1, y2, yf0, yf1, yf2, ylt, yb⟩ := ty
      clear yb
      go_wp2_with fail
      clear y0 y1 y2 yf0 yf1 yf2 ylt
      refine (fvalid_any wn y false oky m1 m2 (decide_eq_false HVY.out)).mono ?_
      rintro e wn ⟨rfl, bb⟩
      replace bx := bx.below bb
      replace by_ := by_.below bb
      replace okx := okx.below bb
      replace oky := oky.below bb
      replace bw := below_on bw bb bw.size
      clear bb
      go_wp2_with fail
      go_ret2
      rw [← HS.out, cmpF, if_neg HV.out]
      exact ⟨rfl, bw⟩
    · have HVX : Hid (¬ x.v) := hvx
      have HV : Hid (¬ (x.v ∧ y.v)) := hv
      clear hvx hv
      go_enter Try.func88, Try.ntmps88
      go_wp2_with fail
      have b0 := (Below.refl w.heap.size w).alloc (Nat.le_refl _) (.cells x.cells 26)
      have bx := bk3_alloc w (.bool x.b) (.slice x.A x.xs.length x.c) (.slice x.D x.ys.length x.d)
      have okx := hx.below b0
      have oky := hy.below b0
      have sz0 := size_box w (.cells x.cells 26)
      have bw := b0
      clear b0
      generalize (w.alloc (.cells x.cells 26)) = wa at bx okx oky sz0 bw ⊢
      have b1 := (Below.refl wa.heap.size wa).alloc (Nat.le_refl _) (.cells y.cells 26)
      have by_ := bk3_alloc wa (.bool y.b) (.slice y.A y.xs.length y.c) (.slice y.D y.ys.length y.d)
      rw [sz0] at by_
      replace bx := bx.below b1
      replace okx := okx.below b1
      replace oky := oky.below b1
      replace bw := below_on bw b1 bw.size
      clear b1 sz0
      generalize (wa.alloc (.cells y.cells 26)) = w1 at bx by_ okx oky bw ⊢
      refine (fvalid_any w1 x false okx l1 l2 (decide_eq_false HVX.out)).mono ?_
      rintro e wn ⟨rfl, bb⟩
      replace bx := bx.below bb
      replace by_ := by_.below bb
      replace okx := okx.below bb
      replace oky := oky.below bb
      replace bw := below_on bw bb bw.size
      clear bb
      go_wp2_with fail
      go_ret2
      rw [← HS.out, cmpF, if_neg HV.out]
      exact ⟨rfl, bw⟩
end Go.Proofs.Ytnmomigaedfdoaa
namespace Go.Proofs.Ytnmomigaedfdoaa
set_option maxRecDepth 100000
open Go.RowKit

theorem same_any (w : World) (A D : Option Addr) (c d n m : Nat) (xs ys : List Nat) (b : Bool) (h : Nt w A c xs) (k : Nt w D d ys) (hn : n = xs.length) (hm : m = ys.length) (hb : decide (xs = ys) = b) :
    Calls Try.prog 84 #[.slice A n c, .slice D m d] w fun e w' => e = .returned (.bool b) ∧ Qt w w' := by
  have HB := Lib.hid hb; clear hb
  subst hn hm
  have h3 := h.len
  have k3 := k.len
  by_cases hl : xs.length = ys.length
  · have HL := Lib.hid hl
    have hl1 : ((xs.length : Int) != (ys.length : Int)) = false := by simp [hl]
    have hl2 : xs.length ≤ ys.length := by omega
    clear hl
    go_enter Try.func84, Try.ntmps84
    go_wp2_with fail
    go_loopw [5] (fun i wr => ∃ k : Nat, k ≤ xs.length ∧ i = .int .i64 k ∧ (∀ j (h1 : j < xs.length) (h2 : j < ys.length), j < k → xs[j] = ys[j]) ∧ Qt w wr) (fun i _ => xs.length - (intOf i).toNat)
    case atStart => exact ⟨0, by omega, rfl, fun j _ _ h => absurd h (by omega), Qt.refl _⟩
    case round =>
      obtain ⟨i, hi, rfl, he, q⟩ := hrel
      have HE := Lib.hid he
      clear he
      by_cases hlt : i < xs.length
      · have hlt2 : i < ys.length := by omega
        obtain ⟨adX, rfl, hbX, hcX, hvX⟩ := (h.below (q.below _)).at i hlt
        obtain ⟨adY, rfl, hbY, hcY, hvY⟩ := (k.below (q.below _)).at i hlt2
        clear h k
        by_cases hxy : xs[i] = ys[i]
        · have HX := Lib.hid hxy
          have hx1 : ((xs[i] : Int) != (ys[i] : Int)) = false := by simp [hxy]
          clear hxy
          go_wp2_with fail
          go_quiet (fail)
          go_wp2_with fail
          go_roundw
          case rel => exact ⟨i + 1, by omega, by go_num, fun j h1 h2 h3 => by
            rcases Nat.lt_or_ge j i with h4 | h4
            · exact HE.out j h1 h2 h4
            · have : j = i := by omega
              subst this
              exact HX.out, q.drewN _⟩
          case measure => simp [intOf]; omega
        · have hx1 : ((xs[i] : Int) != (ys[i] : Int)) = true := by rw [bne_iff_ne]; omega
          go_wp2_with fail
          go_quiet (fail)
          go_wp2_with fail
          go_ret
          exact ⟨ret_bool (by rw [← HB.out]; symm; apply decide_eq_false; intro e; subst e; exact hxy rfl), q.drewN _⟩
      · go_wp2_with fail
        go_ret
        exact ⟨ret_bool (by rw [← HB.out]; symm; apply decide_eq_true; exact List.ext_getElem HL.out fun j h1 h2 => HE.out j h1 h2 (by omega)), q⟩
  · have hl1 : ((xs.length : Int) != (ys.length : Int)) = true := by rw [bne_iff_ne]; omega
    go_enter Try.func84, Try.ntmps84
    go_wp2_with fail
    go_ret
    exact ⟨ret_bool (by rw [← HB.out]; symm; apply decide_eq_false; intro e; exact hl (by rw [e])), Qt.refl _⟩
end Go.Proofs.Ytnmomigaedfdoaa
namespace Go.Proofs.Ytnmomigaedfdoaa
set_option maxRecDepth 100000
open Go.RowKit

set_option maxHeartbeats 1600000 in
theorem samef_any (w : World) (x y : Fx) (b : Bool) (hx : x.ok w) (hy : y.ok w) (hb : decide (x.b = y.b ∧ x.xs = y.xs ∧ x.ys = y.ys) = b) :
    Calls Try.prog 59 #[x.val, y.val] w fun e w' => e = .returned (.bool b) ∧ Below w.heap.size w w' := by
  have HB := Lib.hid hb; clear hb
  by_cases h1 : x.b = y.b
  · have h1b : (x.b == y.b) = true := by simp [h1]
    have H1 := Lib.hid h1
    clear h1
    by_cases h2 : x.xs = y.xs
    · have H2 := Lib.hid h2
      clear h2
      go_enter Try.func59, Try.ntmps59
      go_wp2_with fail
      have b0 := (Below.refl w.heap.size w).alloc (Nat.le_refl _) (.cells x.cells 26)
      have bx := bk3_alloc w (.bool x.b) (.slice x.A x.xs.length x.c) (.slice x.D x.ys.length x.d)
      have okx := hx.below b0
      have oky := hy.below b0
      have sz0 := size_box w (.cells x.cells 26)
      have bw := b0
      clear b0
      generalize (w.alloc (.cells x.cells 26)) = wa at bx okx oky sz0 bw ⊢
      have b1 := (Below.refl wa.heap.size wa).alloc (Nat.le_refl _) (.cells y.cells 26)
      have by_ := bk3_alloc wa (.bool y.b) (.slice y.A y.xs.length y.c) (.slice y.D y.ys.length y.d)
      rw [sz0] at by_
      replace bx := bx.below b1
      replace okx := okx.below b1
      replace oky := oky.below b1
      replace bw := below_on bw b1 bw.size
      clear b1 sz0
      generalize (wa.alloc (.cells y.cells 26)) = w1 at bx by_ okx oky bw ⊢
      have tx := bx
      obtain ⟨x0, x1, x2, xf0, xf1, xf2, xlt, xb⟩ := tx
      clear xb
      have ty := by_
      obtain ⟨y0, y1, y2, yf0, yf1, yf2, ylt, yb⟩ := ty
      clear yb
      go_wp2_with fail
      clear x0 x1 x2 xf0 xf1 xf2 xlt
      clear y0 y1 y2 yf0 yf1 yf2 ylt
      refine (same_any _ x.A y.A x.c y.c _ _ x.xs y.xs true okx.num oky.num rfl rfl (decide_eq_true H2.out)).mono ?_
      rintro e wn ⟨rfl, qq⟩
      have bb := qq.keep
      clear qq
      replace bx := bx.below bb
      replace by_ := by_.below bb
      replace okx := okx.below bb
      replace oky := oky.below bb
      replace bw := below_on bw bb bw.size
      clear bb
      have tx := bx
      obtain ⟨x0, x1, x2, xf0, xf1, xf2, xlt, xb⟩ := tx
      clear xb
      have ty := by_
      obtain ⟨y0, y1, y2, yf0, yf1, yf2, ylt, yb⟩ := ty
      clear yb
      go_wp2_with fail
      clear x0 x1 x2 xf0 xf1 xf2 xlt
      clear y0 y1 y2 yf0 yf1 yf2 ylt
      refine (same_any _ x.D y.D x.d y.d _ _ x.ys y.ys _ okx.den oky.den rfl rfl rfl).mono ?_
      rintro e wn ⟨rfl, qq⟩
      have bb := qq.keep
      clear qq
      replace bx := bx.below bb
      replace by_ := by_.below bb
      replace okx := okx.below bb
      replace oky := oky.below bb
      replace bw := below_on bw bb bw.size
      clear bb
      go_wp2_with fail
      go_ret
      exact ⟨ret_bool (by rw [← HB.out]; have h1 := H1.out; have h2 := H2.out; simp [h1, h2]), bw⟩
    · have H2 : Hid (¬ x.xs = y.xs) := h2
      clear h2
      go_enter Try.func59, Try.ntmps59
      go_wp2_with fail
      have b0 := (Below.refl w.heap.size w).alloc (Nat.le_refl _) (.cells x.cells 26)
      have bx := bk3_alloc w (.bool x.b) (.slice x.A x.xs.length x.c) (.slice x.D x.ys.length x.d)
      have okx := hx.below b0
      have oky := hy.below b0
      have sz0 := size_box w (.cells x.cells 26)
      have bw := b0
      clear b0
      generalize (w.alloc (.cells x.cells 26)) = wa at bx okx oky sz0 bw ⊢
      have b1 := (Below.refl wa.heap.size wa).alloc (Nat.le_refl _) (.cells y.cells 26)
      have by_ := bk3_alloc wa (.bool y.b) (.slice y.A y.xs.length y.c) (.slice y.D y.ys.length y.d)
      rw [sz0] at by_
      replace bx := bx.below b1
      replace okx := okx.below b1
      replace oky := oky.below b1
      replace bw := below_on bw b1 bw.size
      clear b1 sz0
      generalize (wa.alloc (.cells y.cells 26)) = w1 at bx by_ okx oky bw ⊢
      have tx := bx
      obtain ⟨x0, x1, x2, xf0, xf1, xf2, xlt, xb⟩ := tx
      clear xb
      have ty := by_
      obtain ⟨y0, y1, y2, yf0, yf1, yf2, ylt, yb⟩ := ty
      clear yb
      go_wp2_with fail
      clear x0 x1 x2 xf0 xf1 xf2 xlt
      clear y0 y1 y2 yf0 yf1 yf2 ylt
      refine (same_any _ x.A y.A x.c y.c _ _ x.xs y.xs false okx.num oky.num rfl rfl (decide_eq_false H2.out)).mono ?_
      rintro e wn ⟨rfl, qq⟩
      have bb := qq.keep
      clear qq
      replace bx := bx.below bb
      replace by_ := by_.below bb
      replace okx := okx.below bb
      replace oky := oky.below bb
      replace bw := below_on bw bb bw.size
      clear bb
      go_wp2_with fail
      go_ret
      exact ⟨ret_bool (by rw [← HB.out]; symm; apply decide_eq_false; intro h; exact H2.out h.2.1), bw⟩
  · have h1b : (x.b == y.b) = false := by simpa using h1
    have H1 : Hid (¬ x.b = y.b) := h1
    clear h1
    go_enter Try.func59, Try.ntmps59
    go_wp2_with fail
    have b0 := (Below.refl w.heap.size w).alloc (Nat.le_refl _) (.cells x.cells 26)
    have bx := bk3_alloc w (.bool x.b) (.slice x.A x.xs.length x.c) (.slice x.D x.ys.length x.d)
    have okx := hx.below b0
    have oky := hy.below b0
    have sz0 := size_box w (.cells x.cells 26)
    have bw := b0
    clear b0
    generalize (w.alloc (.cells x.cells 26)) = wa at bx okx oky sz0 bw ⊢
    have b1 := (Below.refl wa.heap.size wa).alloc (Nat.le_refl _) (.cells y.cells 26)
    have by_ := bk3_alloc wa (.bool y.b) (.slice y.A y.xs.length y.c) (.slice y.D y.ys.length y.d)
    rw [sz0] at by_
    replace bx := bx.below b1
    replace okx := okx.below b1
    replace oky := oky.below b1
    replace bw := below_on bw b1 bw.size
    clear b1 sz0
    generalize (wa.alloc (.cells y.cells 26)) = w1 at bx by_ okx oky bw ⊢
    have tx := bx
    obtain ⟨x0, x1, x2, xf0, xf1, xf2, xlt, xb⟩ := tx
    clear xb
    have ty := by_
    obtain ⟨y0, y1, y2, yf0, yf1, yf2, ylt, yb⟩ := ty
    clear yb
    go_wp2_with fail
    go_ret
    exact ⟨ret_bool (by rw [← HB.out]; symm; apply decide_eq_false; intro h; exact H1.out h.1), bw⟩
end Go.Proofs.Ytnmomigaedfdoaa
namespace Go.Proofs.Ytnmomigaedfdoaa
set_option maxRecDepth 100000
open Go.RowKit

/-- a slice that reads as fractions -/
def RdF (w : World) (A : Option Addr) (vs : List Fx) : Prop := 0 < vs.length → ∃ ad, A = some ad ∧ ad.block < w.heap.size ∧
  ∀ k (hk : k < vs.length), w.cell? (ad.add (k * 3)) = some (.bool vs[k].b) ∧ w.cell? ⟨(ad.add (k * 3)).block, (ad.add (k * 3)).off + 1, none⟩ = some (.slice vs[k].A vs[k].xs.length vs[k].c) ∧ w.cell? ⟨(ad.add (k * 3)).block, (ad.add (k * 3)).off + 2, none⟩ = some (.slice vs[k].D vs[k].ys.length vs[k].d)
def longB (vs : List Fx) : Bool := vs.any (fun v => decide (24 < v.xs.length) || decide (24 < v.ys.length))
end Go.Proofs.Ytnmomigaedfdoaa
namespace Go.Proofs.Ytnmomigaedfdoaa
set_option maxRecDepth 100000
open Go.RowKit

theorem heap_set_fv (w : World) (g i : Nat) (cs : Array Value) (t : TypeId) (fr : Nat × Nat) (v : Value) (hg : w.heap[g]? = some (.cells cs t fr)) :
    (w.setCell ⟨g, i, none⟩ v).heap[g]? = some (.cells (cs.setIfInBounds i v) t fr) := by
  simp [World.setCell, Array.getElem?_modify, hg]
theorem bk3_put {w : World} {G : Nat} {v0 v1 v2 a b c : Value} (bk : Bk3 w G v0 v1 v2) : Bk3 (((w.setCell ⟨G, 0, none⟩ a).setCell ⟨G, 1, none⟩ b).setCell ⟨G, 2, none⟩ c) G a b c := by
  obtain ⟨k0, k1, k2, f0, f1, f2, lt, t, fr, e⟩ := bk
  refine ⟨?_, ?_, ?_, ?_, ?_, ?_, ?_, t, fr, ?_⟩
  · simp [go_sem, k0]
  · simp [go_sem, k1]
  · simp [go_sem, k2]
  · simp [go_sem, f0]
  · simp [go_sem, f1]
  · simp [go_sem, f2]
  · simp [World.setCell]; exact lt
  · exact heap_set_fv _ _ _ _ _ _ _ (heap_set_fv _ _ _ _ _ _ _ (heap_set_fv _ _ _ _ _ _ _ e))
/-- a variable of the law: the fraction that lies in a block -/
structure Fa (w : World) (G : Nat) (x : Fx) : Prop where
  bk : Bk3 w G (.bool x.b) (.slice x.A x.xs.length x.c) (.slice x.D x.ys.length x.d)
  ok : x.ok w
section
variable {w w' : World} {G H : Nat} {x y : Fx}
theorem Fa.c0 (h : Fa w G x) : w.cell? ⟨G, 0, none⟩ = some (.bool x.b) := h.bk.c0
theorem Fa.c1 (h : Fa w G x) : w.cell? ⟨G, 1, none⟩ = some (.slice x.A x.xs.length x.c) := h.bk.c1
theorem Fa.c2 (h : Fa w G x) : w.cell? ⟨G, 2, none⟩ = some (.slice x.D x.ys.length x.d) := h.bk.c2
theorem Fa.lt (h : Fa w G x) : G < w.heap.size := h.bk.lt
theorem Fa.below (h : Fa w G x) (hb : Below w.heap.size w w') : Fa w' G x := ⟨h.bk.below hb, h.ok.below hb⟩
theorem Fa.of_bk (bk : Bk3 w G (.bool x.b) (.slice x.A x.xs.length x.c) (.slice x.D x.ys.length x.d)) (h : x.ok w) : Fa w G x := ⟨bk, h⟩
theorem heap_set_ne {a b c : Value} (hne : H ≠ G) : (((w.setCell ⟨H, 0, none⟩ a).setCell ⟨H, 1, none⟩ b).setCell ⟨H, 2, none⟩ c).heap[G]? = w.heap[G]? := by
  rw [heap_setCell_other _ _ _ _ (by exact fun e => hne e.symm), heap_setCell_other _ _ _ _ (by exact fun e => hne e.symm), heap_setCell_other _ _ _ _ (by exact fun e => hne e.symm)]
theorem Bk3.far {v0 v1 v2 a b c : Value} (h : Bk3 w G v0 v1 v2) (hne : H ≠ G) : Bk3 (((w.setCell ⟨H, 0, none⟩ a).setCell ⟨H, 1, none⟩ b).setCell ⟨H, 2, none⟩ c) G v0 v1 v2 := by
  have hg := heap_set_ne (w := w) (a := a) (b := b) (c := c) hne
  refine ⟨cell_set3 h.c0 hne, cell_set3 h.c1 hne, cell_set3 h.c2 hne, ?_, ?_, ?_, by simp [World.setCell]; exact h.lt, by rw [hg]; exact h.blk⟩
  · rw [← h.f0]; unfold World.frozen?; rw [hg]
  · rw [← h.f1]; unfold World.frozen?; rw [hg]
  · rw [← h.f2]; unfold World.frozen?; rw [hg]
/-- a store into another variable's block -/
theorem Fa.far (h : Fa w G x) (k : Fa w H y) (hne : H ≠ G) {a b c : Value} : Fa (((w.setCell ⟨H, 0, none⟩ a).setCell ⟨H, 1, none⟩ b).setCell ⟨H, 2, none⟩ c) G x :=
  ⟨h.bk.far hne, set3_ok h.ok k.bk rfl rfl rfl⟩
/-- a store into this variable's block -/
theorem Fa.put {z : Fx} (k : Fa w H y) (h : z.ok w) : Fa (((w.setCell ⟨H, 0, none⟩ (.bool z.b)).setCell ⟨H, 1, none⟩ (.slice z.A z.xs.length z.c)).setCell ⟨H, 2, none⟩ (.slice z.D z.ys.length z.d)) H z :=
  ⟨bk3_put k.bk, set3_ok h k.bk rfl rfl rfl⟩
end
theorem fa_alloc {w : World} {x : Fx} (h : x.ok w) : Fa (w.alloc (.cells x.cells 26)) w.heap.size x ∧ Below w.heap.size w (w.alloc (.cells x.cells 26)) := by
  have b0 := (Below.refl w.heap.size w).alloc (Nat.le_refl _) (.cells x.cells 26)
  exact ⟨Fa.of_bk (bk3_alloc w _ _ _) (h.below b0), b0⟩
end Go.Proofs.Ytnmomigaedfdoaa
namespace Go.Proofs.Ytnmomigaedfdoaa
set_option maxRecDepth 100000

/-- x is q in lowest terms -/
structure Rp (x : Fx) (q : Rat) : Prop where
  b : x.b = decide (q.num < 0)
  n : x.xs = lim q.num.natAbs
  d : x.ys = lim q.den
theorem sg_abs (a : Int) : sg (decide (a < 0)) a.natAbs = a := by
  unfold sg
  by_cases h : a < 0
  · simp only [h, decide_true, if_true]; omega
  · simp only [h, decide_false, Bool.false_eq_true, if_false]; omega
theorem Rp.q {x : Fx} {q : Rat} (h : Rp x q) : x.q = q := by
  rw [Fx.q, h.b, h.n, h.d, nv_lim, nv_lim, qv, sg_abs]
  exact Rat.mkRat_self q
theorem Rp.same {x y : Fx} {q : Rat} (h : Rp x q) (k : Rp y q) : x.b = y.b ∧ x.xs = y.xs ∧ x.ys = y.ys := ⟨h.b.trans k.b.symm, h.n.trans k.n.symm, h.d.trans k.d.symm⟩
/-- at most so many limbs -/
def Sz (q : Rat) (n d : Nat) : Prop := (lim q.num.natAbs).length ≤ n ∧ (lim q.den).length ≤ d
theorem Sz.mono {q : Rat} {n d n' d' : Nat} (h : Sz q n d) (hn : n ≤ n') (hd : d ≤ d') : Sz q n' d' := ⟨Nat.le_trans h.1 hn, Nat.le_trans h.2 hd⟩
theorem Rp.v {x : Fx} {q : Rat} (h : Rp x q) (hs : Sz q 128 128) : x.v := by
  rw [Fx.v, Vf, h.n, h.d, nv_lim, nv_lim]
  exact ⟨q.den_nz, hs.2, hs.1⟩
theorem Rp.l1 {x : Fx} {q : Rat} (h : Rp x q) (hs : Sz q 128 128) : x.xs.length ≤ 10000 := by rw [h.n]; have := hs.1; omega
theorem Rp.l2 {x : Fx} {q : Rat} (h : Rp x q) (hs : Sz q 128 128) : x.ys.length ≤ 10000 := by rw [h.d]; have := hs.2; omega
theorem Sz.mk {a : Int} {e n d : Nat} (he : e ≠ 0) (hn : (lim a.natAbs).length ≤ n) (hd : (lim e).length ≤ d) : Sz (mkRat a e) n d := by
  have h1 := lim_length_mono (Nat.div_le_self a.natAbs (Nat.gcd e a.natAbs))
  have h2 := lim_length_mono (Nat.div_le_self e (Nat.gcd e a.natAbs))
  constructor
  · rw [Rat.num_mkRat, if_neg he]
    have e1 : (a / (Nat.gcd e a.natAbs : Int)).natAbs = a.natAbs / Nat.gcd e a.natAbs := by
      obtain ⟨c, hc⟩ : (Nat.gcd e a.natAbs : Int) ∣ a := Int.ofNat_dvd_left.2 (Nat.gcd_dvd_right e a.natAbs)
      have hg : 0 < Nat.gcd e a.natAbs := Nat.gcd_pos_of_pos_left _ (Nat.pos_of_ne_zero he)
      generalize Nat.gcd e a.natAbs = g at *
      subst hc
      rw [Int.mul_ediv_cancel_left _ (by omega), Int.natAbs_mul, Int.natAbs_natCast, Nat.mul_div_cancel_left _ hg]
    rw [e1]; omega
  · rw [Rat.den_mkRat, if_neg he]; omega
theorem Sz.of_qv {b : Bool} {m e n d : Nat} (he : e ≠ 0) (hn : (lim m).length ≤ n) (hd : (lim e).length ≤ d) : Sz (qv b m e) n d := Sz.mk he (by rw [sg_natAbs]; exact hn) hd
theorem den_mul_ne {p q : Rat} : p.den * q.den ≠ 0 := Nat.mul_ne_zero p.den_nz q.den_nz
theorem Sz.mul {p q : Rat} {a b c d : Nat} (h : Sz p a b) (k : Sz q c d) : Sz (p * q) (a + c) (b + d) := by
  rw [← Rat.mkRat_self p, ← Rat.mkRat_self q, Rat.mkRat_mul_mkRat]
  exact Sz.mk den_mul_ne (by rw [Int.natAbs_mul]; exact len_mulf h.1 k.1) (len_mulf h.2 k.2)
theorem Sz.add {p q : Rat} {a b c d : Nat} (h : Sz p a b) (k : Sz q c d) : Sz (p + q) (max (a + d) (c + b) + 1) (b + d) := by
  rw [← Rat.mkRat_self p, ← Rat.mkRat_self q, Rat.mkRat_add_mkRat _ _ p.den_nz q.den_nz]
  refine Sz.mk den_mul_ne ?_ (len_mulf h.2 k.2)
  have h1 := len_mulf h.1 k.2
  have h2 := len_mulf k.1 h.2
  have h3 : (p.num * (q.den : Int) + q.num * (p.den : Int)).natAbs ≤ p.num.natAbs * q.den + q.num.natAbs * p.den := by
    refine Nat.le_trans (Int.natAbs_add_le _ _) ?_
    rw [Int.natAbs_mul, Int.natAbs_mul, Int.natAbs_natCast, Int.natAbs_natCast]
    exact Nat.le_refl _
  refine Nat.le_trans (lim_length_mono h3) ?_
  exact len_addf (by omega) (by omega)
theorem Sz.neg {p : Rat} {a b : Nat} (h : Sz p a b) : Sz (-p) a b := by
  unfold Sz at *
  rw [Rat.neg_num, Rat.neg_den, Int.natAbs_neg]; exact h
theorem Sz.sub {p q : Rat} {a b c d : Nat} (h : Sz p a b) (k : Sz q c d) : Sz (p - q) (max (a + d) (c + b) + 1) (b + d) := by
  rw [Rat.sub_eq_add_neg]; exact h.add k.neg
theorem Sz.inv {p : Rat} {a b : Nat} (h : Sz p a b) (hp : p ≠ 0) : Sz p⁻¹ b a := by
  have hn : p.num ≠ 0 := fun e => hp (Rat.num_eq_zero.1 e)
  have e : p = qv (decide (p.num < 0)) p.num.natAbs p.den := by rw [qv, sg_abs, Rat.mkRat_self]
  have hi : p⁻¹ = qv (decide (p.num < 0)) p.den p.num.natAbs := by
    conv => lhs; rw [e]
    exact qv_inv (by omega)
  rw [hi]
  exact Sz.of_qv (by omega) h.2 h.1
theorem Sz.div {p q : Rat} {a b c d : Nat} (h : Sz p a b) (k : Sz q c d) (hq : q ≠ 0) : Sz (p / q) (a + d) (b + c) := by
  rw [Rat.div_def]; exact h.mul (k.inv hq)
/-- q in lowest terms, without an error -/
def okS (q : Rat) : Bool × List Nat × List Nat × Int := (decide (q.num < 0), lim q.num.natAbs, lim q.den, 0)
theorem frS_ok {q : Rat} (h : Sz q 128 128) : frS q = okS q := by
  rw [frS, if_neg, okS]
  rw [bigQ]; have := h.1; have := h.2; omega
theorem Rp.of {x : Fx} {q : Rat} (h : x.b = (okS q).1 ∧ x.xs = (okS q).2.1 ∧ x.ys = (okS q).2.2.1) : Rp x q := ⟨h.1, h.2.1, h.2.2⟩
theorem sm {x y : Fx} {S : Bool × List Nat × List Nat × Int} (h : x.b = S.1 ∧ x.xs = S.2.1 ∧ x.ys = S.2.2.1) (k : y.b = S.1 ∧ y.xs = S.2.1 ∧ y.ys = S.2.2.1) : decide (x.b = y.b ∧ x.xs = y.xs ∧ x.ys = y.ys) = true :=
  decide_eq_true ⟨h.1.trans k.1.symm, h.2.1.trans k.2.1.symm, h.2.2.trans k.2.2.symm⟩
end Go.Proofs.Ytnmomigaedfdoaa
namespace Go.Proofs.Ytnmomigaedfdoaa
set_option maxRecDepth 100000
open Go.RowKit

theorem addS_f {m n : Nat} (hm : (lim m).length ≤ 256) (hn : (lim n).length ≤ 256) : addS m n = (lim (m + n), 0) := by
  have h1 := len_addf hm hn
  rw [addS, if_neg (by omega), sizS, if_neg (by omega)]
theorem subS_f {m n : Nat} (hm : (lim m).length ≤ 256) (hn : (lim n).length ≤ 256) (h : n ≤ m) : subS m n = (lim (m - n), 0) := by
  rw [subS, if_neg (by omega), if_neg (by omega)]
theorem cmp3_nn {m n : Nat} (h : n ≤ m) : 0 ≤ cmp3 m n := by
  unfold cmp3
  repeat' split
  all_goals omega
theorem cmp3_nge {m n : Nat} (h : m < n) : ¬ 0 ≤ cmp3 m n := by
  unfold cmp3
  repeat' split
  all_goals omega
def addF (x y : Fx) : Bool × List Nat × List Nat × Int := if x.v ∧ y.v then frS (x.q + y.q) else errF 1
def subF (x y : Fx) : Bool × List Nat × List Nat × Int := if x.v ∧ y.v then frS (x.q - y.q) else errF 1
end Go.Proofs.Ytnmomigaedfdoaa
namespace Go.Proofs.Ytnmomigaedfdoaa
set_option maxRecDepth 100000
open Go.RowKit

theorem wrapu_pos {v : Int} (h0 : 0 ≤ v) (h : v ≤ 9223372036854775807) : IntKind.u64.wrap v = (v.natAbs : Int) := by
  rw [IntKind.wrap_u64]; omega
theorem qv_divInt {n d : Int} (_hd : d ≠ 0) : qv (!(decide (n < 0) == decide (d < 0))) n.natAbs d.natAbs = Rat.divInt n d := by
  rw [qv, ← Rat.divInt_ofNat]
  rcases Int.lt_or_le d 0 with h | h
  · have e : ((d.natAbs : Nat) : Int) = -d := by omega
    rw [e, ← Rat.neg_divInt_neg, Int.neg_neg]
    congr 1
    rcases Int.lt_or_le n 0 with g | g
    · simp [sg, h, g]; omega
    · simp [sg, h, Int.not_lt.2 g]; omega
  · have e : ((d.natAbs : Nat) : Int) = d := by omega
    rw [e]
    congr 1
    rcases Int.lt_or_le n 0 with g | g
    · simp [sg, Int.not_lt.2 h, g]; omega
    · simp [sg, Int.not_lt.2 h, Int.not_lt.2 g]; omega
theorem lim_len2 {m : Nat} (h : m < 18446744073709551616) : (lim m).length ≤ 2 := by rw [lim_length_le]; exact h
def makeF (n d : Int) : Bool × List Nat × List Nat × Int := if d = 0 then errF 3 else frS (Rat.divInt n d)
end Go.Proofs.Ytnmomigaedfdoaa
namespace Go.Proofs.Ytnmomigaedfdoaa
set_option maxRecDepth 100000

/-- the decimal digits, least first -/
def decR (n : Nat) : List Nat := if h : n = 0 then [] else n % 10 :: decR (n / 10)
  termination_by n
  decreasing_by omega
theorem decR_pos {n : Nat} (h : n ≠ 0) : decR n = n % 10 :: decR (n / 10) := by rw [decR]; simp [h]
/-- a digit as a byte -/
def digB (d : Nat) : Nat := 48 + d
/-- the text of a number, as bytes -/
def decT (n : Nat) : List Nat := if n = 0 then [48] else ((decR n).map digB).reverse
/-- a list of small numbers as a string -/
def bstr (l : List Nat) : ByteArray := ⟨(l.map UInt8.ofNat).toArray⟩
end Go.Proofs.Ytnmomigaedfdoaa
namespace Go.Proofs.Ytnmomigaedfdoaa
set_option maxRecDepth 100000
open Go.RowKit

abbrev u8v (n : Nat) : Value := .int .u8 (n : Int)
/-- the digits so far, and the number that is still to be written -/
def FmtInv (n M : Nat) (O : List Nat) : Prop := (decR n).map digB = O ++ (decR M).map digB
theorem FmtInv.start (n : Nat) : FmtInv n n [] := by simp [FmtInv]
theorem FmtInv.step {n M : Nat} {O : List Nat} (h : FmtInv n M O) (hM : M ≠ 0) : FmtInv n (M / 10) (O ++ [48 + M % 10]) := by
  unfold FmtInv at h ⊢
  rw [h, decR_pos hM]
  simp [digB]
theorem FmtInv.len {n M : Nat} {O : List Nat} (h : FmtInv n M O) : O.length ≤ (decR n).length := by
  have := congrArg List.length h
  simp at this
  omega
/-- reversal in place: the first and the last i places have changed hands -/
def RevInv (L M : List Nat) (i : Nat) : Prop := M.length = L.length ∧ ∀ j (h : j < M.length) (h1 : j < L.length), M[j] = if j < i ∨ L.length ≤ j + i then L[L.length - 1 - j]'(by omega) else L[j]
theorem RevInv.start (L : List Nat) : RevInv L L 0 := ⟨rfl, fun j h _ => by rw [if_neg (by omega)]⟩
theorem RevInv.step {L M : List Nat} {i : Nat} (h : RevInv L M i) (h1 : 2 * i + 1 < L.length) (a b : Nat) (hi : i < M.length) (hk : L.length - 1 - i < M.length) (ha : M[i] = a) (hb : M[L.length - 1 - i] = b) :
    RevInv L ((M.set i b).set (L.length - 1 - i) a) (i + 1) := by
  obtain ⟨hl, hM⟩ := h
  refine ⟨by simpa using hl, fun j hj hj1 => ?_⟩
  simp only [List.length_set] at hj
  have e1 := hM i hi (by omega)
  have e2 := hM (L.length - 1 - i) hk (by omega)
  rw [if_neg (by omega)] at e1 e2
  by_cases c1 : j = L.length - 1 - i
  · subst c1
    rw [List.getElem_set_self, if_pos (by omega), ← ha, e1]
    congr 1; omega
  · rw [List.getElem_set_ne (fun e => c1 e.symm)]
    by_cases c2 : j = i
    · subst c2
      rw [List.getElem_set_self, if_pos (by omega), ← hb, e2]
    · rw [List.getElem_set_ne (fun e => c2 e.symm), hM j hj hj1]
      by_cases c3 : j < i ∨ L.length ≤ j + i
      · rw [if_pos c3, if_pos (by omega)]
      · rw [if_neg c3, if_neg (by omega)]
theorem RevInv.done {L M : List Nat} {i : Nat} (h : RevInv L M i) (h1 : L.length ≤ 2 * i + 1) : M = L.reverse := by
  obtain ⟨hl, hM⟩ := h
  apply List.ext_getElem (by simpa using hl)
  intro j h1 h2
  rw [hM j h1 (by omega), List.getElem_reverse]
  split
  · rfl
  · congr 1; omega

def fmtS (n : Nat) : ByteArray × Int := if 512 < (lim n).length then (bstr [], 2) else (bstr (decT n), 0)

/-- the length in a slot -/
def lenOf : Value → Nat | .slice _ n _ => n | _ => 0

end Go.Proofs.Ytnmomigaedfdoaa
namespace Go.Proofs.Ytnmomigaedfdoaa
set_option maxRecDepth 100000
open Go.RowKit

/-- the text of a rational number -/
def txtQ (q : Rat) : ByteArray :=
  if 1 < q.den then (if q.num < 0 then (⟨#[45]⟩ : ByteArray) ++ bstr (decT q.num.natAbs) else bstr (decT q.num.natAbs)) ++ ((⟨#[47]⟩ : ByteArray) ++ bstr (decT q.den))
  else if q.num < 0 then (⟨#[45]⟩ : ByteArray) ++ bstr (decT q.num.natAbs) else bstr (decT q.num.natAbs)
def fmtF (x : Fx) : ByteArray × Int := if x.v then (txtQ x.q, 0) else (bstr [], 1)
theorem redS_ok {x : Fx} (hv : x.v) : redS x = (decide (x.q.num < 0), lim x.q.num.natAbs, lim x.q.den, 0) ∧ (lim x.q.num.natAbs).length ≤ 128 ∧ (lim x.q.den).length ≤ 128 := by
  have h1 := lim_length_mono (Nat.div_le_self (nv x.xs) (Nat.gcd (nv x.xs) (nv x.ys)))
  have h2 := lim_length_mono (Nat.div_le_self (nv x.ys) (Nat.gcd (nv x.xs) (nv x.ys)))
  have h3 := hv.2.1
  have h4 := hv.2.2
  have h5 : (lim x.q.num.natAbs).length ≤ 128 ∧ (lim x.q.den).length ≤ 128 := by
    rw [Fx.q, qv_abs hv.1, qv_den hv.1]; omega
  refine ⟨?_, h5⟩
  rw [redS, if_pos hv, frS, if_neg]
  rw [bigQ]; omega
end Go.Proofs.Ytnmomigaedfdoaa
namespace Go.Proofs.Ytnmomigaedfdoaa
set_option maxRecDepth 100000
open Go.RowKit

def q12 : Rat := Rat.divInt 1 2
def q13 : Rat := Rat.divInt (-1) (-3)
def q56 : Rat := q12 + q13
end Go.Proofs.Ytnmomigaedfdoaa
namespace Go.Proofs.Ytnmomigaedfdoaa
set_option maxRecDepth 100000
open Go.RowKit

/-- q times 2^k, rounded -/
def rndZ (up : Bool) (q : Rat) (k : Nat) : Int := if up then (q * ((2 ^ k : Nat) : Rat)).ceil else (q * ((2 ^ k : Nat) : Rat)).floor
/-- what the code reckons -/
def rndN (b up : Bool) (N d : Nat) : Nat := if 0 < N % d ∧ b ≠ up then N / d + 1 else N / d
def roundF (x : Fx) (k : Int) (up : Bool) : Bool × List Nat × List Nat × Int := if x.v then (if k < 0 ∨ 256 < k then errF 5 else frS (mkRat (rndZ up x.q k.toNat) (2 ^ k.toNat))) else errF 1
theorem lim_pow_le {k j : Nat} (h : k < 32 * j) : (lim (2 ^ k)).length ≤ j := by
  rw [lim_length_le, pw_two]
  exact Nat.pow_lt_pow_right (by omega) h
theorem lim_pow9 {k : Nat} (h : k ≤ 256) : (lim (2 ^ k)).length ≤ 9 := lim_pow_le (by omega)
theorem shiftS_f {m : Nat} {k : Int} {j : Nat} (hm : (lim m).length ≤ j) (hj : j ≤ 500) (h0 : 0 ≤ k) (h1 : k ≤ 256) : shiftS m k = (lim (m * 2 ^ k.toNat), 0) := by
  have h2 := len_mulf hm (lim_pow9 (k := k.toNat) (by omega))
  rw [shiftS, if_neg (by omega)]
  by_cases hz : m = 0
  · rw [if_pos (.inl hz), hz, Nat.zero_mul, lim_zero]
  · rw [if_neg (by omega), if_pos h0, sizS, if_neg (by omega)]
end Go.Proofs.Ytnmomigaedfdoaa
