/- The walks of package fraction: Mul, Quo. The walk of fraction.Cmp. -/
import Derived.Test.YtnmomigaedfdoaaIvB
import Derived.Deep.RegionHeld3
namespace Go.Proofs.Ytnmomigaedfdoaa
set_option maxRecDepth 100000
open Go.RowKit

theorem cell_set3 {w : World} {G P k : Nat} {a b c v : Value} (h : w.cell? ⟨P, k, none⟩ = some v) (hne : G ≠ P) : (((w.setCell ⟨G, 0, none⟩ a).setCell ⟨G, 1, none⟩ b).setCell ⟨G, 2, none⟩ c).cell? ⟨P, k, none⟩ = some v := by
  rw [World.cell?_setCell_far _ _ _ _ hne, World.cell?_setCell_far _ _ _ _ hne, World.cell?_setCell_far _ _ _ _ hne]; exact h
def mulF (x y : Fx) : Bool × List Nat × List Nat × Int := if x.v ∧ y.v then frS (x.q * y.q) else errF 1
def quoF (x y : Fx) : Bool × List Nat × List Nat × Int := if x.v ∧ y.v then (if nv y.xs = 0 then errF 3 else frS (x.q / y.q)) else errF 1
end Go.Proofs.Ytnmomigaedfdoaa
namespace Go.Proofs.Ytnmomigaedfdoaa
set_option maxRecDepth 100000
open Go.RowKit

theorem cmp3_bd (a b : Nat) : -1 ≤ cmp3 a b ∧ cmp3 a b ≤ 1 := by
  unfold cmp3
  repeat' split
  all_goals omega
def cmpF (x y : Fx) : Int × Int := if x.v ∧ y.v then (cmpQ x.q y.q, 0) else (0, 1)
/-- two numbers that a call hands back -/
def IntsRes (w : World) (p : Int × Int) (e : Ending) (w' : World) : Prop := e = .returned (.tuple #[.int .i64 p.1, .int .i64 p.2]) ∧ Below w.heap.size w w'
set_option maxHeartbeats 4000000 in
theorem fcmp_any (w : World) (x y : Fx) (S : Int × Int) (hx : x.ok w) (hy : y.ok w) (l1 : x.xs.length ≤ 10000) (l2 : x.ys.length ≤ 10000) (m1 : y.xs.length ≤ 10000) (m2 : y.ys.length ≤ 10000) (hs : cmpF x y = S) : Calls Try.prog 88 #[x.val, y.val] w (IntsRes w S) := by
  have HS := Lib.hid hs
  clear hs
  by_cases hv : x.v ∧ y.v
  · have HV := Lib.hid hv
    have HVX := Lib.hid hv.1
    have HVY := Lib.hid hv.2
    have DX : Hid (nv x.ys ≠ 0) := Lib.hid hv.1.1
    have DY : Hid (nv y.ys ≠ 0) := Lib.hid hv.2.1
    have lx1 : (lim (nv x.xs)).length ≤ 128 := hv.1.2.2
    have lx2 : (lim (nv x.ys)).length ≤ 128 := hv.1.2.1
    have ly1 : (lim (nv y.xs)).length ≤ 128 := hv.2.2.2
    have ly2 : (lim (nv y.ys)).length ≤ 128 := hv.2.2.1
    obtain ⟨z, hz⟩ : ∃ z, cmp3 (nv x.xs * nv y.ys) (nv y.xs * nv x.ys) = z := ⟨_, rfl⟩
    have hz1 : -1 ≤ z ∧ z ≤ 1 := by rw [← hz]; exact cmp3_bd _ _
    obtain ⟨hz1, hz2⟩ := hz1
    have HZ : Hid (cmp3 (nv (lim (nv x.xs * nv y.ys))) (nv (lim (nv y.xs * nv x.ys))) = z) := Lib.hid (by rw [nv_lim, nv_lim]; exact hz)
    have hcode := cmpQ_code (b := x.b) (b' := y.b) (n := nv x.xs) (n' := nv y.xs) hv.1.1 hv.2.1
    rw [hz] at hcode
    obtain ⟨a1, ha1⟩ : ∃ a1, (x.b && decide (nv x.xs ≠ 0)) = a1 := ⟨_, rfl⟩
    obtain ⟨a2, ha2⟩ : ∃ a2, (y.b && decide (nv y.xs ≠ 0)) = a2 := ⟨_, rfl⟩
    rw [ha1, ha2] at hcode
    have HCODE := Lib.hid hcode
    have HA1 := Lib.hid ha1
    have HA2 := Lib.hid ha2
    clear hv hz hcode ha1 ha2
    go_enter Try.func88, Try.ntmps88
    go_wp2_with fail
    have b0 := (Below.refl w.heap.size w).alloc (Nat.le_refl _) (.cells x.cells 26)
    have bx := bk3_alloc w (.bool x.b) (.slice x.A x.xs.length x.c) (.slice x.D x.ys.length x.d)
    have okx := hx.below b0
    have oky := hy.below b0
    have sz0 := size_box w (.cells x.cells 26)
    have bw := b0
    clear b0
    generalize (w.alloc (.cells x.cells 26)) = wa at bx okx oky sz0 bw ⊢
    have b1 := (Below.refl wa.heap.size wa).alloc (Nat.le_refl _) (.cells y.cells 26)
    have by_ := bk3_alloc wa (.bool y.b) (.slice y.A y.xs.length y.c) (.slice y.D y.ys.length y.d)
    rw [sz0] at by_
    replace bx := bx.below b1
    replace okx := okx.below b1
    replace oky := oky.below b1
    replace bw := below_on bw b1 bw.size
    clear b1 sz0
    generalize (wa.alloc (.cells y.cells 26)) = w1 at bx by_ okx oky bw ⊢
    refine (fvalid_any w1 x true okx l1 l2 (decide_eq_true HVX.out)).mono ?_
    rintro e wn ⟨rfl, bb⟩
    replace bx := bx.below bb
    replace by_ := by_.below bb
    replace okx := okx.below bb
    replace oky := oky.below bb
    replace bw := below_on bw bb bw.size
    clear bb
    have ty := by_
    obtain ⟨y0, y1, y2, yf0, yf1, yf2, ylt, yb⟩ := ty
    clear yb
    go_wp2_with fail
    clear y0 y1 y2 yf0 yf1 yf2 ylt
    refine (fvalid_any wn y true oky m1 m2 (decide_eq_true HVY.out)).mono ?_
    rintro e wn ⟨rfl, bb⟩
    replace bx := bx.below bb
    replace by_ := by_.below bb
    replace okx := okx.below bb
    replace oky := oky.below bb
    replace bw := below_on bw bb bw.size
    clear bb
    go_upto_region 3 with fail
    go_cut [6] (fun zv wx => zv = .int .i64 z ∧ Below wn.heap.size wn wx)
    case first =>
      have bw0 := Below.refl wn.heap.size wn
      have bb := below_drew (Below.refl wn.heap.size wn)
      replace bw0 := below_on bw0 bb bw0.size
      replace bx := bx.below bb
      replace by_ := by_.below bb
      replace okx := okx.below bb
      replace oky := oky.below bb
      replace bw := below_on bw bb bw.size
      clear bb
      go_region_held3 (fun w' => w'.cell? ⟨w.heap.size, 0, none⟩ = some (.bool x.b) ∧ w'.cell? ⟨w.heap.size, 1, none⟩ = some (.slice x.A x.xs.length x.c) ∧ w'.cell? ⟨w.heap.size, 2, none⟩ = some (.slice x.D x.ys.length x.d) ∧ w'.cell? ⟨w.heap.size + 1, 0, none⟩ = some (.bool y.b) ∧ w'.cell? ⟨w.heap.size + 1, 1, none⟩ = some (.slice y.A y.xs.length y.c) ∧ w'.cell? ⟨w.heap.size + 1, 2, none⟩ = some (.slice y.D y.ys.length y.d))
        (first | exact ⟨bx.c0, bx.c1, bx.c2, by_.c0, by_.c1, by_.c2⟩ | go_keep)
        (first
          | (go_at_call 99
             with_reducible refine (ftimes_ok _ x.A y.D x.c y.d _ _ x.xs y.ys okx.num oky.den rfl rfl lx1 ly2).mono ?_
             rintro e wn ⟨AN, cN, rfl, na, bb⟩
             try replace nb := nb.below bb
             replace bw0 := below_on bw0 bb bw0.size
             replace bx := bx.below bb
             replace by_ := by_.below bb
             replace okx := okx.below bb
             replace oky := oky.below bb
             clear bb)
          | (go_at_call 99
             with_reducible refine (ftimes_ok _ y.A x.D y.c x.d _ _ y.xs x.ys oky.num okx.den rfl rfl ly1 lx2).mono ?_
             rintro e wn ⟨AD, cD, rfl, nb, bb⟩
             try replace na := na.below bb
             replace bw0 := below_on bw0 bb bw0.size
             replace bx := bx.below bb
             replace by_ := by_.below bb
             replace okx := okx.below bb
             replace oky := oky.below bb
             clear bb)
          | (go_at_call 93
             with_reducible refine (cmp_any _ AN AD cN cD _ _ (lim (nv x.xs * nv y.ys)) (lim (nv y.xs * nv x.ys)) z na nb rfl rfl HZ.out).mono ?_
             rintro e wn ⟨rfl, qq⟩
             have bb := qq.keep
             replace bw0 := below_on bw0 bb bw0.size
             replace bx := bx.below bb
             replace by_ := by_.below bb
             clear bb qq))
      all_goals
        go_wp2_with fail
        go_meet
        case rel => exact ⟨rfl, bw0⟩
    case rest =>
      obtain ⟨rfl, bb⟩ := hcut
      replace bx := bx.below bb
      replace by_ := by_.below bb
      replace okx := okx.below bb
      replace oky := oky.below bb
      replace bw := below_on bw bb bw.size
      clear bb
      go_upto_region 4 with fail
      go_cut [7, 8] (fun av bv wx => av = .bool a1 ∧ bv = .bool a2 ∧ Below wc.heap.size wc wx)
      case first =>
        have bw0 := Below.refl wc.heap.size wc
        have bb := below_drew (Below.refl wc.heap.size wc)
        replace bw0 := below_on bw0 bb bw0.size
        replace bx := bx.below bb
        replace by_ := by_.below bb
        replace okx := okx.below bb
        replace oky := oky.below bb
        replace bw := below_on bw bb bw.size
        clear bb
        cases hxb : x.b
        · cases hyb : y.b
          all_goals
            skip
            have tx := bx
            obtain ⟨x0, x1, x2, xf0, xf1, xf2, xlt, xb⟩ := tx
            clear xb
            have ty := by_
            obtain ⟨y0, y1, y2, yf0, yf1, yf2, ylt, yb⟩ := ty
            clear yb
            go_region_with (first
              | (go_at_call 100
                 with_reducible refine (fzero_any _ ⟨true, x.A, x.c, x.xs, x.D, x.d, x.ys⟩ (decide (nv x.xs = 0)) okx.num l1 rfl).mono ?_
                 rintro e wn ⟨rfl, bb⟩
                 replace bw0 := below_on bw0 bb bw0.size
                 replace bx := bx.below bb
                 replace by_ := by_.below bb
                 replace okx := okx.below bb
                 replace oky := oky.below bb
                 clear bb
                 have tx := bx
                 obtain ⟨x0, x1, x2, xf0, xf1, xf2, xlt, _⟩ := tx
                 have ty := by_
                 obtain ⟨y0, y1, y2, yf0, yf1, yf2, ylt, _⟩ := ty)
              | (go_at_call 100
                 with_reducible refine (fzero_any _ ⟨true, y.A, y.c, y.xs, y.D, y.d, y.ys⟩ (decide (nv y.xs = 0)) oky.num m1 rfl).mono ?_
                 rintro e wn ⟨rfl, bb⟩
                 replace bw0 := below_on bw0 bb bw0.size
                 replace bx := bx.below bb
                 replace by_ := by_.below bb
                 replace okx := okx.below bb
                 replace oky := oky.below bb
                 clear bb
                 have tx := bx
                 obtain ⟨x0, x1, x2, xf0, xf1, xf2, xlt, _⟩ := tx
                 have ty := by_
                 obtain ⟨y0, y1, y2, yf0, yf1, yf2, ylt, _⟩ := ty))
            all_goals
              skip
              go_wp2_with fail
              go_meet
              case rel => exact ⟨congrArg Value.bool (by rw [← HA1.out, hxb]; simp), congrArg Value.bool (by rw [← HA2.out, hyb]; simp), bw0⟩
        · cases hyb : y.b
          · skip
            have tx := bx
            obtain ⟨x0, x1, x2, xf0, xf1, xf2, xlt, xb⟩ := tx
            clear xb
            have ty := by_
            obtain ⟨y0, y1, y2, yf0, yf1, yf2, ylt, yb⟩ := ty
            clear yb
            go_region_with (first
              | (go_at_call 100
                 with_reducible refine (fzero_any _ ⟨true, x.A, x.c, x.xs, x.D, x.d, x.ys⟩ (decide (nv x.xs = 0)) okx.num l1 rfl).mono ?_
                 rintro e wn ⟨rfl, bb⟩
                 replace bw0 := below_on bw0 bb bw0.size
                 replace bx := bx.below bb
                 replace by_ := by_.below bb
                 replace okx := okx.below bb
                 replace oky := oky.below bb
                 clear bb
                 have tx := bx
                 obtain ⟨x0, x1, x2, xf0, xf1, xf2, xlt, _⟩ := tx
                 have ty := by_
                 obtain ⟨y0, y1, y2, yf0, yf1, yf2, ylt, _⟩ := ty)
              | (go_at_call 100
                 with_reducible refine (fzero_any _ ⟨true, y.A, y.c, y.xs, y.D, y.d, y.ys⟩ (decide (nv y.xs = 0)) oky.num m1 rfl).mono ?_
                 rintro e wn ⟨rfl, bb⟩
                 replace bw0 := below_on bw0 bb bw0.size
                 replace bx := bx.below bb
                 replace by_ := by_.below bb
                 replace okx := okx.below bb
                 replace oky := oky.below bb
                 clear bb
                 have tx := bx
                 obtain ⟨x0, x1, x2, xf0, xf1, xf2, xlt, _⟩ := tx
                 have ty := by_
                 obtain ⟨y0, y1, y2, yf0, yf1, yf2, ylt, _⟩ := ty))
            all_goals
              skip
              go_wp2_with fail
              go_meet
              case rel => exact ⟨congrArg Value.bool (by rw [← HA1.out, hxb]; simp), congrArg Value.bool (by rw [← HA2.out, hyb]; simp), bw0⟩
          · skip
            go_region_held3 (fun w' => w'.cell? ⟨w.heap.size, 0, none⟩ = some (.bool x.b) ∧ w'.cell? ⟨w.heap.size, 1, none⟩ = some (.slice x.A x.xs.length x.c) ∧ w'.cell? ⟨w.heap.size, 2, none⟩ = some (.slice x.D x.ys.length x.d) ∧ w'.cell? ⟨w.heap.size + 1, 0, none⟩ = some (.bool y.b) ∧ w'.cell? ⟨w.heap.size + 1, 1, none⟩ = some (.slice y.A y.xs.length y.c) ∧ w'.cell? ⟨w.heap.size + 1, 2, none⟩ = some (.slice y.D y.ys.length y.d))
              (first | exact ⟨bx.c0, bx.c1, bx.c2, by_.c0, by_.c1, by_.c2⟩ | go_keep)
              (first
                | (go_at_call 100
                   with_reducible refine (fzero_any _ ⟨true, x.A, x.c, x.xs, x.D, x.d, x.ys⟩ (decide (nv x.xs = 0)) okx.num l1 rfl).mono ?_
                   rintro e wn ⟨rfl, bb⟩
                   replace bw0 := below_on bw0 bb bw0.size
                   replace bx := bx.below bb
                   replace by_ := by_.below bb
                   replace okx := okx.below bb
                   replace oky := oky.below bb
                   clear bb
                   have tx := bx
                   obtain ⟨x0, x1, x2, xf0, xf1, xf2, xlt, _⟩ := tx
                   have ty := by_
                   obtain ⟨y0, y1, y2, yf0, yf1, yf2, ylt, _⟩ := ty)
                | (go_at_call 100
                   with_reducible refine (fzero_any _ ⟨true, y.A, y.c, y.xs, y.D, y.d, y.ys⟩ (decide (nv y.xs = 0)) oky.num m1 rfl).mono ?_
                   rintro e wn ⟨rfl, bb⟩
                   replace bw0 := below_on bw0 bb bw0.size
                   replace bx := bx.below bb
                   replace by_ := by_.below bb
                   replace okx := okx.below bb
                   replace oky := oky.below bb
                   clear bb
                   have tx := bx
                   obtain ⟨x0, x1, x2, xf0, xf1, xf2, xlt, _⟩ := tx
                   have ty := by_
                   obtain ⟨y0, y1, y2, yf0, yf1, yf2, ylt, _⟩ := ty))
            all_goals
              skip
              go_wp2_with fail
              go_meet
              case rel => exact ⟨congrArg Value.bool (by rw [← HA1.out, hxb]; simp), congrArg Value.bool (by rw [← HA2.out, hyb]; simp), bw0⟩
      case rest =>
        obtain ⟨rfl, rfl, bb⟩ := hcut
        replace bx := bx.below bb
        replace by_ := by_.below bb
        replace okx := okx.below bb
        replace oky := oky.below bb
        replace bw := below_on bw bb bw.size
        clear bb
        have hneg : IntKind.i64.wrap (-z) = -z := IntWalk.i64_in _ (by omega)
        cases a1 <;> cases a2
        all_goals
          go_wp2_with fail
          go_ret2
          refine ⟨?_, bw⟩
          rw [← HS.out, cmpF, if_pos HV.out, Fx.q, Fx.q, HCODE.out]
          rfl
  · by_cases hvx : x.v
    · have hvy : ¬ y.v := fun h => hv ⟨hvx, h⟩
      have HVX := Lib.hid hvx
      have HVY : Hid (¬ y.v) := hvy
      have HV : Hid (¬ (x.v ∧ y.v)) := hv
      clear hvx hvy hv
      go_enter Try.func88, Try.ntmps88
      go_wp2_with fail
      have b0 := (Below.refl w.heap.size w).alloc (Nat.le_refl _) (.cells x.cells 26)
      have bx := bk3_alloc w (.bool x.b) (.slice x.A x.xs.length x.c) (.slice x.D x.ys.length x.d)
      have okx := hx.below b0
      have oky := hy.below b0
      have sz0 := size_box w (.cells x.cells 26)
      have bw := b0
      clear b0
      generalize (w.alloc (.cells x.cells 26)) = wa at bx okx oky sz0 bw ⊢
      have b1 := (Below.refl wa.heap.size wa).alloc (Nat.le_refl _) (.cells y.cells 26)
      have by_ := bk3_alloc wa (.bool y.b) (.slice y.A y.xs.length y.c) (.slice y.D y.ys.length y.d)
      rw [sz0] at by_
      replace bx := bx.below b1
      replace okx := okx.below b1
      replace oky := oky.below b1
      replace bw := below_on bw b1 bw.size
      clear b1 sz0
      generalize (wa.alloc (.cells y.cells 26)) = w1 at bx by_ okx oky bw ⊢
      refine (fvalid_any w1 x true okx l1 l2 (decide_eq_true HVX.out)).mono ?_
      rintro e wn ⟨rfl, bb⟩
      replace bx := bx.below bb
      replace by_ := by_.below bb
      replace okx := okx.below bb
      replace oky := oky.below bb
      replace bw := below_on bw bb bw.size
      clear bb
      have ty := by_
      obtain ⟨y0, y1, y2, yf0, yf1, yf2, ylt, yb⟩ := ty
      clear yb
      go_wp2_with fail
      clear y0 y1 y2 yf0 yf1 yf2 ylt
      refine (fvalid_any wn y false oky m1 m2 (decide_eq_false HVY.out)).mono ?_
      rintro e wn ⟨rfl, bb⟩
      replace bx := bx.below bb
      replace by_ := by_.below bb
      replace okx := okx.below bb
      replace oky := oky.below bb
      replace bw := below_on bw bb bw.size
      clear bb
      go_wp2_with fail
      go_ret2
      rw [← HS.out, cmpF, if_neg HV.out]
      exact ⟨rfl, bw⟩
    · have HVX : Hid (¬ x.v) := hvx
      have HV : Hid (¬ (x.v ∧ y.v)) := hv
      clear hvx hv
      go_enter Try.func88, Try.ntmps88
      go_wp2_with fail
      have b0 := (Below.refl w.heap.size w).alloc (Nat.le_refl _) (.cells x.cells 26)
      have bx := bk3_alloc w (.bool x.b) (.slice x.A x.xs.length x.c) (.slice x.D x.ys.length x.d)
      have okx := hx.below b0
      have oky := hy.below b0
      have sz0 := size_box w (.cells x.cells 26)
      have bw := b0
      clear b0
      generalize (w.alloc (.cells x.cells 26)) = wa at bx okx oky sz0 bw ⊢
      have b1 := (Below.refl wa.heap.size wa).alloc (Nat.le_refl _) (.cells y.cells 26)
      have by_ := bk3_alloc wa (.bool y.b) (.slice y.A y.xs.length y.c) (.slice y.D y.ys.length y.d)
      rw [sz0] at by_
      replace bx := bx.below b1
      replace okx := okx.below b1
      replace oky := oky.below b1
      replace bw := below_on bw b1 bw.size
      clear b1 sz0
      generalize (wa.alloc (.cells y.cells 26)) = w1 at bx by_ okx oky bw ⊢
      refine (fvalid_any w1 x false okx l1 l2 (decide_eq_false HVX.out)).mono ?_
      rintro e wn ⟨rfl, bb⟩
      replace bx := bx.below bb
      replace by_ := by_.below bb
      replace okx := okx.below bb
      replace oky := oky.below bb
      replace bw := below_on bw bb bw.size
      clear bb
      go_wp2_with fail
      go_ret2
      rw [← HS.out, cmpF, if_neg HV.out]
      exact ⟨rfl, bw⟩
end Go.Proofs.Ytnmomigaedfdoaa
