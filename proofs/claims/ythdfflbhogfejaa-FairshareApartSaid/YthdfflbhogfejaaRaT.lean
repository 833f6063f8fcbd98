/- The walks of fairshare.whole, fairshare.compare and of slices.Contains. The walks of the reference's Whole and SameFrac. Max-min fair rates as pure lists: the rounds, what they keep, the certificate and that it is unique. No program in sight. -/
import Derived.Test.YthdfflbhogfejaaFhW
import Derived.Test.YthdfflbhogfejaaFrE
import Derived.Deep.RegionHeld3
import Derived.Test.YthdfflbhogfejaaLwD
import Derived.Test.YthdfflbhogfejaaRfF
import Derived.BigQuiet
import Derived.Deep.QuietTactic
import Derived.Test.YthdfflbhogfejaaUnT
namespace Go.Proofs.Ythdfflbhogfejaa
open Go.RowKit

set_option maxRecDepth 100000 in
theorem okS_int (n : Int) : okS (Rat.divInt n 1) = okS (n : Rat) := by rw [Rat.divInt_eq_div]; congr 1; grind
set_option maxRecDepth 100000 in
theorem sz_whole {n : Int} (n0 : -9223372036854775808 ≤ n) (n1 : n ≤ 9223372036854775807) : Sz (n : Rat) 128 128 := by
  have e : (n : Rat) = mkRat n 1 := by rw [Rat.mkRat_eq_div]; grind
  rw [e]
  exact Sz.mk (by omega) (Nat.le_trans (lim_len2 (by omega)) (by omega)) (Nat.le_trans (lim_len2 (by omega)) (by omega))
set_option maxRecDepth 100000 in
set_option maxHeartbeats 1600000 in
theorem whole_any (w : World) (n : Int) (n0 : -9223372036854775808 ≤ n) (n1 : n ≤ 9223372036854775807) : Calls Try.prog 38 #[.int .i64 n] w fun e w' => ∃ x : Fx, e = .returned x.val ∧ Rp x (n : Rat) ∧ Nm w' x (n : Rat) ∧ Below w.heap.size w w' := by
  have HZ : Hid (makeF n 1 = okS (n : Rat)) := Lib.hid (by rw [makeF_int n0 n1, okS_int])
  have HSZ := Lib.hid (sz_whole n0 n1)
  go_enter Try.func38, Try.ntmps38
  go_wp2_with fail
  have bw := (Below.refl w.heap.size w).alloc (Nat.le_refl _) (.cells #[.bool false, .slice none 0 0, .slice none 0 0] 41)
  have bk := bk3_new w
  generalize (w.alloc (.cells #[.bool false, .slice none 0 0, .slice none 0 0] 41)) = w1 at bw bk ⊢
  refine (fmake_any w1 n 1 _ n0 n1 (by omega) (by omega) HZ.out).mono ?_
  rintro e wn ⟨x1, rfl, hs1, ok1, bb⟩
  have HS1 := Lib.hid (Rp.of hs1)
  clear hs1
  replace bk := bk.below bb
  replace bw := below_on bw bb bw.size
  clear bb
  go_upto_region 2 with fail
  have a1 := (fa_alloc ok1).1
  have bb := (fa_alloc ok1).2
  clear ok1
  generalize (wn.alloc (.cells #[.bool x1.b, .slice x1.A x1.xs.length x1.c, .slice x1.D x1.ys.length x1.d] 41)) = wm at a1 bb ⊢
  replace bk := bk.below bb
  replace bw := below_on bw bb bw.size
  clear bb
  generalize wn.heap.size = g1 at a1 ⊢
  have ci0 := a1.c0
  have ci1 := a1.c1
  have ci2 := a1.c2
  have tk := bk
  obtain ⟨k0, k1, k2, kf0, kf1, kf2, klt, kb⟩ := tk
  clear kb
  go_wp2_with fail
  refine bodyPost_ret (v := x1.val) (by simp [results, Try.results38, go_sem, k0, k1, k2]) rfl ?_
  exact ⟨x1, rfl, HS1.out, Nm.of (set3_ok a1.ok bk rfl rfl rfl) HS1.out HSZ.out, set3g bw (Nat.le_refl _)⟩
set_option maxRecDepth 100000 in
set_option maxHeartbeats 1600000 in
theorem compare_any (w : World) (x y : Fx) (p q : Rat) (z : Int) (hx : Nm w x p) (hy : Nm w y q) (hz : cmpQ p q = z) :
    Calls Try.prog 41 #[x.val, y.val] w fun e w' => e = .returned (.int .i64 z) ∧ Below w.heap.size w w' := by
  have HS := Lib.hid (cmpF_ok hx.v hy.v hx.q hy.q hz)
  have l1 := hx.l
  have l2 := hx.m
  have m1 := hy.l
  have m2 := hy.m
  replace hx := hx.ok
  replace hy := hy.ok
  clear hz
  go_enter Try.func41, Try.ntmps41
  go_upto_region 1 with fail
  have b0 := (Below.refl w.heap.size w).alloc (Nat.le_refl _) (.cells x.cells 41)
  have bx := bk3_alloc w (.bool x.b) (.slice x.A x.xs.length x.c) (.slice x.D x.ys.length x.d)
  have okx := hx.below b0
  have oky := hy.below b0
  have sz0 := size_box w (.cells x.cells 41)
  have bw := b0
  clear b0
  generalize (w.alloc (.cells x.cells 41)) = wa at bx okx oky sz0 bw ⊢
  have b1 := (Below.refl wa.heap.size wa).alloc (Nat.le_refl _) (.cells y.cells 41)
  have by_ := bk3_alloc wa (.bool y.b) (.slice y.A y.xs.length y.c) (.slice y.D y.ys.length y.d)
  rw [sz0] at by_
  replace bx := bx.below b1
  replace okx := okx.below b1
  replace oky := oky.below b1
  replace bw := below_on bw b1 bw.size
  clear b1 sz0
  generalize (wa.alloc (.cells y.cells 41)) = w1 at bx by_ okx oky bw ⊢
  have tx := bx
  obtain ⟨x0, x1, x2, xf0, xf1, xf2, xlt, xb⟩ := tx
  clear xb
  have ty := by_
  obtain ⟨y0, y1, y2, yf0, yf1, yf2, ylt, yb⟩ := ty
  clear yb
  go_wp2_with fail
  clear x0 x1 x2 xf0 xf1 xf2 xlt
  clear y0 y1 y2 yf0 yf1 yf2 ylt
  refine (fcmp_any w1 x y _ okx oky l1 l2 m1 m2 HS.out).mono ?_
  rintro e wn ⟨rfl, bb⟩
  replace bw := below_on bw bb bw.size
  go_wp2_with fail
  go_ret
  exact ⟨rfl, bw⟩
set_option maxRecDepth 100000 in
theorem fsub_nm (w : World) (x y : Fx) (p q : Rat) (hx : Nm w x p) (hy : Nm w y q) (hz : Sz (p - q) 128 128) :
    Calls Try.prog 62 #[x.val, y.val] w fun e w' => ∃ z : Fx, e = .returned (.tuple #[z.val, .int .i64 0]) ∧ Rp z (p - q) ∧ Nm w' z (p - q) ∧ Below w.heap.size w w' := by
  refine (fsub_any w x y _ hx.ok hy.ok hx.l hx.m hy.l hy.m (subF_ok hx.v hy.v hx.q hy.q hz)).mono ?_
  rintro e w' ⟨z, rfl, hs, ok, bb⟩
  exact ⟨z, rfl, Rp.of hs, Nm.of ok (Rp.of hs) hz, bb⟩
set_option maxRecDepth 100000 in
theorem fquo_nm (w : World) (x y : Fx) (p q : Rat) (hx : Nm w x p) (hy : Nm w y q) (hq : q ≠ 0) (hz : Sz (p / q) 128 128) :
    Calls Try.prog 63 #[x.val, y.val] w fun e w' => ∃ z : Fx, e = .returned (.tuple #[z.val, .int .i64 0]) ∧ Rp z (p / q) ∧ Nm w' z (p / q) ∧ Below w.heap.size w w' := by
  have h : quoF x y = okS (p / q) := by
    rw [quoF, if_pos ⟨hx.v, hy.v⟩, if_neg (fun e => hq (by rw [← hy.q]; exact (qv_zero hy.v.1).2 e)), hx.q, hy.q]; exact frS_ok hz
  refine (fquo_any w x y _ hx.ok hy.ok hx.l hx.m hy.l hy.m h).mono ?_
  rintro e w' ⟨z, rfl, hs, ok, bb⟩
  exact ⟨z, rfl, Rp.of hs, Nm.of ok (Rp.of hs) hz, bb⟩
set_option maxRecDepth 100000 in
theorem freduce_nm (w : World) (x : Fx) (q : Rat) (hx : Nm w x q) :
    Calls Try.prog 42 #[x.val] w fun e w' => ∃ z : Fx, e = .returned (.tuple #[z.val, .int .i64 0]) ∧ Rp z q ∧ Nm w' z q ∧ Below w.heap.size w w' := by
  have hz : Sz q 128 128 := by rw [← hx.q]; exact (redS_ok hx.v).2
  refine (freduce_any w x _ hx.ok hx.l hx.m (redS_okS hx.v)).mono ?_
  rintro e w' ⟨z, rfl, hs, ok, bb⟩
  have r := Rp.of hs
  rw [hx.q] at r
  exact ⟨z, rfl, r, Nm.of ok r hz, bb⟩
set_option maxRecDepth 100000 in
theorem index_b (w : World) (A : Option Addr) (n c : Nat) (bs : List Bool) (z : Int) (h : Rd Value.bool w A bs) (hn : n = bs.length) (hc : bs.length ≤ 1000) (hz : (if true ∈ bs then 0 else 1) = z) :
    Calls Try.prog 61 #[.slice A n c, .bool true] w fun e w' => (∃ k : Int, e = .returned (.int .i64 k) ∧ (z = 0 → 0 ≤ k) ∧ (z = 1 → k < 0)) ∧ w = w' := by
  have HZ := Lib.hid hz; clear hz
  subst hn
  go_enter Try.func61, Try.ntmps61
  go_wp2_with fail
  go_loop [8] (fun i => ∃ k : Nat, k ≤ bs.length ∧ i = .int .i64 k ∧ ¬ true ∈ bs.take k) (fun i => bs.length - (intOf i).toNat)
  case atStart => exact ⟨0, by omega, rfl, by simp⟩
  case round =>
    obtain ⟨k, hk, rfl, ha⟩ := hrel
    have HA := Lib.hid ha
    clear ha
    by_cases hlt : k < bs.length
    · obtain ⟨ad, rfl, _, hcc⟩ := h (by omega)
      have hc0 := hcc k hlt
      have HTK := Lib.hid (List.take_succ_eq_append_getElem hlt)
      have HM := Lib.hid (List.getElem_mem hlt)
      obtain ⟨b, hb⟩ : ∃ b, bs[k] = b := ⟨_, rfl⟩
      rw [hb] at hc0 HTK HM
      clear hcc h hb
      cases b
      · go_wp2_with fail
        go_round
        case rel => exact ⟨k + 1, by omega, by go_num, by rw [HTK.out]; simp; exact HA.out⟩
        case measure => simp [intOf]; omega
      · go_wp2_with fail
        go_ret
        refine ⟨⟨_, rfl, fun _ => by omega, fun h1 => ?_⟩, rfl⟩
        have := HZ.out
        rw [if_pos HM.out] at this
        omega
    · go_wp2_with fail
      go_ret
      refine ⟨⟨_, rfl, fun h1 => ?_, fun _ => by omega⟩, rfl⟩
      have := HZ.out
      rw [if_neg (by rw [← List.take_of_length_le (show bs.length ≤ k by omega)]; exact HA.out)] at this
      omega
set_option maxRecDepth 100000 in
theorem contains_b (w : World) (A : Option Addr) (n c : Nat) (bs : List Bool) (b : Bool) (h : Rd Value.bool w A bs) (hn : n = bs.length) (hc : bs.length ≤ 1000) (hz : decide (true ∈ bs) = b) :
    Calls Try.prog 39 #[.slice A n c, .bool true] w fun e w' => e = .returned (.bool b) ∧ w = w' := by
  have HZ := Lib.hid hz; clear hz
  subst hn
  go_enter Try.func39, Try.ntmps39
  go_wp2_with fail
  refine (index_b w A _ c bs _ h rfl hc rfl).mono ?_
  rintro e wn ⟨⟨k, rfl, h1, h2⟩, rfl⟩
  by_cases hb : true ∈ bs
  · rw [if_pos hb] at h1
    have h3 := h1 rfl
    have HB : Hid (b = true) := Lib.hid (by rw [← HZ.out]; exact decide_eq_true hb)
    clear h1 h2 hb HZ
    go_wp2_with fail
    go_ret
    exact ⟨ret_bool HB.out.symm, rfl⟩
  · rw [if_neg hb] at h2
    have h3 := h2 rfl
    have h4 : decide (0 ≤ k) = false := decide_eq_false (by omega)
    have HB : Hid (b = false) := Lib.hid (by rw [← HZ.out]; exact decide_eq_false hb)
    clear h1 h2 hb HZ
    go_wp2_with fail
    go_ret
    exact ⟨ret_bool HB.out.symm, rfl⟩
set_option maxRecDepth 100000 in
theorem index_i (w : World) (A : Option Addr) (n c : Nat) (xs : List Int) (v : Int) (h : Is w A c xs) (hn : n = xs.length) (z : Int) (hz : (if v ∈ xs then 0 else 1) = z) :
    Calls Try.prog 68 #[.slice A n c, .int .i64 v] w fun e w' => (∃ k : Int, e = .returned (.int .i64 k) ∧ (z = 0 → 0 ≤ k) ∧ (z = 1 → k < 0)) ∧ w = w' := by
  have HZ := Lib.hid hz; clear hz
  have HA := Lib.hid h
  have hla := h.len
  clear h
  subst hn
  go_enter Try.func68, Try.ntmps68
  go_wp2_with fail
  go_loop [8] (fun i => ∃ k : Nat, k ≤ xs.length ∧ i = .int .i64 k ∧ ¬ v ∈ xs.take k) (fun i => xs.length - (intOf i).toNat)
  case atStart => exact ⟨0, by omega, rfl, by simp⟩
  case round =>
    obtain ⟨k, hk, rfl, ha⟩ := hrel
    have HV := Lib.hid ha
    clear ha
    by_cases hlt : k < xs.length
    · obtain ⟨ad, rfl, _, hc0⟩ := HA.out.at k hlt
      have HTK := Lib.hid (List.take_succ_eq_append_getElem hlt)
      have HM := Lib.hid (List.getElem_mem hlt)
      obtain ⟨b, hb⟩ : ∃ b, xs[k] = b := ⟨_, rfl⟩
      rw [hb] at hc0 HTK HM
      clear hb
      by_cases he : v = b
      · have he1 : (v == b) = true := by simp [he]
        have HE := Lib.hid he
        clear he
        go_wp2_with fail
        go_ret
        refine ⟨⟨_, rfl, fun _ => by omega, fun h1 => ?_⟩, rfl⟩
        have := HZ.out
        rw [if_pos (by rw [HE.out]; exact HM.out)] at this
        omega
      · have he1 : (v == b) = false := beq_eq_false_iff_ne.2 he
        have HE : Hid (¬ v = b) := he
        clear he
        go_wp2_with fail
        go_round
        case rel => exact ⟨k + 1, by omega, by go_num, by rw [HTK.out]; simp; exact ⟨HV.out, HE.out⟩⟩
        case measure => simp [intOf]; omega
    · go_wp2_with fail
      go_ret
      refine ⟨⟨_, rfl, fun h1 => ?_, fun _ => by omega⟩, rfl⟩
      have := HZ.out
      rw [if_neg (by rw [← List.take_of_length_le (show xs.length ≤ k by omega)]; exact HV.out)] at this
      omega
set_option maxRecDepth 100000 in
theorem contains_i (w : World) (A : Option Addr) (n c : Nat) (xs : List Int) (v : Int) (b : Bool) (h : Is w A c xs) (hn : n = xs.length) (hz : decide (v ∈ xs) = b) :
    Calls Try.prog 46 #[.slice A n c, .int .i64 v] w fun e w' => e = .returned (.bool b) ∧ w = w' := by
  have HZ := Lib.hid hz; clear hz
  subst hn
  go_enter Try.func46, Try.ntmps46
  go_wp2_with fail
  refine (index_i w A _ c xs v h rfl _ rfl).mono ?_
  rintro e wn ⟨⟨k, rfl, h1, h2⟩, rfl⟩
  by_cases hb : v ∈ xs
  · rw [if_pos hb] at h1
    have h3 := h1 rfl
    have HB : Hid (b = true) := Lib.hid (by rw [← HZ.out]; exact decide_eq_true hb)
    clear h1 h2 hb HZ
    go_wp2_with fail
    go_ret
    exact ⟨ret_bool HB.out.symm, rfl⟩
  · rw [if_neg hb] at h2
    have h3 := h2 rfl
    have h4 : decide (0 ≤ k) = false := decide_eq_false (by omega)
    have HB : Hid (b = false) := Lib.hid (by rw [← HZ.out]; exact decide_eq_false hb)
    clear h1 h2 hb HZ
    go_wp2_with fail
    go_ret
    exact ⟨ret_bool HB.out.symm, rfl⟩
end Go.Proofs.Ythdfflbhogfejaa
namespace Go.Proofs.Ythdfflbhogfejaa
open Go.RowKit

set_option maxRecDepth 100000 in
set_option maxHeartbeats 1600000 in
theorem rwhole_any (w : World) (n : Int) (n0 : -9223372036854775808 ≤ n) (n1 : n ≤ 9223372036854775807) : Calls Try.prog 34 #[.int .i64 n] w fun e w' => ∃ x : Fx, e = .returned x.val ∧ Rp x (n : Rat) ∧ Nm w' x (n : Rat) ∧ Below w.heap.size w w' := by
  have HZ : Hid (makeF n 1 = okS (n : Rat)) := Lib.hid (by rw [makeF_int n0 n1, okS_int])
  have HSZ := Lib.hid (sz_whole n0 n1)
  go_enter Try.func34, Try.ntmps34
  go_wp2_with fail
  have bw := (Below.refl w.heap.size w).alloc (Nat.le_refl _) (.cells #[.bool false, .slice none 0 0, .slice none 0 0] 41)
  have bk := bk3_new w
  generalize (w.alloc (.cells #[.bool false, .slice none 0 0, .slice none 0 0] 41)) = w1 at bw bk ⊢
  refine (rfmake_any w1 n 1 _ n0 n1 (by omega) (by omega) HZ.out).mono ?_
  rintro e wn ⟨x1, rfl, hs1, ok1, bb⟩
  have HS1 := Lib.hid (Rp.of hs1)
  clear hs1
  replace bk := bk.below bb
  replace bw := below_on bw bb bw.size
  clear bb
  go_upto_region 2 with fail
  have a1 := (fa_alloc ok1).1
  have bb := (fa_alloc ok1).2
  clear ok1
  generalize (wn.alloc (.cells #[.bool x1.b, .slice x1.A x1.xs.length x1.c, .slice x1.D x1.ys.length x1.d] 41)) = wm at a1 bb ⊢
  replace bk := bk.below bb
  replace bw := below_on bw bb bw.size
  clear bb
  generalize wn.heap.size = g1 at a1 ⊢
  have ci0 := a1.c0
  have ci1 := a1.c1
  have ci2 := a1.c2
  have tk := bk
  obtain ⟨k0, k1, k2, kf0, kf1, kf2, klt, kb⟩ := tk
  clear kb
  go_wp2_with fail
  refine bodyPost_ret (v := x1.val) (by simp [results, Try.results34, go_sem, k0, k1, k2]) rfl ?_
  exact ⟨x1, rfl, HS1.out, Nm.of (set3_ok a1.ok bk rfl rfl rfl) HS1.out HSZ.out, set3g bw (Nat.le_refl _)⟩
set_option maxRecDepth 100000 in
theorem limbs_same {xs ys : List Nat} (hl : xs.length = ys.length) (h : ∀ j (h1 : j < xs.length) (h2 : j < ys.length), xs[j] = ys[j]) : xs = ys := List.ext_getElem hl h
set_option maxRecDepth 100000 in
set_option maxHeartbeats 4000000 in
theorem samefr_any (w : World) (x y : Fx) (b : Bool) (hx : x.ok w) (hy : y.ok w) (hb : decide (x.b = y.b ∧ x.xs = y.xs ∧ x.ys = y.ys) = b) :
    Calls Try.prog 32 #[x.val, y.val] w fun e w' => e = .returned (.bool b) ∧ Below w.heap.size w w' := by
  have HF : Hid (∀ P : Prop, (x.b = y.b ∧ x.xs = y.xs ∧ x.ys = y.ys → P) → (¬ P → b = false)) := Lib.hid (fun P h hn => by rw [← hb]; exact decide_eq_false (fun h2 => hn (h h2)))
  have HT : Hid (x.b = y.b → x.xs = y.xs → x.ys = y.ys → b = true) := Lib.hid (fun h1 h2 h3 => by rw [← hb]; exact decide_eq_true ⟨h1, h2, h3⟩)
  have hlx := hx.num.len
  have hly := hx.den.len
  clear hb
  by_cases h1 : x.b = y.b
  · have h1b : (x.b != y.b) = false := by simp [h1]
    have H1 := Lib.hid h1
    clear h1
    by_cases h2 : x.xs.length = y.xs.length
    · have h2b : ((x.xs.length : Int) != (y.xs.length : Int)) = false := by simp [h2]
      have H2 := Lib.hid h2
      clear h2
      by_cases h3 : x.ys.length = y.ys.length
      · have h3b : ((x.ys.length : Int) != (y.ys.length : Int)) = false := by simp [h3]
        have H3 := Lib.hid h3
        clear h3
        go_enter Try.func32, Try.ntmps32
        go_upto_region 1 with fail
        have b0 := (Below.refl w.heap.size w).alloc (Nat.le_refl _) (.cells x.cells 41)
        have bx := bk3_alloc w (.bool x.b) (.slice x.A x.xs.length x.c) (.slice x.D x.ys.length x.d)
        have okx := hx.below b0
        have oky := hy.below b0
        have sz0 := size_box w (.cells x.cells 41)
        have bw := b0
        clear b0
        generalize (w.alloc (.cells x.cells 41)) = wa at bx okx oky sz0 bw ⊢
        have b1 := (Below.refl wa.heap.size wa).alloc (Nat.le_refl _) (.cells y.cells 41)
        have by_ := bk3_alloc wa (.bool y.b) (.slice y.A y.xs.length y.c) (.slice y.D y.ys.length y.d)
        rw [sz0] at by_
        replace bx := bx.below b1
        replace okx := okx.below b1
        replace oky := oky.below b1
        replace bw := below_on bw b1 bw.size
        clear b1 sz0
        generalize (wa.alloc (.cells y.cells 41)) = w1 at bx by_ okx oky bw ⊢
        have HBX := Lib.hid bx
        have HBY := Lib.hid by_
        have HOX := Lib.hid okx
        have HOY := Lib.hid oky
        have tx := bx
        obtain ⟨x0, x1, x2, xf0, xf1, xf2, xlt, xb⟩ := tx
        clear xb
        have ty := by_
        obtain ⟨y0, y1, y2, yf0, yf1, yf2, ylt, yb⟩ := ty
        clear yb
        go_wp2_with fail
        clear x0 x1 x2 xf0 xf1 xf2 xlt
        clear y0 y1 y2 yf0 yf1 yf2 ylt
        clear bx by_ okx oky
        go_loopw [5] (fun i wr => ∃ k : Nat, k ≤ x.xs.length ∧ i = .int .i64 k ∧ (∀ j (h1 : j < x.xs.length) (h2 : j < y.xs.length), j < k → x.xs[j] = y.xs[j]) ∧ Below w1.heap.size w1 wr) (fun i _ => x.xs.length - (intOf i).toNat)
        case atStart => exact ⟨0, by omega, rfl, (fun j _ _ h => absurd h (by omega)), Below.refl _ _⟩
        case round =>
          obtain ⟨i, hi, rfl, he, bz⟩ := hrel
          have HE := Lib.hid he
          clear he
          have bx := HBX.out.below bz
          have by_ := HBY.out.below bz
          have tx := bx
          obtain ⟨x0, x1, x2, xf0, xf1, xf2, xlt, xb⟩ := tx
          clear xb
          have ty := by_
          obtain ⟨y0, y1, y2, yf0, yf1, yf2, ylt, yb⟩ := ty
          clear yb
          by_cases hlt : i < x.xs.length
          · have hlt2 : i < y.xs.length := by have := H2.out; omega
            obtain ⟨adX, hax, hbX, hcX, hvX⟩ := (HOX.out.num.below bz).at i hlt
            obtain ⟨adY, hay, hbY, hcY, hvY⟩ := (HOY.out.num.below bz).at i hlt2
            by_cases hxy : x.xs[i] = y.xs[i]
            · have HX := Lib.hid hxy
              have hx1 : ((x.xs[i] : Int) != (y.xs[i] : Int)) = false := by simp [hxy]
              clear hxy
              go_upto_region 6 with fail
              rw [hax] at x1
              rw [hay] at y1
              go_quiet (fail)
              go_wp2_with fail
              go_roundw
              case rel => exact ⟨i + 1, by omega, by go_num, (fun j h1 h2 h3 => by
                rcases Nat.lt_or_ge j i with h4 | h4
                · exact HE.out j h1 h2 h4
                · have : j = i := by omega
                  subst this
                  exact HX.out), below_drewN bz _⟩
              case measure => simp [intOf]; omega
            · have hx1 : ((x.xs[i] : Int) != (y.xs[i] : Int)) = true := by rw [bne_iff_ne]; omega
              have HBB : Hid (b = false) := Lib.hid (HF.out (x.xs = y.xs) (fun h => h.2.1) (fun e => hxy (by simp only [e])))
              clear hxy
              go_upto_region 6 with fail
              rw [hax] at x1
              rw [hay] at y1
              go_quiet (fail)
              go_wp2_with fail
              go_ret
              exact ⟨ret_bool HBB.out.symm, below_drewN (below_on bw bz bw.size) _⟩
          · have HXE : Hid (x.xs = y.xs) := Lib.hid (limbs_same H2.out (fun j h1 h2 => HE.out j h1 h2 (by omega)))
            go_wp2_with fail
            clear x0 x1 x2 xf0 xf1 xf2 xlt
            clear y0 y1 y2 yf0 yf1 yf2 ylt
            clear bx by_ hlt hi
            go_loopw [6] (fun i wr => ∃ k : Nat, k ≤ x.ys.length ∧ i = .int .i64 k ∧ (∀ j (h1 : j < x.ys.length) (h2 : j < y.ys.length), j < k → x.ys[j] = y.ys[j]) ∧ Below w1.heap.size w1 wr) (fun i _ => x.ys.length - (intOf i).toNat)
            case atStart => exact ⟨0, by omega, rfl, (fun j _ _ h => absurd h (by omega)), bz⟩
            case round =>
              clear bz
              obtain ⟨i, hi, rfl, he, bz⟩ := hrel
              have HE := Lib.hid he
              clear he
              have bx := HBX.out.below bz
              have by_ := HBY.out.below bz
              have tx := bx
              obtain ⟨x0, x1, x2, xf0, xf1, xf2, xlt, xb⟩ := tx
              clear xb
              have ty := by_
              obtain ⟨y0, y1, y2, yf0, yf1, yf2, ylt, yb⟩ := ty
              clear yb
              by_cases hlt : i < x.ys.length
              · have hlt2 : i < y.ys.length := by have := H3.out; omega
                obtain ⟨adX, hax, hbX, hcX, hvX⟩ := (HOX.out.den.below bz).at i hlt
                obtain ⟨adY, hay, hbY, hcY, hvY⟩ := (HOY.out.den.below bz).at i hlt2
                by_cases hxy : x.ys[i] = y.ys[i]
                · have HX := Lib.hid hxy
                  have hx1 : ((x.ys[i] : Int) != (y.ys[i] : Int)) = false := by simp [hxy]
                  clear hxy
                  go_upto_region 11 with fail
                  rw [hax] at x2
                  rw [hay] at y2
                  go_quiet (fail)
                  go_wp2_with fail
                  go_roundw
                  case rel => exact ⟨i + 1, by omega, by go_num, (fun j h1 h2 h3 => by
                    rcases Nat.lt_or_ge j i with h4 | h4
                    · exact HE.out j h1 h2 h4
                    · have : j = i := by omega
                      subst this
                      exact HX.out), below_drewN bz _⟩
                  case measure => simp [intOf]; omega
                · have hx1 : ((x.ys[i] : Int) != (y.ys[i] : Int)) = true := by rw [bne_iff_ne]; omega
                  have HBB : Hid (b = false) := Lib.hid (HF.out (x.ys = y.ys) (fun h => h.2.2) (fun e => hxy (by simp only [e])))
                  clear hxy
                  go_upto_region 11 with fail
                  rw [hax] at x2
                  rw [hay] at y2
                  go_quiet (fail)
                  go_wp2_with fail
                  go_ret
                  exact ⟨ret_bool HBB.out.symm, below_drewN (below_on bw bz bw.size) _⟩
              · have HYE : Hid (x.ys = y.ys) := Lib.hid (limbs_same H3.out (fun j h1 h2 => HE.out j h1 h2 (by omega)))
                have HBB := Lib.hid (HT.out H1.out HXE.out HYE.out)
                go_wp2_with fail
                go_ret
                exact ⟨ret_bool HBB.out.symm, below_on bw bz bw.size⟩
      · have h3b : ((x.ys.length : Int) != (y.ys.length : Int)) = true := by rw [bne_iff_ne]; omega
        have HBB : Hid (b = false) := Lib.hid (HF.out (x.ys = y.ys) (fun h => h.2.2) (fun e => h3 (by rw [e])))
        go_enter Try.func32, Try.ntmps32
        go_upto_region 1 with fail
        have b0 := (Below.refl w.heap.size w).alloc (Nat.le_refl _) (.cells x.cells 41)
        have bx := bk3_alloc w (.bool x.b) (.slice x.A x.xs.length x.c) (.slice x.D x.ys.length x.d)
        have okx := hx.below b0
        have oky := hy.below b0
        have sz0 := size_box w (.cells x.cells 41)
        have bw := b0
        clear b0
        generalize (w.alloc (.cells x.cells 41)) = wa at bx okx oky sz0 bw ⊢
        have b1 := (Below.refl wa.heap.size wa).alloc (Nat.le_refl _) (.cells y.cells 41)
        have by_ := bk3_alloc wa (.bool y.b) (.slice y.A y.xs.length y.c) (.slice y.D y.ys.length y.d)
        rw [sz0] at by_
        replace bx := bx.below b1
        replace okx := okx.below b1
        replace oky := oky.below b1
        replace bw := below_on bw b1 bw.size
        clear b1 sz0
        generalize (wa.alloc (.cells y.cells 41)) = w1 at bx by_ okx oky bw ⊢
        have tx := bx
        obtain ⟨x0, x1, x2, xf0, xf1, xf2, xlt, xb⟩ := tx
        clear xb
        have ty := by_
        obtain ⟨y0, y1, y2, yf0, yf1, yf2, ylt, yb⟩ := ty
        clear yb
        go_wp2_with fail
        go_ret
        exact ⟨ret_bool HBB.out.symm, bw⟩
    · have h2b : ((x.xs.length : Int) != (y.xs.length : Int)) = true := by rw [bne_iff_ne]; omega
      have HBB : Hid (b = false) := Lib.hid (HF.out (x.xs = y.xs) (fun h => h.2.1) (fun e => h2 (by rw [e])))
      go_enter Try.func32, Try.ntmps32
      go_upto_region 1 with fail
      have b0 := (Below.refl w.heap.size w).alloc (Nat.le_refl _) (.cells x.cells 41)
      have bx := bk3_alloc w (.bool x.b) (.slice x.A x.xs.length x.c) (.slice x.D x.ys.length x.d)
      have okx := hx.below b0
      have oky := hy.below b0
      have sz0 := size_box w (.cells x.cells 41)
      have bw := b0
      clear b0
      generalize (w.alloc (.cells x.cells 41)) = wa at bx okx oky sz0 bw ⊢
      have b1 := (Below.refl wa.heap.size wa).alloc (Nat.le_refl _) (.cells y.cells 41)
      have by_ := bk3_alloc wa (.bool y.b) (.slice y.A y.xs.length y.c) (.slice y.D y.ys.length y.d)
      rw [sz0] at by_
      replace bx := bx.below b1
      replace okx := okx.below b1
      replace oky := oky.below b1
      replace bw := below_on bw b1 bw.size
      clear b1 sz0
      generalize (wa.alloc (.cells y.cells 41)) = w1 at bx by_ okx oky bw ⊢
      have tx := bx
      obtain ⟨x0, x1, x2, xf0, xf1, xf2, xlt, xb⟩ := tx
      clear xb
      have ty := by_
      obtain ⟨y0, y1, y2, yf0, yf1, yf2, ylt, yb⟩ := ty
      clear yb
      go_wp2_with fail
      go_ret
      exact ⟨ret_bool HBB.out.symm, bw⟩
  · have h1b : (x.b != y.b) = true := by rw [bne_iff_ne]; exact h1
    have HBB : Hid (b = false) := Lib.hid (HF.out (x.b = y.b) (fun h => h.1) h1)
    go_enter Try.func32, Try.ntmps32
    go_upto_region 1 with fail
    have b0 := (Below.refl w.heap.size w).alloc (Nat.le_refl _) (.cells x.cells 41)
    have bx := bk3_alloc w (.bool x.b) (.slice x.A x.xs.length x.c) (.slice x.D x.ys.length x.d)
    have okx := hx.below b0
    have oky := hy.below b0
    have sz0 := size_box w (.cells x.cells 41)
    have bw := b0
    clear b0
    generalize (w.alloc (.cells x.cells 41)) = wa at bx okx oky sz0 bw ⊢
    have b1 := (Below.refl wa.heap.size wa).alloc (Nat.le_refl _) (.cells y.cells 41)
    have by_ := bk3_alloc wa (.bool y.b) (.slice y.A y.xs.length y.c) (.slice y.D y.ys.length y.d)
    rw [sz0] at by_
    replace bx := bx.below b1
    replace okx := okx.below b1
    replace oky := oky.below b1
    replace bw := below_on bw b1 bw.size
    clear b1 sz0
    generalize (wa.alloc (.cells y.cells 41)) = w1 at bx by_ okx oky bw ⊢
    have tx := bx
    obtain ⟨x0, x1, x2, xf0, xf1, xf2, xlt, xb⟩ := tx
    clear xb
    have ty := by_
    obtain ⟨y0, y1, y2, yf0, yf1, yf2, ylt, yb⟩ := ty
    clear yb
    go_wp2_with fail
    go_ret
    exact ⟨ret_bool HBB.out.symm, bw⟩
end Go.Proofs.Ythdfflbhogfejaa
namespace Go.Proofs.Ythdfflbhogfejaa

/-- the sum of the first numbers of a row -/
def sumTo (g : Nat → Rat) : Nat → Rat
  | 0 => 0
  | n + 1 => sumTo g n + g n
set_option maxRecDepth 100000 in
theorem sumTo_congr {g h : Nat → Rat} {n : Nat} (e : ∀ i, i < n → g i = h i) : sumTo g n = sumTo h n := by
  induction n with
  | zero => rfl
  | succ n ih => rw [sumTo, sumTo, ih (fun i hi => e i (by omega)), e n (by omega)]
set_option maxRecDepth 100000 in
theorem sumTo_le {g h : Nat → Rat} {n : Nat} (e : ∀ i, i < n → g i ≤ h i) : sumTo g n ≤ sumTo h n := by
  induction n with
  | zero => exact Rat.le_refl
  | succ n ih =>
    have h1 := ih (fun i hi => e i (by omega))
    have h2 := e n (by omega)
    rw [sumTo, sumTo]; grind
set_option maxRecDepth 100000 in
theorem sumTo_lt {g h : Nat → Rat} {n : Nat} (e : ∀ i, i < n → g i ≤ h i) (k : Nat) (hk : k < n) (hs : g k < h k) : sumTo g n < sumTo h n := by
  induction n with
  | zero => omega
  | succ n ih =>
    have h2 := e n (by omega)
    rw [sumTo, sumTo]
    rcases Nat.lt_or_ge k n with h3 | h3
    · have h1 := ih (fun i hi => e i (by omega)) h3; grind
    · obtain rfl : k = n := by omega
      have h1 := sumTo_le (g := g) (h := h) (n := k) (fun i hi => e i (by omega)); grind
set_option maxRecDepth 100000 in
theorem sumTo_add (g h : Nat → Rat) (n : Nat) : sumTo (fun i => g i + h i) n = sumTo g n + sumTo h n := by
  induction n with
  | zero => show (0 : Rat) = 0 + 0; grind
  | succ n ih => rw [sumTo, sumTo, sumTo, ih]; grind

/-- rates and who still rises -/
structure Rt where
  r : List Rat
  a : List Bool
/-- what a flow takes of a link -/
def tk (l : List Fl) (r : List Rat) (k : Int) (i : Nat) : Rat := if k ∈ lkA l i then r.getD i 0 else 0
/-- the load of a link -/
def ldq (l : List Fl) (r : List Rat) (k : Int) : Rat := sumTo (tk l r k) l.length
/-- what a flow that has stopped takes of a link -/
def tkS (l : List Fl) (s : Rt) (k : Int) (i : Nat) : Rat := if k ∈ lkA l i ∧ s.a.getD i false = false then s.r.getD i 0 else 0
/-- how many of the first flows use a link and rise -/
def cnt (l : List Fl) (s : Rt) (k : Int) : Nat → Nat
  | 0 => 0
  | i + 1 => cnt l s k i + if k ∈ lkA l i ∧ s.a.getD i false = true then 1 else 0
/-- the level at which a link is full -/
def lev (cp : Int → Int) (l : List Fl) (s : Rt) (k : Int) : Option Rat :=
  if cnt l s k l.length = 0 then none else some (((cp k : Rat) - sumTo (tkS l s k) l.length) / (cnt l s k l.length : Nat))
/-- the lesser of what was found and a number -/
def mn : Option Rat → Rat → Option Rat
  | none, x => some x
  | some y, x => if x < y then some x else some y
def lowK (cp : Int → Int) (l : List Fl) (s : Rt) : Nat → Option Rat
  | 0 => none
  | k + 1 => match lev cp l s (k : Int) with
    | none => lowK cp l s k
    | some x => mn (lowK cp l s k) x
def lowF (cp : Int → Int) (l : List Fl) (s : Rt) (n : Nat) : Nat → Option Rat
  | 0 => lowK cp l s n
  | i + 1 => if s.a.getD i false = true then mn (lowF cp l s n i) (lmA l i : Rat) else lowF cp l s n i
/-- does a flow stop at a level -/
def stopQ (cp : Int → Int) (l : List Fl) (s : Rt) (q : Rat) (i : Nat) : Prop := (lmA l i : Rat) = q ∨ ∃ k ∈ lkA l i, lev cp l s k = some q
instance (cp : Int → Int) (l : List Fl) (s : Rt) (q : Rat) (i : Nat) : Decidable (stopQ cp l s q i) := inferInstanceAs (Decidable (_ ∨ _))
/-- the first flows brought up to date; s0: the state at the round's start -/
def partR (cp : Int → Int) (l : List Fl) (s0 : Rt) (q : Rat) : Nat → Rt
  | 0 => s0
  | i + 1 => if s0.a.getD i false = true ∧ stopQ cp l s0 q i then ⟨(partR cp l s0 q i).r.set i q, (partR cp l s0 q i).a.set i false⟩ else partR cp l s0 q i
def roundR (cp : Int → Int) (l : List Fl) (n : Nat) (s : Rt) : Rt := partR cp l s ((lowF cp l s n l.length).getD 0) l.length
def itR (cp : Int → Int) (l : List Fl) (n : Nat) : Nat → Rt
  | 0 => ⟨List.replicate l.length 0, List.replicate l.length true⟩
  | k + 1 => if true ∈ (itR cp l n k).a then roundR cp l n (itR cp l n k) else itR cp l n k
def ratesM (cp : Int → Int) (l : List Fl) (n : Nat) : List Rat := (itR cp l n l.length).r

/-- rates that are proved max-min fair -/
structure Cert (cp : Int → Int) (l : List Fl) (n : Nat) (r : List Rat) : Prop where
  lo : r.length = l.length
  nn : ∀ i, i < l.length → 0 ≤ r.getD i 0 ∧ r.getD i 0 ≤ (lmA l i : Rat)
  cap : ∀ k : Nat, k < n → ldq l r (k : Int) ≤ (cp (k : Int) : Rat)
  held : ∀ i, i < l.length → r.getD i 0 = (lmA l i : Rat) ∨ ∃ k ∈ lkA l i, ldq l r k = (cp k : Rat) ∧ ∀ j, j < l.length → k ∈ lkA l j → r.getD j 0 ≤ r.getD i 0

set_option maxRecDepth 100000 in
/-- a number of a finite row is least -/
theorem exists_least (g : Nat → Rat) (p : Nat → Prop) : ∀ n, (∃ i, i < n ∧ p i) → ∃ i, i < n ∧ p i ∧ ∀ j, j < n → p j → g i ≤ g j := by
  intro n
  induction n with
  | zero => rintro ⟨i, hi, _⟩; omega
  | succ n ih =>
    rintro ⟨i, hi, hp⟩
    by_cases h : ∃ i, i < n ∧ p i
    · obtain ⟨a, ha, pa, la⟩ := ih h
      by_cases h2 : p n ∧ g n < g a
      · refine ⟨n, by omega, h2.1, fun j hj pj => ?_⟩
        rcases Nat.lt_or_ge j n with h3 | h3
        · have := la j h3 pj; grind
        · obtain rfl : j = n := by omega
          exact Rat.le_refl
      · refine ⟨a, by omega, pa, fun j hj pj => ?_⟩
        rcases Nat.lt_or_ge j n with h3 | h3
        · exact la j h3 pj
        · obtain rfl : j = n := by omega
          by_cases h4 : g j < g a
          · exact absurd ⟨pj, h4⟩ h2
          · grind
    · have hin : i = n := by
        rcases Nat.lt_or_ge i n with h3 | h3
        · exact absurd ⟨i, h3, hp⟩ h
        · omega
      subst hin
      refine ⟨i, by omega, hp, fun j hj pj => ?_⟩
      rcases Nat.lt_or_ge j i with h3 | h3
      · exact absurd ⟨j, h3, pj⟩ h
      · obtain rfl : j = i := by omega
        exact Rat.le_refl

set_option maxRecDepth 100000 in
/-- half of the proof that the certificate is unique: the least rate at which two lists differ -/
theorem Cert.half {cp : Int → Int} {l : List Fl} {n : Nat} {r t : List Rat} (hl : ∀ i, i < l.length → ∀ k ∈ lkA l i, 0 ≤ k ∧ k < n) (hr : Cert cp l n r) (ht : Cert cp l n t) (i : Nat) (hi : i < l.length) (hlt : r.getD i 0 < t.getD i 0)
    (hm : ∀ j, j < l.length → r.getD j 0 ≠ t.getD j 0 → r.getD i 0 ≤ min (r.getD j 0) (t.getD j 0)) : False := by
  rcases hr.held i hi with h | ⟨k, hk, hf, hg⟩
  · have := (ht.nn i hi).2
    grind
  · have hb := hl i hi k hk
    obtain ⟨m, rfl⟩ : ∃ m : Nat, k = (m : Int) := ⟨k.toNat, by omega⟩
    have hc := ht.cap m (by omega)
    have hlt2 : ldq l r (m : Int) < ldq l t (m : Int) := by
      refine sumTo_lt (fun j hj => ?_) i hi ?_
      · unfold tk
        by_cases hu : (m : Int) ∈ lkA l j
        · rw [if_pos hu, if_pos hu]
          by_cases he : r.getD j 0 = t.getD j 0
          · rw [he]; exact Rat.le_refl
          · have h1 := hm j hj he
            have h2 := hg j hj hu
            grind
        · rw [if_neg hu, if_neg hu]; exact Rat.le_refl
      · unfold tk
        rw [if_pos hk, if_pos hk]; exact hlt
    grind
set_option maxRecDepth 100000 in
theorem Cert.unique {cp : Int → Int} {l : List Fl} {n : Nat} {r t : List Rat} (hl : ∀ i, i < l.length → ∀ k ∈ lkA l i, 0 ≤ k ∧ k < n) (hr : Cert cp l n r) (ht : Cert cp l n t) : r = t := by
  by_cases h : ∃ i, i < l.length ∧ r.getD i 0 ≠ t.getD i 0
  · exfalso
    obtain ⟨i, hi, hne, hm⟩ := exists_least (fun i => min (r.getD i 0) (t.getD i 0)) _ l.length h
    by_cases h1 : r.getD i 0 < t.getD i 0
    · exact Cert.half hl hr ht i hi h1 (fun j hj hne => by have := hm j hj hne; grind)
    · exact Cert.half hl ht hr i hi (by grind) (fun j hj hne => by have := hm j hj (fun e => hne e.symm); grind)
  · apply List.ext_getElem (by rw [hr.lo, ht.lo])
    intro i h1 h2
    have h3 : r.getD i 0 = t.getD i 0 := Classical.byContradiction fun e => h ⟨i, by rw [← hr.lo]; exact h1, e⟩
    rwa [getD_lt _ _ _ h1, getD_lt _ _ _ h2] at h3
end Go.Proofs.Ythdfflbhogfejaa
