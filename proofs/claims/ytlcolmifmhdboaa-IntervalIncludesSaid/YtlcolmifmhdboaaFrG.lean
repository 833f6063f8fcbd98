/- The walks of package fraction: round, Floor, Ceil. -/
import Derived.Test.YtlcolmifmhdboaaNatL
namespace Go.Proofs.Ytlcolmifmhdboaa
open Go.RowKit

set_option maxRecDepth 100000 in
theorem floor_mkRat (a : Int) {d : Nat} (hd : d ≠ 0) : (mkRat a d).floor = a / (d : Int) := by
  rw [Rat.floor_def, Rat.num_mkRat, Rat.den_mkRat, if_neg hd, if_neg hd]
  have hg : 0 < Nat.gcd d a.natAbs := Nat.gcd_pos_of_pos_left _ (Nat.pos_of_ne_zero hd)
  obtain ⟨d', hd'⟩ := Nat.gcd_dvd_left d a.natAbs
  obtain ⟨a', ha'⟩ : (Nat.gcd d a.natAbs : Int) ∣ a := Int.ofNat_dvd_left.2 (Nat.gcd_dvd_right d a.natAbs)
  generalize Nat.gcd d a.natAbs = g at *
  subst hd' ha'
  rw [Int.mul_ediv_cancel_left _ (by omega), Nat.mul_div_cancel_left _ hg, Int.natCast_mul, Int.mul_ediv_mul_of_pos _ _ (by omega)]
/-- q times 2^k, rounded -/
def rndZ (up : Bool) (q : Rat) (k : Nat) : Int := if up then (q * ((2 ^ k : Nat) : Rat)).ceil else (q * ((2 ^ k : Nat) : Rat)).floor
/-- what the code reckons -/
def rndN (b up : Bool) (N d : Nat) : Nat := if 0 < N % d ∧ b ≠ up then N / d + 1 else N / d
set_option maxRecDepth 100000 in
theorem qv_scale (b : Bool) (n d k : Nat) : qv b n d * ((2 ^ k : Nat) : Rat) = qv b (n * 2 ^ k) d := by
  have e : ((2 ^ k : Nat) : Rat) = qv false (2 ^ k) 1 := by rw [qv, Rat.mkRat_one]; rfl
  rw [e, qv_mul, Nat.mul_one]; cases b <;> rfl
set_option maxRecDepth 100000 in
theorem neg_ediv_up {N d : Nat} (hd : d ≠ 0) : (-(N : Int)) / (d : Int) = -((if 0 < N % d then N / d + 1 else N / d : Nat) : Int) := by
  have h := Nat.div_add_mod N d
  have hlt := Nat.mod_lt N (Nat.pos_of_ne_zero hd)
  have hI : (N : Int) = (d : Int) * ((N / d : Nat) : Int) + ((N % d : Nat) : Int) := by rw [← Int.natCast_mul, ← Int.natCast_add, h]
  generalize N / d = Q at *
  generalize N % d = R at *
  split
  · rename_i hr
    refine ((Int.ediv_emod_unique (r := (d : Int) - R) (by omega)).2 ⟨?_, by omega, by omega⟩).1
    rw [hI, Int.natCast_add, Int.mul_neg, Int.mul_add]; omega
  · rename_i hr
    refine ((Int.ediv_emod_unique (r := 0) (by omega)).2 ⟨?_, by omega, by omega⟩).1
    rw [hI, Int.mul_neg]; omega
set_option maxRecDepth 100000 in
theorem rndZ_qv {b up : Bool} {n d k : Nat} (hd : d ≠ 0) : rndZ up (qv b n d) k = sg b (rndN b up (n * 2 ^ k) d) := by
  rw [rndZ, qv_scale, Rat.ceil_eq_neg_floor_neg, ← qv_opp, qv, qv, floor_mkRat _ hd, floor_mkRat _ hd]
  cases b <;> cases up
  · simp [sg, rndN]
  · have := neg_ediv_up (N := n * 2 ^ k) hd
    simp only [sg, rndN, Bool.not_false, if_true, this, Int.neg_neg]
    simp
  · have := neg_ediv_up (N := n * 2 ^ k) hd
    simp only [sg, rndN, if_true, this]
    simp
  · simp [sg, rndN]
def roundF (x : Fx) (k : Int) (up : Bool) : Bool × List Nat × List Nat × Int := if x.v then (if k < 0 ∨ 256 < k then errF 5 else frS (mkRat (rndZ up x.q k.toNat) (2 ^ k.toNat))) else errF 1
set_option maxRecDepth 100000 in
theorem roundF_ok {x : Fx} {k : Int} {up : Bool} (hv : x.v) (h0 : 0 ≤ k) (h1 : k ≤ 256) : roundF x k up = frS (qv x.b (rndN x.b up (nv x.xs * 2 ^ k.toNat) (nv x.ys)) (2 ^ k.toNat)) := by
  rw [roundF, if_pos hv, if_neg (by omega), Fx.q, rndZ_qv hv.1, qv]
set_option maxRecDepth 100000 in
theorem lim_pow_le {k j : Nat} (h : k < 32 * j) : (lim (2 ^ k)).length ≤ j := by
  rw [lim_length_le, pw_two]
  exact Nat.pow_lt_pow_right (by omega) h
set_option maxRecDepth 100000 in
theorem lim_pow9 {k : Nat} (h : k ≤ 256) : (lim (2 ^ k)).length ≤ 9 := lim_pow_le (by omega)
set_option maxRecDepth 100000 in
theorem shiftS_f {m : Nat} {k : Int} {j : Nat} (hm : (lim m).length ≤ j) (hj : j ≤ 500) (h0 : 0 ≤ k) (h1 : k ≤ 256) : shiftS m k = (lim (m * 2 ^ k.toNat), 0) := by
  have h2 := len_mulf hm (lim_pow9 (k := k.toNat) (by omega))
  rw [shiftS, if_neg (by omega)]
  by_cases hz : m = 0
  · rw [if_pos (.inl hz), hz, Nat.zero_mul, lim_zero]
  · rw [if_neg (by omega), if_pos h0, sizS, if_neg (by omega)]
set_option maxRecDepth 100000 in
theorem make_one (w : World) : Calls Try.prog 114 #[.int .u64 1] w fun e w' => ∃ A c, e = .returned (.slice A (lim 1).length c) ∧ Nt w' A c (lim 1) ∧ Below w.heap.size w w' := make_any w 1 (by omega)
set_option maxRecDepth 100000 in
set_option maxHeartbeats 1600000 in
theorem fround_any (w : World) (x : Fx) (k : Int) (up : Bool) (S : Bool × List Nat × List Nat × Int) (hx : x.ok w) (l1 : x.xs.length ≤ 10000) (l2 : x.ys.length ≤ 10000) (hs : roundF x k up = S) : Calls Try.prog 110 #[x.val, .int .i64 k, .bool up] w (FracRes w S) := by
  have HS := Lib.hid hs
  clear hs
  by_cases hv : x.v
  · have HV := Lib.hid hv
    by_cases hk0 : k < 0
    · have hd0 : decide (k < 0) = true := decide_eq_true hk0
      have HS' : Hid (errF 5 = S) := Lib.hid (by rw [← HS.out, roundF, if_pos hv, if_pos (.inl hk0)])
      clear hv hk0
      go_enter Try.func110, Try.ntmps110
      go_wp2_with fail
      have hs1 : w.heap.size < (w.alloc (.cells x.cells 25)).heap.size := by simp
      have b0 := (Below.refl w.heap.size w).alloc (Nat.le_refl _) (.cells x.cells 25)
      have b1 := (Below.refl (w.alloc (.cells x.cells 25)).heap.size (w.alloc (.cells x.cells 25))).alloc (Nat.le_refl _) (.cells #[.bool false, .slice none 0 0, .slice none 0 0] 25)
      have bx := (bk3_alloc w (.bool x.b) (.slice x.A x.xs.length x.c) (.slice x.D x.ys.length x.d)).below b1
      have bk := bk3_new (w.alloc (.cells x.cells 25))
      rw [size_box] at bk
      have okx := (hx.below b0).below b1
      have bw := below_on b0 b1 (Nat.le_of_lt hs1)
      clear hs1 b0 b1
      revert bx bk okx bw
      generalize ((w.alloc (.cells x.cells 25)).alloc (.cells #[.bool false, .slice none 0 0, .slice none 0 0] 25)) = w1
      intro bx bk okx bw
      refine (fvalid_any w1 x true okx l1 l2 (decide_eq_true HV.out)).mono ?_
      rintro e wn ⟨rfl, bb⟩
      try replace bx := bx.below bb
      try replace by_ := by_.below bb
      try replace bk := bk.below bb
      try replace okx := okx.below bb
      try replace oky := oky.below bb
      try replace ok1 := ok1.below bb
      try replace na := na.below bb
      try replace nb := nb.below bb
      try replace nc := nc.below bb
      try replace nd := nd.below bb
      try replace ne := ne.below bb
      replace bw := below_on bw bb bw.size
      clear bb
      have tk := bk
      obtain ⟨k0, k1, k2, kf0, kf1, kf2, klt, kb⟩ := tk
      clear kb
      go_wp2_with fail
      refine bodyPost_ret (v := .tuple #[(Fx.nil : Fx).val, .int .i64 5]) (by simp [results, Try.results110, go_sem, k0, k1, k2]) rfl ?_
      rw [← HS'.out]
      exact ⟨Fx.nil, rfl, ⟨rfl, rfl, rfl⟩, Fx.nil_ok _, set3g bw (by omega)⟩
    · by_cases hk1 : 256 < k
      · have hd0 : decide (k < 0) = false := decide_eq_false hk0
        have hd1 : decide (256 < k) = true := decide_eq_true hk1
        have HS' : Hid (errF 5 = S) := Lib.hid (by rw [← HS.out, roundF, if_pos hv, if_pos (.inr hk1)])
        clear hv hk0 hk1
        go_enter Try.func110, Try.ntmps110
        go_wp2_with fail
        have hs1 : w.heap.size < (w.alloc (.cells x.cells 25)).heap.size := by simp
        have b0 := (Below.refl w.heap.size w).alloc (Nat.le_refl _) (.cells x.cells 25)
        have b1 := (Below.refl (w.alloc (.cells x.cells 25)).heap.size (w.alloc (.cells x.cells 25))).alloc (Nat.le_refl _) (.cells #[.bool false, .slice none 0 0, .slice none 0 0] 25)
        have bx := (bk3_alloc w (.bool x.b) (.slice x.A x.xs.length x.c) (.slice x.D x.ys.length x.d)).below b1
        have bk := bk3_new (w.alloc (.cells x.cells 25))
        rw [size_box] at bk
        have okx := (hx.below b0).below b1
        have bw := below_on b0 b1 (Nat.le_of_lt hs1)
        clear hs1 b0 b1
        revert bx bk okx bw
        generalize ((w.alloc (.cells x.cells 25)).alloc (.cells #[.bool false, .slice none 0 0, .slice none 0 0] 25)) = w1
        intro bx bk okx bw
        refine (fvalid_any w1 x true okx l1 l2 (decide_eq_true HV.out)).mono ?_
        rintro e wn ⟨rfl, bb⟩
        try replace bx := bx.below bb
        try replace by_ := by_.below bb
        try replace bk := bk.below bb
        try replace okx := okx.below bb
        try replace oky := oky.below bb
        try replace ok1 := ok1.below bb
        try replace na := na.below bb
        try replace nb := nb.below bb
        try replace nc := nc.below bb
        try replace nd := nd.below bb
        try replace ne := ne.below bb
        replace bw := below_on bw bb bw.size
        clear bb
        have tk := bk
        obtain ⟨k0, k1, k2, kf0, kf1, kf2, klt, kb⟩ := tk
        clear kb
        go_wp2_with fail
        refine bodyPost_ret (v := .tuple #[(Fx.nil : Fx).val, .int .i64 5]) (by simp [results, Try.results110, go_sem, k0, k1, k2]) rfl ?_
        rw [← HS'.out]
        exact ⟨Fx.nil, rfl, ⟨rfl, rfl, rfl⟩, Fx.nil_ok _, set3g bw (by omega)⟩
      · have hd0 : decide (k < 0) = false := decide_eq_false hk0
        have hd1 : decide (256 < k) = false := decide_eq_false hk1
        have hk2 : 0 ≤ k := by omega
        have hk3 : k ≤ 256 := by omega
        have HSS0 := (roundF_ok (up := up) hv hk2 hk3).symm.trans HS.out
        have HD : Hid (nv x.ys ≠ 0) := Lib.hid hv.1
        have lx : (lim (nv x.xs)).length ≤ 128 := hv.2.2
        have ly : (lim (nv x.ys)).length ≤ 128 := hv.2.1
        have lp := lim_pow9 (k := k.toNat) (by omega)
        have hsh := shiftS_f lx (by omega) hk2 hk3
        have hsh1 : shiftS (nv (lim 1)) k = (lim (2 ^ k.toNat), 0) := by
          rw [nv_lim, shiftS_f (lim_len2 (by omega)) (by omega) hk2 hk3, Nat.one_mul]
        have lN := len_mulf lx lp
        have hP0 : 2 ^ k.toNat ≠ 0 := Nat.pos_iff_ne_zero.1 (Nat.pow_pos (by omega))
        revert HSS0 lp hsh hsh1 lN hP0
        generalize nv x.xs * 2 ^ k.toNat = N
        generalize 2 ^ k.toNat = P
        intro HSS0 lp hsh hsh1 lN hP0
        have HSS := Lib.hid HSS0
        have HSH := Lib.hid hsh
        have HSH1 := Lib.hid hsh1
        have HP0 : Hid (P ≠ 0) := hP0
        have lQ := lim_length_mono (Nat.div_le_self N (nv x.ys))
        have lR := lim_length_mono (Nat.le_of_lt (Nat.mod_lt N (Nat.pos_of_ne_zero hv.1)))
        have hdiv : divS (nv (lim N)) (nv x.ys) = (lim (N / nv x.ys), lim (N % nv x.ys), 0) := by
          rw [nv_lim, divS_ok (by omega) (by omega) hv.1]
        have HDIV := Lib.hid hdiv
        have hbits : 0 < bits2 (N % nv x.ys) ↔ 0 < N % nv x.ys := (bits2_pos _).trans Nat.pos_iff_ne_zero.symm
        have HBITS := Lib.hid hbits
        have lQ1 := len_addf (m := N / nv x.ys) (n := 1) (k := 137) (by omega) (by have := lim_len2 (m := 1) (by omega); omega)
        clear hv hk0 hk1 HSS0 hsh hsh1 hP0 hdiv hbits
        go_enter Try.func110, Try.ntmps110
        go_wp2_with fail
        have hs1 : w.heap.size < (w.alloc (.cells x.cells 25)).heap.size := by simp
        have b0 := (Below.refl w.heap.size w).alloc (Nat.le_refl _) (.cells x.cells 25)
        have b1 := (Below.refl (w.alloc (.cells x.cells 25)).heap.size (w.alloc (.cells x.cells 25))).alloc (Nat.le_refl _) (.cells #[.bool false, .slice none 0 0, .slice none 0 0] 25)
        have bx := (bk3_alloc w (.bool x.b) (.slice x.A x.xs.length x.c) (.slice x.D x.ys.length x.d)).below b1
        have bk := bk3_new (w.alloc (.cells x.cells 25))
        rw [size_box] at bk
        have okx := (hx.below b0).below b1
        have bw := below_on b0 b1 (Nat.le_of_lt hs1)
        clear hs1 b0 b1
        revert bx bk okx bw
        generalize ((w.alloc (.cells x.cells 25)).alloc (.cells #[.bool false, .slice none 0 0, .slice none 0 0] 25)) = w1
        intro bx bk okx bw
        refine (fvalid_any w1 x true okx l1 l2 (decide_eq_true HV.out)).mono ?_
        rintro e wn ⟨rfl, bb⟩
        try replace bx := bx.below bb
        try replace by_ := by_.below bb
        try replace bk := bk.below bb
        try replace okx := okx.below bb
        try replace oky := oky.below bb
        try replace ok1 := ok1.below bb
        try replace na := na.below bb
        try replace nb := nb.below bb
        try replace nc := nc.below bb
        try replace nd := nd.below bb
        try replace ne := ne.below bb
        replace bw := below_on bw bb bw.size
        clear bb
        have tx := bx
        obtain ⟨x0, x1, x2, xf0, xf1, xf2, xlt, xb⟩ := tx
        clear xb
        go_wp2_with fail
        clear x0 x1 x2 xf0 xf1 xf2 xlt
        refine (shift_any wn x.A x.c _ k x.xs (lim N) 0 okx.num rfl HSH.out).mono ?_
        rintro e wn ⟨AN, cN, rfl, na, bb⟩
        try replace bx := bx.below bb
        try replace by_ := by_.below bb
        try replace bk := bk.below bb
        try replace okx := okx.below bb
        try replace oky := oky.below bb
        try replace ok1 := ok1.below bb
        try replace na := na.below bb
        try replace nb := nb.below bb
        try replace nc := nc.below bb
        try replace nd := nd.below bb
        try replace ne := ne.below bb
        replace bw := below_on bw bb bw.size
        clear bb
        have tx := bx
        obtain ⟨x0, x1, x2, xf0, xf1, xf2, xlt, xb⟩ := tx
        clear xb
        go_wp2_with fail
        clear x0 x1 x2 xf0 xf1 xf2 xlt
        refine (div_any wn AN x.D cN x.d _ _ (lim N) x.ys (lim (N / nv x.ys)) (lim (N % nv x.ys)) 0 na okx.den rfl rfl HDIV.out).mono ?_
        rintro e wn ⟨AQ, cQ, AR, cR, rfl, nq, nr, bb⟩
        try replace bx := bx.below bb
        try replace by_ := by_.below bb
        try replace bk := bk.below bb
        try replace okx := okx.below bb
        try replace oky := oky.below bb
        try replace ok1 := ok1.below bb
        try replace na := na.below bb
        try replace nb := nb.below bb
        try replace nc := nc.below bb
        try replace nd := nd.below bb
        try replace ne := ne.below bb
        replace bw := below_on bw bb bw.size
        clear bb
        clear na
        go_wp2_with fail
        refine (bits_any wn AR cR _ _ nr rfl (by omega)).mono ?_
        rintro e wn ⟨rfl, rfl⟩
        by_cases hr : 0 < N % nv x.ys
        · have hr2 : 0 < bits2 (nv (lim (N % nv x.ys))) := by rw [nv_lim]; exact HBITS.out.2 hr
          have HR := Lib.hid hr
          have hrd : decide (0 < (bits2 (nv (lim (N % nv x.ys))) : Int)) = true := decide_eq_true (by omega)
          clear hr
          by_cases hu : x.b = up
          · have hub : (x.b == up) = true := by simp [hu]
            have HU := Lib.hid hu
            clear hu
            have tx := bx
            obtain ⟨x0, x1, x2, xf0, xf1, xf2, xlt, xb⟩ := tx
            clear xb
            go_wp2_with fail
            clear x0 x1 x2 xf0 xf1 xf2 xlt
            refine (make_one _).mono ?_
            rintro e wn ⟨A1, c1, rfl, ne, bb⟩
            try replace nq := nq.below bb
            try replace bx := bx.below bb
            try replace by_ := by_.below bb
            try replace bk := bk.below bb
            try replace okx := okx.below bb
            try replace oky := oky.below bb
            try replace ok1 := ok1.below bb
            try replace na := na.below bb
            try replace nb := nb.below bb
            try replace nc := nc.below bb
            try replace nd := nd.below bb
            try replace ne := ne.below bb
            replace bw := below_on bw bb bw.size
            clear bb
            go_wp2_with fail
            refine (shift_any _ A1 c1 _ k (lim 1) (lim P) 0 ne rfl HSH1.out).mono ?_
            rintro e wn ⟨AP, cP, rfl, np, bb⟩
            try replace nq := nq.below bb
            try replace bx := bx.below bb
            try replace by_ := by_.below bb
            try replace bk := bk.below bb
            try replace okx := okx.below bb
            try replace oky := oky.below bb
            try replace ok1 := ok1.below bb
            try replace na := na.below bb
            try replace nb := nb.below bb
            try replace nc := nc.below bb
            try replace nd := nd.below bb
            try replace ne := ne.below bb
            replace bw := below_on bw bb bw.size
            clear bb
            have tx := bx
            obtain ⟨x0, x1, x2, xf0, xf1, xf2, xlt, xb⟩ := tx
            clear xb
            go_wp2_with fail
            clear x0 x1 x2 xf0 xf1 xf2 xlt
            refine (flowest_any _ x.b AQ AP cQ cP _ _ (lim (N / nv x.ys)) (lim P) nq np rfl rfl (by rw [nv_lim]; exact HP0.out) (by omega) (by omega) (by rw [nv_lim]; omega) (by rw [nv_lim]; omega)).mono ?_
            rintro e wn ⟨x1, rfl, hs1, ok1, bb⟩
            have HS1 := Lib.hid hs1
            clear hs1
            try replace bx := bx.below bb
            try replace by_ := by_.below bb
            try replace bk := bk.below bb
            try replace okx := okx.below bb
            try replace oky := oky.below bb
            try replace ok1 := ok1.below bb
            try replace na := na.below bb
            try replace nb := nb.below bb
            try replace nc := nc.below bb
            try replace nd := nd.below bb
            try replace ne := ne.below bb
            replace bw := below_on bw bb bw.size
            clear bb
            have tk := bk
            obtain ⟨k0, k1, k2, kf0, kf1, kf2, klt, kb⟩ := tk
            clear kb
            go_wp2_with fail
            refine bodyPost_ret (v := .tuple #[(x1 : Fx).val, .int .i64 (frS (qv x.b (nv (lim (N / nv x.ys))) (nv (lim P)))).2.2.2]) (by simp [results, Try.results110, go_sem, k0, k1, k2]) rfl ?_
            have hS : S = frS (qv x.b (nv (lim (N / nv x.ys))) (nv (lim P))) := by
              rw [nv_lim, nv_lim]
              rw [← HSS.out, rndN]
              rw [if_neg (fun h => h.2 HU.out)]
            rw [hS]
            exact ⟨x1, rfl, HS1.out, set3_ok ok1 bk rfl rfl rfl, set3g bw (by omega)⟩
          · have hub : (x.b == up) = false := by simpa using hu
            have HU : Hid (x.b ≠ up) := hu
            clear hu
            have tx := bx
            obtain ⟨x0, x1, x2, xf0, xf1, xf2, xlt, xb⟩ := tx
            clear xb
            go_wp2_with fail
            clear x0 x1 x2 xf0 xf1 xf2 xlt
            refine (make_one _).mono ?_
            rintro e wn ⟨A1, c1, rfl, ne, bb⟩
            replace nq := nq.below bb
            try replace bx := bx.below bb
            try replace by_ := by_.below bb
            try replace bk := bk.below bb
            try replace okx := okx.below bb
            try replace oky := oky.below bb
            try replace ok1 := ok1.below bb
            try replace na := na.below bb
            try replace nb := nb.below bb
            try replace nc := nc.below bb
            try replace nd := nd.below bb
            try replace ne := ne.below bb
            replace bw := below_on bw bb bw.size
            clear bb
            go_wp2_with fail
            refine (add_any _ AQ A1 cQ c1 _ _ (lim (N / nv x.ys)) (lim 1) (lim (N / nv x.ys + 1)) 0 nq ne rfl rfl (by rw [nv_lim, nv_lim]; exact addS_f (by omega) (by have := lim_len2 (m := 1) (by omega); omega))).mono ?_
            clear nq ne
            rintro e wn ⟨AQ, cQ, rfl, nq, bb⟩
            try replace bx := bx.below bb
            try replace by_ := by_.below bb
            try replace bk := bk.below bb
            try replace okx := okx.below bb
            try replace oky := oky.below bb
            try replace ok1 := ok1.below bb
            try replace na := na.below bb
            try replace nb := nb.below bb
            try replace nc := nc.below bb
            try replace nd := nd.below bb
            try replace ne := ne.below bb
            replace bw := below_on bw bb bw.size
            clear bb
            go_wp2_with fail
            refine (make_one _).mono ?_
            rintro e wn ⟨A1, c1, rfl, ne, bb⟩
            try replace nq := nq.below bb
            try replace bx := bx.below bb
            try replace by_ := by_.below bb
            try replace bk := bk.below bb
            try replace okx := okx.below bb
            try replace oky := oky.below bb
            try replace ok1 := ok1.below bb
            try replace na := na.below bb
            try replace nb := nb.below bb
            try replace nc := nc.below bb
            try replace nd := nd.below bb
            try replace ne := ne.below bb
            replace bw := below_on bw bb bw.size
            clear bb
            go_wp2_with fail
            refine (shift_any _ A1 c1 _ k (lim 1) (lim P) 0 ne rfl HSH1.out).mono ?_
            rintro e wn ⟨AP, cP, rfl, np, bb⟩
            try replace nq := nq.below bb
            try replace bx := bx.below bb
            try replace by_ := by_.below bb
            try replace bk := bk.below bb
            try replace okx := okx.below bb
            try replace oky := oky.below bb
            try replace ok1 := ok1.below bb
            try replace na := na.below bb
            try replace nb := nb.below bb
            try replace nc := nc.below bb
            try replace nd := nd.below bb
            try replace ne := ne.below bb
            replace bw := below_on bw bb bw.size
            clear bb
            have tx := bx
            obtain ⟨x0, x1, x2, xf0, xf1, xf2, xlt, xb⟩ := tx
            clear xb
            go_wp2_with fail
            clear x0 x1 x2 xf0 xf1 xf2 xlt
            refine (flowest_any _ x.b AQ AP cQ cP _ _ (lim (N / nv x.ys + 1)) (lim P) nq np rfl rfl (by rw [nv_lim]; exact HP0.out) (by omega) (by omega) (by rw [nv_lim]; omega) (by rw [nv_lim]; omega)).mono ?_
            rintro e wn ⟨x1, rfl, hs1, ok1, bb⟩
            have HS1 := Lib.hid hs1
            clear hs1
            try replace bx := bx.below bb
            try replace by_ := by_.below bb
            try replace bk := bk.below bb
            try replace okx := okx.below bb
            try replace oky := oky.below bb
            try replace ok1 := ok1.below bb
            try replace na := na.below bb
            try replace nb := nb.below bb
            try replace nc := nc.below bb
            try replace nd := nd.below bb
            try replace ne := ne.below bb
            replace bw := below_on bw bb bw.size
            clear bb
            have tk := bk
            obtain ⟨k0, k1, k2, kf0, kf1, kf2, klt, kb⟩ := tk
            clear kb
            go_wp2_with fail
            refine bodyPost_ret (v := .tuple #[(x1 : Fx).val, .int .i64 (frS (qv x.b (nv (lim (N / nv x.ys + 1))) (nv (lim P)))).2.2.2]) (by simp [results, Try.results110, go_sem, k0, k1, k2]) rfl ?_
            have hS : S = frS (qv x.b (nv (lim (N / nv x.ys + 1))) (nv (lim P))) := by
              rw [nv_lim, nv_lim]
              rw [← HSS.out, rndN]
              rw [if_pos ⟨HR.out, HU.out⟩]
            rw [hS]
            exact ⟨x1, rfl, HS1.out, set3_ok ok1 bk rfl rfl rfl, set3g bw (by omega)⟩
        · have hr2 : ¬ 0 < bits2 (nv (lim (N % nv x.ys))) := by rw [nv_lim]; exact fun h => hr (HBITS.out.1 h)
          have HR : Hid (¬ 0 < N % nv x.ys) := hr
          have hrd : decide (0 < (bits2 (nv (lim (N % nv x.ys))) : Int)) = false := decide_eq_false (by omega)
          clear hr
          go_wp2_with fail
          refine (make_one _).mono ?_
          rintro e wn ⟨A1, c1, rfl, ne, bb⟩
          try replace nq := nq.below bb
          try replace bx := bx.below bb
          try replace by_ := by_.below bb
          try replace bk := bk.below bb
          try replace okx := okx.below bb
          try replace oky := oky.below bb
          try replace ok1 := ok1.below bb
          try replace na := na.below bb
          try replace nb := nb.below bb
          try replace nc := nc.below bb
          try replace nd := nd.below bb
          try replace ne := ne.below bb
          replace bw := below_on bw bb bw.size
          clear bb
          go_wp2_with fail
          refine (shift_any _ A1 c1 _ k (lim 1) (lim P) 0 ne rfl HSH1.out).mono ?_
          rintro e wn ⟨AP, cP, rfl, np, bb⟩
          try replace nq := nq.below bb
          try replace bx := bx.below bb
          try replace by_ := by_.below bb
          try replace bk := bk.below bb
          try replace okx := okx.below bb
          try replace oky := oky.below bb
          try replace ok1 := ok1.below bb
          try replace na := na.below bb
          try replace nb := nb.below bb
          try replace nc := nc.below bb
          try replace nd := nd.below bb
          try replace ne := ne.below bb
          replace bw := below_on bw bb bw.size
          clear bb
          have tx := bx
          obtain ⟨x0, x1, x2, xf0, xf1, xf2, xlt, xb⟩ := tx
          clear xb
          go_wp2_with fail
          clear x0 x1 x2 xf0 xf1 xf2 xlt
          refine (flowest_any _ x.b AQ AP cQ cP _ _ (lim (N / nv x.ys)) (lim P) nq np rfl rfl (by rw [nv_lim]; exact HP0.out) (by omega) (by omega) (by rw [nv_lim]; omega) (by rw [nv_lim]; omega)).mono ?_
          rintro e wn ⟨x1, rfl, hs1, ok1, bb⟩
          have HS1 := Lib.hid hs1
          clear hs1
          try replace bx := bx.below bb
          try replace by_ := by_.below bb
          try replace bk := bk.below bb
          try replace okx := okx.below bb
          try replace oky := oky.below bb
          try replace ok1 := ok1.below bb
          try replace na := na.below bb
          try replace nb := nb.below bb
          try replace nc := nc.below bb
          try replace nd := nd.below bb
          try replace ne := ne.below bb
          replace bw := below_on bw bb bw.size
          clear bb
          have tk := bk
          obtain ⟨k0, k1, k2, kf0, kf1, kf2, klt, kb⟩ := tk
          clear kb
          go_wp2_with fail
          refine bodyPost_ret (v := .tuple #[(x1 : Fx).val, .int .i64 (frS (qv x.b (nv (lim (N / nv x.ys))) (nv (lim P)))).2.2.2]) (by simp [results, Try.results110, go_sem, k0, k1, k2]) rfl ?_
          have hS : S = frS (qv x.b (nv (lim (N / nv x.ys))) (nv (lim P))) := by
            rw [nv_lim, nv_lim]
            rw [← HSS.out, rndN]
            rw [if_neg (fun h => HR.out h.1)]
          rw [hS]
          exact ⟨x1, rfl, HS1.out, set3_ok ok1 bk rfl rfl rfl, set3g bw (by omega)⟩
  · have HV : Hid (¬ x.v) := hv
    clear hv
    go_enter Try.func110, Try.ntmps110
    go_wp2_with fail
    have hs1 : w.heap.size < (w.alloc (.cells x.cells 25)).heap.size := by simp
    have b0 := (Below.refl w.heap.size w).alloc (Nat.le_refl _) (.cells x.cells 25)
    have b1 := (Below.refl (w.alloc (.cells x.cells 25)).heap.size (w.alloc (.cells x.cells 25))).alloc (Nat.le_refl _) (.cells #[.bool false, .slice none 0 0, .slice none 0 0] 25)
    have bx := (bk3_alloc w (.bool x.b) (.slice x.A x.xs.length x.c) (.slice x.D x.ys.length x.d)).below b1
    have bk := bk3_new (w.alloc (.cells x.cells 25))
    rw [size_box] at bk
    have okx := (hx.below b0).below b1
    have bw := below_on b0 b1 (Nat.le_of_lt hs1)
    clear hs1 b0 b1
    revert bx bk okx bw
    generalize ((w.alloc (.cells x.cells 25)).alloc (.cells #[.bool false, .slice none 0 0, .slice none 0 0] 25)) = w1
    intro bx bk okx bw
    refine (fvalid_any w1 x false okx l1 l2 (decide_eq_false HV.out)).mono ?_
    rintro e wn ⟨rfl, bb⟩
    try replace bx := bx.below bb
    try replace by_ := by_.below bb
    try replace bk := bk.below bb
    try replace okx := okx.below bb
    try replace oky := oky.below bb
    try replace ok1 := ok1.below bb
    try replace na := na.below bb
    try replace nb := nb.below bb
    try replace nc := nc.below bb
    try replace nd := nd.below bb
    try replace ne := ne.below bb
    replace bw := below_on bw bb bw.size
    clear bb
    have tk := bk
    obtain ⟨k0, k1, k2, kf0, kf1, kf2, klt, kb⟩ := tk
    clear kb
    go_wp2_with fail
    refine bodyPost_ret (v := .tuple #[(Fx.nil : Fx).val, .int .i64 1]) (by simp [results, Try.results110, go_sem, k0, k1, k2]) rfl ?_
    rw [← HS.out, roundF, if_neg HV.out]
    exact ⟨Fx.nil, rfl, ⟨rfl, rfl, rfl⟩, Fx.nil_ok _, set3g bw (by omega)⟩
set_option maxRecDepth 100000 in
set_option maxHeartbeats 1600000 in
theorem ffloor_any (w : World) (x : Fx) (k : Int) (S : Bool × List Nat × List Nat × Int) (hx : x.ok w) (l1 : x.xs.length ≤ 10000) (l2 : x.ys.length ≤ 10000) (hs : roundF x k false = S) : Calls Try.prog 86 #[x.val, .int .i64 k] w (FracRes w S) := by
  go_enter Try.func86, Try.ntmps86
  go_wp2_with fail
  have hs1 : w.heap.size < (w.alloc (.cells x.cells 25)).heap.size := by simp
  have b0 := (Below.refl w.heap.size w).alloc (Nat.le_refl _) (.cells x.cells 25)
  have b1 := (Below.refl (w.alloc (.cells x.cells 25)).heap.size (w.alloc (.cells x.cells 25))).alloc (Nat.le_refl _) (.cells #[.bool false, .slice none 0 0, .slice none 0 0] 25)
  have bx := (bk3_alloc w (.bool x.b) (.slice x.A x.xs.length x.c) (.slice x.D x.ys.length x.d)).below b1
  have bk := bk3_new (w.alloc (.cells x.cells 25))
  rw [size_box] at bk
  have okx := (hx.below b0).below b1
  have bw := below_on b0 b1 (Nat.le_of_lt hs1)
  clear hs1 b0 b1
  revert bx bk okx bw
  generalize ((w.alloc (.cells x.cells 25)).alloc (.cells #[.bool false, .slice none 0 0, .slice none 0 0] 25)) = w1
  intro bx bk okx bw
  have tx := bx
  obtain ⟨x0, x1, x2, xf0, xf1, xf2, xlt, xb⟩ := tx
  clear xb
  go_wp2_with fail
  clear x0 x1 x2 xf0 xf1 xf2 xlt
  refine (fround_any w1 x k false S okx l1 l2 hs).mono ?_
  rintro e wn ⟨x1, rfl, hs1, ok1, bb⟩
  have HS1 := Lib.hid hs1
  clear hs1
  try replace bx := bx.below bb
  try replace by_ := by_.below bb
  try replace bk := bk.below bb
  try replace okx := okx.below bb
  try replace oky := oky.below bb
  try replace ok1 := ok1.below bb
  try replace na := na.below bb
  try replace nb := nb.below bb
  try replace nc := nc.below bb
  try replace nd := nd.below bb
  try replace ne := ne.below bb
  replace bw := below_on bw bb bw.size
  clear bb
  have tk := bk
  obtain ⟨k0, k1, k2, kf0, kf1, kf2, klt, kb⟩ := tk
  clear kb
  go_wp2_with fail
  refine bodyPost_ret (v := .tuple #[(x1 : Fx).val, .int .i64 S.2.2.2]) (by simp [results, Try.results86, go_sem, k0, k1, k2]) rfl ?_
  exact ⟨x1, rfl, HS1.out, set3_ok ok1 bk rfl rfl rfl, set3g bw (by omega)⟩
set_option maxRecDepth 100000 in
set_option maxHeartbeats 1600000 in
theorem fceil_any (w : World) (x : Fx) (k : Int) (S : Bool × List Nat × List Nat × Int) (hx : x.ok w) (l1 : x.xs.length ≤ 10000) (l2 : x.ys.length ≤ 10000) (hs : roundF x k true = S) : Calls Try.prog 87 #[x.val, .int .i64 k] w (FracRes w S) := by
  go_enter Try.func87, Try.ntmps87
  go_wp2_with fail
  have hs1 : w.heap.size < (w.alloc (.cells x.cells 25)).heap.size := by simp
  have b0 := (Below.refl w.heap.size w).alloc (Nat.le_refl _) (.cells x.cells 25)
  have b1 := (Below.refl (w.alloc (.cells x.cells 25)).heap.size (w.alloc (.cells x.cells 25))).alloc (Nat.le_refl _) (.cells #[.bool false, .slice none 0 0, .slice none 0 0] 25)
  have bx := (bk3_alloc w (.bool x.b) (.slice x.A x.xs.length x.c) (.slice x.D x.ys.length x.d)).below b1
  have bk := bk3_new (w.alloc (.cells x.cells 25))
  rw [size_box] at bk
  have okx := (hx.below b0).below b1
  have bw := below_on b0 b1 (Nat.le_of_lt hs1)
  clear hs1 b0 b1
  revert bx bk okx bw
  generalize ((w.alloc (.cells x.cells 25)).alloc (.cells #[.bool false, .slice none 0 0, .slice none 0 0] 25)) = w1
  intro bx bk okx bw
  have tx := bx
  obtain ⟨x0, x1, x2, xf0, xf1, xf2, xlt, xb⟩ := tx
  clear xb
  go_wp2_with fail
  clear x0 x1 x2 xf0 xf1 xf2 xlt
  refine (fround_any w1 x k true S okx l1 l2 hs).mono ?_
  rintro e wn ⟨x1, rfl, hs1, ok1, bb⟩
  have HS1 := Lib.hid hs1
  clear hs1
  try replace bx := bx.below bb
  try replace by_ := by_.below bb
  try replace bk := bk.below bb
  try replace okx := okx.below bb
  try replace oky := oky.below bb
  try replace ok1 := ok1.below bb
  try replace na := na.below bb
  try replace nb := nb.below bb
  try replace nc := nc.below bb
  try replace nd := nd.below bb
  try replace ne := ne.below bb
  replace bw := below_on bw bb bw.size
  clear bb
  have tk := bk
  obtain ⟨k0, k1, k2, kf0, kf1, kf2, klt, kb⟩ := tk
  clear kb
  go_wp2_with fail
  refine bodyPost_ret (v := .tuple #[(x1 : Fx).val, .int .i64 S.2.2.2]) (by simp [results, Try.results87, go_sem, k0, k1, k2]) rfl ?_
  exact ⟨x1, rfl, HS1.out, set3_ok ok1 bk rfl rfl rfl, set3g bw (by omega)⟩
end Go.Proofs.Ytlcolmifmhdboaa
