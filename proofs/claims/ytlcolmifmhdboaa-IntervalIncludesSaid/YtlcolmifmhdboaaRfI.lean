/- The walks of drydockref02: Floor, Ceil, Power. -/
import Derived.Test.YtlcolmifmhdboaaRfH
import Derived.Test.YtlcolmifmhdboaaLwB
namespace Go.Proofs.Ytlcolmifmhdboaa
open Go.RowKit

set_option maxRecDepth 100000 in
theorem rndN_len {b up : Bool} {N d j : Nat} (h : (lim N).length ≤ j) (h2 : 2 ≤ j) : (lim (rndN b up N d)).length ≤ j + 1 := by
  have lQ := lim_length_mono (Nat.div_le_self N d)
  have lQ1 := len_addf (m := N / d) (n := 1) (k := j) (by omega) (by have := lim_len2 (m := 1) (by omega); omega)
  unfold rndN
  split
  · exact lQ1
  · omega
set_option maxRecDepth 100000 in
set_option maxHeartbeats 4000000 in
theorem rffloor_any (w : World) (x : Fx) (k : Int) (S : Bool × List Nat × List Nat × Int) (hx : x.ok w) (l1 : x.xs.length ≤ 10000) (l2 : x.ys.length ≤ 10000) (hs : roundF x k false = S) : Calls Try.prog 88 #[x.val, .int .i64 k] w (FracRes w S) := by
  have HS := Lib.hid hs
  clear hs
  by_cases hv : x.v
  · have HV := Lib.hid hv
    by_cases hk : k < 0 ∨ 256 < k
    · have HS' : Hid (errF 5 = S) := Lib.hid (by rw [← HS.out, roundF, if_pos hv, if_pos hk])
      by_cases hk0 : k < 0
      · have hd0 : decide (k < 0) = true := decide_eq_true hk0
        clear hv hk0 hk
        go_enter Try.func88, Try.ntmps88
        go_wp2_with fail
        have hs1 : w.heap.size < (w.alloc (.cells x.cells 25)).heap.size := by simp
        have b0 := (Below.refl w.heap.size w).alloc (Nat.le_refl _) (.cells x.cells 25)
        have b1 := (Below.refl (w.alloc (.cells x.cells 25)).heap.size (w.alloc (.cells x.cells 25))).alloc (Nat.le_refl _) (.cells #[.bool false, .slice none 0 0, .slice none 0 0] 25)
        have bx := (bk3_alloc w (.bool x.b) (.slice x.A x.xs.length x.c) (.slice x.D x.ys.length x.d)).below b1
        have bk := bk3_new (w.alloc (.cells x.cells 25))
        rw [size_box] at bk
        have okx := (hx.below b0).below b1
        have bw := below_on b0 b1 (Nat.le_of_lt hs1)
        clear hs1 b0 b1
        revert bx bk okx bw
        generalize ((w.alloc (.cells x.cells 25)).alloc (.cells #[.bool false, .slice none 0 0, .slice none 0 0] 25)) = w1
        intro bx bk okx bw
        refine (rfvalid_any w1 x true okx l1 l2 (decide_eq_true HV.out)).mono ?_
        rintro e wn ⟨rfl, bb⟩
        try replace bx := bx.below bb
        try replace by_ := by_.below bb
        try replace bk := bk.below bb
        try replace okx := okx.below bb
        try replace oky := oky.below bb
        try replace ok1 := ok1.below bb
        try replace na := na.below bb
        try replace nb := nb.below bb
        try replace nc := nc.below bb
        try replace nd := nd.below bb
        try replace ne := ne.below bb
        replace bw := below_on bw bb bw.size
        clear bb
        have tk := bk
        obtain ⟨k0, k1, k2, kf0, kf1, kf2, klt, kb⟩ := tk
        clear kb
        go_wp2_with fail
        refine bodyPost_ret (v := .tuple #[(Fx.nil : Fx).val, .int .i64 5]) (by simp [results, Try.results88, go_sem, k0, k1, k2]) rfl ?_
        rw [← HS'.out]
        exact ⟨Fx.nil, rfl, ⟨rfl, rfl, rfl⟩, Fx.nil_ok _, set3g bw (by omega)⟩
      · have hd0 : decide (k < 0) = false := decide_eq_false hk0
        have hd1 : decide (256 < k) = true := decide_eq_true (by omega)
        clear hv hk0 hk
        go_enter Try.func88, Try.ntmps88
        go_wp2_with fail
        have hs1 : w.heap.size < (w.alloc (.cells x.cells 25)).heap.size := by simp
        have b0 := (Below.refl w.heap.size w).alloc (Nat.le_refl _) (.cells x.cells 25)
        have b1 := (Below.refl (w.alloc (.cells x.cells 25)).heap.size (w.alloc (.cells x.cells 25))).alloc (Nat.le_refl _) (.cells #[.bool false, .slice none 0 0, .slice none 0 0] 25)
        have bx := (bk3_alloc w (.bool x.b) (.slice x.A x.xs.length x.c) (.slice x.D x.ys.length x.d)).below b1
        have bk := bk3_new (w.alloc (.cells x.cells 25))
        rw [size_box] at bk
        have okx := (hx.below b0).below b1
        have bw := below_on b0 b1 (Nat.le_of_lt hs1)
        clear hs1 b0 b1
        revert bx bk okx bw
        generalize ((w.alloc (.cells x.cells 25)).alloc (.cells #[.bool false, .slice none 0 0, .slice none 0 0] 25)) = w1
        intro bx bk okx bw
        refine (rfvalid_any w1 x true okx l1 l2 (decide_eq_true HV.out)).mono ?_
        rintro e wn ⟨rfl, bb⟩
        try replace bx := bx.below bb
        try replace by_ := by_.below bb
        try replace bk := bk.below bb
        try replace okx := okx.below bb
        try replace oky := oky.below bb
        try replace ok1 := ok1.below bb
        try replace na := na.below bb
        try replace nb := nb.below bb
        try replace nc := nc.below bb
        try replace nd := nd.below bb
        try replace ne := ne.below bb
        replace bw := below_on bw bb bw.size
        clear bb
        have tk := bk
        obtain ⟨k0, k1, k2, kf0, kf1, kf2, klt, kb⟩ := tk
        clear kb
        go_wp2_with fail
        refine bodyPost_ret (v := .tuple #[(Fx.nil : Fx).val, .int .i64 5]) (by simp [results, Try.results88, go_sem, k0, k1, k2]) rfl ?_
        rw [← HS'.out]
        exact ⟨Fx.nil, rfl, ⟨rfl, rfl, rfl⟩, Fx.nil_ok _, set3g bw (by omega)⟩
    · have hd0 : decide (k < 0) = false := decide_eq_false (by omega)
      have hd1 : decide (256 < k) = false := decide_eq_false (by omega)
      have hk2 : 0 ≤ k := by omega
      have hk3 : k ≤ 256 := by omega
      have lp := lim_pow9 (k := k.toNat) (by omega)
      have lN := len_mulf hv.2.2 lp
      have HSS := Lib.hid ((roundF_ok (up := false) hv hk2 hk3).symm.trans HS.out)
      have lR := Lib.hid (rndN_len (b := x.b) (up := false) (d := nv x.ys) lN (by omega))
      have hP0 : 2 ^ k.toNat ≠ 0 := Nat.pos_iff_ne_zero.1 (Nat.pow_pos (by omega))
      have HP : Hid (2 ^ k.toNat ≠ 0) := hP0
      have LP := Lib.hid lp
      clear hv hk lN lp hP0
      go_enter Try.func88, Try.ntmps88
      go_wp2_with fail
      have hs1 : w.heap.size < (w.alloc (.cells x.cells 25)).heap.size := by simp
      have b0 := (Below.refl w.heap.size w).alloc (Nat.le_refl _) (.cells x.cells 25)
      have b1 := (Below.refl (w.alloc (.cells x.cells 25)).heap.size (w.alloc (.cells x.cells 25))).alloc (Nat.le_refl _) (.cells #[.bool false, .slice none 0 0, .slice none 0 0] 25)
      have bx := (bk3_alloc w (.bool x.b) (.slice x.A x.xs.length x.c) (.slice x.D x.ys.length x.d)).below b1
      have bk := bk3_new (w.alloc (.cells x.cells 25))
      rw [size_box] at bk
      have okx := (hx.below b0).below b1
      have bw := below_on b0 b1 (Nat.le_of_lt hs1)
      clear hs1 b0 b1
      revert bx bk okx bw
      generalize ((w.alloc (.cells x.cells 25)).alloc (.cells #[.bool false, .slice none 0 0, .slice none 0 0] 25)) = w1
      intro bx bk okx bw
      refine (rfvalid_any w1 x true okx l1 l2 (decide_eq_true HV.out)).mono ?_
      rintro e wn ⟨rfl, bb⟩
      try replace bx := bx.below bb
      try replace by_ := by_.below bb
      try replace bk := bk.below bb
      try replace okx := okx.below bb
      try replace oky := oky.below bb
      try replace ok1 := ok1.below bb
      try replace na := na.below bb
      try replace nb := nb.below bb
      try replace nc := nc.below bb
      try replace nd := nd.below bb
      try replace ne := ne.below bb
      replace bw := below_on bw bb bw.size
      clear bb
      have tx := bx
      obtain ⟨x0, x1, x2, xf0, xf1, xf2, xlt, xb⟩ := tx
      clear xb
      go_wp2_with fail
      clear x0 x1 x2 xf0 xf1 xf2 xlt
      refine (rffloor0_any _ x k okx HV.out hk2 hk3 l1 l2).mono ?_
      rintro e wn ⟨y0, rfl, hs0, ok0, bb⟩
      have HF0 := Lib.hid (low_fits hs0 HP.out (by have := lR.out; omega) (by have := LP.out; omega))
      clear hs0
      try replace bx := bx.below bb
      try replace by_ := by_.below bb
      try replace bk := bk.below bb
      try replace okx := okx.below bb
      try replace oky := oky.below bb
      try replace ok1 := ok1.below bb
      try replace na := na.below bb
      try replace nb := nb.below bb
      try replace nc := nc.below bb
      try replace nd := nd.below bb
      try replace ne := ne.below bb
      replace bw := below_on bw bb bw.size
      clear bb
      replace ok0 := ok0
      go_wp2_with fail
      refine (rffits_any _ y0 _ ok0 HF0.out.2.1 HF0.out.2.2 HF0.out.1).mono ?_
      rintro e wn ⟨x1, rfl, hs1, ok1, bb⟩
      have HS1 := Lib.hid hs1
      clear hs1
      try replace bx := bx.below bb
      try replace by_ := by_.below bb
      try replace bk := bk.below bb
      try replace okx := okx.below bb
      try replace oky := oky.below bb
      try replace ok1 := ok1.below bb
      try replace na := na.below bb
      try replace nb := nb.below bb
      try replace nc := nc.below bb
      try replace nd := nd.below bb
      try replace ne := ne.below bb
      replace bw := below_on bw bb bw.size
      clear bb
      have tk := bk
      obtain ⟨k0, k1, k2, kf0, kf1, kf2, klt, kb⟩ := tk
      clear kb
      go_wp2_with fail
      refine bodyPost_ret (v := .tuple #[(x1 : Fx).val, .int .i64 (frS (qv x.b (rndN x.b false (nv x.xs * 2 ^ k.toNat) (nv x.ys)) (2 ^ k.toNat))).2.2.2]) (by simp [results, Try.results88, go_sem, k0, k1, k2]) rfl ?_
      rw [← HSS.out]
      exact ⟨x1, rfl, HS1.out, set3_ok ok1 bk rfl rfl rfl, set3g bw (by omega)⟩
  · have HV : Hid (¬ x.v) := hv
    clear hv
    go_enter Try.func88, Try.ntmps88
    go_wp2_with fail
    have hs1 : w.heap.size < (w.alloc (.cells x.cells 25)).heap.size := by simp
    have b0 := (Below.refl w.heap.size w).alloc (Nat.le_refl _) (.cells x.cells 25)
    have b1 := (Below.refl (w.alloc (.cells x.cells 25)).heap.size (w.alloc (.cells x.cells 25))).alloc (Nat.le_refl _) (.cells #[.bool false, .slice none 0 0, .slice none 0 0] 25)
    have bx := (bk3_alloc w (.bool x.b) (.slice x.A x.xs.length x.c) (.slice x.D x.ys.length x.d)).below b1
    have bk := bk3_new (w.alloc (.cells x.cells 25))
    rw [size_box] at bk
    have okx := (hx.below b0).below b1
    have bw := below_on b0 b1 (Nat.le_of_lt hs1)
    clear hs1 b0 b1
    revert bx bk okx bw
    generalize ((w.alloc (.cells x.cells 25)).alloc (.cells #[.bool false, .slice none 0 0, .slice none 0 0] 25)) = w1
    intro bx bk okx bw
    refine (rfvalid_any w1 x false okx l1 l2 (decide_eq_false HV.out)).mono ?_
    rintro e wn ⟨rfl, bb⟩
    try replace bx := bx.below bb
    try replace by_ := by_.below bb
    try replace bk := bk.below bb
    try replace okx := okx.below bb
    try replace oky := oky.below bb
    try replace ok1 := ok1.below bb
    try replace na := na.below bb
    try replace nb := nb.below bb
    try replace nc := nc.below bb
    try replace nd := nd.below bb
    try replace ne := ne.below bb
    replace bw := below_on bw bb bw.size
    clear bb
    have tk := bk
    obtain ⟨k0, k1, k2, kf0, kf1, kf2, klt, kb⟩ := tk
    clear kb
    go_wp2_with fail
    refine bodyPost_ret (v := .tuple #[(Fx.nil : Fx).val, .int .i64 1]) (by simp [results, Try.results88, go_sem, k0, k1, k2]) rfl ?_
    rw [← HS.out, roundF, if_neg HV.out]
    exact ⟨Fx.nil, rfl, ⟨rfl, rfl, rfl⟩, Fx.nil_ok _, set3g bw (by omega)⟩
set_option maxRecDepth 100000 in
theorem Rp.opp {y : Fx} {r : Rat} (h : Rp y r) : Rp (oppF y) (-r) := by
  have hz : nv y.xs = 0 ↔ r.num = 0 := by rw [h.n, nv_lim, Int.natAbs_eq_zero]
  refine ⟨?_, ?_, ?_⟩
  · show (if nv y.xs = 0 then y.b else !y.b) = _
    rw [h.b, Rat.neg_num]
    by_cases h0 : r.num = 0
    · rw [if_pos (hz.2 h0), h0]; rfl
    · rw [if_neg (fun e => h0 (hz.1 e)), ← decide_not]
      exact decide_eq_decide.2 (by omega)
  · show y.xs = _
    rw [h.n, Rat.neg_num, Int.natAbs_neg]
  · show y.ys = _
    rw [h.d, Rat.neg_den]
set_option maxRecDepth 100000 in
theorem bigQ_neg {r : Rat} : bigQ (-r) ↔ bigQ r := by rw [bigQ, bigQ, Rat.neg_num, Rat.neg_den, Int.natAbs_neg]
set_option maxRecDepth 100000 in
theorem oppF_v (x : Fx) : (oppF x).v ↔ x.v := Iff.rfl
set_option maxRecDepth 100000 in
theorem round_opp (x : Fx) (k : Int) : ((roundF (oppF x) k false).2.2.2 ≠ 0 ∧ roundF x k true = errF (roundF (oppF x) k false).2.2.2) ∨ ∃ r, roundF (oppF x) k false = okS r ∧ roundF x k true = okS (-r) ∧ Sz r 128 128 := by
  by_cases hv : x.v
  · by_cases hk : k < 0 ∨ 256 < k
    · refine .inl ?_
      rw [roundF, if_pos ((oppF_v x).2 hv), if_pos hk, roundF, if_pos hv, if_pos hk]
      exact ⟨by decide, rfl⟩
    · have e : mkRat (rndZ true x.q k.toNat) (2 ^ k.toNat) = - mkRat (rndZ false (oppF x).q k.toNat) (2 ^ k.toNat) := by
        rw [oppF_q, Rat.neg_mkRat]
        congr 1
        rw [rndZ, rndZ, if_pos rfl, if_neg (by decide), Rat.ceil_eq_neg_floor_neg, Rat.neg_mul]
      rw [roundF, if_pos ((oppF_v x).2 hv), if_neg hk, roundF, if_pos hv, if_neg hk, e]
      generalize mkRat (rndZ false (oppF x).q k.toNat) (2 ^ k.toNat) = r
      by_cases hb : bigQ r
      · rw [frS, if_pos hb, frS, if_pos (bigQ_neg.2 hb)]
        exact .inl ⟨by decide, rfl⟩
      · rw [frS, if_neg hb, frS, if_neg (fun h => hb (bigQ_neg.1 h))]
        refine .inr ⟨r, rfl, rfl, ?_⟩
        rw [bigQ] at hb
        constructor <;> omega
  · refine .inl ?_
    rw [roundF, if_neg (fun h => hv ((oppF_v x).1 h)), roundF, if_neg hv]
    exact ⟨by decide, rfl⟩
set_option maxRecDepth 100000 in
set_option maxHeartbeats 4000000 in
theorem rfceil_any (w : World) (x : Fx) (k : Int) (S : Bool × List Nat × List Nat × Int) (hx : x.ok w) (l1 : x.xs.length ≤ 10000) (l2 : x.ys.length ≤ 10000) (hs : roundF x k true = S) : Calls Try.prog 89 #[x.val, .int .i64 k] w (FracRes w S) := by
  rcases round_opp x k with ⟨h1, h2⟩ | ⟨r, h1, h2⟩
  · have HS : Hid (S = errF (roundF (oppF x) k false).2.2.2) := Lib.hid (hs.symm.trans h2)
    obtain ⟨S', hS'⟩ : ∃ S', roundF (oppF x) k false = S' := ⟨_, rfl⟩
    rw [hS'] at h1 HS
    have HR := Lib.hid hS'
    have hne : (S'.2.2.2 == 0) = false := beq_eq_false_iff_ne.2 h1
    have hne2 : (S'.2.2.2 != 0) = true := bne_iff_ne.2 h1
    clear hs h1 h2 hS'
    go_enter Try.func89, Try.ntmps89
    go_wp2_with fail
    have hs1 : w.heap.size < (w.alloc (.cells x.cells 25)).heap.size := by simp
    have b0 := (Below.refl w.heap.size w).alloc (Nat.le_refl _) (.cells x.cells 25)
    have b1 := (Below.refl (w.alloc (.cells x.cells 25)).heap.size (w.alloc (.cells x.cells 25))).alloc (Nat.le_refl _) (.cells #[.bool false, .slice none 0 0, .slice none 0 0] 25)
    have bx := (bk3_alloc w (.bool x.b) (.slice x.A x.xs.length x.c) (.slice x.D x.ys.length x.d)).below b1
    have bk := bk3_new (w.alloc (.cells x.cells 25))
    rw [size_box] at bk
    have okx := (hx.below b0).below b1
    have bw := below_on b0 b1 (Nat.le_of_lt hs1)
    clear hs1 b0 b1
    revert bx bk okx bw
    generalize ((w.alloc (.cells x.cells 25)).alloc (.cells #[.bool false, .slice none 0 0, .slice none 0 0] 25)) = w1
    intro bx bk okx bw
    have tx := bx
    obtain ⟨x0, x1, x2, xf0, xf1, xf2, xlt, xb⟩ := tx
    clear xb
    go_wp2_with fail
    clear x0 x1 x2 xf0 xf1 xf2 xlt
    refine (rfopposite_any w1 x _ okx l1 rfl).mono ?_
    rintro e wn ⟨rfl, bb⟩
    try replace bx := bx.below bb
    try replace by_ := by_.below bb
    try replace bk := bk.below bb
    try replace okx := okx.below bb
    try replace oky := oky.below bb
    try replace ok1 := ok1.below bb
    try replace na := na.below bb
    try replace nb := nb.below bb
    try replace nc := nc.below bb
    try replace nd := nd.below bb
    try replace ne := ne.below bb
    replace bw := below_on bw bb bw.size
    clear bb
    go_wp2_with fail
    refine (rffloor_any wn (oppF x) k _ ⟨okx.num, okx.den⟩ l1 l2 HR.out).mono ?_
    rintro e wn ⟨y1, rfl, hs1, ok1, bb⟩
    have HS1 := Lib.hid hs1
    clear hs1
    try replace bx := bx.below bb
    try replace by_ := by_.below bb
    try replace bk := bk.below bb
    try replace okx := okx.below bb
    try replace oky := oky.below bb
    try replace ok1 := ok1.below bb
    try replace na := na.below bb
    try replace nb := nb.below bb
    try replace nc := nc.below bb
    try replace nd := nd.below bb
    try replace ne := ne.below bb
    replace bw := below_on bw bb bw.size
    clear bb
    go_upto_region 2 with fail
    have a1 := (fa_alloc ok1).1
    have bb := (fa_alloc ok1).2
    clear ok1 bx
    generalize (wn.alloc (.cells #[.bool y1.b, .slice y1.A y1.xs.length y1.c, .slice y1.D y1.ys.length y1.d] 25)) = wm at a1 bb ⊢
    replace bk := bk.below bb
    replace bw := below_on bw bb bw.size
    clear bb
    generalize wn.heap.size = g1 at a1 ⊢
    have tk := bk
    obtain ⟨k0, k1, k2, kf0, kf1, kf2, klt, kb⟩ := tk
    clear kb
    go_wp2_with fail
    refine bodyPost_ret (v := .tuple #[(Fx.nil : Fx).val, .int .i64 S'.2.2.2]) (by simp [results, Try.results89, go_sem, k0, k1, k2]) rfl ?_
    rw [HS.out]
    exact ⟨Fx.nil, rfl, ⟨rfl, rfl, rfl⟩, Fx.nil_ok _, set3g bw (by omega)⟩
  · have HS : Hid (S = okS (-r)) := Lib.hid (hs.symm.trans h2.1)
    have HR := Lib.hid h1
    have HZ := Lib.hid h2.2
    have e0 : (okS r).2.2.2 = 0 := rfl
    clear hs h1 h2
    go_enter Try.func89, Try.ntmps89
    go_wp2_with fail
    have hs1 : w.heap.size < (w.alloc (.cells x.cells 25)).heap.size := by simp
    have b0 := (Below.refl w.heap.size w).alloc (Nat.le_refl _) (.cells x.cells 25)
    have b1 := (Below.refl (w.alloc (.cells x.cells 25)).heap.size (w.alloc (.cells x.cells 25))).alloc (Nat.le_refl _) (.cells #[.bool false, .slice none 0 0, .slice none 0 0] 25)
    have bx := (bk3_alloc w (.bool x.b) (.slice x.A x.xs.length x.c) (.slice x.D x.ys.length x.d)).below b1
    have bk := bk3_new (w.alloc (.cells x.cells 25))
    rw [size_box] at bk
    have okx := (hx.below b0).below b1
    have bw := below_on b0 b1 (Nat.le_of_lt hs1)
    clear hs1 b0 b1
    revert bx bk okx bw
    generalize ((w.alloc (.cells x.cells 25)).alloc (.cells #[.bool false, .slice none 0 0, .slice none 0 0] 25)) = w1
    intro bx bk okx bw
    have tx := bx
    obtain ⟨x0, x1, x2, xf0, xf1, xf2, xlt, xb⟩ := tx
    clear xb
    go_wp2_with fail
    clear x0 x1 x2 xf0 xf1 xf2 xlt
    refine (rfopposite_any w1 x _ okx l1 rfl).mono ?_
    rintro e wn ⟨rfl, bb⟩
    try replace bx := bx.below bb
    try replace by_ := by_.below bb
    try replace bk := bk.below bb
    try replace okx := okx.below bb
    try replace oky := oky.below bb
    try replace ok1 := ok1.below bb
    try replace na := na.below bb
    try replace nb := nb.below bb
    try replace nc := nc.below bb
    try replace nd := nd.below bb
    try replace ne := ne.below bb
    replace bw := below_on bw bb bw.size
    clear bb
    go_wp2_with fail
    refine (rffloor_any wn (oppF x) k _ ⟨okx.num, okx.den⟩ l1 l2 HR.out).mono ?_
    rintro e wn ⟨y1, rfl, hs1, ok1, bb⟩
    have HS1 := Lib.hid hs1
    clear hs1
    try replace bx := bx.below bb
    try replace by_ := by_.below bb
    try replace bk := bk.below bb
    try replace okx := okx.below bb
    try replace oky := oky.below bb
    try replace ok1 := ok1.below bb
    try replace na := na.below bb
    try replace nb := nb.below bb
    try replace nc := nc.below bb
    try replace nd := nd.below bb
    try replace ne := ne.below bb
    replace bw := below_on bw bb bw.size
    clear bb
    go_upto_region 2 with fail
    have a1 := (fa_alloc ok1).1
    have bb := (fa_alloc ok1).2
    clear ok1 bx
    generalize (wn.alloc (.cells #[.bool y1.b, .slice y1.A y1.xs.length y1.c, .slice y1.D y1.ys.length y1.d] 25)) = wm at a1 bb ⊢
    replace bk := bk.below bb
    replace bw := below_on bw bb bw.size
    clear bb
    generalize wn.heap.size = g1 at a1 ⊢
    have R1 := Rp.of HS1.out
    have l1 := R1.l1 HZ.out
    have c0 := a1.c0
    have c1 := a1.c1
    have c2 := a1.c2
    go_wp2_with fail
    clear c0 c1 c2
    obtain ⟨y2, hy2⟩ : ∃ y2, oppF y1 = y2 := ⟨_, rfl⟩
    have R2 := R1.opp
    rw [hy2] at R2
    have OK2 : ∀ w', y1.ok w' → y2.ok w' := by intro w' h; rw [← hy2]; exact ⟨h.num, h.den⟩
    have HY2 := Lib.hid hy2
    clear hy2
    refine (rfopposite_any _ y1 y2 a1.ok l1 HY2.out).mono ?_
    rintro e wn ⟨rfl, bb⟩
    replace bk := bk.below bb
    replace a1 := a1.below bb
    replace bw := below_on bw bb bw.size
    clear bb
    have tk := bk
    obtain ⟨k0, k1, k2, kf0, kf1, kf2, klt, kb⟩ := tk
    clear kb
    go_wp2_with fail
    refine bodyPost_ret (v := .tuple #[(y2 : Fx).val, .int .i64 0]) (by simp [results, Try.results89, go_sem, k0, k1, k2]) rfl ?_
    rw [HS.out]
    exact ⟨y2, rfl, ⟨R2.b, R2.n, R2.d⟩, set3_ok (OK2 _ a1.ok) bk rfl rfl rfl, set3g bw (by omega)⟩
set_option maxRecDepth 100000 in
set_option maxHeartbeats 4000000 in
theorem rfpower_any (w : World) (k : Int) (L : List Nat) (hk2 : 0 ≤ k) (hk3 : k ≤ 256) (hL : lim (2 ^ k.toNat) = L) : Calls Try.prog 52 #[.int .i64 k] w (FracNew w (false, [1], L)) := by
  have hsh : shiftS (nv [1]) k = (L, 0) := by
    rw [nv_1, shiftS_f (lim_len2 (by omega)) (by omega) hk2 hk3, Nat.one_mul, hL]
  have HSH := Lib.hid hsh
  clear hL
  clear hsh
  go_enter Try.func52, Try.ntmps52
  go_upto_region 1 with fail
  have bw := (Below.refl w.heap.size w).alloc (Nat.le_refl _) (.cells #[.bool false, .slice none 0 0, .slice none 0 0] 25)
  have bk := bk3_new w
  generalize (w.alloc (.cells #[.bool false, .slice none 0 0, .slice none 0 0] 25)) = wn at bw bk ⊢
  go_wp2_with fail
  obtain ⟨no, bb⟩ := lit_1 wn
  generalize (wn.alloc (.cells #[.int .u32 1] 26)) = w2 at no bb ⊢
  try replace bx := bx.below bb
  try replace by_ := by_.below bb
  try replace bk := bk.below bb
  try replace okx := okx.below bb
  try replace oky := oky.below bb
  try replace na := na.below bb
  try replace nb := nb.below bb
  try replace nc := nc.below bb
  try replace nd := nd.below bb
  try replace ne := ne.below bb
  replace bw := below_on bw bb bw.size
  clear bb
  generalize wn.heap.size = gl at no ⊢
  refine (rshift_any w2 (some ⟨gl, 0, none⟩) 1 1 k [1] L 0 no rfl (by simp) HSH.out).mono ?_
  rintro e wn ⟨AP, cP, rfl, np, bb⟩
  try replace bx := bx.below bb
  try replace by_ := by_.below bb
  try replace bk := bk.below bb
  try replace okx := okx.below bb
  try replace oky := oky.below bb
  try replace na := na.below bb
  try replace nb := nb.below bb
  try replace nc := nc.below bb
  try replace nd := nd.below bb
  try replace ne := ne.below bb
  replace bw := below_on bw bb bw.size
  clear bb
  clear HSH no
  go_upto_region 2 with fail
  obtain ⟨no, bb⟩ := lit_1 wn
  have bk2 := bk.below bb
  have np2 := np.below bb
  have bw2 := below_on bw bb bw.size
  have tk := bk
  obtain ⟨k0, k1, k2, kf0, kf1, kf2, klt, kb⟩ := tk
  clear kb
  go_wp2_with fail
  refine bodyPost_ret (v := (⟨false, some ⟨wn.heap.size, 0, none⟩, 1, [1], AP, cP, L⟩ : Fx).val) (by simp [results, Try.results52, go_sem, k0, k1, k2, klt]) rfl ?_
  have e : ((((wn.setCell ⟨w.heap.size, 0, none⟩ (.bool false)).setCell ⟨w.heap.size, 1, none⟩ (.slice (some ⟨wn.heap.size, 0, none⟩) 1 1)).setCell ⟨w.heap.size, 2, none⟩ (.slice AP L.length cP)).alloc (.cells #[.int .u32 1] 26)) =
      ((((wn.alloc (.cells #[.int .u32 1] 26)).setCell ⟨w.heap.size, 0, none⟩ (.bool false)).setCell ⟨w.heap.size, 1, none⟩ (.slice (some ⟨wn.heap.size, 0, none⟩) 1 1)).setCell ⟨w.heap.size, 2, none⟩ (.slice AP L.length cP)) := by
    simp [go_sem, klt]
  rw [e]
  exact ⟨⟨false, some ⟨wn.heap.size, 0, none⟩, 1, [1], AP, cP, L⟩, rfl, ⟨rfl, rfl, rfl⟩, set3_ok (x := ⟨false, some ⟨wn.heap.size, 0, none⟩, 1, [1], AP, cP, L⟩) ⟨no, np2⟩ bk2 rfl rfl rfl, set3g bw2 (Nat.le_refl _)⟩
end Go.Proofs.Ytlcolmifmhdboaa
