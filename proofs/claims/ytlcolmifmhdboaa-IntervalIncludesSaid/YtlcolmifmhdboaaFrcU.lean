/- The walk of fraction.Format. Fractions in lowest terms and the rational numbers that they show; how long they are. No program in sight. -/
import Derived.Test.YtlcolmifmhdboaaFrB
import Derived.Test.YtlcolmifmhdboaaNatF
namespace Go.Proofs.Ytlcolmifmhdboaa
open Go.RowKit

/-- the text of a rational number -/
def txtQ (q : Rat) : ByteArray :=
  if 1 < q.den then (if q.num < 0 then (⟨#[45]⟩ : ByteArray) ++ bstr (decT q.num.natAbs) else bstr (decT q.num.natAbs)) ++ ((⟨#[47]⟩ : ByteArray) ++ bstr (decT q.den))
  else if q.num < 0 then (⟨#[45]⟩ : ByteArray) ++ bstr (decT q.num.natAbs) else bstr (decT q.num.natAbs)
def fmtF (x : Fx) : ByteArray × Int := if x.v then (txtQ x.q, 0) else (bstr [], 1)
set_option maxRecDepth 100000 in
theorem decT_len {n k : Nat} (h : n < 10 ^ k) (hk : 0 < k) : (decT n).length ≤ k := by
  unfold decT
  split
  · simp; omega
  · simpa using (decR_lt n k).2 h
set_option maxRecDepth 100000 in
theorem lim_dec {n m : Nat} (h : (lim n).length ≤ m) : n < 10 ^ (10 * m) := by
  rw [lim_length_le] at h
  refine Nat.lt_of_lt_of_le h ?_
  rw [Nat.pow_mul]
  exact Nat.pow_le_pow_left (by omega) m
set_option maxRecDepth 100000 in
theorem bstr_size (l : List Nat) : (bstr l).size = l.length := by simp [bstr, ByteArray.size]
set_option maxRecDepth 100000 in
theorem fmtS_ok {n : Nat} (h : (lim n).length ≤ 128) : fmtS n = (bstr (decT n), 0) := by rw [fmtS, if_neg (by omega)]
set_option maxRecDepth 100000 in
theorem dec_sizes {n m : Nat} (h : (lim n).length ≤ m) (hm : 0 < m) : (bstr (decT n)).size ≤ 10 * m := by
  rw [bstr_size]; exact decT_len (lim_dec h) (by omega)
set_option maxRecDepth 100000 in
theorem dec_size {n : Nat} (h : (lim n).length ≤ 128) : (bstr (decT n)).size ≤ 1280 := dec_sizes h (by omega)
set_option maxRecDepth 100000 in
theorem redS_ok {x : Fx} (hv : x.v) : redS x = (decide (x.q.num < 0), lim x.q.num.natAbs, lim x.q.den, 0) ∧ (lim x.q.num.natAbs).length ≤ 128 ∧ (lim x.q.den).length ≤ 128 := by
  have h1 := lim_length_mono (Nat.div_le_self (nv x.xs) (Nat.gcd (nv x.xs) (nv x.ys)))
  have h2 := lim_length_mono (Nat.div_le_self (nv x.ys) (Nat.gcd (nv x.xs) (nv x.ys)))
  have h3 := hv.2.1
  have h4 := hv.2.2
  have h5 : (lim x.q.num.natAbs).length ≤ 128 ∧ (lim x.q.den).length ≤ 128 := by
    rw [Fx.q, qv_abs hv.1, qv_den hv.1]; omega
  refine ⟨?_, h5⟩
  rw [redS, if_pos hv, frS, if_neg]
  rw [bigQ]; omega
set_option maxRecDepth 100000 in
theorem heap_set_fr (w : World) (g i : Nat) (cs : Array Value) (t : TypeId) (fr : Nat × Nat) (v : Value) (hg : w.heap[g]? = some (.cells cs t fr)) :
    (w.setCell ⟨g, i, none⟩ v).heap[g]? = some (.cells (cs.setIfInBounds i v) t fr) := by
  rw [setCell_eq_setRow w g i cs t fr v hg]
  exact setRow_heap w g cs _ t _ hg
set_option maxRecDepth 100000 in
theorem bk3_set {w : World} {G : Nat} {v0 v1 v2 a b c : Value} (bk : Bk3 w G v0 v1 v2) : Bk3 (((w.setCell ⟨G, 0, none⟩ a).setCell ⟨G, 1, none⟩ b).setCell ⟨G, 2, none⟩ c) G a b c := by
  obtain ⟨k0, k1, k2, f0, f1, f2, lt, t, fr, e⟩ := bk
  refine ⟨?_, ?_, ?_, ?_, ?_, ?_, ?_, t, fr, ?_⟩
  · simp [go_sem, k0]
  · simp [go_sem, k1]
  · simp [go_sem, k2]
  · simp [go_sem, f0]
  · simp [go_sem, f1]
  · simp [go_sem, f2]
  · simp [World.setCell]; exact lt
  · exact heap_set_fr _ _ _ _ _ _ _ (heap_set_fr _ _ _ _ _ _ _ (heap_set_fr _ _ _ _ _ _ _ e))
set_option maxRecDepth 100000 in
set_option maxHeartbeats 1600000 in
theorem fformat_any (w : World) (x : Fx) (T : ByteArray × Int) (hx : x.ok w) (l1 : x.xs.length ≤ 10000) (l2 : x.ys.length ≤ 10000) (hs : fmtF x = T) : Calls Try.prog 56 #[x.val] w fun e w' => e = .returned (.tuple #[.string T.1, .int .i64 T.2]) ∧ Below w.heap.size w w' := by
  have HS := Lib.hid hs
  clear hs
  by_cases hv : x.v
  · have HR := Lib.hid (redS_ok hv).1
    have HN := Lib.hid (redS_ok hv).2.1
    have HD := Lib.hid (redS_ok hv).2.2
    have HV := Lib.hid hv
    clear hv
    go_enter Try.func56, Try.ntmps56
    go_wp2_with fail
    have b0 := (Below.refl w.heap.size w).alloc (Nat.le_refl _) (.cells x.cells 25)
    have bx := bk3_alloc w (.bool x.b) (.slice x.A x.xs.length x.c) (.slice x.D x.ys.length x.d)
    have okx := hx.below b0
    have bw := b0
    clear b0
    generalize (w.alloc (.cells x.cells 25)) = w1 at bx okx bw ⊢
    refine (freduce_any w1 x _ okx l1 l2 HR.out).mono ?_
    rintro e wn ⟨y1, rfl, hs1, ok1, bb⟩
    have HNB := Lib.hid hs1.1
    have hnx : nv y1.xs = x.q.num.natAbs := by rw [hs1.2.1, nv_lim]
    have hny : nv y1.ys = x.q.den := by rw [hs1.2.2, nv_lim]
    have hl1 : y1.xs.length ≤ 128 := by rw [hs1.2.1]; exact HN.out
    have hl2 : y1.ys.length ≤ 128 := by rw [hs1.2.2]; exact HD.out
    have HT1 : Hid (fmtS (nv y1.xs) = (bstr (decT x.q.num.natAbs), 0)) := Lib.hid (by rw [hnx]; exact fmtS_ok HN.out)
    have HT2 : Hid (fmtS (nv y1.ys) = (bstr (decT x.q.den), 0)) := Lib.hid (by rw [hny]; exact fmtS_ok HD.out)
    have hz1 := dec_size HN.out
    have hz2 := dec_size HD.out
    have HND := Lib.hid hny
    clear hs1 hnx hny
    try replace bx := bx.below bb
    try replace by_ := by_.below bb
    try replace okx := okx.below bb
    try replace oky := oky.below bb
    try replace ok1 := ok1.below bb
    try replace ok2 := ok2.below bb
    try replace na := na.below bb
    try replace nb := nb.below bb
    try replace nc := nc.below bb
    try replace nd := nd.below bb
    try replace ne := ne.below bb
    replace bw := below_on bw bb bw.size
    clear bb
    have tx := bx
    obtain ⟨x0, x1, x2, xf0, xf1, xf2, xlt, xb⟩ := tx
    clear xb
    go_wp2_with fail
    clear x0 x1 x2 xf0 xf1 xf2 xlt
    have ok2 := set3_ok (u0 := .bool y1.b) (u1 := .slice y1.A y1.xs.length y1.c) (u2 := .slice y1.D y1.ys.length y1.d) ok1 bx rfl rfl rfl
    have bw2 := set3g (a := .bool y1.b) (b := .slice y1.A y1.xs.length y1.c) (c := .slice y1.D y1.ys.length y1.d) bw (Nat.le_refl _)
    replace bx := bk3_set (a := .bool y1.b) (b := .slice y1.A y1.xs.length y1.c) (c := .slice y1.D y1.ys.length y1.d) bx
    clear ok1 bw okx
    generalize (((wn.setCell ⟨w.heap.size, 0, none⟩ (.bool y1.b)).setCell ⟨w.heap.size, 1, none⟩ (.slice y1.A y1.xs.length y1.c)).setCell ⟨w.heap.size, 2, none⟩ (.slice y1.D y1.ys.length y1.d)) = w2 at ok2 bw2 bx ⊢
    have bw := bw2
    clear bw2
    have m := format_any w2 y1.A y1.c _ y1.xs ok2.num rfl
    rw [HT1.out] at m
    refine m.mono ?_
    clear m
    rintro e wn ⟨rfl, bb⟩
    try replace bx := bx.below bb
    try replace by_ := by_.below bb
    try replace okx := okx.below bb
    try replace oky := oky.below bb
    try replace ok1 := ok1.below bb
    try replace ok2 := ok2.below bb
    try replace na := na.below bb
    try replace nb := nb.below bb
    try replace nc := nc.below bb
    try replace nd := nd.below bb
    try replace ne := ne.below bb
    replace bw := below_on bw bb bw.size
    clear bb
    have mb := bits_any wn y1.D y1.d _ y1.ys ok2.den rfl (by omega)
    by_cases hb : y1.b = true
    · have HB : Hid (x.q.num < 0) := Lib.hid (by have := HNB.out; rw [hb] at this; exact of_decide_eq_true this.symm)
      have tx := bx
      obtain ⟨x0, x1, x2, xf0, xf1, xf2, xlt, xb⟩ := tx
      clear xb
      go_wp2_with fail
      clear x0 x1 x2 xf0 xf1 xf2 xlt
      refine mb.mono ?_
      clear mb
      rintro e wn ⟨rfl, rfl⟩
      by_cases hd : 1 < nv y1.ys
      · have hd2 : decide (1 < (bits2 (nv y1.ys) : Int)) = true := decide_eq_true (by have := (bits2_gt_one (nv y1.ys)).2 hd; omega)
        have HDD := Lib.hid hd
        clear hd
        have tx := bx
        obtain ⟨x0, x1, x2, xf0, xf1, xf2, xlt, xb⟩ := tx
        clear xb
        go_wp2_with fail
        clear x0 x1 x2 xf0 xf1 xf2 xlt
        have m := format_any wn y1.D y1.d _ y1.ys ok2.den rfl
        rw [HT2.out] at m
        refine m.mono ?_
        clear m
        rintro e wn ⟨rfl, bb⟩
        try replace bx := bx.below bb
        try replace by_ := by_.below bb
        try replace okx := okx.below bb
        try replace oky := oky.below bb
        try replace ok1 := ok1.below bb
        try replace ok2 := ok2.below bb
        try replace na := na.below bb
        try replace nb := nb.below bb
        try replace nc := nc.below bb
        try replace nd := nd.below bb
        try replace ne := ne.below bb
        replace bw := below_on bw bb bw.size
        clear bb
        go_wp2_with fail
        go_ret2
        rw [← HS.out, fmtF, if_pos HV.out, txtQ, if_pos (by rw [← HND.out]; exact HDD.out)]
        rw [if_pos HB.out]; exact ⟨rfl, bw⟩
      · have hd2 : decide (1 < (bits2 (nv y1.ys) : Int)) = false := decide_eq_false (by have := mt (bits2_gt_one (nv y1.ys)).1 hd; omega)
        have HDD : Hid (¬ 1 < nv y1.ys) := hd
        clear hd
        go_wp2_with fail
        go_ret2
        rw [← HS.out, fmtF, if_pos HV.out, txtQ, if_neg (by rw [← HND.out]; exact HDD.out)]
        rw [if_pos HB.out]; exact ⟨rfl, bw⟩
    · have HB : Hid (¬ x.q.num < 0) := Lib.hid (by have := HNB.out; intro h; exact hb (by rw [this]; exact decide_eq_true h))
      have hb : y1.b = false := by simpa using hb
      have tx := bx
      obtain ⟨x0, x1, x2, xf0, xf1, xf2, xlt, xb⟩ := tx
      clear xb
      go_wp2_with fail
      clear x0 x1 x2 xf0 xf1 xf2 xlt
      refine mb.mono ?_
      clear mb
      rintro e wn ⟨rfl, rfl⟩
      by_cases hd : 1 < nv y1.ys
      · have hd2 : decide (1 < (bits2 (nv y1.ys) : Int)) = true := decide_eq_true (by have := (bits2_gt_one (nv y1.ys)).2 hd; omega)
        have HDD := Lib.hid hd
        clear hd
        have tx := bx
        obtain ⟨x0, x1, x2, xf0, xf1, xf2, xlt, xb⟩ := tx
        clear xb
        go_wp2_with fail
        clear x0 x1 x2 xf0 xf1 xf2 xlt
        have m := format_any wn y1.D y1.d _ y1.ys ok2.den rfl
        rw [HT2.out] at m
        refine m.mono ?_
        clear m
        rintro e wn ⟨rfl, bb⟩
        try replace bx := bx.below bb
        try replace by_ := by_.below bb
        try replace okx := okx.below bb
        try replace oky := oky.below bb
        try replace ok1 := ok1.below bb
        try replace ok2 := ok2.below bb
        try replace na := na.below bb
        try replace nb := nb.below bb
        try replace nc := nc.below bb
        try replace nd := nd.below bb
        try replace ne := ne.below bb
        replace bw := below_on bw bb bw.size
        clear bb
        go_wp2_with fail
        go_ret2
        rw [← HS.out, fmtF, if_pos HV.out, txtQ, if_pos (by rw [← HND.out]; exact HDD.out)]
        rw [if_neg (Int.not_lt.2 HB.out)]; exact ⟨rfl, bw⟩
      · have hd2 : decide (1 < (bits2 (nv y1.ys) : Int)) = false := decide_eq_false (by have := mt (bits2_gt_one (nv y1.ys)).1 hd; omega)
        have HDD : Hid (¬ 1 < nv y1.ys) := hd
        clear hd
        go_wp2_with fail
        go_ret2
        rw [← HS.out, fmtF, if_pos HV.out, txtQ, if_neg (by rw [← HND.out]; exact HDD.out)]
        rw [if_neg (Int.not_lt.2 HB.out)]; exact ⟨rfl, bw⟩
  · have HV : Hid (¬ x.v) := hv
    have HR : Hid (redS x = errF 1) := Lib.hid (by rw [redS, if_neg hv])
    clear hv
    go_enter Try.func56, Try.ntmps56
    go_wp2_with fail
    have b0 := (Below.refl w.heap.size w).alloc (Nat.le_refl _) (.cells x.cells 25)
    have bx := bk3_alloc w (.bool x.b) (.slice x.A x.xs.length x.c) (.slice x.D x.ys.length x.d)
    have okx := hx.below b0
    have bw := b0
    clear b0
    generalize (w.alloc (.cells x.cells 25)) = w1 at bx okx bw ⊢
    refine (freduce_any w1 x _ okx l1 l2 HR.out).mono ?_
    rintro e wn ⟨y1, rfl, hs1, ok1, bb⟩
    clear hs1
    try replace bx := bx.below bb
    try replace by_ := by_.below bb
    try replace okx := okx.below bb
    try replace oky := oky.below bb
    try replace ok1 := ok1.below bb
    try replace ok2 := ok2.below bb
    try replace na := na.below bb
    try replace nb := nb.below bb
    try replace nc := nc.below bb
    try replace nd := nd.below bb
    try replace ne := ne.below bb
    replace bw := below_on bw bb bw.size
    clear bb
    have bw2 := set3g (a := .bool y1.b) (b := .slice y1.A y1.xs.length y1.c) (c := .slice y1.D y1.ys.length y1.d) bw (Nat.le_refl _)
    have tx := bx
    obtain ⟨x0, x1, x2, xf0, xf1, xf2, xlt, xb⟩ := tx
    clear xb
    have he : (errF 1).2.2.2 = 1 := rfl
    go_wp2_with fail
    go_ret2
    rw [← HS.out, fmtF, if_neg HV.out]
    exact ⟨rfl, bw2⟩
end Go.Proofs.Ytlcolmifmhdboaa
namespace Go.Proofs.Ytlcolmifmhdboaa

/-- x is q in lowest terms -/
structure Rp (x : Fx) (q : Rat) : Prop where
  b : x.b = decide (q.num < 0)
  n : x.xs = lim q.num.natAbs
  d : x.ys = lim q.den
set_option maxRecDepth 100000 in
theorem sg_abs (a : Int) : sg (decide (a < 0)) a.natAbs = a := by
  unfold sg
  by_cases h : a < 0
  · simp only [h, decide_true, if_true]; omega
  · simp only [h, decide_false, Bool.false_eq_true, if_false]; omega
set_option maxRecDepth 100000 in
theorem Rp.q {x : Fx} {q : Rat} (h : Rp x q) : x.q = q := by
  rw [Fx.q, h.b, h.n, h.d, nv_lim, nv_lim, qv, sg_abs]
  exact Rat.mkRat_self q
set_option maxRecDepth 100000 in
theorem Rp.same {x y : Fx} {q : Rat} (h : Rp x q) (k : Rp y q) : x.b = y.b ∧ x.xs = y.xs ∧ x.ys = y.ys := ⟨h.b.trans k.b.symm, h.n.trans k.n.symm, h.d.trans k.d.symm⟩
/-- at most so many limbs -/
def Sz (q : Rat) (n d : Nat) : Prop := (lim q.num.natAbs).length ≤ n ∧ (lim q.den).length ≤ d
set_option maxRecDepth 100000 in
theorem Sz.mono {q : Rat} {n d n' d' : Nat} (h : Sz q n d) (hn : n ≤ n') (hd : d ≤ d') : Sz q n' d' := ⟨Nat.le_trans h.1 hn, Nat.le_trans h.2 hd⟩
set_option maxRecDepth 100000 in
theorem Rp.v {x : Fx} {q : Rat} (h : Rp x q) (hs : Sz q 128 128) : x.v := by
  rw [Fx.v, Vf, h.n, h.d, nv_lim, nv_lim]
  exact ⟨q.den_nz, hs.2, hs.1⟩
set_option maxRecDepth 100000 in
theorem Rp.l1 {x : Fx} {q : Rat} (h : Rp x q) (hs : Sz q 128 128) : x.xs.length ≤ 10000 := by rw [h.n]; have := hs.1; omega
set_option maxRecDepth 100000 in
theorem Rp.l2 {x : Fx} {q : Rat} (h : Rp x q) (hs : Sz q 128 128) : x.ys.length ≤ 10000 := by rw [h.d]; have := hs.2; omega
set_option maxRecDepth 100000 in
theorem Sz.mk {a : Int} {e n d : Nat} (he : e ≠ 0) (hn : (lim a.natAbs).length ≤ n) (hd : (lim e).length ≤ d) : Sz (mkRat a e) n d := by
  have h1 := lim_length_mono (Nat.div_le_self a.natAbs (Nat.gcd e a.natAbs))
  have h2 := lim_length_mono (Nat.div_le_self e (Nat.gcd e a.natAbs))
  constructor
  · rw [Rat.num_mkRat, if_neg he]
    have e1 : (a / (Nat.gcd e a.natAbs : Int)).natAbs = a.natAbs / Nat.gcd e a.natAbs := by
      obtain ⟨c, hc⟩ : (Nat.gcd e a.natAbs : Int) ∣ a := Int.ofNat_dvd_left.2 (Nat.gcd_dvd_right e a.natAbs)
      have hg : 0 < Nat.gcd e a.natAbs := Nat.gcd_pos_of_pos_left _ (Nat.pos_of_ne_zero he)
      generalize Nat.gcd e a.natAbs = g at *
      subst hc
      rw [Int.mul_ediv_cancel_left _ (by omega), Int.natAbs_mul, Int.natAbs_natCast, Nat.mul_div_cancel_left _ hg]
    rw [e1]; omega
  · rw [Rat.den_mkRat, if_neg he]; omega
set_option maxRecDepth 100000 in
theorem Sz.of_qv {b : Bool} {m e n d : Nat} (he : e ≠ 0) (hn : (lim m).length ≤ n) (hd : (lim e).length ≤ d) : Sz (qv b m e) n d := Sz.mk he (by rw [sg_natAbs]; exact hn) hd
set_option maxRecDepth 100000 in
theorem Sz.of_v {x : Fx} {n d : Nat} (hv : x.v) (hn : x.xs.length ≤ n) (hd : x.ys.length ≤ d) (un : U32 x.xs) (ud : U32 x.ys) : Sz x.q n d :=
  Sz.of_qv hv.1 (Nat.le_trans (lim_length_le_length un) hn) (Nat.le_trans (lim_length_le_length ud) hd)
set_option maxRecDepth 100000 in
theorem den_mul_ne {p q : Rat} : p.den * q.den ≠ 0 := Nat.mul_ne_zero p.den_nz q.den_nz
set_option maxRecDepth 100000 in
theorem Sz.mul {p q : Rat} {a b c d : Nat} (h : Sz p a b) (k : Sz q c d) : Sz (p * q) (a + c) (b + d) := by
  rw [← Rat.mkRat_self p, ← Rat.mkRat_self q, Rat.mkRat_mul_mkRat]
  exact Sz.mk den_mul_ne (by rw [Int.natAbs_mul]; exact len_mulf h.1 k.1) (len_mulf h.2 k.2)
set_option maxRecDepth 100000 in
theorem Sz.add {p q : Rat} {a b c d : Nat} (h : Sz p a b) (k : Sz q c d) : Sz (p + q) (max (a + d) (c + b) + 1) (b + d) := by
  rw [← Rat.mkRat_self p, ← Rat.mkRat_self q, Rat.mkRat_add_mkRat _ _ p.den_nz q.den_nz]
  refine Sz.mk den_mul_ne ?_ (len_mulf h.2 k.2)
  have h1 := len_mulf h.1 k.2
  have h2 := len_mulf k.1 h.2
  have h3 : (p.num * (q.den : Int) + q.num * (p.den : Int)).natAbs ≤ p.num.natAbs * q.den + q.num.natAbs * p.den := by
    refine Nat.le_trans (Int.natAbs_add_le _ _) ?_
    rw [Int.natAbs_mul, Int.natAbs_mul, Int.natAbs_natCast, Int.natAbs_natCast]
    exact Nat.le_refl _
  refine Nat.le_trans (lim_length_mono h3) ?_
  exact len_addf (by omega) (by omega)
set_option maxRecDepth 100000 in
theorem Sz.neg {p : Rat} {a b : Nat} (h : Sz p a b) : Sz (-p) a b := by
  unfold Sz at *
  rw [Rat.neg_num, Rat.neg_den, Int.natAbs_neg]; exact h
set_option maxRecDepth 100000 in
theorem Sz.sub {p q : Rat} {a b c d : Nat} (h : Sz p a b) (k : Sz q c d) : Sz (p - q) (max (a + d) (c + b) + 1) (b + d) := by
  rw [Rat.sub_eq_add_neg]; exact h.add k.neg
set_option maxRecDepth 100000 in
theorem Sz.inv {p : Rat} {a b : Nat} (h : Sz p a b) (hp : p ≠ 0) : Sz p⁻¹ b a := by
  have hn : p.num ≠ 0 := fun e => hp (Rat.num_eq_zero.1 e)
  have e : p = qv (decide (p.num < 0)) p.num.natAbs p.den := by rw [qv, sg_abs, Rat.mkRat_self]
  have hi : p⁻¹ = qv (decide (p.num < 0)) p.den p.num.natAbs := by
    conv => lhs; rw [e]
    exact qv_inv (by omega)
  rw [hi]
  exact Sz.of_qv (by omega) h.2 h.1
set_option maxRecDepth 100000 in
theorem Sz.div {p q : Rat} {a b c d : Nat} (h : Sz p a b) (k : Sz q c d) (hq : q ≠ 0) : Sz (p / q) (a + d) (b + c) := by
  rw [Rat.div_def]; exact h.mul (k.inv hq)
/-- q in lowest terms, without an error -/
def okS (q : Rat) : Bool × List Nat × List Nat × Int := (decide (q.num < 0), lim q.num.natAbs, lim q.den, 0)
set_option maxRecDepth 100000 in
theorem frS_ok {q : Rat} (h : Sz q 128 128) : frS q = okS q := by
  rw [frS, if_neg, okS]
  rw [bigQ]; have := h.1; have := h.2; omega
set_option maxRecDepth 100000 in
theorem Rp.of {x : Fx} {q : Rat} (h : x.b = (okS q).1 ∧ x.xs = (okS q).2.1 ∧ x.ys = (okS q).2.2.1) : Rp x q := ⟨h.1, h.2.1, h.2.2⟩
set_option maxRecDepth 100000 in
theorem Rp.mk_ {q : Rat} (A D : Option Addr) (c d : Nat) : Rp ⟨decide (q.num < 0), A, c, lim q.num.natAbs, D, d, lim q.den⟩ q := ⟨rfl, rfl, rfl⟩
set_option maxRecDepth 100000 in
theorem sm {x y : Fx} {S : Bool × List Nat × List Nat × Int} (h : x.b = S.1 ∧ x.xs = S.2.1 ∧ x.ys = S.2.2.1) (k : y.b = S.1 ∧ y.xs = S.2.1 ∧ y.ys = S.2.2.1) : decide (x.b = y.b ∧ x.xs = y.xs ∧ x.ys = y.ys) = true :=
  decide_eq_true ⟨h.1.trans k.1.symm, h.2.1.trans k.2.1.symm, h.2.2.trans k.2.2.symm⟩
end Go.Proofs.Ytlcolmifmhdboaa
