/- The walk of fraction.Format. The walk of drydocklaw02.awake. Shifting numbers by limbs and bits: plain arithmetic. -/
import Derived.Test.YtlcolmifmhdboaaIvB
import Derived.Test.YtlcolmifmhdboaaNatF
import Derived.Test.YtlcolmifmhdboaaFaV
import Derived.Test.YtlcolmifmhdboaaDec
import Derived.Test.YtlcolmifmhdboaaBase
import Derived.Test.YtlcolmifmhdboaaDivV
namespace Go.Proofs.Ytlcolmifmhdboaa
open Go.RowKit

/-- the text of a rational number -/
def txtQ (q : Rat) : ByteArray :=
  if 1 < q.den then (if q.num < 0 then (⟨#[45]⟩ : ByteArray) ++ bstr (decT q.num.natAbs) else bstr (decT q.num.natAbs)) ++ ((⟨#[47]⟩ : ByteArray) ++ bstr (decT q.den))
  else if q.num < 0 then (⟨#[45]⟩ : ByteArray) ++ bstr (decT q.num.natAbs) else bstr (decT q.num.natAbs)
def fmtF (x : Fx) : ByteArray × Int := if x.v then (txtQ x.q, 0) else (bstr [], 1)
set_option maxRecDepth 100000 in
theorem decT_len {n k : Nat} (h : n < 10 ^ k) (hk : 0 < k) : (decT n).length ≤ k := by
  unfold decT
  split
  · simp; omega
  · simpa using (decR_lt n k).2 h
set_option maxRecDepth 100000 in
theorem lim_dec {n m : Nat} (h : (lim n).length ≤ m) : n < 10 ^ (10 * m) := by
  rw [lim_length_le] at h
  refine Nat.lt_of_lt_of_le h ?_
  rw [Nat.pow_mul]
  exact Nat.pow_le_pow_left (by omega) m
set_option maxRecDepth 100000 in
theorem bstr_size (l : List Nat) : (bstr l).size = l.length := by simp [bstr, ByteArray.size]
set_option maxRecDepth 100000 in
theorem fmtS_ok {n : Nat} (h : (lim n).length ≤ 128) : fmtS n = (bstr (decT n), 0) := by rw [fmtS, if_neg (by omega)]
set_option maxRecDepth 100000 in
theorem dec_sizes {n m : Nat} (h : (lim n).length ≤ m) (hm : 0 < m) : (bstr (decT n)).size ≤ 10 * m := by
  rw [bstr_size]; exact decT_len (lim_dec h) (by omega)
set_option maxRecDepth 100000 in
theorem dec_size {n : Nat} (h : (lim n).length ≤ 128) : (bstr (decT n)).size ≤ 1280 := dec_sizes h (by omega)
set_option maxRecDepth 100000 in
theorem redS_ok {x : Fx} (hv : x.v) : redS x = (decide (x.q.num < 0), lim x.q.num.natAbs, lim x.q.den, 0) ∧ (lim x.q.num.natAbs).length ≤ 128 ∧ (lim x.q.den).length ≤ 128 := by
  have h1 := lim_length_mono (Nat.div_le_self (nv x.xs) (Nat.gcd (nv x.xs) (nv x.ys)))
  have h2 := lim_length_mono (Nat.div_le_self (nv x.ys) (Nat.gcd (nv x.xs) (nv x.ys)))
  have h3 := hv.2.1
  have h4 := hv.2.2
  have h5 : (lim x.q.num.natAbs).length ≤ 128 ∧ (lim x.q.den).length ≤ 128 := by
    rw [Fx.q, qv_abs hv.1, qv_den hv.1]; omega
  refine ⟨?_, h5⟩
  rw [redS, if_pos hv, frS, if_neg]
  rw [bigQ]; omega
set_option maxRecDepth 100000 in
theorem heap_set_fr (w : World) (g i : Nat) (cs : Array Value) (t : TypeId) (fr : Nat × Nat) (v : Value) (hg : w.heap[g]? = some (.cells cs t fr)) :
    (w.setCell ⟨g, i, none⟩ v).heap[g]? = some (.cells (cs.setIfInBounds i v) t fr) := by
  rw [setCell_eq_setRow w g i cs t fr v hg]
  exact setRow_heap w g cs _ t _ hg
set_option maxRecDepth 100000 in
theorem bk3_set {w : World} {G : Nat} {v0 v1 v2 a b c : Value} (bk : Bk3 w G v0 v1 v2) : Bk3 (((w.setCell ⟨G, 0, none⟩ a).setCell ⟨G, 1, none⟩ b).setCell ⟨G, 2, none⟩ c) G a b c := by
  obtain ⟨k0, k1, k2, f0, f1, f2, lt, t, fr, e⟩ := bk
  refine ⟨?_, ?_, ?_, ?_, ?_, ?_, ?_, t, fr, ?_⟩
  · simp [go_sem, k0]
  · simp [go_sem, k1]
  · simp [go_sem, k2]
  · simp [go_sem, f0]
  · simp [go_sem, f1]
  · simp [go_sem, f2]
  · simp [World.setCell]; exact lt
  · exact heap_set_fr _ _ _ _ _ _ _ (heap_set_fr _ _ _ _ _ _ _ (heap_set_fr _ _ _ _ _ _ _ e))
set_option maxRecDepth 100000 in
set_option maxHeartbeats 1600000 in
theorem fformat_any (w : World) (x : Fx) (T : ByteArray × Int) (hx : x.ok w) (l1 : x.xs.length ≤ 10000) (l2 : x.ys.length ≤ 10000) (hs : fmtF x = T) : Calls Try.prog 56 #[x.val] w fun e w' => e = .returned (.tuple #[.string T.1, .int .i64 T.2]) ∧ Below w.heap.size w w' := by
  have HS := Lib.hid hs
  clear hs
  by_cases hv : x.v
  · have HR := Lib.hid (redS_ok hv).1
    have HN := Lib.hid (redS_ok hv).2.1
    have HD := Lib.hid (redS_ok hv).2.2
    have HV := Lib.hid hv
    clear hv
    go_enter Try.func56, Try.ntmps56
    go_wp2_with fail
    have b0 := (Below.refl w.heap.size w).alloc (Nat.le_refl _) (.cells x.cells 25)
    have bx := bk3_alloc w (.bool x.b) (.slice x.A x.xs.length x.c) (.slice x.D x.ys.length x.d)
    have okx := hx.below b0
    have bw := b0
    clear b0
    generalize (w.alloc (.cells x.cells 25)) = w1 at bx okx bw ⊢
    refine (freduce_any w1 x _ okx l1 l2 HR.out).mono ?_
    rintro e wn ⟨y1, rfl, hs1, ok1, bb⟩
    have HNB := Lib.hid hs1.1
    have hnx : nv y1.xs = x.q.num.natAbs := by rw [hs1.2.1, nv_lim]
    have hny : nv y1.ys = x.q.den := by rw [hs1.2.2, nv_lim]
    have hl1 : y1.xs.length ≤ 128 := by rw [hs1.2.1]; exact HN.out
    have hl2 : y1.ys.length ≤ 128 := by rw [hs1.2.2]; exact HD.out
    have HT1 : Hid (fmtS (nv y1.xs) = (bstr (decT x.q.num.natAbs), 0)) := Lib.hid (by rw [hnx]; exact fmtS_ok HN.out)
    have HT2 : Hid (fmtS (nv y1.ys) = (bstr (decT x.q.den), 0)) := Lib.hid (by rw [hny]; exact fmtS_ok HD.out)
    have hz1 := dec_size HN.out
    have hz2 := dec_size HD.out
    have HND := Lib.hid hny
    clear hs1 hnx hny
    try replace bx := bx.below bb
    try replace by_ := by_.below bb
    try replace okx := okx.below bb
    try replace oky := oky.below bb
    try replace ok1 := ok1.below bb
    try replace ok2 := ok2.below bb
    try replace na := na.below bb
    try replace nb := nb.below bb
    try replace nc := nc.below bb
    try replace nd := nd.below bb
    try replace ne := ne.below bb
    replace bw := below_on bw bb bw.size
    clear bb
    have tx := bx
    obtain ⟨x0, x1, x2, xf0, xf1, xf2, xlt, xb⟩ := tx
    clear xb
    go_wp2_with fail
    clear x0 x1 x2 xf0 xf1 xf2 xlt
    have ok2 := set3_ok (u0 := .bool y1.b) (u1 := .slice y1.A y1.xs.length y1.c) (u2 := .slice y1.D y1.ys.length y1.d) ok1 bx rfl rfl rfl
    have bw2 := set3g (a := .bool y1.b) (b := .slice y1.A y1.xs.length y1.c) (c := .slice y1.D y1.ys.length y1.d) bw (Nat.le_refl _)
    replace bx := bk3_set (a := .bool y1.b) (b := .slice y1.A y1.xs.length y1.c) (c := .slice y1.D y1.ys.length y1.d) bx
    clear ok1 bw okx
    generalize (((wn.setCell ⟨w.heap.size, 0, none⟩ (.bool y1.b)).setCell ⟨w.heap.size, 1, none⟩ (.slice y1.A y1.xs.length y1.c)).setCell ⟨w.heap.size, 2, none⟩ (.slice y1.D y1.ys.length y1.d)) = w2 at ok2 bw2 bx ⊢
    have bw := bw2
    clear bw2
    have m := format_any w2 y1.A y1.c _ y1.xs ok2.num rfl
    rw [HT1.out] at m
    refine m.mono ?_
    clear m
    rintro e wn ⟨rfl, bb⟩
    try replace bx := bx.below bb
    try replace by_ := by_.below bb
    try replace okx := okx.below bb
    try replace oky := oky.below bb
    try replace ok1 := ok1.below bb
    try replace ok2 := ok2.below bb
    try replace na := na.below bb
    try replace nb := nb.below bb
    try replace nc := nc.below bb
    try replace nd := nd.below bb
    try replace ne := ne.below bb
    replace bw := below_on bw bb bw.size
    clear bb
    have mb := bits_any wn y1.D y1.d _ y1.ys ok2.den rfl (by omega)
    by_cases hb : y1.b = true
    · have HB : Hid (x.q.num < 0) := Lib.hid (by have := HNB.out; rw [hb] at this; exact of_decide_eq_true this.symm)
      have tx := bx
      obtain ⟨x0, x1, x2, xf0, xf1, xf2, xlt, xb⟩ := tx
      clear xb
      go_wp2_with fail
      clear x0 x1 x2 xf0 xf1 xf2 xlt
      refine mb.mono ?_
      clear mb
      rintro e wn ⟨rfl, rfl⟩
      by_cases hd : 1 < nv y1.ys
      · have hd2 : decide (1 < (bits2 (nv y1.ys) : Int)) = true := decide_eq_true (by have := (bits2_gt_one (nv y1.ys)).2 hd; omega)
        have HDD := Lib.hid hd
        clear hd
        have tx := bx
        obtain ⟨x0, x1, x2, xf0, xf1, xf2, xlt, xb⟩ := tx
        clear xb
        go_wp2_with fail
        clear x0 x1 x2 xf0 xf1 xf2 xlt
        have m := format_any wn y1.D y1.d _ y1.ys ok2.den rfl
        rw [HT2.out] at m
        refine m.mono ?_
        clear m
        rintro e wn ⟨rfl, bb⟩
        try replace bx := bx.below bb
        try replace by_ := by_.below bb
        try replace okx := okx.below bb
        try replace oky := oky.below bb
        try replace ok1 := ok1.below bb
        try replace ok2 := ok2.below bb
        try replace na := na.below bb
        try replace nb := nb.below bb
        try replace nc := nc.below bb
        try replace nd := nd.below bb
        try replace ne := ne.below bb
        replace bw := below_on bw bb bw.size
        clear bb
        go_wp2_with fail
        go_ret2
        rw [← HS.out, fmtF, if_pos HV.out, txtQ, if_pos (by rw [← HND.out]; exact HDD.out)]
        rw [if_pos HB.out]; exact ⟨rfl, bw⟩
      · have hd2 : decide (1 < (bits2 (nv y1.ys) : Int)) = false := decide_eq_false (by have := mt (bits2_gt_one (nv y1.ys)).1 hd; omega)
        have HDD : Hid (¬ 1 < nv y1.ys) := hd
        clear hd
        go_wp2_with fail
        go_ret2
        rw [← HS.out, fmtF, if_pos HV.out, txtQ, if_neg (by rw [← HND.out]; exact HDD.out)]
        rw [if_pos HB.out]; exact ⟨rfl, bw⟩
    · have HB : Hid (¬ x.q.num < 0) := Lib.hid (by have := HNB.out; intro h; exact hb (by rw [this]; exact decide_eq_true h))
      have hb : y1.b = false := by simpa using hb
      have tx := bx
      obtain ⟨x0, x1, x2, xf0, xf1, xf2, xlt, xb⟩ := tx
      clear xb
      go_wp2_with fail
      clear x0 x1 x2 xf0 xf1 xf2 xlt
      refine mb.mono ?_
      clear mb
      rintro e wn ⟨rfl, rfl⟩
      by_cases hd : 1 < nv y1.ys
      · have hd2 : decide (1 < (bits2 (nv y1.ys) : Int)) = true := decide_eq_true (by have := (bits2_gt_one (nv y1.ys)).2 hd; omega)
        have HDD := Lib.hid hd
        clear hd
        have tx := bx
        obtain ⟨x0, x1, x2, xf0, xf1, xf2, xlt, xb⟩ := tx
        clear xb
        go_wp2_with fail
        clear x0 x1 x2 xf0 xf1 xf2 xlt
        have m := format_any wn y1.D y1.d _ y1.ys ok2.den rfl
        rw [HT2.out] at m
        refine m.mono ?_
        clear m
        rintro e wn ⟨rfl, bb⟩
        try replace bx := bx.below bb
        try replace by_ := by_.below bb
        try replace okx := okx.below bb
        try replace oky := oky.below bb
        try replace ok1 := ok1.below bb
        try replace ok2 := ok2.below bb
        try replace na := na.below bb
        try replace nb := nb.below bb
        try replace nc := nc.below bb
        try replace nd := nd.below bb
        try replace ne := ne.below bb
        replace bw := below_on bw bb bw.size
        clear bb
        go_wp2_with fail
        go_ret2
        rw [← HS.out, fmtF, if_pos HV.out, txtQ, if_pos (by rw [← HND.out]; exact HDD.out)]
        rw [if_neg (Int.not_lt.2 HB.out)]; exact ⟨rfl, bw⟩
      · have hd2 : decide (1 < (bits2 (nv y1.ys) : Int)) = false := decide_eq_false (by have := mt (bits2_gt_one (nv y1.ys)).1 hd; omega)
        have HDD : Hid (¬ 1 < nv y1.ys) := hd
        clear hd
        go_wp2_with fail
        go_ret2
        rw [← HS.out, fmtF, if_pos HV.out, txtQ, if_neg (by rw [← HND.out]; exact HDD.out)]
        rw [if_neg (Int.not_lt.2 HB.out)]; exact ⟨rfl, bw⟩
  · have HV : Hid (¬ x.v) := hv
    have HR : Hid (redS x = errF 1) := Lib.hid (by rw [redS, if_neg hv])
    clear hv
    go_enter Try.func56, Try.ntmps56
    go_wp2_with fail
    have b0 := (Below.refl w.heap.size w).alloc (Nat.le_refl _) (.cells x.cells 25)
    have bx := bk3_alloc w (.bool x.b) (.slice x.A x.xs.length x.c) (.slice x.D x.ys.length x.d)
    have okx := hx.below b0
    have bw := b0
    clear b0
    generalize (w.alloc (.cells x.cells 25)) = w1 at bx okx bw ⊢
    refine (freduce_any w1 x _ okx l1 l2 HR.out).mono ?_
    rintro e wn ⟨y1, rfl, hs1, ok1, bb⟩
    clear hs1
    try replace bx := bx.below bb
    try replace by_ := by_.below bb
    try replace okx := okx.below bb
    try replace oky := oky.below bb
    try replace ok1 := ok1.below bb
    try replace ok2 := ok2.below bb
    try replace na := na.below bb
    try replace nb := nb.below bb
    try replace nc := nc.below bb
    try replace nd := nd.below bb
    try replace ne := ne.below bb
    replace bw := below_on bw bb bw.size
    clear bb
    have bw2 := set3g (a := .bool y1.b) (b := .slice y1.A y1.xs.length y1.c) (c := .slice y1.D y1.ys.length y1.d) bw (Nat.le_refl _)
    have tx := bx
    obtain ⟨x0, x1, x2, xf0, xf1, xf2, xlt, xb⟩ := tx
    clear xb
    have he : (errF 1).2.2.2 = 1 := rfl
    go_wp2_with fail
    go_ret2
    rw [← HS.out, fmtF, if_neg HV.out]
    exact ⟨rfl, bw2⟩
end Go.Proofs.Ytlcolmifmhdboaa
namespace Go.Proofs.Ytlcolmifmhdboaa
open Go.RowKit

def q12 : Rat := Rat.divInt 1 2
def q13 : Rat := Rat.divInt (-1) (-3)
def q56 : Rat := q12 + q13
set_option maxRecDepth 100000 in
theorem sz12 : Sz q12 128 128 := by constructor <;> (rw [lim_length_le]; decide)
set_option maxRecDepth 100000 in
theorem sz13 : Sz q13 128 128 := by constructor <;> (rw [lim_length_le]; decide)
set_option maxRecDepth 100000 in
theorem sz56 : Sz q56 128 128 := by constructor <;> (rw [lim_length_le]; decide +kernel)
set_option maxRecDepth 100000 in
theorem num56 : q56.num = 5 := by decide +kernel
set_option maxRecDepth 100000 in
theorem den56 : q56.den = 6 := by decide +kernel
set_option maxRecDepth 100000 in
theorem txt56 : txtQ q56 = (⟨#[53, 47, 54]⟩ : ByteArray) := by
  rw [txtQ, num56, den56, if_pos (by omega), if_neg (by omega), decT, decT, if_neg (by decide), if_neg (by decide)]
  simp only [decR_pos, decR_zero, show Int.natAbs 5 = 5 from rfl, ne_eq, Nat.reduceEqDiff, not_false_eq_true, Nat.reduceDiv, Nat.reduceMod]
  rfl
set_option maxRecDepth 100000 in
set_option maxHeartbeats 1600000 in
theorem awakef_any (w : World) : Calls Try.prog 12 #[] w fun e w' => e = .returned (.bool true) ∧ Below w.heap.size w w' := by
  go_enter Try.func12, Try.ntmps12
  go_wp2_with fail
  refine (fmake_any w 1 2 (okS q12) (by omega) (by omega) (by omega) (by omega) (by rw [makeF, if_neg (by omega)]; exact frS_ok sz12)).mono ?_
  rintro e wn ⟨x1, rfl, hs, ok1, bb⟩
  have R1 := Rp.of hs
  have e0 : (okS q12).2.2.2 = 0 := rfl
  have bw := Below.refl w.heap.size w
  clear hs
  replace bw := below_on bw bb bw.size
  clear bb
  go_upto_region 2 with fail
  have a1 := (fa_alloc ok1).1
  have bb := (fa_alloc ok1).2
  clear ok1
  generalize (wn.alloc (.cells #[.bool x1.b, .slice x1.A x1.xs.length x1.c, .slice x1.D x1.ys.length x1.d] 25)) = wm at a1 bb ⊢
  try replace a1 := a1.below bb
  replace bw := below_on bw bb bw.size
  clear bb
  generalize wn.heap.size = g1 at a1 ⊢
  clear e0
  go_wp2_with fail
  refine (fmake_any _ (-1) (-3) (okS q13) (by omega) (by omega) (by omega) (by omega) (by rw [makeF, if_neg (by omega)]; exact frS_ok sz13)).mono ?_
  rintro e wn ⟨x2, rfl, hs, ok2, bb⟩
  have R2 := Rp.of hs
  have e0 : (okS q13).2.2.2 = 0 := rfl
  clear hs
  try replace a1 := a1.below bb
  replace bw := below_on bw bb bw.size
  clear bb
  go_upto_region 3 with fail
  have a2 := (fa_alloc ok2).1
  have bb := (fa_alloc ok2).2
  clear ok2
  generalize (wn.alloc (.cells #[.bool x2.b, .slice x2.A x2.xs.length x2.c, .slice x2.D x2.ys.length x2.d] 25)) = wm at a2 bb ⊢
  try replace a1 := a1.below bb
  try replace a2 := a2.below bb
  replace bw := below_on bw bb bw.size
  clear bb
  generalize wn.heap.size = g2 at a2 ⊢
  clear e0
  have l1 := R1.l1 sz12
  have m1 := R1.l2 sz12
  have l2 := R2.l1 sz13
  have m2 := R2.l2 sz13
  have e0 : (okS q56).2.2.2 = 0 := rfl
  have ci0 := a1.c0
  have ci1 := a1.c1
  have ci2 := a1.c2
  have cj0 := a2.c0
  have cj1 := a2.c1
  have cj2 := a2.c2
  go_wp2_with fail
  clear ci0 ci1 ci2 cj0 cj1 cj2
  refine (fadd_any _ x1 x2 (okS q56) a1.ok a2.ok l1 m1 l2 m2 (by rw [addF, if_pos ⟨R1.v sz12, R2.v sz13⟩, R1.q, R2.q]; exact frS_ok sz56)).mono ?_
  rintro e wn ⟨x3, rfl, hs3, ok3, bb⟩
  have HS3 := Lib.hid hs3
  clear hs3
  try replace a1 := a1.below bb
  try replace a2 := a2.below bb
  replace bw := below_on bw bb bw.size
  clear bb
  go_upto_region 4 with fail
  have a3 := (fa_alloc ok3).1
  have bb := (fa_alloc ok3).2
  clear ok3
  generalize (wn.alloc (.cells #[.bool x3.b, .slice x3.A x3.xs.length x3.c, .slice x3.D x3.ys.length x3.d] 25)) = wm at a3 bb ⊢
  try replace a1 := a1.below bb
  try replace a2 := a2.below bb
  try replace a3 := a3.below bb
  replace bw := below_on bw bb bw.size
  clear bb
  generalize wn.heap.size = g3 at a3 ⊢
  have R3 := Rp.of HS3.out
  clear e0
  have l3 := R3.l1 sz56
  have m3 := R3.l2 sz56
  have ci0 := a3.c0
  have ci1 := a3.c1
  have ci2 := a3.c2
  go_wp2_with fail
  clear ci0 ci1 ci2
  refine (fformat_any _ x3 ((⟨#[53, 47, 54]⟩ : ByteArray), 0) a3.ok l3 m3 (by rw [fmtF, if_pos (R3.v sz56), R3.q, txt56])).mono ?_
  rintro e wn ⟨rfl, bb⟩
  try replace a1 := a1.below bb
  try replace a2 := a2.below bb
  try replace a3 := a3.below bb
  replace bw := below_on bw bb bw.size
  clear bb
  go_wp2_with fail
  refine (fmake_any _ 1 0 (errF 3) (by omega) (by omega) (by omega) (by omega) (by rw [makeF, if_pos rfl])).mono ?_
  rintro e wn ⟨x4, rfl, hs4, ok4, bb⟩
  have e0 : (errF 3).2.2.2 = 3 := rfl
  clear hs4
  try replace a1 := a1.below bb
  try replace a2 := a2.below bb
  try replace a3 := a3.below bb
  replace bw := below_on bw bb bw.size
  clear bb
  go_upto_region 6 with fail
  have a4 := (fa_alloc ok4).1
  have bb := (fa_alloc ok4).2
  clear ok4
  generalize (wn.alloc (.cells #[.bool x4.b, .slice x4.A x4.xs.length x4.c, .slice x4.D x4.ys.length x4.d] 25)) = wm at a4 bb ⊢
  try replace a1 := a1.below bb
  try replace a2 := a2.below bb
  try replace a3 := a3.below bb
  try replace a4 := a4.below bb
  replace bw := below_on bw bb bw.size
  clear bb
  generalize wn.heap.size = g4 at a4 ⊢
  clear e0
  go_wp2_with fail
  go_ret
  exact ⟨rfl, bw⟩
end Go.Proofs.Ytlcolmifmhdboaa
namespace Go.Proofs.Ytlcolmifmhdboaa

set_option maxRecDepth 100000 in
theorem two_pow_split (k : Nat) : 2 ^ k = pw (k / 32) * 2 ^ (k % 32) := by
  unfold pw
  rw [show (4294967296 : Nat) = 2 ^ 32 from rfl, ← Nat.pow_mul, ← Nat.pow_add, Nat.div_add_mod]
set_option maxRecDepth 100000 in
/-- zeros below -/
theorem nv_low_zeros (k : Nat) (O : List Nat) : nv (List.replicate k 0 ++ O) = nv O * pw k := by
  rw [nv_append, nv_replicate, List.length_replicate, Nat.zero_add, Nat.mul_comm]
set_option maxRecDepth 100000 in
theorem nv_shift_up {O : List Nat} {m k : Nat} (h : nv O = m * 2 ^ (k % 32)) : nv (List.replicate (k / 32) 0 ++ O) = m * 2 ^ k := by
  rw [nv_low_zeros, h, two_pow_split k, Nat.mul_assoc, Nat.mul_comm (2 ^ (k % 32))]
set_option maxRecDepth 100000 in
/-- a limb of a number that is shifted down by whole limbs and some bits -/
theorem down_limb {X : List Nat} (hu : U32 X) {wh s i : Nat} (hs : s < 32) (hi : wh + i < X.length) : (X.getD (wh + i + 1) 0 * 4294967296 + X[wh + i]) / 2 ^ s % 4294967296 = nv X / (pw wh * 2 ^ s) / pw i % 4294967296 := by
  have h1 := nv_drop_div X hu (wh + i) (by omega)
  have hp : 0 < 2 ^ s := Nat.pow_pos (by omega)
  have e : nv X / (pw wh * 2 ^ s) / pw i = nv X / pw (wh + i) / 2 ^ s := by
    rw [Nat.div_div_eq_div_mul, Nat.div_div_eq_div_mul, pw_add]
    congr 1
    rw [Nat.mul_assoc, Nat.mul_comm (2 ^ s), ← Nat.mul_assoc]
  rw [e, h1]
  rcases Nat.lt_or_ge (wh + i + 1) X.length with h2 | h2
  · rw [List.drop_eq_getElem_cons hi, List.drop_eq_getElem_cons h2, nv_cons, nv_cons]
    rw [List.getD_eq_getElem?_getD, List.getElem?_eq_getElem h2, Option.getD_some]
    exact shift_limb (hu.at _ hi) (hu.at _ h2) hs
  · rw [List.drop_eq_getElem_cons hi, List.drop_eq_nil_of_le h2, nv_cons, nv_nil]
    rw [List.getD_eq_getElem?_getD, List.getElem?_eq_none h2, Option.getD_none]
    simp
set_option maxRecDepth 100000 in
theorem nv_shift_down {X R : List Nat} (hu : U32 X) {k : Nat} (hk : k / 32 < X.length) (hl : R.length = X.length - k / 32) (h : ∀ t (ht : t < R.length), R[t] = nv X / (pw (k / 32) * 2 ^ (k % 32)) / pw t % 4294967296) : nv R = nv X / 2 ^ k := by
  rw [nv_digits _ _ R hl h, ← two_pow_split]
  apply Nat.mod_eq_of_lt
  rw [Nat.div_lt_iff_lt_mul (Nat.pow_pos (by omega))]
  have h1 := nv_lt hu
  refine Nat.lt_of_lt_of_le h1 ?_
  rw [two_pow_split, ← Nat.mul_assoc, ← pw_add, show X.length - k / 32 + k / 32 = X.length from by omega]
  exact Nat.le_mul_of_pos_right _ (Nat.pow_pos (by omega))
set_option maxRecDepth 100000 in
theorem shift_down_far {X : List Nat} (hu : U32 X) {k : Nat} (hk : X.length ≤ k / 32) : nv X / 2 ^ k = 0 := by
  apply Nat.div_eq_of_lt
  have h1 := nv_lt hu
  rw [two_pow_split]
  refine Nat.lt_of_lt_of_le h1 (Nat.le_trans (pw_le hk) (Nat.le_mul_of_pos_right _ (Nat.pow_pos (by omega))))
end Go.Proofs.Ytlcolmifmhdboaa
