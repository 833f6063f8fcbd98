/- The walk of fraction.Format. -/
import Derived.Test.YtlcolmifmhdboaaFrB
import Derived.Test.YtlcolmifmhdboaaNatF
namespace Go.Proofs.Ytlcolmifmhdboaa
open Go.RowKit

/-- the text of a rational number -/
def txtQ (q : Rat) : ByteArray :=
  if 1 < q.den then (if q.num < 0 then (⟨#[45]⟩ : ByteArray) ++ bstr (decT q.num.natAbs) else bstr (decT q.num.natAbs)) ++ ((⟨#[47]⟩ : ByteArray) ++ bstr (decT q.den))
  else if q.num < 0 then (⟨#[45]⟩ : ByteArray) ++ bstr (decT q.num.natAbs) else bstr (decT q.num.natAbs)
def fmtF (x : Fx) : ByteArray × Int := if x.v then (txtQ x.q, 0) else (bstr [], 1)
set_option maxRecDepth 100000 in
theorem decT_len {n k : Nat} (h : n < 10 ^ k) (hk : 0 < k) : (decT n).length ≤ k := by
  unfold decT
  split
  · simp; omega
  · simpa using (decR_lt n k).2 h
set_option maxRecDepth 100000 in
theorem lim_dec {n m : Nat} (h : (lim n).length ≤ m) : n < 10 ^ (10 * m) := by
  rw [lim_length_le] at h
  refine Nat.lt_of_lt_of_le h ?_
  rw [Nat.pow_mul]
  exact Nat.pow_le_pow_left (by omega) m
set_option maxRecDepth 100000 in
theorem bstr_size (l : List Nat) : (bstr l).size = l.length := by simp [bstr, ByteArray.size]
set_option maxRecDepth 100000 in
theorem fmtS_ok {n : Nat} (h : (lim n).length ≤ 128) : fmtS n = (bstr (decT n), 0) := by rw [fmtS, if_neg (by omega)]
set_option maxRecDepth 100000 in
theorem dec_sizes {n m : Nat} (h : (lim n).length ≤ m) (hm : 0 < m) : (bstr (decT n)).size ≤ 10 * m := by
  rw [bstr_size]; exact decT_len (lim_dec h) (by omega)
set_option maxRecDepth 100000 in
theorem dec_size {n : Nat} (h : (lim n).length ≤ 128) : (bstr (decT n)).size ≤ 1280 := dec_sizes h (by omega)
set_option maxRecDepth 100000 in
theorem redS_ok {x : Fx} (hv : x.v) : redS x = (decide (x.q.num < 0), lim x.q.num.natAbs, lim x.q.den, 0) ∧ (lim x.q.num.natAbs).length ≤ 128 ∧ (lim x.q.den).length ≤ 128 := by
  have h1 := lim_length_mono (Nat.div_le_self (nv x.xs) (Nat.gcd (nv x.xs) (nv x.ys)))
  have h2 := lim_length_mono (Nat.div_le_self (nv x.ys) (Nat.gcd (nv x.xs) (nv x.ys)))
  have h3 := hv.2.1
  have h4 := hv.2.2
  have h5 : (lim x.q.num.natAbs).length ≤ 128 ∧ (lim x.q.den).length ≤ 128 := by
    rw [Fx.q, qv_abs hv.1, qv_den hv.1]; omega
  refine ⟨?_, h5⟩
  rw [redS, if_pos hv, frS, if_neg]
  rw [bigQ]; omega
set_option maxRecDepth 100000 in
theorem heap_set_fr (w : World) (g i : Nat) (cs : Array Value) (t : TypeId) (fr : Nat × Nat) (v : Value) (hg : w.heap[g]? = some (.cells cs t fr)) :
    (w.setCell ⟨g, i, none⟩ v).heap[g]? = some (.cells (cs.setIfInBounds i v) t fr) := by
  rw [setCell_eq_setRow w g i cs t fr v hg]
  exact setRow_heap w g cs _ t _ hg
set_option maxRecDepth 100000 in
theorem bk3_set {w : World} {G : Nat} {v0 v1 v2 a b c : Value} (bk : Bk3 w G v0 v1 v2) : Bk3 (((w.setCell ⟨G, 0, none⟩ a).setCell ⟨G, 1, none⟩ b).setCell ⟨G, 2, none⟩ c) G a b c := by
  obtain ⟨k0, k1, k2, f0, f1, f2, lt, t, fr, e⟩ := bk
  refine ⟨?_, ?_, ?_, ?_, ?_, ?_, ?_, t, fr, ?_⟩
  · simp [go_sem, k0]
  · simp [go_sem, k1]
  · simp [go_sem, k2]
  · simp [go_sem, f0]
  · simp [go_sem, f1]
  · simp [go_sem, f2]
  · simp [World.setCell]; exact lt
  · exact heap_set_fr _ _ _ _ _ _ _ (heap_set_fr _ _ _ _ _ _ _ (heap_set_fr _ _ _ _ _ _ _ e))
set_option maxRecDepth 100000 in
set_option maxHeartbeats 1600000 in
theorem fformat_any (w : World) (x : Fx) (T : ByteArray × Int) (hx : x.ok w) (l1 : x.xs.length ≤ 10000) (l2 : x.ys.length ≤ 10000) (hs : fmtF x = T) : Calls Try.prog 56 #[x.val] w fun e w' => e = .returned (.tuple #[.string T.1, .int .i64 T.2]) ∧ Below w.heap.size w w' := by
  have HS := Lib.hid hs
  clear hs
  by_cases hv : x.v
  · have HR := Lib.hid (redS_ok hv).1
    have HN := Lib.hid (redS_ok hv).2.1
    have HD := Lib.hid (redS_ok hv).2.2
    have HV := Lib.hid hv
    clear hv
    go_enter Try.func56, Try.ntmps56
    go_wp2_with fail
    have b0 := (Below.refl w.heap.size w).alloc (Nat.le_refl _) (.cells x.cells 25)
    have bx := bk3_alloc w (.bool x.b) (.slice x.A x.xs.length x.c) (.slice x.D x.ys.length x.d)
    have okx := hx.below b0
    have bw := b0
    clear b0
    generalize (w.alloc (.cells x.cells 25)) = w1 at bx okx bw ⊢
    refine (freduce_any w1 x _ okx l1 l2 HR.out).mono ?_
    rintro e wn ⟨y1, rfl, hs1, ok1, bb⟩
    have HNB := Lib.hid hs1.1
    have hnx : nv y1.xs = x.q.num.natAbs := by rw [hs1.2.1, nv_lim]
    have hny : nv y1.ys = x.q.den := by rw [hs1.2.2, nv_lim]
    have hl1 : y1.xs.length ≤ 128 := by rw [hs1.2.1]; exact HN.out
    have hl2 : y1.ys.length ≤ 128 := by rw [hs1.2.2]; exact HD.out
    have HT1 : Hid (fmtS (nv y1.xs) = (bstr (decT x.q.num.natAbs), 0)) := Lib.hid (by rw [hnx]; exact fmtS_ok HN.out)
    have HT2 : Hid (fmtS (nv y1.ys) = (bstr (decT x.q.den), 0)) := Lib.hid (by rw [hny]; exact fmtS_ok HD.out)
    have hz1 := dec_size HN.out
    have hz2 := dec_size HD.out
    have HND := Lib.hid hny
    clear hs1 hnx hny
    try replace bx := bx.below bb
    try replace by_ := by_.below bb
    try replace okx := okx.below bb
    try replace oky := oky.below bb
    try replace ok1 := ok1.below bb
    try replace ok2 := ok2.below bb
    try replace na := na.below bb
    try replace nb := nb.below bb
    try replace nc := nc.below bb
    try replace nd := nd.below bb
    try replace ne := ne.below bb
    replace bw := below_on bw bb bw.size
    clear bb
    have tx := bx
    obtain ⟨x0, x1, x2, xf0, xf1, xf2, xlt, xb⟩ := tx
    clear xb
    go_wp2_with fail
    clear x0 x1 x2 xf0 xf1 xf2 xlt
    have ok2 := set3_ok (u0 := .bool y1.b) (u1 := .slice y1.A y1.xs.length y1.c) (u2 := .slice y1.D y1.ys.length y1.d) ok1 bx rfl rfl rfl
    have bw2 := set3g (a := .bool y1.b) (b := .slice y1.A y1.xs.length y1.c) (c := .slice y1.D y1.ys.length y1.d) bw (Nat.le_refl _)
    replace bx := bk3_set (a := .bool y1.b) (b := .slice y1.A y1.xs.length y1.c) (c := .slice y1.D y1.ys.length y1.d) bx
    clear ok1 bw okx
    generalize (((wn.setCell ⟨w.heap.size, 0, none⟩ (.bool y1.b)).setCell ⟨w.heap.size, 1, none⟩ (.slice y1.A y1.xs.length y1.c)).setCell ⟨w.heap.size, 2, none⟩ (.slice y1.D y1.ys.length y1.d)) = w2 at ok2 bw2 bx ⊢
    have bw := bw2
    clear bw2
    have m := format_any w2 y1.A y1.c _ y1.xs ok2.num rfl
    rw [HT1.out] at m
    refine m.mono ?_
    clear m
    rintro e wn ⟨rfl, bb⟩
    try replace bx := bx.below bb
    try replace by_ := by_.below bb
    try replace okx := okx.below bb
    try replace oky := oky.below bb
    try replace ok1 := ok1.below bb
    try replace ok2 := ok2.below bb
    try replace na := na.below bb
    try replace nb := nb.below bb
    try replace nc := nc.below bb
    try replace nd := nd.below bb
    try replace ne := ne.below bb
    replace bw := below_on bw bb bw.size
    clear bb
    have mb := bits_any wn y1.D y1.d _ y1.ys ok2.den rfl (by omega)
    by_cases hb : y1.b = true
    · have HB : Hid (x.q.num < 0) := Lib.hid (by have := HNB.out; rw [hb] at this; exact of_decide_eq_true this.symm)
      have tx := bx
      obtain ⟨x0, x1, x2, xf0, xf1, xf2, xlt, xb⟩ := tx
      clear xb
      go_wp2_with fail
      clear x0 x1 x2 xf0 xf1 xf2 xlt
      refine mb.mono ?_
      clear mb
      rintro e wn ⟨rfl, rfl⟩
      by_cases hd : 1 < nv y1.ys
      · have hd2 : decide (1 < (bits2 (nv y1.ys) : Int)) = true := decide_eq_true (by have := (bits2_gt_one (nv y1.ys)).2 hd; omega)
        have HDD := Lib.hid hd
        clear hd
        have tx := bx
        obtain ⟨x0, x1, x2, xf0, xf1, xf2, xlt, xb⟩ := tx
        clear xb
        go_wp2_with fail
        clear x0 x1 x2 xf0 xf1 xf2 xlt
        have m := format_any wn y1.D y1.d _ y1.ys ok2.den rfl
        rw [HT2.out] at m
        refine m.mono ?_
        clear m
        rintro e wn ⟨rfl, bb⟩
        try replace bx := bx.below bb
        try replace by_ := by_.below bb
        try replace okx := okx.below bb
        try replace oky := oky.below bb
        try replace ok1 := ok1.below bb
        try replace ok2 := ok2.below bb
        try replace na := na.below bb
        try replace nb := nb.below bb
        try replace nc := nc.below bb
        try replace nd := nd.below bb
        try replace ne := ne.below bb
        replace bw := below_on bw bb bw.size
        clear bb
        go_wp2_with fail
        go_ret2
        rw [← HS.out, fmtF, if_pos HV.out, txtQ, if_pos (by rw [← HND.out]; exact HDD.out)]
        rw [if_pos HB.out]; exact ⟨rfl, bw⟩
      · have hd2 : decide (1 < (bits2 (nv y1.ys) : Int)) = false := decide_eq_false (by have := mt (bits2_gt_one (nv y1.ys)).1 hd; omega)
        have HDD : Hid (¬ 1 < nv y1.ys) := hd
        clear hd
        go_wp2_with fail
        go_ret2
        rw [← HS.out, fmtF, if_pos HV.out, txtQ, if_neg (by rw [← HND.out]; exact HDD.out)]
        rw [if_pos HB.out]; exact ⟨rfl, bw⟩
    · have HB : Hid (¬ x.q.num < 0) := Lib.hid (by have := HNB.out; intro h; exact hb (by rw [this]; exact decide_eq_true h))
      have hb : y1.b = false := by simpa using hb
      have tx := bx
      obtain ⟨x0, x1, x2, xf0, xf1, xf2, xlt, xb⟩ := tx
      clear xb
      go_wp2_with fail
      clear x0 x1 x2 xf0 xf1 xf2 xlt
      refine mb.mono ?_
      clear mb
      rintro e wn ⟨rfl, rfl⟩
      by_cases hd : 1 < nv y1.ys
      · have hd2 : decide (1 < (bits2 (nv y1.ys) : Int)) = true := decide_eq_true (by have := (bits2_gt_one (nv y1.ys)).2 hd; omega)
        have HDD := Lib.hid hd
        clear hd
        have tx := bx
        obtain ⟨x0, x1, x2, xf0, xf1, xf2, xlt, xb⟩ := tx
        clear xb
        go_wp2_with fail
        clear x0 x1 x2 xf0 xf1 xf2 xlt
        have m := format_any wn y1.D y1.d _ y1.ys ok2.den rfl
        rw [HT2.out] at m
        refine m.mono ?_
        clear m
        rintro e wn ⟨rfl, bb⟩
        try replace bx := bx.below bb
        try replace by_ := by_.below bb
        try replace okx := okx.below bb
        try replace oky := oky.below bb
        try replace ok1 := ok1.below bb
        try replace ok2 := ok2.below bb
        try replace na := na.below bb
        try replace nb := nb.below bb
        try replace nc := nc.below bb
        try replace nd := nd.below bb
        try replace ne := ne.below bb
        replace bw := below_on bw bb bw.size
        clear bb
        go_wp2_with fail
        go_ret2
        rw [← HS.out, fmtF, if_pos HV.out, txtQ, if_pos (by rw [← HND.out]; exact HDD.out)]
        rw [if_neg (Int.not_lt.2 HB.out)]; exact ⟨rfl, bw⟩
      · have hd2 : decide (1 < (bits2 (nv y1.ys) : Int)) = false := decide_eq_false (by have := mt (bits2_gt_one (nv y1.ys)).1 hd; omega)
        have HDD : Hid (¬ 1 < nv y1.ys) := hd
        clear hd
        go_wp2_with fail
        go_ret2
        rw [← HS.out, fmtF, if_pos HV.out, txtQ, if_neg (by rw [← HND.out]; exact HDD.out)]
        rw [if_neg (Int.not_lt.2 HB.out)]; exact ⟨rfl, bw⟩
  · have HV : Hid (¬ x.v) := hv
    have HR : Hid (redS x = errF 1) := Lib.hid (by rw [redS, if_neg hv])
    clear hv
    go_enter Try.func56, Try.ntmps56
    go_wp2_with fail
    have b0 := (Below.refl w.heap.size w).alloc (Nat.le_refl _) (.cells x.cells 25)
    have bx := bk3_alloc w (.bool x.b) (.slice x.A x.xs.length x.c) (.slice x.D x.ys.length x.d)
    have okx := hx.below b0
    have bw := b0
    clear b0
    generalize (w.alloc (.cells x.cells 25)) = w1 at bx okx bw ⊢
    refine (freduce_any w1 x _ okx l1 l2 HR.out).mono ?_
    rintro e wn ⟨y1, rfl, hs1, ok1, bb⟩
    clear hs1
    try replace bx := bx.below bb
    try replace by_ := by_.below bb
    try replace okx := okx.below bb
    try replace oky := oky.below bb
    try replace ok1 := ok1.below bb
    try replace ok2 := ok2.below bb
    try replace na := na.below bb
    try replace nb := nb.below bb
    try replace nc := nc.below bb
    try replace nd := nd.below bb
    try replace ne := ne.below bb
    replace bw := below_on bw bb bw.size
    clear bb
    have bw2 := set3g (a := .bool y1.b) (b := .slice y1.A y1.xs.length y1.c) (c := .slice y1.D y1.ys.length y1.d) bw (Nat.le_refl _)
    have tx := bx
    obtain ⟨x0, x1, x2, xf0, xf1, xf2, xlt, xb⟩ := tx
    clear xb
    have he : (errF 1).2.2.2 = 1 := rfl
    go_wp2_with fail
    go_ret2
    rw [← HS.out, fmtF, if_neg HV.out]
    exact ⟨rfl, bw2⟩
end Go.Proofs.Ytlcolmifmhdboaa
