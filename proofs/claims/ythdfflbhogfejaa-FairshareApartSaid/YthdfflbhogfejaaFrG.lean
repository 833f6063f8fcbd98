/- The walks of package fraction: absolute, Make. Decimal digits of a number. No program in sight. The walk of natural.Format. The walk of fraction.Format. The walk of drydocklaw02.awake. Shifting numbers by limbs and bits: plain arithmetic. The walk of natural.Shift. The walks of package fraction: round, Floor, Ceil. -/
import Derived.Test.YthdfflbhogfejaaFrE
import Derived.Test.YthdfflbhogfejaaNatC
import Derived.BigRegion
import Derived.RegionTactic
import Derived.Test.YthdfflbhogfejaaFrC
import Derived.Test.YthdfflbhogfejaaFrD
import Derived.Test.YthdfflbhogfejaaBase
import Derived.Test.YthdfflbhogfejaaDivV
import Derived.Test.YthdfflbhogfejaaFrA
import Derived.Deep.RegionLaw
import Derived.Deep.OwnRows
namespace Go.Proofs.Ythdfflbhogfejaa
open Go.RowKit

set_option maxRecDepth 100000 in
theorem wrapu_neg {v : Int} (h0 : -9223372036854775808 ≤ v) (h : v < 0) : IntKind.u64.wrap (-(IntKind.u64.wrap v)) = (v.natAbs : Int) := by
  rw [IntKind.wrap_u64, IntKind.wrap_u64]; omega
set_option maxRecDepth 100000 in
theorem wrapu_pos {v : Int} (h0 : 0 ≤ v) (h : v ≤ 9223372036854775807) : IntKind.u64.wrap v = (v.natAbs : Int) := by
  rw [IntKind.wrap_u64]; omega
set_option maxRecDepth 100000 in
theorem fabsolute_any (w : World) (v : Int) (h0 : -9223372036854775808 ≤ v) (h1 : v ≤ 9223372036854775807) : Calls Try.prog 80 #[.int .i64 v] w fun e w' => ∃ A c, e = .returned (.slice A (lim v.natAbs).length c) ∧ Nt w' A c (lim v.natAbs) ∧ Below w.heap.size w w' := by
  by_cases hv : v < 0
  · have hw := wrapu_neg h0 hv
    have hd : decide (v < 0) = true := decide_eq_true hv
    go_enter Try.func80, Try.ntmps80
    go_wp2_with fail
    refine (make_any w v.natAbs (by omega)).mono ?_
    rintro e wn ⟨A', c', rfl, n', bb⟩
    go_wp2_with fail
    go_ret
    exact ⟨A', c', rfl, n', bb⟩
  · have hw := wrapu_pos (Int.not_lt.1 hv) h1
    have hd : decide (v < 0) = false := decide_eq_false hv
    go_enter Try.func80, Try.ntmps80
    go_wp2_with fail
    refine (make_any w v.natAbs (by omega)).mono ?_
    rintro e wn ⟨A', c', rfl, n', bb⟩
    go_wp2_with fail
    go_ret
    exact ⟨A', c', rfl, n', bb⟩
set_option maxRecDepth 100000 in
theorem qv_divInt {n d : Int} (_hd : d ≠ 0) : qv (!(decide (n < 0) == decide (d < 0))) n.natAbs d.natAbs = Rat.divInt n d := by
  rw [qv, ← Rat.divInt_ofNat]
  rcases Int.lt_or_le d 0 with h | h
  · have e : ((d.natAbs : Nat) : Int) = -d := by omega
    rw [e, ← Rat.neg_divInt_neg, Int.neg_neg]
    congr 1
    rcases Int.lt_or_le n 0 with g | g
    · simp [sg, h, g]; omega
    · simp [sg, h, Int.not_lt.2 g]; omega
  · have e : ((d.natAbs : Nat) : Int) = d := by omega
    rw [e]
    congr 1
    rcases Int.lt_or_le n 0 with g | g
    · simp [sg, Int.not_lt.2 h, g]; omega
    · simp [sg, Int.not_lt.2 h, Int.not_lt.2 g]; omega
set_option maxRecDepth 100000 in
theorem lim_len2 {m : Nat} (h : m < 18446744073709551616) : (lim m).length ≤ 2 := by rw [lim_length_le]; exact h
def makeF (n d : Int) : Bool × List Nat × List Nat × Int := if d = 0 then errF 3 else frS (Rat.divInt n d)
set_option maxRecDepth 100000 in
set_option maxHeartbeats 1600000 in
theorem fmake_any (w : World) (n d : Int) (S : Bool × List Nat × List Nat × Int) (n0 : -9223372036854775808 ≤ n) (n1 : n ≤ 9223372036854775807) (d0 : -9223372036854775808 ≤ d) (d1 : d ≤ 9223372036854775807) (hs : makeF n d = S) : Calls Try.prog 60 #[.int .i64 n, .int .i64 d] w (FracRes w S) := by
  have HS := Lib.hid hs
  clear hs
  by_cases hd : d = 0
  · have HD := Lib.hid hd
    have hdd : (d == 0) = true := by simpa using hd
    clear hd
    go_enter Try.func60, Try.ntmps60
    go_wp2_with fail
    have bw := (Below.refl w.heap.size w).alloc (Nat.le_refl _) (.cells #[.bool false, .slice none 0 0, .slice none 0 0] 41)
    have bk := bk3_new w
    generalize (w.alloc (.cells #[.bool false, .slice none 0 0, .slice none 0 0] 41)) = w1 at bw bk ⊢
    have tk := bk
    obtain ⟨k0, k1, k2, kf0, kf1, kf2, klt, kb⟩ := tk
    clear kb
    go_wp2_with fail
    refine bodyPost_ret (v := .tuple #[(Fx.nil : Fx).val, .int .i64 3]) (by simp [results, Try.results60, go_sem, k0, k1, k2]) rfl ?_
    rw [← HS.out, makeF, if_pos HD.out]
    exact ⟨Fx.nil, rfl, ⟨rfl, rfl, rfl⟩, Fx.nil_ok _, bw⟩
  · have HD : Hid (¬ d = 0) := hd
    have hdd : (d == 0) = false := by simpa using hd
    have ln := lim_len2 (m := n.natAbs) (by omega)
    have ld := lim_len2 (m := d.natAbs) (by omega)
    have lnn : (lim (nv (lim n.natAbs))).length ≤ 512 := by rw [nv_lim]; omega
    have ldd : (lim (nv (lim d.natAbs))).length ≤ 512 := by rw [nv_lim]; omega
    have ne : nv (lim d.natAbs) ≠ 0 := by rw [nv_lim]; omega
    have LNN := Lib.hid lnn
    have LDD := Lib.hid ldd
    have NE : Hid (nv (lim d.natAbs) ≠ 0) := ne
    clear hd lnn ldd ne
    go_enter Try.func60, Try.ntmps60
    go_wp2_with fail
    have bw := (Below.refl w.heap.size w).alloc (Nat.le_refl _) (.cells #[.bool false, .slice none 0 0, .slice none 0 0] 41)
    have bk := bk3_new w
    generalize (w.alloc (.cells #[.bool false, .slice none 0 0, .slice none 0 0] 41)) = w1 at bw bk ⊢
    go_wp2_with fail
    refine (fabsolute_any w1 n n0 n1).mono ?_
    rintro e wn ⟨AN, cN, rfl, na, bb⟩
    try replace bx := bx.below bb
    try replace by_ := by_.below bb
    try replace bk := bk.below bb
    try replace okx := okx.below bb
    try replace oky := oky.below bb
    try replace ok1 := ok1.below bb
    try replace na := na.below bb
    try replace nb := nb.below bb
    try replace nc := nc.below bb
    try replace nd := nd.below bb
    try replace ne := ne.below bb
    replace bw := below_on bw bb bw.size
    clear bb
    go_wp2_with fail
    refine (fabsolute_any wn d d0 d1).mono ?_
    rintro e wn ⟨AD, cD, rfl, nb, bb⟩
    try replace bx := bx.below bb
    try replace by_ := by_.below bb
    try replace bk := bk.below bb
    try replace okx := okx.below bb
    try replace oky := oky.below bb
    try replace ok1 := ok1.below bb
    try replace na := na.below bb
    try replace nb := nb.below bb
    try replace nc := nc.below bb
    try replace nd := nd.below bb
    try replace ne := ne.below bb
    replace bw := below_on bw bb bw.size
    clear bb
    go_wp2_with fail
    refine (flowest_any _ (!(decide (n < 0) == decide (d < 0))) AN AD cN cD _ _ (lim n.natAbs) (lim d.natAbs) na nb rfl rfl NE.out (by omega) (by omega) LNN.out LDD.out).mono ?_
    rintro e wn ⟨x1, rfl, hs1, ok1, bb⟩
    have HS1 := Lib.hid hs1
    clear hs1
    try replace bx := bx.below bb
    try replace by_ := by_.below bb
    try replace bk := bk.below bb
    try replace okx := okx.below bb
    try replace oky := oky.below bb
    try replace ok1 := ok1.below bb
    try replace na := na.below bb
    try replace nb := nb.below bb
    try replace nc := nc.below bb
    try replace nd := nd.below bb
    try replace ne := ne.below bb
    replace bw := below_on bw bb bw.size
    clear bb
    have tk := bk
    obtain ⟨k0, k1, k2, kf0, kf1, kf2, klt, kb⟩ := tk
    clear kb
    go_wp2_with fail
    refine bodyPost_ret (v := .tuple #[(x1 : Fx).val, .int .i64 (frS (qv (!(decide (n < 0) == decide (d < 0))) (nv (lim n.natAbs)) (nv (lim d.natAbs)))).2.2.2]) (by simp [results, Try.results60, go_sem, k0, k1, k2]) rfl ?_
    have hS : S = frS (qv (!(decide (n < 0) == decide (d < 0))) (nv (lim n.natAbs)) (nv (lim d.natAbs))) := by
      rw [← HS.out, makeF, if_neg HD.out, nv_lim, nv_lim, qv_divInt HD.out]
    rw [hS]
    exact ⟨x1, rfl, HS1.out, set3_ok ok1 bk rfl rfl rfl, set3g bw (by omega)⟩
end Go.Proofs.Ythdfflbhogfejaa
namespace Go.Proofs.Ythdfflbhogfejaa

/-- the decimal digits, least first -/
def decR (n : Nat) : List Nat := if h : n = 0 then [] else n % 10 :: decR (n / 10)
  termination_by n
  decreasing_by omega
set_option maxRecDepth 100000 in
theorem decR_zero : decR 0 = [] := by rw [decR]; simp
set_option maxRecDepth 100000 in
theorem decR_pos {n : Nat} (h : n ≠ 0) : decR n = n % 10 :: decR (n / 10) := by rw [decR]; simp [h]
set_option maxRecDepth 100000 in
theorem decR_small (n : Nat) : ∀ d ∈ decR n, d < 10 := by
  induction n using Nat.strongRecOn with
  | ind n ih =>
    by_cases h : n = 0
    · subst h; rw [decR_zero]; intro d hd; cases hd
    · rw [decR_pos h]
      intro d hd
      rcases List.mem_cons.1 hd with rfl | hd
      · omega
      · exact ih _ (by omega) d hd
set_option maxRecDepth 100000 in
theorem decR_nil {n : Nat} : decR n = [] ↔ n = 0 := by
  constructor
  · intro h
    by_cases h0 : n = 0
    · exact h0
    · rw [decR_pos h0] at h; cases h
  · rintro rfl; exact decR_zero
set_option maxRecDepth 100000 in
theorem decR_lt (n k : Nat) : (decR n).length ≤ k ↔ n < 10 ^ k := by
  induction k generalizing n with
  | zero =>
    by_cases h : n = 0
    · subst h; rw [decR_zero]; simp
    · rw [decR_pos h]; simp; omega
  | succ k ih =>
    by_cases h : n = 0
    · subst h; rw [decR_zero]; simp [Nat.pow_pos]
    · rw [decR_pos h, List.length_cons, Nat.pow_succ]
      have h1 := ih (n / 10)
      have h2 : n / 10 < 10 ^ k ↔ n < 10 ^ k * 10 := Nat.div_lt_iff_lt_mul (by omega)
      omega
/-- a digit as a byte -/
def digB (d : Nat) : Nat := 48 + d
/-- the text of a number, as bytes -/
def decT (n : Nat) : List Nat := if n = 0 then [48] else ((decR n).map digB).reverse
/-- a list of small numbers as a string -/
def bstr (l : List Nat) : ByteArray := ⟨(l.map UInt8.ofNat).toArray⟩
end Go.Proofs.Ythdfflbhogfejaa
namespace Go.Proofs.Ythdfflbhogfejaa
open Go.RowKit

abbrev u8v (n : Nat) : Value := .int .u8 (n : Int)
set_option maxRecDepth 100000 in
theorem u8_info : (Try.prog.info? 5).map (fun i => (i.zero, i.size, i.bytes)) = some (some (.int .u8 0), 1, 1) := by kernel_rfl

set_option maxRecDepth 100000 in
theorem foldl_push (l : List Nat) (s : ByteArray) : (l.map (fun n : Nat => (n : Int))).foldl (fun r n => r.push (UInt8.ofNat n.toNat)) s = ⟨s.data ++ (l.map UInt8.ofNat).toArray⟩ := by
  induction l generalizing s with
  | nil => simp
  | cons x l ih =>
    simp only [List.map_cons, List.foldl_cons, ih, Int.toNat_natCast]
    simp [ByteArray.push]
set_option maxRecDepth 100000 in
theorem decR_len (n : Nat) : (decR n).length ≤ 10 * (lim n).length := by
  rw [decR_lt]
  refine Nat.lt_of_lt_of_le ((lim_length_le n _).1 (Nat.le_refl _)) ?_
  unfold pw
  rw [Nat.pow_mul]
  exact Nat.pow_le_pow_left (by omega) _
/-- the digits so far, and the number that is still to be written -/
def FmtInv (n M : Nat) (O : List Nat) : Prop := (decR n).map digB = O ++ (decR M).map digB
set_option maxRecDepth 100000 in
theorem FmtInv.start (n : Nat) : FmtInv n n [] := by simp [FmtInv]
set_option maxRecDepth 100000 in
theorem FmtInv.step {n M : Nat} {O : List Nat} (h : FmtInv n M O) (hM : M ≠ 0) : FmtInv n (M / 10) (O ++ [48 + M % 10]) := by
  unfold FmtInv at h ⊢
  rw [h, decR_pos hM]
  simp [digB]
set_option maxRecDepth 100000 in
theorem FmtInv.len {n M : Nat} {O : List Nat} (h : FmtInv n M O) : O.length ≤ (decR n).length := by
  have := congrArg List.length h
  simp at this
  omega
set_option maxRecDepth 100000 in
theorem FmtInv.step9 {n q r k : Nat} {O : List Nat} (h : FmtInv n (q * 10 ^ (9 - k) + r) O) (hk : k < 9) (hr : r < 10 ^ (9 - k)) (h0 : 0 < r ∨ 0 < q) :
    FmtInv n (q * 10 ^ (9 - (k + 1)) + r / 10) (O ++ [48 + r % 10]) ∧ r / 10 < 10 ^ (9 - (k + 1)) := by
  obtain ⟨m, hm⟩ : ∃ m, 9 - k = m + 1 := ⟨8 - k, by omega⟩
  have hm2 : 9 - (k + 1) = m := by omega
  rw [hm] at h hr
  rw [hm2]
  have e : q * 10 ^ (m + 1) + r = 10 * (q * 10 ^ m) + r := by rw [Nat.pow_succ]; grind
  have hp : 0 < 10 ^ m := Nat.pow_pos (by omega)
  have hM : q * 10 ^ (m + 1) + r ≠ 0 := by
    rcases h0 with h0 | h0
    · omega
    · have := Nat.mul_pos h0 hp
      omega
  have hs := h.step hM
  have e1 : (q * 10 ^ (m + 1) + r) / 10 = q * 10 ^ m + r / 10 := by rw [e]; omega
  have e2 : (q * 10 ^ (m + 1) + r) % 10 = r % 10 := by rw [e]; omega
  rw [e1, e2] at hs
  refine ⟨hs, ?_⟩
  rw [Nat.pow_succ] at hr
  omega
set_option maxRecDepth 100000 in
theorem FmtInv.exit9 {n q r k : Nat} {O : List Nat} (h : FmtInv n (q * 10 ^ (9 - k) + r) O) (hr : r < 10 ^ (9 - k)) (h0 : k = 9 ∨ (r = 0 ∧ q = 0)) : FmtInv n q O := by
  rcases h0 with h0 | ⟨h1, h2⟩
  · subst h0
    simp at hr h
    subst hr
    simpa using h
  · subst h1 h2
    simpa using h
/-- reversal in place: the first and the last i places have changed hands -/
def RevInv (L M : List Nat) (i : Nat) : Prop := M.length = L.length ∧ ∀ j (h : j < M.length) (h1 : j < L.length), M[j] = if j < i ∨ L.length ≤ j + i then L[L.length - 1 - j]'(by omega) else L[j]
set_option maxRecDepth 100000 in
theorem RevInv.start (L : List Nat) : RevInv L L 0 := ⟨rfl, fun j h _ => by rw [if_neg (by omega)]⟩
set_option maxRecDepth 100000 in
theorem RevInv.step {L M : List Nat} {i : Nat} (h : RevInv L M i) (h1 : 2 * i + 1 < L.length) (a b : Nat) (hi : i < M.length) (hk : L.length - 1 - i < M.length) (ha : M[i] = a) (hb : M[L.length - 1 - i] = b) :
    RevInv L ((M.set i b).set (L.length - 1 - i) a) (i + 1) := by
  obtain ⟨hl, hM⟩ := h
  refine ⟨by simpa using hl, fun j hj hj1 => ?_⟩
  simp only [List.length_set] at hj
  have e1 := hM i hi (by omega)
  have e2 := hM (L.length - 1 - i) hk (by omega)
  rw [if_neg (by omega)] at e1 e2
  by_cases c1 : j = L.length - 1 - i
  · subst c1
    rw [List.getElem_set_self, if_pos (by omega), ← ha, e1]
    congr 1; omega
  · rw [List.getElem_set_ne (fun e => c1 e.symm)]
    by_cases c2 : j = i
    · subst c2
      rw [List.getElem_set_self, if_pos (by omega), ← hb, e2]
    · rw [List.getElem_set_ne (fun e => c2 e.symm), hM j hj hj1]
      by_cases c3 : j < i ∨ L.length ≤ j + i
      · rw [if_pos c3, if_pos (by omega)]
      · rw [if_neg c3, if_neg (by omega)]
set_option maxRecDepth 100000 in
theorem RevInv.done {L M : List Nat} {i : Nat} (h : RevInv L M i) (h1 : L.length ≤ 2 * i + 1) : M = L.reverse := by
  obtain ⟨hl, hM⟩ := h
  apply List.ext_getElem (by simpa using hl)
  intro j h1 h2
  rw [hM j h1 (by omega), List.getElem_reverse]
  split
  · rfl
  · congr 1; omega

def fmtS (n : Nat) : ByteArray × Int := if 512 < (lim n).length then (bstr [], 2) else (bstr (decT n), 0)

/-- the length in a slot -/
def lenOf : Value → Nat | .slice _ n _ => n | _ => 0

end Go.Proofs.Ythdfflbhogfejaa
namespace Go.Proofs.Ythdfflbhogfejaa
open Go.RowKit

/-- the text of a rational number -/
def txtQ (q : Rat) : ByteArray :=
  if 1 < q.den then (if q.num < 0 then (⟨#[45]⟩ : ByteArray) ++ bstr (decT q.num.natAbs) else bstr (decT q.num.natAbs)) ++ ((⟨#[47]⟩ : ByteArray) ++ bstr (decT q.den))
  else if q.num < 0 then (⟨#[45]⟩ : ByteArray) ++ bstr (decT q.num.natAbs) else bstr (decT q.num.natAbs)
def fmtF (x : Fx) : ByteArray × Int := if x.v then (txtQ x.q, 0) else (bstr [], 1)
set_option maxRecDepth 100000 in
theorem decT_len {n k : Nat} (h : n < 10 ^ k) (hk : 0 < k) : (decT n).length ≤ k := by
  unfold decT
  split
  · simp; omega
  · simpa using (decR_lt n k).2 h
set_option maxRecDepth 100000 in
theorem lim_dec {n m : Nat} (h : (lim n).length ≤ m) : n < 10 ^ (10 * m) := by
  rw [lim_length_le] at h
  refine Nat.lt_of_lt_of_le h ?_
  rw [Nat.pow_mul]
  exact Nat.pow_le_pow_left (by omega) m
set_option maxRecDepth 100000 in
theorem bstr_size (l : List Nat) : (bstr l).size = l.length := by simp [bstr, ByteArray.size]
set_option maxRecDepth 100000 in
theorem fmtS_ok {n : Nat} (h : (lim n).length ≤ 128) : fmtS n = (bstr (decT n), 0) := by rw [fmtS, if_neg (by omega)]
set_option maxRecDepth 100000 in
theorem dec_sizes {n m : Nat} (h : (lim n).length ≤ m) (hm : 0 < m) : (bstr (decT n)).size ≤ 10 * m := by
  rw [bstr_size]; exact decT_len (lim_dec h) (by omega)
set_option maxRecDepth 100000 in
theorem dec_size {n : Nat} (h : (lim n).length ≤ 128) : (bstr (decT n)).size ≤ 1280 := dec_sizes h (by omega)
set_option maxRecDepth 100000 in
theorem redS_ok {x : Fx} (hv : x.v) : redS x = (decide (x.q.num < 0), lim x.q.num.natAbs, lim x.q.den, 0) ∧ (lim x.q.num.natAbs).length ≤ 128 ∧ (lim x.q.den).length ≤ 128 := by
  have h1 := lim_length_mono (Nat.div_le_self (nv x.xs) (Nat.gcd (nv x.xs) (nv x.ys)))
  have h2 := lim_length_mono (Nat.div_le_self (nv x.ys) (Nat.gcd (nv x.xs) (nv x.ys)))
  have h3 := hv.2.1
  have h4 := hv.2.2
  have h5 : (lim x.q.num.natAbs).length ≤ 128 ∧ (lim x.q.den).length ≤ 128 := by
    rw [Fx.q, qv_abs hv.1, qv_den hv.1]; omega
  refine ⟨?_, h5⟩
  rw [redS, if_pos hv, frS, if_neg]
  rw [bigQ]; omega
set_option maxRecDepth 100000 in
theorem heap_set_fr (w : World) (g i : Nat) (cs : Array Value) (t : TypeId) (fr : Nat × Nat) (v : Value) (hg : w.heap[g]? = some (.cells cs t fr)) :
    (w.setCell ⟨g, i, none⟩ v).heap[g]? = some (.cells (cs.setIfInBounds i v) t fr) := by
  rw [setCell_eq_setRow w g i cs t fr v hg]
  exact setRow_heap w g cs _ t _ hg
set_option maxRecDepth 100000 in
theorem bk3_set {w : World} {G : Nat} {v0 v1 v2 a b c : Value} (bk : Bk3 w G v0 v1 v2) : Bk3 (((w.setCell ⟨G, 0, none⟩ a).setCell ⟨G, 1, none⟩ b).setCell ⟨G, 2, none⟩ c) G a b c := by
  obtain ⟨k0, k1, k2, f0, f1, f2, lt, t, fr, e⟩ := bk
  refine ⟨?_, ?_, ?_, ?_, ?_, ?_, ?_, t, fr, ?_⟩
  · simp [go_sem, k0]
  · simp [go_sem, k1]
  · simp [go_sem, k2]
  · simp [go_sem, f0]
  · simp [go_sem, f1]
  · simp [go_sem, f2]
  · simp [World.setCell]; exact lt
  · exact heap_set_fr _ _ _ _ _ _ _ (heap_set_fr _ _ _ _ _ _ _ (heap_set_fr _ _ _ _ _ _ _ e))
end Go.Proofs.Ythdfflbhogfejaa
namespace Go.Proofs.Ythdfflbhogfejaa
open Go.RowKit

def q12 : Rat := Rat.divInt 1 2
def q13 : Rat := Rat.divInt (-1) (-3)
def q56 : Rat := q12 + q13
set_option maxRecDepth 100000 in
theorem sz12 : Sz q12 128 128 := by constructor <;> (rw [lim_length_le]; decide)
set_option maxRecDepth 100000 in
theorem sz13 : Sz q13 128 128 := by constructor <;> (rw [lim_length_le]; decide)
set_option maxRecDepth 100000 in
theorem sz56 : Sz q56 128 128 := by constructor <;> (rw [lim_length_le]; decide +kernel)
set_option maxRecDepth 100000 in
theorem num56 : q56.num = 5 := by decide +kernel
set_option maxRecDepth 100000 in
theorem den56 : q56.den = 6 := by decide +kernel
set_option maxRecDepth 100000 in
theorem txt56 : txtQ q56 = (⟨#[53, 47, 54]⟩ : ByteArray) := by
  rw [txtQ, num56, den56, if_pos (by omega), if_neg (by omega), decT, decT, if_neg (by decide), if_neg (by decide)]
  simp only [decR_pos, decR_zero, show Int.natAbs 5 = 5 from rfl, ne_eq, Nat.reduceEqDiff, not_false_eq_true, Nat.reduceDiv, Nat.reduceMod]
  rfl
end Go.Proofs.Ythdfflbhogfejaa
namespace Go.Proofs.Ythdfflbhogfejaa

set_option maxRecDepth 100000 in
theorem two_pow_split (k : Nat) : 2 ^ k = pw (k / 32) * 2 ^ (k % 32) := by
  unfold pw
  rw [show (4294967296 : Nat) = 2 ^ 32 from rfl, ← Nat.pow_mul, ← Nat.pow_add, Nat.div_add_mod]
set_option maxRecDepth 100000 in
/-- zeros below -/
theorem nv_low_zeros (k : Nat) (O : List Nat) : nv (List.replicate k 0 ++ O) = nv O * pw k := by
  rw [nv_append, nv_replicate, List.length_replicate, Nat.zero_add, Nat.mul_comm]
set_option maxRecDepth 100000 in
theorem nv_shift_up {O : List Nat} {m k : Nat} (h : nv O = m * 2 ^ (k % 32)) : nv (List.replicate (k / 32) 0 ++ O) = m * 2 ^ k := by
  rw [nv_low_zeros, h, two_pow_split k, Nat.mul_assoc, Nat.mul_comm (2 ^ (k % 32))]
set_option maxRecDepth 100000 in
/-- a limb of a number that is shifted down by whole limbs and some bits -/
theorem down_limb {X : List Nat} (hu : U32 X) {wh s i : Nat} (hs : s < 32) (hi : wh + i < X.length) : (X.getD (wh + i + 1) 0 * 4294967296 + X[wh + i]) / 2 ^ s % 4294967296 = nv X / (pw wh * 2 ^ s) / pw i % 4294967296 := by
  have h1 := nv_drop_div X hu (wh + i) (by omega)
  have hp : 0 < 2 ^ s := Nat.pow_pos (by omega)
  have e : nv X / (pw wh * 2 ^ s) / pw i = nv X / pw (wh + i) / 2 ^ s := by
    rw [Nat.div_div_eq_div_mul, Nat.div_div_eq_div_mul, pw_add]
    congr 1
    rw [Nat.mul_assoc, Nat.mul_comm (2 ^ s), ← Nat.mul_assoc]
  rw [e, h1]
  rcases Nat.lt_or_ge (wh + i + 1) X.length with h2 | h2
  · rw [List.drop_eq_getElem_cons hi, List.drop_eq_getElem_cons h2, nv_cons, nv_cons]
    rw [List.getD_eq_getElem?_getD, List.getElem?_eq_getElem h2, Option.getD_some]
    exact shift_limb (hu.at _ hi) (hu.at _ h2) hs
  · rw [List.drop_eq_getElem_cons hi, List.drop_eq_nil_of_le h2, nv_cons, nv_nil]
    rw [List.getD_eq_getElem?_getD, List.getElem?_eq_none h2, Option.getD_none]
    simp
set_option maxRecDepth 100000 in
theorem nv_shift_down {X R : List Nat} (hu : U32 X) {k : Nat} (hk : k / 32 < X.length) (hl : R.length = X.length - k / 32) (h : ∀ t (ht : t < R.length), R[t] = nv X / (pw (k / 32) * 2 ^ (k % 32)) / pw t % 4294967296) : nv R = nv X / 2 ^ k := by
  rw [nv_digits _ _ R hl h, ← two_pow_split]
  apply Nat.mod_eq_of_lt
  rw [Nat.div_lt_iff_lt_mul (Nat.pow_pos (by omega))]
  have h1 := nv_lt hu
  refine Nat.lt_of_lt_of_le h1 ?_
  rw [two_pow_split, ← Nat.mul_assoc, ← pw_add, show X.length - k / 32 + k / 32 = X.length from by omega]
  exact Nat.le_mul_of_pos_right _ (Nat.pow_pos (by omega))
set_option maxRecDepth 100000 in
theorem shift_down_far {X : List Nat} (hu : U32 X) {k : Nat} (hk : X.length ≤ k / 32) : nv X / 2 ^ k = 0 := by
  apply Nat.div_eq_of_lt
  have h1 := nv_lt hu
  rw [two_pow_split]
  refine Nat.lt_of_lt_of_le h1 (Nat.le_trans (pw_le hk) (Nat.le_mul_of_pos_right _ (Nat.pow_pos (by omega))))
end Go.Proofs.Ythdfflbhogfejaa
namespace Go.Proofs.Ythdfflbhogfejaa
open Go.RowKit

set_option maxRecDepth 100000 in
/-- append at a step of a region that draws its order -/
theorem step_append_rd {P : Program} (w : World) {α : Type} {mk : α → Value} (hone : ∀ x, (mk x).oneCell' = true) {ops : Array Oper} {o : Oper} {a : Act} {K : Act → World → Prop} {Q : Exit → Act → World → Prop} {X : Prop} (hgd : o.guard = none) (s x : Operand) (t : TypeId)
    (ho : o.op = .call { callee := .builtin .append, args := #[s, x], argTypes := #[t, t] })
    (e : TypeId) (i : TypeInfo) (z : Value) (bytes : Nat) (ht : P.underlying t = some (.slice e)) (hi : P.info? e = some i) (hz : i.zero = some z)
    (hsize : i.size = 1) (hby : i.bytes = bytes) (hzs : z.cells.size = 1) {B c n : Nat} {A : Option Addr} {xs : List α} (hs : a.eval s = .slice A n c) (hn : n = xs.length) (hown : Gr mk e w B A c xs)
    (A2 : Option Addr) (m c2 : Nat) (ys : List α) (hx : a.eval x = .slice A2 m c2) (hm : m = ys.length) (hr : Rd mk w A2 ys) (hmax : n + m ≤ maxLen) (hbytes : (n + m) * bytes ≤ 140737488355328) (hbase : B ≤ w.heap.size)
    (h : ∀ A' c' w', Gr mk e w' B A' c' (xs ++ ys) → w.grownBy w' (A.map (·.block)) → Below B w w' → (A'.map (·.block) = A.map (·.block) ∨ A'.map (·.block) = some w.heap.size) →
      K (a.put o.dst (.slice A' (n + m) c')) w') :
    if Region.wanted o (yielded ops a.tmps) = true then Oper.wp P o a w K Q else X := by
  have hw : Region.wanted o (yielded ops a.tmps) = true := by simp [Region.wanted, hgd]
  rw [if_pos hw]
  subst hn hm
  obtain ⟨A', c', w', hrun, h1, h2, h3, h4⟩ := run_append_rd (P := P) w hone t o.type e i z bytes ht hi hz hsize hby hzs hown A2 c2 ys hr hmax hbytes hbase
  unfold Oper.wp execOp
  simp only [ho, resolve, invoke, builtin, Sem.run_bind, Sem.run_pure, Result.andThen_ok, List.map_toArray, List.map_cons, List.map_nil, hs, hx, hrun]
  exact h A' c' w' h1 h2 h3 h4

/-- the number shifted, and the error -/
def shiftS (m : Nat) (n : Int) : List Nat × Int :=
  if 512 < (lim m).length ∨ (m ≠ 0 ∧ 16384 < n) then ([], 2) else if m = 0 ∨ n ≤ -16384 then ([], 0) else if 0 ≤ n then sizS (m * 2 ^ n.toNat) else (lim (m / 2 ^ (-n).toNat), 0)
set_option maxRecDepth 100000 in
theorem shiftS_big {m : Nat} {n : Int} (h : 512 < (lim m).length) : shiftS m n = ([], 2) := by rw [shiftS, if_pos (.inl h)]
set_option maxRecDepth 100000 in
theorem shiftS_far {m : Nat} {n : Int} (h : m ≠ 0) (h2 : 16384 < n) : shiftS m n = ([], 2) := by rw [shiftS, if_pos (.inr ⟨h, h2⟩)]
set_option maxRecDepth 100000 in
theorem shiftS_zero {m : Nat} {n : Int} (h : m = 0) : shiftS m n = ([], 0) := by subst h; rw [shiftS, if_neg (by rw [lim_zero]; simp), if_pos (.inl rfl)]
set_option maxRecDepth 100000 in
theorem shiftS_low {m : Nat} {n : Int} (h : ¬ 512 < (lim m).length) (h2 : n ≤ -16384) : shiftS m n = ([], 0) := by rw [shiftS, if_neg (by omega), if_pos (.inr h2)]
set_option maxRecDepth 100000 in
theorem shiftS_up {m k : Nat} (h : ¬ 512 < (lim m).length) (h0 : m ≠ 0) (h2 : (k : Int) ≤ 16384) : shiftS m k = sizS (m * 2 ^ k) := by rw [shiftS, if_neg (by omega), if_neg (by omega), if_pos (by omega), Int.toNat_natCast]
set_option maxRecDepth 100000 in
theorem shiftS_down {m k : Nat} (h : ¬ 512 < (lim m).length) (h0 : m ≠ 0) (h2 : (k : Int) < 16384) (h3 : 0 < k) : shiftS m (-(k : Int)) = (lim (m / 2 ^ k), 0) := by
  rw [shiftS, if_neg (by omega), if_neg (by omega), if_neg (by omega)]; simp
set_option maxRecDepth 100000 in
theorem sizS_small {m : Nat} (h : ¬ 512 < (lim m).length) : sizS m = (lim m, 0) := by rw [sizS, if_neg h]

set_option maxRecDepth 100000 in
theorem nt_alloc_drew {w : World} {A : Option Addr} {c : Nat} {xs : List Nat} (h : Nt w A c xs) (o : Obj) : Nt ((w.alloc o).drew) A c xs := h.below (below_drew ((Below.refl _ _).alloc (Nat.le_refl _) o))
set_option maxRecDepth 100000 in
/-- up, its place a letter -/
theorem up_ex (w : World) (B : Nat) (A : Option Addr) (c n s N : Nat) (xs : List Nat) (h : Nt w A c xs) (hn : xs.length = n) (hN : nv xs = N) (hs : s < 32) (hl : n ≤ 1000000) (hB : B ≤ w.heap.size) :
    Calls Try.prog 110 #[.slice A n c, .int .u64 (s : Int)] w fun e w' => ∃ (AO : Option Addr) (O : List Nat), e = .returned (.slice AO (n + 1) (n + 1)) ∧ O.length = n + 1 ∧ nv O = N * 2 ^ s ∧ Nt w' AO (n + 1) O ∧ Below w.heap.size w w' ∧ B ≤ w'.heap.size := by
  refine (up_at w _ A c n s N xs h hn hN rfl hs hl).mono ?_
  rintro e w' ⟨O, rfl, l1, v1, u1, g1, b1, z1⟩
  exact ⟨_, O, rfl, l1, v1, g1.nt u1, b1, by omega⟩
set_option maxRecDepth 100000 in
theorem gr_made (w : World) (n : Nat) (hn : n ≤ 1000000) : Gr lmv 77 (w.alloc (.cells (madeCells #[.int .u32 0] n) 77)) w.heap.size (some ⟨w.heap.size, 0, none⟩) n (List.replicate n 0) := by
  have h := Gr.lit (mk := lmv) (e := 77) (B := w.heap.size) w (List.replicate n 0) (madeCells #[.int .u32 0] n) (by rw [toList_madeCells_one, List.map_replicate]; rfl) (by simp [maxLen]; omega) (Nat.le_refl _)
  rwa [List.length_replicate] at h
set_option maxRecDepth 100000 in
theorem size_ad (w : World) (o : Obj) : w.heap.size ≤ ((w.alloc o).drew).heap.size := by
  show w.heap.size ≤ (w.alloc o).heap.size
  simp
set_option maxRecDepth 100000 in
/-- the row that was made ahead of up, and the one that was made behind it -/
theorem shift_ord1 {w w2 : World} {AO : Option Addr} {m wh : Nat} {O : List Nat} (hw : wh ≤ 1000000) (n1 : Nt w2 AO m O) (b2 : Below ((w.alloc (.cells (madeCells #[.int .u32 0] wh) 77)).drew).heap.size ((w.alloc (.cells (madeCells #[.int .u32 0] wh) 77)).drew) w2) :
    Gr lmv 77 w2 w.heap.size (some ⟨w.heap.size, 0, none⟩) wh (List.replicate wh 0) ∧ Nt w2 AO m O ∧ w.heap.size ≤ w2.heap.size ∧ Below w.heap.size w w2 :=
  ⟨(gr_made w wh hw).drew.below b2, n1, Nat.le_trans (size_ad w _) b2.size, below_on (below_drew ((Below.refl _ _).alloc (Nat.le_refl _) _)) b2 (size_ad w _)⟩
set_option maxRecDepth 100000 in
theorem shift_ord2 {w w2 : World} {AO : Option Addr} {m wh : Nat} {O : List Nat} (hw : wh ≤ 1000000) (n1 : Nt w2 AO m O) (b2 : Below w.drew.heap.size w.drew w2) :
    Gr lmv 77 (w2.alloc (.cells (madeCells #[.int .u32 0] wh) 77)) w.heap.size (some ⟨w2.heap.size, 0, none⟩) wh (List.replicate wh 0) ∧ Nt (w2.alloc (.cells (madeCells #[.int .u32 0] wh) 77)) AO m O ∧ w.heap.size ≤ (w2.alloc (.cells (madeCells #[.int .u32 0] wh) 77)).heap.size ∧ Below w.heap.size w (w2.alloc (.cells (madeCells #[.int .u32 0] wh) 77)) := by
  have hs : w.heap.size ≤ w2.heap.size := b2.size
  exact ⟨(gr_made w2 wh hw).more (by intro a e; injection e with e; subst e; exact hs), n1.below ((Below.refl _ _).alloc (Nat.le_refl _) _), Nat.le_trans hs (by simp), (below_of_drew b2).alloc hs _⟩

set_option maxRecDepth 100000 in
theorem or_low32 {x y : Nat} (hx : x < 4294967296) (hy : y < 4294967296) : bits .or .u64 (x : Int) ((y : Int) * 4294967296) = ((y * 4294967296 + x : Nat) : Int) := by
  have h := u64_or_nat x (y * 4294967296) (by omega) (by omega)
  rw [Nat.or_comm, nat_join32 (y * 4294967296) x (by omega) hx] at h
  have e1 : (((y * 4294967296 : Nat)) : Int) = (y : Int) * 4294967296 := by omega
  rw [e1] at h
  exact h
set_option maxRecDepth 100000 in
theorem cell_at_succ {w : World} {ad : Addr} {k : Nat} {v : Value} (h : w.cell? (ad.add (k + 1)) = some v) : w.cell? ⟨ad.block, ad.off + (k + 1), none⟩ = some v := by
  have e : ad.add (k + 1) = ⟨ad.block, ad.off + (k + 1), none⟩ := by unfold Addr.add; rw [if_neg (by omega)]
  rw [← e]; exact h

end Go.Proofs.Ythdfflbhogfejaa
namespace Go.Proofs.Ythdfflbhogfejaa
open Go.RowKit

set_option maxRecDepth 100000 in
theorem floor_mkRat (a : Int) {d : Nat} (hd : d ≠ 0) : (mkRat a d).floor = a / (d : Int) := by
  rw [Rat.floor_def, Rat.num_mkRat, Rat.den_mkRat, if_neg hd, if_neg hd]
  have hg : 0 < Nat.gcd d a.natAbs := Nat.gcd_pos_of_pos_left _ (Nat.pos_of_ne_zero hd)
  obtain ⟨d', hd'⟩ := Nat.gcd_dvd_left d a.natAbs
  obtain ⟨a', ha'⟩ : (Nat.gcd d a.natAbs : Int) ∣ a := Int.ofNat_dvd_left.2 (Nat.gcd_dvd_right d a.natAbs)
  generalize Nat.gcd d a.natAbs = g at *
  subst hd' ha'
  rw [Int.mul_ediv_cancel_left _ (by omega), Nat.mul_div_cancel_left _ hg, Int.natCast_mul, Int.mul_ediv_mul_of_pos _ _ (by omega)]
/-- q times 2^k, rounded -/
def rndZ (up : Bool) (q : Rat) (k : Nat) : Int := if up then (q * ((2 ^ k : Nat) : Rat)).ceil else (q * ((2 ^ k : Nat) : Rat)).floor
/-- what the code reckons -/
def rndN (b up : Bool) (N d : Nat) : Nat := if 0 < N % d ∧ b ≠ up then N / d + 1 else N / d
set_option maxRecDepth 100000 in
theorem qv_scale (b : Bool) (n d k : Nat) : qv b n d * ((2 ^ k : Nat) : Rat) = qv b (n * 2 ^ k) d := by
  have e : ((2 ^ k : Nat) : Rat) = qv false (2 ^ k) 1 := by rw [qv, Rat.mkRat_one]; rfl
  rw [e, qv_mul, Nat.mul_one]; cases b <;> rfl
set_option maxRecDepth 100000 in
theorem neg_ediv_up {N d : Nat} (hd : d ≠ 0) : (-(N : Int)) / (d : Int) = -((if 0 < N % d then N / d + 1 else N / d : Nat) : Int) := by
  have h := Nat.div_add_mod N d
  have hlt := Nat.mod_lt N (Nat.pos_of_ne_zero hd)
  have hI : (N : Int) = (d : Int) * ((N / d : Nat) : Int) + ((N % d : Nat) : Int) := by rw [← Int.natCast_mul, ← Int.natCast_add, h]
  generalize N / d = Q at *
  generalize N % d = R at *
  split
  · rename_i hr
    refine ((Int.ediv_emod_unique (r := (d : Int) - R) (by omega)).2 ⟨?_, by omega, by omega⟩).1
    rw [hI, Int.natCast_add, Int.mul_neg, Int.mul_add]; omega
  · rename_i hr
    refine ((Int.ediv_emod_unique (r := 0) (by omega)).2 ⟨?_, by omega, by omega⟩).1
    rw [hI, Int.mul_neg]; omega
set_option maxRecDepth 100000 in
theorem rndZ_qv {b up : Bool} {n d k : Nat} (hd : d ≠ 0) : rndZ up (qv b n d) k = sg b (rndN b up (n * 2 ^ k) d) := by
  rw [rndZ, qv_scale, Rat.ceil_eq_neg_floor_neg, ← qv_opp, qv, qv, floor_mkRat _ hd, floor_mkRat _ hd]
  cases b <;> cases up
  · simp [sg, rndN]
  · have := neg_ediv_up (N := n * 2 ^ k) hd
    simp only [sg, rndN, Bool.not_false, if_true, this, Int.neg_neg]
    simp
  · have := neg_ediv_up (N := n * 2 ^ k) hd
    simp only [sg, rndN, if_true, this]
    simp
  · simp [sg, rndN]
def roundF (x : Fx) (k : Int) (up : Bool) : Bool × List Nat × List Nat × Int := if x.v then (if k < 0 ∨ 256 < k then errF 5 else frS (mkRat (rndZ up x.q k.toNat) (2 ^ k.toNat))) else errF 1
set_option maxRecDepth 100000 in
theorem roundF_ok {x : Fx} {k : Int} {up : Bool} (hv : x.v) (h0 : 0 ≤ k) (h1 : k ≤ 256) : roundF x k up = frS (qv x.b (rndN x.b up (nv x.xs * 2 ^ k.toNat) (nv x.ys)) (2 ^ k.toNat)) := by
  rw [roundF, if_pos hv, if_neg (by omega), Fx.q, rndZ_qv hv.1, qv]
set_option maxRecDepth 100000 in
theorem lim_pow_le {k j : Nat} (h : k < 32 * j) : (lim (2 ^ k)).length ≤ j := by
  rw [lim_length_le, pw_two]
  exact Nat.pow_lt_pow_right (by omega) h
set_option maxRecDepth 100000 in
theorem lim_pow9 {k : Nat} (h : k ≤ 256) : (lim (2 ^ k)).length ≤ 9 := lim_pow_le (by omega)
set_option maxRecDepth 100000 in
theorem shiftS_f {m : Nat} {k : Int} {j : Nat} (hm : (lim m).length ≤ j) (hj : j ≤ 500) (h0 : 0 ≤ k) (h1 : k ≤ 256) : shiftS m k = (lim (m * 2 ^ k.toNat), 0) := by
  have h2 := len_mulf hm (lim_pow9 (k := k.toNat) (by omega))
  rw [shiftS, if_neg (by omega)]
  by_cases hz : m = 0
  · rw [if_pos (.inl hz), hz, Nat.zero_mul, lim_zero]
  · rw [if_neg (by omega), if_pos h0, sizS, if_neg (by omega)]
set_option maxRecDepth 100000 in
theorem make_one (w : World) : Calls Try.prog 90 #[.int .u64 1] w fun e w' => ∃ A c, e = .returned (.slice A (lim 1).length c) ∧ Nt w' A c (lim 1) ∧ Below w.heap.size w w' := make_any w 1 (by omega)
end Go.Proofs.Ythdfflbhogfejaa
