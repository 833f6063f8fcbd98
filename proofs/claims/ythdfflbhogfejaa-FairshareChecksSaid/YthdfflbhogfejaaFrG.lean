/- The walks of package fraction: absolute, Make. Decimal digits of a number. No program in sight. The walk of natural.Format. The walk of fraction.Format. The walk of drydocklaw02.awake. Shifting numbers by limbs and bits: plain arithmetic. The walk of natural.Shift. The walks of package fraction: round, Floor, Ceil. -/
import Derived.Test.YthdfflbhogfejaaFrE
import Derived.Test.YthdfflbhogfejaaNatC
import Derived.BigRegion
import Derived.RegionTactic
import Derived.Test.YthdfflbhogfejaaFrC
import Derived.Test.YthdfflbhogfejaaFrD
import Derived.Test.YthdfflbhogfejaaBase
import Derived.Test.YthdfflbhogfejaaDivV
import Derived.Test.YthdfflbhogfejaaFrA
import Derived.Deep.RegionLaw
import Derived.Deep.OwnRows
namespace Go.Proofs.Ythdfflbhogfejaa
set_option maxRecDepth 100000
open Go.RowKit

theorem wrapu_neg {v : Int} (h0 : -9223372036854775808 ≤ v) (h : v < 0) : IntKind.u64.wrap (-(IntKind.u64.wrap v)) = (v.natAbs : Int) := by
  rw [IntKind.wrap_u64, IntKind.wrap_u64]; omega
theorem wrapu_pos {v : Int} (h0 : 0 ≤ v) (h : v ≤ 9223372036854775807) : IntKind.u64.wrap v = (v.natAbs : Int) := by
  rw [IntKind.wrap_u64]; omega
theorem fabsolute_any (w : World) (v : Int) (h0 : -9223372036854775808 ≤ v) (h1 : v ≤ 9223372036854775807) : Calls Try.prog 80 #[.int .i64 v] w fun e w' => ∃ A c, e = .returned (.slice A (lim v.natAbs).length c) ∧ Nt w' A c (lim v.natAbs) ∧ Below w.heap.size w w' := by
  by_cases hv : v < 0
  · have hw := wrapu_neg h0 hv
    have hd : decide (v < 0) = true := decide_eq_true hv
    go_enter Try.func80, Try.ntmps80
    go_wp2_with fail
    refine (make_any w v.natAbs (by omega)).mono ?_
    rintro e wn ⟨A', c', rfl, n', bb⟩
    go_wp2_with fail
    go_ret
    exact ⟨A', c', rfl, n', bb⟩
  · have hw := wrapu_pos (Int.not_lt.1 hv) h1
    have hd : decide (v < 0) = false := decide_eq_false hv
    go_enter Try.func80, Try.ntmps80
    go_wp2_with fail
    refine (make_any w v.natAbs (by omega)).mono ?_
    rintro e wn ⟨A', c', rfl, n', bb⟩
    go_wp2_with fail
    go_ret
    exact ⟨A', c', rfl, n', bb⟩
theorem qv_divInt {n d : Int} (_hd : d ≠ 0) : qv (!(decide (n < 0) == decide (d < 0))) n.natAbs d.natAbs = Rat.divInt n d := by
  rw [qv, ← Rat.divInt_ofNat]
  rcases Int.lt_or_le d 0 with h | h
  · have e : ((d.natAbs : Nat) : Int) = -d := by omega
    rw [e, ← Rat.neg_divInt_neg, Int.neg_neg]
    congr 1
    rcases Int.lt_or_le n 0 with g | g
    · simp [sg, h, g]; omega
    · simp [sg, h, Int.not_lt.2 g]; omega
  · have e : ((d.natAbs : Nat) : Int) = d := by omega
    rw [e]
    congr 1
    rcases Int.lt_or_le n 0 with g | g
    · simp [sg, Int.not_lt.2 h, g]; omega
    · simp [sg, Int.not_lt.2 h, Int.not_lt.2 g]; omega
theorem lim_len2 {m : Nat} (h : m < 18446744073709551616) : (lim m).length ≤ 2 := by rw [lim_length_le]; exact h
def makeF (n d : Int) : Bool × List Nat × List Nat × Int := if d = 0 then errF 3 else frS (Rat.divInt n d)
set_option maxHeartbeats 1600000 in
theorem fmake_any (w : World) (n d : Int) (S : Bool × List Nat × List Nat × Int) (n0 : -9223372036854775808 ≤ n) (n1 : n ≤ 9223372036854775807) (d0 : -9223372036854775808 ≤ d) (d1 : d ≤ 9223372036854775807) (hs : makeF n d = S) : Calls Try.prog 60 #[.int .i64 n, .int .i64 d] w (FracRes w S) := by
  have HS := Lib.hid hs
  clear hs
  by_cases hd : d = 0
  · have HD := Lib.hid hd
    have hdd : (d == 0) = true := by simpa using hd
    clear hd
    go_enter Try.func60, Try.ntmps60
    go_wp2_with fail
    have bw := (Below.refl w.heap.size w).alloc (Nat.le_refl _) (.cells #[.bool false, .slice none 0 0, .slice none 0 0] 41)
    have bk := bk3_new w
    generalize (w.alloc (.cells #[.bool false, .slice none 0 0, .slice none 0 0] 41)) = w1 at bw bk ⊢
    have tk := bk
    obtain ⟨k0, k1, k2, kf0, kf1, kf2, klt, kb⟩ := tk
    clear kb
    go_wp2_with fail
    refine bodyPost_ret (v := .tuple #[(Fx.nil : Fx).val, .int .i64 3]) (by simp [results, Try.results60, go_sem, k0, k1, k2]) rfl ?_
    rw [← HS.out, makeF, if_pos HD.out]
    exact ⟨Fx.nil, rfl, ⟨rfl, rfl, rfl⟩, Fx.nil_ok _, bw⟩
  · have HD : Hid (¬ d = 0) := hd
    have hdd : (d == 0) = false := by simpa using hd
    have ln := lim_len2 (m := n.natAbs) (by omega)
    have ld := lim_len2 (m := d.natAbs) (by omega)
    have lnn : (lim (nv (lim n.natAbs))).length ≤ 512 := by rw [nv_lim]; omega
    have ldd : (lim (nv (lim d.natAbs))).length ≤ 512 := by rw [nv_lim]; omega
    have ne : nv (lim d.natAbs) ≠ 0 := by rw [nv_lim]; omega
    have LNN := Lib.hid lnn
    have LDD := Lib.hid ldd
    have NE : Hid (nv (lim d.natAbs) ≠ 0) := ne
    clear hd lnn ldd ne
    go_enter Try.func60, Try.ntmps60
    go_wp2_with fail
    have bw := (Below.refl w.heap.size w).alloc (Nat.le_refl _) (.cells #[.bool false, .slice none 0 0, .slice none 0 0] 41)
    have bk := bk3_new w
    generalize (w.alloc (.cells #[.bool false, .slice none 0 0, .slice none 0 0] 41)) = w1 at bw bk ⊢
    go_wp2_with fail
    refine (fabsolute_any w1 n n0 n1).mono ?_
    rintro e wn ⟨AN, cN, rfl, na, bb⟩
    try replace bx := bx.below bb
    try replace by_ := by_.below bb
    try replace bk := bk.below bb
    try replace okx := okx.below bb
    try replace oky := oky.below bb
    try replace ok1 := ok1.below bb
    try replace na := na.below bb
    try replace nb := nb.below bb
    try replace nc := nc.below bb
    try replace nd := nd.below bb
    try replace ne := ne.below bb
    replace bw := below_on bw bb bw.size
    clear bb
    go_wp2_with fail
    refine (fabsolute_any wn d d0 d1).mono ?_
    rintro e wn ⟨AD, cD, rfl, nb, bb⟩
    try replace bx := bx.below bb
    try replace by_ := by_.below bb
    try replace bk := bk.below bb
    try replace okx := okx.below bb
    try replace oky := oky.below bb
    try replace ok1 := ok1.below bb
    try replace na := na.below bb
    try replace nb := nb.below bb
    try replace nc := nc.below bb
    try replace nd := nd.below bb
    try replace ne := ne.below bb
    replace bw := below_on bw bb bw.size
    clear bb
    go_wp2_with fail
    refine (flowest_any _ (!(decide (n < 0) == decide (d < 0))) AN AD cN cD _ _ (lim n.natAbs) (lim d.natAbs) na nb rfl rfl NE.out (by omega) (by omega) LNN.out LDD.out).mono ?_
    rintro e wn ⟨x1, rfl, hs1, ok1, bb⟩
    have HS1 := Lib.hid hs1
    clear hs1
    try replace bx := bx.below bb
    try replace by_ := by_.below bb
    try replace bk := bk.below bb
    try replace okx := okx.below bb
    try replace oky := oky.below bb
    try replace ok1 := ok1.below bb
    try replace na := na.below bb
    try replace nb := nb.below bb
    try replace nc := nc.below bb
    try replace nd := nd.below bb
    try replace ne := ne.below bb
    replace bw := below_on bw bb bw.size
    clear bb
    have tk := bk
    obtain ⟨k0, k1, k2, kf0, kf1, kf2, klt, kb⟩ := tk
    clear kb
    go_wp2_with fail
    refine bodyPost_ret (v := .tuple #[(x1 : Fx).val, .int .i64 (frS (qv (!(decide (n < 0) == decide (d < 0))) (nv (lim n.natAbs)) (nv (lim d.natAbs)))).2.2.2]) (by simp [results, Try.results60, go_sem, k0, k1, k2]) rfl ?_
    have hS : S = frS (qv (!(decide (n < 0) == decide (d < 0))) (nv (lim n.natAbs)) (nv (lim d.natAbs))) := by
      rw [← HS.out, makeF, if_neg HD.out, nv_lim, nv_lim, qv_divInt HD.out]
    rw [hS]
    exact ⟨x1, rfl, HS1.out, set3_ok ok1 bk rfl rfl rfl, set3g bw (by omega)⟩
end Go.Proofs.Ythdfflbhogfejaa
namespace Go.Proofs.Ythdfflbhogfejaa
set_option maxRecDepth 100000

/-- the decimal digits, least first -/
def decR (n : Nat) : List Nat := if h : n = 0 then [] else n % 10 :: decR (n / 10)
  termination_by n
  decreasing_by omega
theorem decR_pos {n : Nat} (h : n ≠ 0) : decR n = n % 10 :: decR (n / 10) := by rw [decR]; simp [h]
/-- a digit as a byte -/
def digB (d : Nat) : Nat := 48 + d
/-- the text of a number, as bytes -/
def decT (n : Nat) : List Nat := if n = 0 then [48] else ((decR n).map digB).reverse
/-- a list of small numbers as a string -/
def bstr (l : List Nat) : ByteArray := ⟨(l.map UInt8.ofNat).toArray⟩
end Go.Proofs.Ythdfflbhogfejaa
namespace Go.Proofs.Ythdfflbhogfejaa
set_option maxRecDepth 100000
open Go.RowKit

abbrev u8v (n : Nat) : Value := .int .u8 (n : Int)
/-- the digits so far, and the number that is still to be written -/
def FmtInv (n M : Nat) (O : List Nat) : Prop := (decR n).map digB = O ++ (decR M).map digB
theorem FmtInv.start (n : Nat) : FmtInv n n [] := by simp [FmtInv]
theorem FmtInv.step {n M : Nat} {O : List Nat} (h : FmtInv n M O) (hM : M ≠ 0) : FmtInv n (M / 10) (O ++ [48 + M % 10]) := by
  unfold FmtInv at h ⊢
  rw [h, decR_pos hM]
  simp [digB]
theorem FmtInv.len {n M : Nat} {O : List Nat} (h : FmtInv n M O) : O.length ≤ (decR n).length := by
  have := congrArg List.length h
  simp at this
  omega
/-- reversal in place: the first and the last i places have changed hands -/
def RevInv (L M : List Nat) (i : Nat) : Prop := M.length = L.length ∧ ∀ j (h : j < M.length) (h1 : j < L.length), M[j] = if j < i ∨ L.length ≤ j + i then L[L.length - 1 - j]'(by omega) else L[j]
theorem RevInv.start (L : List Nat) : RevInv L L 0 := ⟨rfl, fun j h _ => by rw [if_neg (by omega)]⟩
theorem RevInv.step {L M : List Nat} {i : Nat} (h : RevInv L M i) (h1 : 2 * i + 1 < L.length) (a b : Nat) (hi : i < M.length) (hk : L.length - 1 - i < M.length) (ha : M[i] = a) (hb : M[L.length - 1 - i] = b) :
    RevInv L ((M.set i b).set (L.length - 1 - i) a) (i + 1) := by
  obtain ⟨hl, hM⟩ := h
  refine ⟨by simpa using hl, fun j hj hj1 => ?_⟩
  simp only [List.length_set] at hj
  have e1 := hM i hi (by omega)
  have e2 := hM (L.length - 1 - i) hk (by omega)
  rw [if_neg (by omega)] at e1 e2
  by_cases c1 : j = L.length - 1 - i
  · subst c1
    rw [List.getElem_set_self, if_pos (by omega), ← ha, e1]
    congr 1; omega
  · rw [List.getElem_set_ne (fun e => c1 e.symm)]
    by_cases c2 : j = i
    · subst c2
      rw [List.getElem_set_self, if_pos (by omega), ← hb, e2]
    · rw [List.getElem_set_ne (fun e => c2 e.symm), hM j hj hj1]
      by_cases c3 : j < i ∨ L.length ≤ j + i
      · rw [if_pos c3, if_pos (by omega)]
      · rw [if_neg c3, if_neg (by omega)]
theorem RevInv.done {L M : List Nat} {i : Nat} (h : RevInv L M i) (h1 : L.length ≤ 2 * i + 1) : M = L.reverse := by
  obtain ⟨hl, hM⟩ := h
  apply List.ext_getElem (by simpa using hl)
  intro j h1 h2
  rw [hM j h1 (by omega), List.getElem_reverse]
  split
  · rfl
  · congr 1; omega

def fmtS (n : Nat) : ByteArray × Int := if 512 < (lim n).length then (bstr [], 2) else (bstr (decT n), 0)

/-- the length in a slot -/
def lenOf : Value → Nat | .slice _ n _ => n | _ => 0

end Go.Proofs.Ythdfflbhogfejaa
namespace Go.Proofs.Ythdfflbhogfejaa
set_option maxRecDepth 100000
open Go.RowKit

/-- the text of a rational number -/
def txtQ (q : Rat) : ByteArray :=
  if 1 < q.den then (if q.num < 0 then (⟨#[45]⟩ : ByteArray) ++ bstr (decT q.num.natAbs) else bstr (decT q.num.natAbs)) ++ ((⟨#[47]⟩ : ByteArray) ++ bstr (decT q.den))
  else if q.num < 0 then (⟨#[45]⟩ : ByteArray) ++ bstr (decT q.num.natAbs) else bstr (decT q.num.natAbs)
def fmtF (x : Fx) : ByteArray × Int := if x.v then (txtQ x.q, 0) else (bstr [], 1)
theorem redS_ok {x : Fx} (hv : x.v) : redS x = (decide (x.q.num < 0), lim x.q.num.natAbs, lim x.q.den, 0) ∧ (lim x.q.num.natAbs).length ≤ 128 ∧ (lim x.q.den).length ≤ 128 := by
  have h1 := lim_length_mono (Nat.div_le_self (nv x.xs) (Nat.gcd (nv x.xs) (nv x.ys)))
  have h2 := lim_length_mono (Nat.div_le_self (nv x.ys) (Nat.gcd (nv x.xs) (nv x.ys)))
  have h3 := hv.2.1
  have h4 := hv.2.2
  have h5 : (lim x.q.num.natAbs).length ≤ 128 ∧ (lim x.q.den).length ≤ 128 := by
    rw [Fx.q, qv_abs hv.1, qv_den hv.1]; omega
  refine ⟨?_, h5⟩
  rw [redS, if_pos hv, frS, if_neg]
  rw [bigQ]; omega
end Go.Proofs.Ythdfflbhogfejaa
namespace Go.Proofs.Ythdfflbhogfejaa
set_option maxRecDepth 100000
open Go.RowKit

def q12 : Rat := Rat.divInt 1 2
def q13 : Rat := Rat.divInt (-1) (-3)
def q56 : Rat := q12 + q13
end Go.Proofs.Ythdfflbhogfejaa
namespace Go.Proofs.Ythdfflbhogfejaa
set_option maxRecDepth 100000

theorem two_pow_split (k : Nat) : 2 ^ k = pw (k / 32) * 2 ^ (k % 32) := by
  unfold pw
  rw [show (4294967296 : Nat) = 2 ^ 32 from rfl, ← Nat.pow_mul, ← Nat.pow_add, Nat.div_add_mod]
/-- zeros below -/
theorem nv_low_zeros (k : Nat) (O : List Nat) : nv (List.replicate k 0 ++ O) = nv O * pw k := by
  rw [nv_append, nv_replicate, List.length_replicate, Nat.zero_add, Nat.mul_comm]
theorem nv_shift_up {O : List Nat} {m k : Nat} (h : nv O = m * 2 ^ (k % 32)) : nv (List.replicate (k / 32) 0 ++ O) = m * 2 ^ k := by
  rw [nv_low_zeros, h, two_pow_split k, Nat.mul_assoc, Nat.mul_comm (2 ^ (k % 32))]
/-- a limb of a number that is shifted down by whole limbs and some bits -/
theorem down_limb {X : List Nat} (hu : U32 X) {wh s i : Nat} (hs : s < 32) (hi : wh + i < X.length) : (X.getD (wh + i + 1) 0 * 4294967296 + X[wh + i]) / 2 ^ s % 4294967296 = nv X / (pw wh * 2 ^ s) / pw i % 4294967296 := by
  have h1 := nv_drop_div X hu (wh + i) (by omega)
  have hp : 0 < 2 ^ s := Nat.pow_pos (by omega)
  have e : nv X / (pw wh * 2 ^ s) / pw i = nv X / pw (wh + i) / 2 ^ s := by
    rw [Nat.div_div_eq_div_mul, Nat.div_div_eq_div_mul, pw_add]
    congr 1
    rw [Nat.mul_assoc, Nat.mul_comm (2 ^ s), ← Nat.mul_assoc]
  rw [e, h1]
  rcases Nat.lt_or_ge (wh + i + 1) X.length with h2 | h2
  · rw [List.drop_eq_getElem_cons hi, List.drop_eq_getElem_cons h2, nv_cons, nv_cons]
    rw [List.getD_eq_getElem?_getD, List.getElem?_eq_getElem h2, Option.getD_some]
    exact shift_limb (hu.at _ hi) (hu.at _ h2) hs
  · rw [List.drop_eq_getElem_cons hi, List.drop_eq_nil_of_le h2, nv_cons, nv_nil]
    rw [List.getD_eq_getElem?_getD, List.getElem?_eq_none h2, Option.getD_none]
    simp
theorem nv_shift_down {X R : List Nat} (hu : U32 X) {k : Nat} (hk : k / 32 < X.length) (hl : R.length = X.length - k / 32) (h : ∀ t (ht : t < R.length), R[t] = nv X / (pw (k / 32) * 2 ^ (k % 32)) / pw t % 4294967296) : nv R = nv X / 2 ^ k := by
  rw [nv_digits _ _ R hl h, ← two_pow_split]
  apply Nat.mod_eq_of_lt
  rw [Nat.div_lt_iff_lt_mul (Nat.pow_pos (by omega))]
  have h1 := nv_lt hu
  refine Nat.lt_of_lt_of_le h1 ?_
  rw [two_pow_split, ← Nat.mul_assoc, ← pw_add, show X.length - k / 32 + k / 32 = X.length from by omega]
  exact Nat.le_mul_of_pos_right _ (Nat.pow_pos (by omega))
theorem shift_down_far {X : List Nat} (hu : U32 X) {k : Nat} (hk : X.length ≤ k / 32) : nv X / 2 ^ k = 0 := by
  apply Nat.div_eq_of_lt
  have h1 := nv_lt hu
  rw [two_pow_split]
  refine Nat.lt_of_lt_of_le h1 (Nat.le_trans (pw_le hk) (Nat.le_mul_of_pos_right _ (Nat.pow_pos (by omega))))
end Go.Proofs.Ythdfflbhogfejaa
namespace Go.Proofs.Ythdfflbhogfejaa
set_option maxRecDepth 100000
open Go.RowKit

/-- append at a step of a region that draws its order -/
theorem step_append_rd {P : Program} (w : World) {α : Type} {mk : α → Value} (hone : ∀ x, (mk x).oneCell' = true) {ops : Array Oper} {o : Oper} {a : Act} {K : Act → World → Prop} {Q : Exit → Act → World → Prop} {X : Prop} (hgd : o.guard = none) (s x : Operand) (t : TypeId)
    (ho : o.op = .call { callee := .builtin .append, args := #[s, x], argTypes := #[t, t] })
    (e : TypeId) (i : TypeInfo) (z : Value) (bytes : Nat) (ht : P.underlying t = some (.slice e)) (hi : P.info? e = some i) (hz : i.zero = some z)
    (hsize : i.size = 1) (hby : i.bytes = bytes) (hzs : z.cells.size = 1) {B c n : Nat} {A : Option Addr} {xs : List α} (hs : a.eval s = .slice A n c) (hn : n = xs.length) (hown : Gr mk e w B A c xs)
    (A2 : Option Addr) (m c2 : Nat) (ys : List α) (hx : a.eval x = .slice A2 m c2) (hm : m = ys.length) (hr : Rd mk w A2 ys) (hmax : n + m ≤ maxLen) (hbytes : (n + m) * bytes ≤ 140737488355328) (hbase : B ≤ w.heap.size)
    (h : ∀ A' c' w', Gr mk e w' B A' c' (xs ++ ys) → w.grownBy w' (A.map (·.block)) → Below B w w' → (A'.map (·.block) = A.map (·.block) ∨ A'.map (·.block) = some w.heap.size) →
      K (a.put o.dst (.slice A' (n + m) c')) w') :
    if Region.wanted o (yielded ops a.tmps) = true then Oper.wp P o a w K Q else X := by
  have hw : Region.wanted o (yielded ops a.tmps) = true := by simp [Region.wanted, hgd]
  rw [if_pos hw]
  subst hn hm
  obtain ⟨A', c', w', hrun, h1, h2, h3, h4⟩ := run_append_rd (P := P) w hone t o.type e i z bytes ht hi hz hsize hby hzs hown A2 c2 ys hr hmax hbytes hbase
  unfold Oper.wp execOp
  simp only [ho, resolve, invoke, builtin, Sem.run_bind, Sem.run_pure, Result.andThen_ok, List.map_toArray, List.map_cons, List.map_nil, hs, hx, hrun]
  exact h A' c' w' h1 h2 h3 h4

/-- the number shifted, and the error -/
def shiftS (m : Nat) (n : Int) : List Nat × Int :=
  if 512 < (lim m).length ∨ (m ≠ 0 ∧ 16384 < n) then ([], 2) else if m = 0 ∨ n ≤ -16384 then ([], 0) else if 0 ≤ n then sizS (m * 2 ^ n.toNat) else (lim (m / 2 ^ (-n).toNat), 0)
theorem or_low32 {x y : Nat} (hx : x < 4294967296) (hy : y < 4294967296) : bits .or .u64 (x : Int) ((y : Int) * 4294967296) = ((y * 4294967296 + x : Nat) : Int) := by
  have h := u64_or_nat x (y * 4294967296) (by omega) (by omega)
  rw [Nat.or_comm, nat_join32 (y * 4294967296) x (by omega) hx] at h
  have e1 : (((y * 4294967296 : Nat)) : Int) = (y : Int) * 4294967296 := by omega
  rw [e1] at h
  exact h
theorem cell_at_succ {w : World} {ad : Addr} {k : Nat} {v : Value} (h : w.cell? (ad.add (k + 1)) = some v) : w.cell? ⟨ad.block, ad.off + (k + 1), none⟩ = some v := by
  have e : ad.add (k + 1) = ⟨ad.block, ad.off + (k + 1), none⟩ := by unfold Addr.add; rw [if_neg (by omega)]
  rw [← e]; exact h

end Go.Proofs.Ythdfflbhogfejaa
namespace Go.Proofs.Ythdfflbhogfejaa
set_option maxRecDepth 100000
open Go.RowKit

/-- q times 2^k, rounded -/
def rndZ (up : Bool) (q : Rat) (k : Nat) : Int := if up then (q * ((2 ^ k : Nat) : Rat)).ceil else (q * ((2 ^ k : Nat) : Rat)).floor
/-- what the code reckons -/
def rndN (b up : Bool) (N d : Nat) : Nat := if 0 < N % d ∧ b ≠ up then N / d + 1 else N / d
def roundF (x : Fx) (k : Int) (up : Bool) : Bool × List Nat × List Nat × Int := if x.v then (if k < 0 ∨ 256 < k then errF 5 else frS (mkRat (rndZ up x.q k.toNat) (2 ^ k.toNat))) else errF 1
theorem make_one (w : World) : Calls Try.prog 90 #[.int .u64 1] w fun e w' => ∃ A c, e = .returned (.slice A (lim 1).length c) ∧ Nt w' A c (lim 1) ∧ Below w.heap.size w w' := make_any w 1 (by omega)
end Go.Proofs.Ythdfflbhogfejaa
