/- The walks of package fraction: Add, Sub. The walks of package fraction: absolute, Make. Decimal digits of a number. No program in sight. The walk of natural.Format. The walk of same.Nat: two numbers have the same limbs. The walk of same.Frac: two fractions have the same sign and the same limbs. The walk of drydocklaw02.long. -/
import Derived.Test.YtnmomigaedfdoaaFrD
import Derived.Test.YtnmomigaedfdoaaNatE
import Derived.BigRegion
import Derived.RegionTactic
import Derived.Test.YtnmomigaedfdoaaNatA
import Derived.Test.YtnmomigaedfdoaaIvB
namespace Go.Proofs.Ytnmomigaedfdoaa
set_option maxRecDepth 100000
open Go.RowKit

def addF (x y : Fx) : Bool × List Nat × List Nat × Int := if x.v ∧ y.v then frS (x.q + y.q) else errF 1
def subF (x y : Fx) : Bool × List Nat × List Nat × Int := if x.v ∧ y.v then frS (x.q - y.q) else errF 1
end Go.Proofs.Ytnmomigaedfdoaa
namespace Go.Proofs.Ytnmomigaedfdoaa
set_option maxRecDepth 100000
open Go.RowKit

theorem wrapu_pos {v : Int} (h0 : 0 ≤ v) (h : v ≤ 9223372036854775807) : IntKind.u64.wrap v = (v.natAbs : Int) := by
  rw [IntKind.wrap_u64]; omega
theorem qv_divInt {n d : Int} (_hd : d ≠ 0) : qv (!(decide (n < 0) == decide (d < 0))) n.natAbs d.natAbs = Rat.divInt n d := by
  rw [qv, ← Rat.divInt_ofNat]
  rcases Int.lt_or_le d 0 with h | h
  · have e : ((d.natAbs : Nat) : Int) = -d := by omega
    rw [e, ← Rat.neg_divInt_neg, Int.neg_neg]
    congr 1
    rcases Int.lt_or_le n 0 with g | g
    · simp [sg, h, g]; omega
    · simp [sg, h, Int.not_lt.2 g]; omega
  · have e : ((d.natAbs : Nat) : Int) = d := by omega
    rw [e]
    congr 1
    rcases Int.lt_or_le n 0 with g | g
    · simp [sg, Int.not_lt.2 h, g]; omega
    · simp [sg, Int.not_lt.2 h, Int.not_lt.2 g]; omega
theorem lim_len2 {m : Nat} (h : m < 18446744073709551616) : (lim m).length ≤ 2 := by rw [lim_length_le]; exact h
def makeF (n d : Int) : Bool × List Nat × List Nat × Int := if d = 0 then errF 3 else frS (Rat.divInt n d)
end Go.Proofs.Ytnmomigaedfdoaa
namespace Go.Proofs.Ytnmomigaedfdoaa
set_option maxRecDepth 100000

/-- the decimal digits, least first -/
def decR (n : Nat) : List Nat := if h : n = 0 then [] else n % 10 :: decR (n / 10)
  termination_by n
  decreasing_by omega
theorem decR_pos {n : Nat} (h : n ≠ 0) : decR n = n % 10 :: decR (n / 10) := by rw [decR]; simp [h]
/-- a digit as a byte -/
def digB (d : Nat) : Nat := 48 + d
/-- the text of a number, as bytes -/
def decT (n : Nat) : List Nat := if n = 0 then [48] else ((decR n).map digB).reverse
/-- a list of small numbers as a string -/
def bstr (l : List Nat) : ByteArray := ⟨(l.map UInt8.ofNat).toArray⟩
end Go.Proofs.Ytnmomigaedfdoaa
namespace Go.Proofs.Ytnmomigaedfdoaa
set_option maxRecDepth 100000
open Go.RowKit

abbrev u8v (n : Nat) : Value := .int .u8 (n : Int)
/-- the digits so far, and the number that is still to be written -/
def FmtInv (n M : Nat) (O : List Nat) : Prop := (decR n).map digB = O ++ (decR M).map digB
theorem FmtInv.start (n : Nat) : FmtInv n n [] := by simp [FmtInv]
theorem FmtInv.step {n M : Nat} {O : List Nat} (h : FmtInv n M O) (hM : M ≠ 0) : FmtInv n (M / 10) (O ++ [48 + M % 10]) := by
  unfold FmtInv at h ⊢
  rw [h, decR_pos hM]
  simp [digB]
theorem FmtInv.len {n M : Nat} {O : List Nat} (h : FmtInv n M O) : O.length ≤ (decR n).length := by
  have := congrArg List.length h
  simp at this
  omega
/-- reversal in place: the first and the last i places have changed hands -/
def RevInv (L M : List Nat) (i : Nat) : Prop := M.length = L.length ∧ ∀ j (h : j < M.length) (h1 : j < L.length), M[j] = if j < i ∨ L.length ≤ j + i then L[L.length - 1 - j]'(by omega) else L[j]
theorem RevInv.start (L : List Nat) : RevInv L L 0 := ⟨rfl, fun j h _ => by rw [if_neg (by omega)]⟩
theorem RevInv.step {L M : List Nat} {i : Nat} (h : RevInv L M i) (h1 : 2 * i + 1 < L.length) (a b : Nat) (hi : i < M.length) (hk : L.length - 1 - i < M.length) (ha : M[i] = a) (hb : M[L.length - 1 - i] = b) :
    RevInv L ((M.set i b).set (L.length - 1 - i) a) (i + 1) := by
  obtain ⟨hl, hM⟩ := h
  refine ⟨by simpa using hl, fun j hj hj1 => ?_⟩
  simp only [List.length_set] at hj
  have e1 := hM i hi (by omega)
  have e2 := hM (L.length - 1 - i) hk (by omega)
  rw [if_neg (by omega)] at e1 e2
  by_cases c1 : j = L.length - 1 - i
  · subst c1
    rw [List.getElem_set_self, if_pos (by omega), ← ha, e1]
    congr 1; omega
  · rw [List.getElem_set_ne (fun e => c1 e.symm)]
    by_cases c2 : j = i
    · subst c2
      rw [List.getElem_set_self, if_pos (by omega), ← hb, e2]
    · rw [List.getElem_set_ne (fun e => c2 e.symm), hM j hj hj1]
      by_cases c3 : j < i ∨ L.length ≤ j + i
      · rw [if_pos c3, if_pos (by omega)]
      · rw [if_neg c3, if_neg (by omega)]
theorem RevInv.done {L M : List Nat} {i : Nat} (h : RevInv L M i) (h1 : L.length ≤ 2 * i + 1) : M = L.reverse := by
  obtain ⟨hl, hM⟩ := h
  apply List.ext_getElem (by simpa using hl)
  intro j h1 h2
  rw [hM j h1 (by omega), List.getElem_reverse]
  split
  · rfl
  · congr 1; omega

def fmtS (n : Nat) : ByteArray × Int := if 512 < (lim n).length then (bstr [], 2) else (bstr (decT n), 0)

/-- the length in a slot -/
def lenOf : Value → Nat | .slice _ n _ => n | _ => 0

end Go.Proofs.Ytnmomigaedfdoaa
namespace Go.Proofs.Ytnmomigaedfdoaa
set_option maxRecDepth 100000
open Go.RowKit

theorem same_any (w : World) (A D : Option Addr) (c d n m : Nat) (xs ys : List Nat) (b : Bool) (h : Nt w A c xs) (k : Nt w D d ys) (hn : n = xs.length) (hm : m = ys.length) (hb : decide (xs = ys) = b) :
    Calls Try.prog 84 #[.slice A n c, .slice D m d] w fun e w' => e = .returned (.bool b) ∧ Qt w w' := by
  have HB := Lib.hid hb; clear hb
  subst hn hm
  have h3 := h.len
  have k3 := k.len
  by_cases hl : xs.length = ys.length
  · have HL := Lib.hid hl
    have hl1 : ((xs.length : Int) != (ys.length : Int)) = false := by simp [hl]
    have hl2 : xs.length ≤ ys.length := by omega
    clear hl
    go_enter Try.func84, Try.ntmps84
    go_wp2_with fail
    go_loopw [5] (fun i wr => ∃ k : Nat, k ≤ xs.length ∧ i = .int .i64 k ∧ (∀ j (h1 : j < xs.length) (h2 : j < ys.length), j < k → xs[j] = ys[j]) ∧ Qt w wr) (fun i _ => xs.length - (intOf i).toNat)
    case atStart => exact ⟨0, by omega, rfl, fun j _ _ h => absurd h (by omega), Qt.refl _⟩
    case round =>
      obtain ⟨i, hi, rfl, he, q⟩ := hrel
      have HE := Lib.hid he
      clear he
      by_cases hlt : i < xs.length
      · have hlt2 : i < ys.length := by omega
        obtain ⟨adX, rfl, hbX, hcX, hvX⟩ := (h.below (q.below _)).at i hlt
        obtain ⟨adY, rfl, hbY, hcY, hvY⟩ := (k.below (q.below _)).at i hlt2
        clear h k
        by_cases hxy : xs[i] = ys[i]
        · have HX := Lib.hid hxy
          have hx1 : ((xs[i] : Int) != (ys[i] : Int)) = false := by simp [hxy]
          clear hxy
          go_wp2_with fail
          go_quiet (fail)
          go_wp2_with fail
          go_roundw
          case rel => exact ⟨i + 1, by omega, by go_num, fun j h1 h2 h3 => by
            rcases Nat.lt_or_ge j i with h4 | h4
            · exact HE.out j h1 h2 h4
            · have : j = i := by omega
              subst this
              exact HX.out, q.drewN _⟩
          case measure => simp [intOf]; omega
        · have hx1 : ((xs[i] : Int) != (ys[i] : Int)) = true := by rw [bne_iff_ne]; omega
          go_wp2_with fail
          go_quiet (fail)
          go_wp2_with fail
          go_ret
          exact ⟨ret_bool (by rw [← HB.out]; symm; apply decide_eq_false; intro e; subst e; exact hxy rfl), q.drewN _⟩
      · go_wp2_with fail
        go_ret
        exact ⟨ret_bool (by rw [← HB.out]; symm; apply decide_eq_true; exact List.ext_getElem HL.out fun j h1 h2 => HE.out j h1 h2 (by omega)), q⟩
  · have hl1 : ((xs.length : Int) != (ys.length : Int)) = true := by rw [bne_iff_ne]; omega
    go_enter Try.func84, Try.ntmps84
    go_wp2_with fail
    go_ret
    exact ⟨ret_bool (by rw [← HB.out]; symm; apply decide_eq_false; intro e; exact hl (by rw [e])), Qt.refl _⟩
end Go.Proofs.Ytnmomigaedfdoaa
namespace Go.Proofs.Ytnmomigaedfdoaa
set_option maxRecDepth 100000
open Go.RowKit

set_option maxHeartbeats 1600000 in
theorem samef_any (w : World) (x y : Fx) (b : Bool) (hx : x.ok w) (hy : y.ok w) (hb : decide (x.b = y.b ∧ x.xs = y.xs ∧ x.ys = y.ys) = b) :
    Calls Try.prog 59 #[x.val, y.val] w fun e w' => e = .returned (.bool b) ∧ Below w.heap.size w w' := by
  have HB := Lib.hid hb; clear hb
  by_cases h1 : x.b = y.b
  · have h1b : (x.b == y.b) = true := by simp [h1]
    have H1 := Lib.hid h1
    clear h1
    by_cases h2 : x.xs = y.xs
    · have H2 := Lib.hid h2
      clear h2
      go_enter Try.func59, Try.ntmps59
      go_wp2_with fail
      have b0 := (Below.refl w.heap.size w).alloc (Nat.le_refl _) (.cells x.cells 26)
      have bx := bk3_alloc w (.bool x.b) (.slice x.A x.xs.length x.c) (.slice x.D x.ys.length x.d)
      have okx := hx.below b0
      have oky := hy.below b0
      have sz0 := size_box w (.cells x.cells 26)
      have bw := b0
      clear b0
      generalize (w.alloc (.cells x.cells 26)) = wa at bx okx oky sz0 bw ⊢
      have b1 := (Below.refl wa.heap.size wa).alloc (Nat.le_refl _) (.cells y.cells 26)
      have by_ := bk3_alloc wa (.bool y.b) (.slice y.A y.xs.length y.c) (.slice y.D y.ys.length y.d)
      rw [sz0] at by_
      replace bx := bx.below b1
      replace okx := okx.below b1
      replace oky := oky.below b1
      replace bw := below_on bw b1 bw.size
      clear b1 sz0
      generalize (wa.alloc (.cells y.cells 26)) = w1 at bx by_ okx oky bw ⊢
      have tx := bx
      obtain ⟨x0, x1, x2, xf0, xf1, xf2, xlt, xb⟩ := tx
      clear xb
      have ty := by_
      obtain ⟨y0, y1, y2, yf0, yf1, yf2, ylt, yb⟩ := ty
      clear yb
      go_wp2_with fail
      clear x0 x1 x2 xf0 xf1 xf2 xlt
      clear y0 y1 y2 yf0 yf1 yf2 ylt
      refine (same_any _ x.A y.A x.c y.c _ _ x.xs y.xs true okx.num oky.num rfl rfl (decide_eq_true H2.out)).mono ?_
      rintro e wn ⟨rfl, qq⟩
      have bb := qq.keep
      clear qq
      replace bx := bx.below bb
      replace by_ := by_.below bb
      replace okx := okx.below bb
      replace oky := oky.below bb
      replace bw := below_on bw bb bw.size
      clear bb
      have tx := bx
      obtain ⟨x0, x1, x2, xf0, xf1, xf2, xlt, xb⟩ := tx
      clear xb
      have ty := by_
      obtain ⟨y0, y1, y2, yf0, yf1, yf2, ylt, yb⟩ := ty
      clear yb
      go_wp2_with fail
      clear x0 x1 x2 xf0 xf1 xf2 xlt
      clear y0 y1 y2 yf0 yf1 yf2 ylt
      refine (same_any _ x.D y.D x.d y.d _ _ x.ys y.ys _ okx.den oky.den rfl rfl rfl).mono ?_
      rintro e wn ⟨rfl, qq⟩
      have bb := qq.keep
      clear qq
      replace bx := bx.below bb
      replace by_ := by_.below bb
      replace okx := okx.below bb
      replace oky := oky.below bb
      replace bw := below_on bw bb bw.size
      clear bb
      go_wp2_with fail
      go_ret
      exact ⟨ret_bool (by rw [← HB.out]; have h1 := H1.out; have h2 := H2.out; simp [h1, h2]), bw⟩
    · have H2 : Hid (¬ x.xs = y.xs) := h2
      clear h2
      go_enter Try.func59, Try.ntmps59
      go_wp2_with fail
      have b0 := (Below.refl w.heap.size w).alloc (Nat.le_refl _) (.cells x.cells 26)
      have bx := bk3_alloc w (.bool x.b) (.slice x.A x.xs.length x.c) (.slice x.D x.ys.length x.d)
      have okx := hx.below b0
      have oky := hy.below b0
      have sz0 := size_box w (.cells x.cells 26)
      have bw := b0
      clear b0
      generalize (w.alloc (.cells x.cells 26)) = wa at bx okx oky sz0 bw ⊢
      have b1 := (Below.refl wa.heap.size wa).alloc (Nat.le_refl _) (.cells y.cells 26)
      have by_ := bk3_alloc wa (.bool y.b) (.slice y.A y.xs.length y.c) (.slice y.D y.ys.length y.d)
      rw [sz0] at by_
      replace bx := bx.below b1
      replace okx := okx.below b1
      replace oky := oky.below b1
      replace bw := below_on bw b1 bw.size
      clear b1 sz0
      generalize (wa.alloc (.cells y.cells 26)) = w1 at bx by_ okx oky bw ⊢
      have tx := bx
      obtain ⟨x0, x1, x2, xf0, xf1, xf2, xlt, xb⟩ := tx
      clear xb
      have ty := by_
      obtain ⟨y0, y1, y2, yf0, yf1, yf2, ylt, yb⟩ := ty
      clear yb
      go_wp2_with fail
      clear x0 x1 x2 xf0 xf1 xf2 xlt
      clear y0 y1 y2 yf0 yf1 yf2 ylt
      refine (same_any _ x.A y.A x.c y.c _ _ x.xs y.xs false okx.num oky.num rfl rfl (decide_eq_false H2.out)).mono ?_
      rintro e wn ⟨rfl, qq⟩
      have bb := qq.keep
      clear qq
      replace bx := bx.below bb
      replace by_ := by_.below bb
      replace okx := okx.below bb
      replace oky := oky.below bb
      replace bw := below_on bw bb bw.size
      clear bb
      go_wp2_with fail
      go_ret
      exact ⟨ret_bool (by rw [← HB.out]; symm; apply decide_eq_false; intro h; exact H2.out h.2.1), bw⟩
  · have h1b : (x.b == y.b) = false := by simpa using h1
    have H1 : Hid (¬ x.b = y.b) := h1
    clear h1
    go_enter Try.func59, Try.ntmps59
    go_wp2_with fail
    have b0 := (Below.refl w.heap.size w).alloc (Nat.le_refl _) (.cells x.cells 26)
    have bx := bk3_alloc w (.bool x.b) (.slice x.A x.xs.length x.c) (.slice x.D x.ys.length x.d)
    have okx := hx.below b0
    have oky := hy.below b0
    have sz0 := size_box w (.cells x.cells 26)
    have bw := b0
    clear b0
    generalize (w.alloc (.cells x.cells 26)) = wa at bx okx oky sz0 bw ⊢
    have b1 := (Below.refl wa.heap.size wa).alloc (Nat.le_refl _) (.cells y.cells 26)
    have by_ := bk3_alloc wa (.bool y.b) (.slice y.A y.xs.length y.c) (.slice y.D y.ys.length y.d)
    rw [sz0] at by_
    replace bx := bx.below b1
    replace okx := okx.below b1
    replace oky := oky.below b1
    replace bw := below_on bw b1 bw.size
    clear b1 sz0
    generalize (wa.alloc (.cells y.cells 26)) = w1 at bx by_ okx oky bw ⊢
    have tx := bx
    obtain ⟨x0, x1, x2, xf0, xf1, xf2, xlt, xb⟩ := tx
    clear xb
    have ty := by_
    obtain ⟨y0, y1, y2, yf0, yf1, yf2, ylt, yb⟩ := ty
    clear yb
    go_wp2_with fail
    go_ret
    exact ⟨ret_bool (by rw [← HB.out]; symm; apply decide_eq_false; intro h; exact H1.out h.1), bw⟩
end Go.Proofs.Ytnmomigaedfdoaa
namespace Go.Proofs.Ytnmomigaedfdoaa
set_option maxRecDepth 100000
open Go.RowKit

/-- a slice that reads as fractions -/
def RdF (w : World) (A : Option Addr) (vs : List Fx) : Prop := 0 < vs.length → ∃ ad, A = some ad ∧ ad.block < w.heap.size ∧
  ∀ k (hk : k < vs.length), w.cell? (ad.add (k * 3)) = some (.bool vs[k].b) ∧ w.cell? ⟨(ad.add (k * 3)).block, (ad.add (k * 3)).off + 1, none⟩ = some (.slice vs[k].A vs[k].xs.length vs[k].c) ∧ w.cell? ⟨(ad.add (k * 3)).block, (ad.add (k * 3)).off + 2, none⟩ = some (.slice vs[k].D vs[k].ys.length vs[k].d)
def longB (vs : List Fx) : Bool := vs.any (fun v => decide (24 < v.xs.length) || decide (24 < v.ys.length))
end Go.Proofs.Ytnmomigaedfdoaa
