/- More digits: an interval inside the one with fewer. -/
import Derived.Test.YtnmomigaedfdoaaOpen
namespace Go.Proofs.Ytnmomigaedfdoaa
set_option maxRecDepth 100000
open Go.RowKit

theorem flo_nest {b d m m' : Nat} {q : Rat} {s : Nat → Rat} (hq : 0 ≤ q) (h : Flo (2 ^ b) m q s) (k : Flo (2 ^ (b + d)) m' q s) : m * 2 ^ d ≤ m' ∧ m' + 1 ≤ (m + 1) * 2 ^ d := by
  obtain ⟨M1, h⟩ := h
  obtain ⟨M2, k⟩ := k
  obtain ⟨h1, h2⟩ := h (max M1 M2 + 1) (by omega)
  obtain ⟨k1, k2⟩ := k (max M1 M2 + 1) (by omega)
  have p1 : 0 < eq_ q (max M1 M2 + 1) := by have := eq_one_le hq (max M1 M2); grind
  have e : ((2 ^ (b + d) : Nat) : Rat) = ((2 ^ b : Nat) : Rat) * ((2 ^ d : Nat) : Rat) := by rw [Nat.pow_add, Rat.natCast_mul]
  have hD := two_pos d
  rw [e] at k1 k2
  generalize ((2 ^ b : Nat) : Rat) = B at *
  generalize eq_ q (max M1 M2 + 1) = S at *
  generalize s (max M1 M2 + 1) = w at *
  constructor
  · apply Classical.byContradiction
    intro hc
    have c1 : ((m' + 1 : Nat) : Rat) ≤ ((m * 2 ^ d : Nat) : Rat) := by exact_mod_cast (show m' + 1 ≤ m * 2 ^ d by omega)
    rw [Rat.natCast_mul] at c1
    have c2 := Rat.mul_le_mul_of_nonneg_right c1 (Rat.le_of_lt p1)
    have c3 := Rat.mul_le_mul_of_nonneg_right h1 (Rat.le_of_lt hD)
    grind
  · apply Classical.byContradiction
    intro hc
    have c1 : (((m + 1) * 2 ^ d : Nat) : Rat) ≤ (m' : Rat) := by exact_mod_cast (show (m + 1) * 2 ^ d ≤ m' by omega)
    rw [Rat.natCast_mul] at c1
    have c2 := Rat.mul_le_mul_of_nonneg_right c1 (Rat.le_of_lt p1)
    have c3 : B * w * ((2 ^ d : Nat) : Rat) < ((m + 1 : Nat) : Rat) * S * ((2 ^ d : Nat) : Rat) := Rat.mul_lt_mul_of_pos_right h2 hD
    grind
theorem prt_shift (m b d : Nat) : prt (m * 2 ^ d) (b + d) = prt m b := by
  have h1 := prt_mul (m * 2 ^ d) (b + d)
  have h2 := prt_mul m b
  have h3 := two_pos (b + d)
  have e : ((2 ^ (b + d) : Nat) : Rat) = ((2 ^ b : Nat) : Rat) * ((2 ^ d : Nat) : Rat) := by rw [Nat.pow_add, Rat.natCast_mul]
  rw [Rat.natCast_mul] at h1
  have h4 : (prt (m * 2 ^ d) (b + d) - prt m b) * ((2 ^ (b + d) : Nat) : Rat) = 0 := by
    have : (prt (m * 2 ^ d) (b + d) - prt m b) * ((2 ^ (b + d) : Nat) : Rat) = prt (m * 2 ^ d) (b + d) * ((2 ^ (b + d) : Nat) : Rat) - prt m b * ((2 ^ b : Nat) : Rat) * ((2 ^ d : Nat) : Rat) := by
      rw [e]; grind
    rw [this, h1, h2]; grind
  rcases Rat.mul_eq_zero.1 h4 with h | h
  · grind
  · grind
theorem prt_wid (m b : Nat) : prt (m + 1) b - prt m b = prt 1 b := by
  have h1 := prt_mul (m + 1) b
  have h2 := prt_mul m b
  have h3 := prt_mul 1 b
  have h5 := two_pos b
  rw [Rat.natCast_add] at h1
  have h4 : (prt (m + 1) b - prt m b - prt 1 b) * ((2 ^ b : Nat) : Rat) = 0 := by grind
  rcases Rat.mul_eq_zero.1 h4 with h | h
  · grind
  · grind
/-- one interval inside another -/
def InsP (i j : Ix) : Prop := ∃ a b c d, Ri i a b ∧ Ri j c d ∧ c ≤ a ∧ b ≤ d
theorem ins_plain {q : Rat} {n b d kind zv : Nat} {i j : Ix} (hq : Lq q) (hn : n ≤ 256) (b0 : 1 ≤ b) (b1 : b + d ≤ 63) (hk : kind ≤ 2) (hk0 : kind = 0 → n = 0) (hz : zv ≤ 1) (h : encP q n (b + d) kind zv i) (k : encP q n b kind zv j) : InsP i j := by
  rcases enc_ri h hq hn (by omega) (by omega) hk hk0 hz with ⟨e0, r1, _⟩ | ⟨e0, m', _, r1, _, _, f1⟩
  · rcases enc_ri k hq hn b0 (by omega) hk hk0 hz with ⟨_, r2, _⟩ | ⟨e1, _⟩
    · exact ⟨_, _, _, _, r1, r2, Rat.le_refl, Rat.le_refl⟩
    · exact absurd e0 e1
  · rcases enc_ri k hq hn b0 (by omega) hk hk0 hz with ⟨e1, _⟩ | ⟨_, m, _, r2, _, _, f2⟩
    · exact absurd e1 e0
    · obtain ⟨n1, n2⟩ := flo_nest hq.nn f2 f1
      refine ⟨_, _, _, _, r1, r2, ?_, ?_⟩
      · rw [← prt_shift m b d]; exact prt_mono n1
      · rw [← prt_shift (m + 1) b d]; exact prt_mono n2
/-- the width of an interval -/
def WidP (i : Ix) (q : Rat) (b : Nat) : Prop := ∃ a c, Ri i a c ∧ Sz (c - a) 128 128 ∧ (q ≠ 0 → c - a = prt 1 b)
theorem wid_plain {q : Rat} {n b kind zv : Nat} {i : Ix} (hq : Lq q) (hn : n ≤ 256) (b0 : 1 ≤ b) (b1 : b ≤ 63) (hk : kind ≤ 2) (hk0 : kind = 0 → n = 0) (hz : zv ≤ 1) (h : encP q n b kind zv i) : WidP i q b := by
  rcases enc_ri h hq hn b0 b1 hk hk0 hz with ⟨e0, r1, s1⟩ | ⟨e0, m, _, r1, s1, s2, _⟩
  · exact ⟨_, _, r1, (Sz.sub s1 s1).mono (by omega) (by omega), fun k => absurd e0 k⟩
  · exact ⟨_, _, r1, (Sz.sub s2 s1).mono (by omega) (by omega), fun _ => prt_wid m b⟩
theorem numQ_pos {num den : Nat} (h : num ≠ 0) : numQ num den ≠ 0 := by
  have h1 : numP num den ≠ 0 := by
    rw [numP, Rat.divInt_eq_div]
    intro k
    have hd : ((((den : Int) + 1 : Int)) : Rat) ≠ 0 := by
      have : (0 : Rat) < (((den : Int) + 1 : Int) : Rat) := by exact_mod_cast (show (0 : Int) < (den : Int) + 1 by omega)
      grind
    have e := Rat.div_mul_cancel (a := (((num : Int)) : Rat)) hd
    rw [k] at e
    have hn : (((num : Int)) : Rat) ≠ 0 := by exact_mod_cast (show (num : Int) ≠ 0 by omega)
    grind
  rw [numQ]
  split
  · decide
  · exact h1
/-- the reference's Power -/
theorem rpower_rp (w : World) (b : Nat) (hb : b ≤ 64) :
    Calls Try.prog 34 #[.int .i64 (b : Int)] w fun e w' => ∃ z : Fx, e = .returned z.val ∧ z.q = prt 1 b ∧ z.v ∧ z.few ∧ z.ok w' ∧ Below w.heap.size w w' := by
  refine (rfpower_any w (b : Int) (lim (2 ^ b)) (by omega) (by omega) (by rw [Int.toNat_natCast])).mono fun e w' ⟨z, he, ⟨h1, h2, h3⟩, ok, bb⟩ => ?_
  have hp := pow64 hb
  have l1 := len128 (m := 2 ^ b) (by omega)
  refine ⟨z, he, ?_, ?_, ⟨?_, ?_⟩, ok, bb⟩
  · rw [Fx.q, h1, h2, h3, nv_lim, nv_1]
  · rw [Fx.v, h2, h3, nv_lim, nv_1]
    exact ⟨by omega, l1, len128 (by omega)⟩
  · rw [h2]; show 1 ≤ 10000; omega
  · rw [h3]; show (lim (2 ^ b)).length ≤ 10000; omega
/-- the cells of an interval, of a fraction -/
def Celi (w : World) (G : Nat) (i : Ix) : Prop := w.cell? ⟨G, 0, none⟩ = some (.bool i.lo.b) ∧ w.cell? ⟨G, 1, none⟩ = some (.slice i.lo.A i.lo.xs.length i.lo.c) ∧ w.cell? ⟨G, 2, none⟩ = some (.slice i.lo.D i.lo.ys.length i.lo.d) ∧ w.cell? ⟨G, 3, none⟩ = some (.bool i.hi.b) ∧ w.cell? ⟨G, 4, none⟩ = some (.slice i.hi.A i.hi.xs.length i.hi.c) ∧ w.cell? ⟨G, 5, none⟩ = some (.slice i.hi.D i.hi.ys.length i.hi.d)
theorem Ia.cel {w : World} {G : Nat} {i : Ix} (h : Ia w G i) : Celi w G i := ⟨h.c0, h.c1, h.c2, h.c3, h.c4, h.c5⟩
def Celf (w : World) (G : Nat) (x : Fx) : Prop := w.cell? ⟨G, 0, none⟩ = some (.bool x.b) ∧ w.cell? ⟨G, 1, none⟩ = some (.slice x.A x.xs.length x.c) ∧ w.cell? ⟨G, 2, none⟩ = some (.slice x.D x.ys.length x.d)
theorem Fa.cel {w : World} {G : Nat} {x : Fx} (h : Fa w G x) : Celf w G x := ⟨h.c0, h.c1, h.c2⟩
end Go.Proofs.Ytnmomigaedfdoaa
