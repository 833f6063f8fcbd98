/- The walk of ExpoMonotone. Arguments that came in, opened to what the walks ask. -/
import Derived.Test.YtnmomigaedfdoaaEnA
import Derived.Test.YtnmomigaedfdoaaEnS
import Derived.Test.YtnmomigaedfdoaaRows
import Derived.Test.YtnmomigaedfdoaaBase
import Derived.ProofKit
import Derived.OpenShut
import Derived.ShutString
import Derived.ChangeOld
import Derived.Below
namespace Go.Proofs.Ytnmomigaedfdoaa
set_option maxRecDepth 100000
open Go.RowKit

theorem numQ_lq {num den : Nat} (hn : num < 65536) (hd : den < 256) : Lq (numQ num den) := by
  obtain ⟨_, h2, h3, h4⟩ := numQ_ok hn hd
  refine ⟨h2, xok_of (bits := 1) (n := 0) ?_ h4, numQ_den num hd⟩
  rintro (k | k | k | k | k | k)
  · exact absurd k (by grind)
  · exact h3 k
  · omega
  · omega
  · omega
  · omega
theorem numQ_mono {a b den : Nat} (h : a ≤ b) : numQ a den ≤ numQ b den := by
  have hp : numP a den ≤ numP b den := by
    rw [numP, numP, Rat.divInt_eq_div, Rat.divInt_eq_div, Rat.div_def, Rat.div_def]
    refine Rat.mul_le_mul_of_nonneg_right (by exact_mod_cast h) ?_
    have : (0 : Rat) < (((den : Int) + 1 : Int) : Rat) := by exact_mod_cast (show (0 : Int) < (den : Int) + 1 by omega)
    exact Rat.le_of_lt (Rat.inv_pos.2 this)
  rw [numQ, numQ]
  split
  · rw [if_pos (by grind)]; exact Rat.le_refl
  · split
    · grind
    · exact hp
/-- the lower end of an interval -/
theorem iv_lo {q : Rat} {n b kind zv : Nat} {i : Ix} (h : encP q n b kind zv i) (hq : Lq q) (hn : n ≤ 256) (b0 : 1 ≤ b) (b1 : b ≤ 63) (hk : kind ≤ 2) (hk0 : kind = 0 → n = 0) (hz : zv ≤ 1) :
    ∃ m, m ≤ 2 ^ b ∧ Rp i.lo (prt m b) ∧ ((q = 0 ∧ m = zv * 2 ^ b) ∨ (q ≠ 0 ∧ Flo (2 ^ b) m q (sV kind n q))) := by
  rcases enc_iv h hq hn b0 b1 hk hk0 with ⟨h0, h1, _⟩ | ⟨h0, m, h1⟩
  · rcases (show zv = 0 ∨ zv = 1 by omega) with rfl | rfl
    · exact ⟨0, Nat.zero_le _, by rw [prt_zero]; exact h1, Or.inl ⟨h0, by omega⟩⟩
    · exact ⟨2 ^ b, Nat.le_refl _, by rw [prt_full]; exact h1, Or.inl ⟨h0, by omega⟩⟩
  · exact ⟨m, h1.le, h1.lo, Or.inr ⟨h0, h1.fl⟩⟩
/-- what the law compares -/
def MonP (iu iv is it iw : Ix) (b : Nat) : Prop := ∃ mu mv ms mt mw, (mu ≤ 2 ^ b ∧ mv ≤ 2 ^ b ∧ ms ≤ 2 ^ b ∧ mt ≤ 2 ^ b ∧ mw ≤ 2 ^ b) ∧ (Rp iu.lo (prt mu b) ∧ Rp iv.lo (prt mv b) ∧ Rp is.lo (prt ms b) ∧ Rp it.lo (prt mt b) ∧ Rp iw.lo (prt mw b)) ∧ mv ≤ mu ∧ ms ≤ mt ∧ mw ≤ ms
theorem mon_plain {x y : Rat} {b n : Nat} {iu iv is it iw : Ix} (hx : Lq x) (hy : Lq y) (hxy : x ≤ y) (hn : n + 1 ≤ 256) (b0 : 1 ≤ b) (b1 : b ≤ 63)
    (h1 : encP x 0 b 0 1 iu) (h2 : encP y 0 b 0 1 iv) (h3 : encP x n b 2 0 is) (h4 : encP y n b 2 0 it) (h5 : encP x (n + 1) b 2 0 iw) : MonP iu iv is it iw b := by
  obtain ⟨mu, u1, u2, u3⟩ := iv_lo h1 hx (by omega) b0 b1 (by omega) (fun _ => rfl) (by omega)
  obtain ⟨mv, v1, v2, v3⟩ := iv_lo h2 hy (by omega) b0 b1 (by omega) (fun _ => rfl) (by omega)
  obtain ⟨ms, s1, s2, s3⟩ := iv_lo h3 hx (by omega) b0 b1 (by omega) (fun h => absurd h (by omega)) (by omega)
  obtain ⟨mt, t1, t2, t3⟩ := iv_lo h4 hy (by omega) b0 b1 (by omega) (fun h => absurd h (by omega)) (by omega)
  obtain ⟨mw, w1, w2, w3⟩ := iv_lo h5 hx (by omega) b0 b1 (by omega) (fun h => absurd h (by omega)) (by omega)
  refine ⟨mu, mv, ms, mt, mw, ⟨u1, v1, s1, t1, w1⟩, ⟨u2, v2, s2, t2, w2⟩, ?_, ?_, ?_⟩
  · rcases u3 with ⟨e, e2⟩ | ⟨e, f⟩
    · rw [e2]; omega
    · rcases v3 with ⟨e3, _⟩ | ⟨_, g⟩
      · have := hx.nn
        exact absurd (show x = 0 by grind) e
      · exact flo_le hy.nn hx.nn g f (exp_cross hx.nn hxy 0)
  · rcases s3 with ⟨e, e2⟩ | ⟨e, f⟩
    · rw [e2]; omega
    · rcases t3 with ⟨e3, _⟩ | ⟨_, g⟩
      · have := hx.nn
        exact absurd (show x = 0 by grind) e
      · exact flo_le hx.nn hy.nn f g (tail_cross hx.nn hxy n)
  · rcases w3 with ⟨e, e2⟩ | ⟨e, f⟩
    · rw [e2]; omega
    · rcases s3 with ⟨e3, _⟩ | ⟨_, g⟩
      · exact absurd e3 e
      · exact flo_le hx.nn hx.nn f g (tail_next hx.nn n)
/-- the arithmetic of the bits asked for -/
theorem bits_mod (bs c : Nat) (_hc : 0 < c) : (bs : Int).tmod (c : Int) = ((bs % c : Nat) : Int) := by
  rw [Int.tmod_eq_emod_of_nonneg (by omega)]; exact (Int.natCast_emod bs c).symm
set_option maxHeartbeats 3200000 in
theorem mon_walk (w : World) (na nb den ns bs : Nat) (ha : na < 65536) (hb : nb < 65536) (hd : den < 256) (hns : ns < 256) (hbs : bs < 256) :
    Calls Try.prog 6 #[.int .u16 (na : Int), .int .u16 (nb : Int), .int .u8 (den : Int), .int .u8 (ns : Int), .int .u8 (bs : Int)] w fun e w' => e = .returned (.bool true) ∧ Below w.heap.size w w' := by
  go_enter Try.func6, Try.ntmps6
  go_upto_region 1 with fail
  go_cut [11, 12] (fun s11 s12 wx => ∃ (G H : Nat) (x y : Fx), s11 = .pointer (some ⟨G, 0, none⟩) ∧ s12 = .pointer (some ⟨H, 0, none⟩) ∧ Rp x (numQ (min na nb) den) ∧ Rp y (numQ (max na nb) den) ∧ Fa wx G x ∧ Fa wx H y ∧ Below w.heap.size w wx)
  case first =>
    rcases Nat.lt_trichotomy na nb with h | h | h
    · have e1 : decide ((na : Int) < (nb : Int)) = true := decide_eq_true (by omega)
      have e2 : decide ((nb : Int) < (na : Int)) = false := decide_eq_false (by omega)
      have e3 : decide ((na : Int) ≤ (nb : Int)) = true := decide_eq_true (by omega)
      have e4 : decide ((nb : Int) ≤ (na : Int)) = false := decide_eq_false (by omega)
      go_wp2_with fail
      refine (number_any w na den ha hd).mono ?_
      rintro _ w1 ⟨x, rfl, rx, okx, bw⟩
      go_wp2_with fail
      refine (number_any w1 nb den hb hd).mono ?_
      rintro _ w2 ⟨y, rfl, ry, oky, bb⟩
      replace okx := okx.below bb
      replace bw := below_on bw bb bw.size
      clear bb
      have a11 := (fa_alloc okx).1
      have bb := (fa_alloc okx).2
      have sz := size_al w2 (.cells #[.bool x.b, .slice x.A x.xs.length x.c, .slice x.D x.ys.length x.d] 26)
      replace oky := oky.below bb
      replace bw := below_on bw bb bw.size
      have a12 := (fa_alloc oky).1
      have bc := (fa_alloc oky).2
      replace a11 := a11.below bc
      replace bw := below_on bw bc bw.size
      clear bb bc okx oky
      go_wp2_with fail
      go_meet
      case rel => exact ⟨_, _, x, y, rfl, by rw [sz], by rw [show min na nb = na by omega]; exact rx, by rw [show max na nb = nb by omega]; exact ry, a11, a12, bw⟩
    · subst h
      go_wp2_with fail
      refine (number_any w na den ha hd).mono ?_
      rintro _ w1 ⟨x, rfl, rx, okx, bw⟩
      go_wp2_with fail
      refine (number_any w1 na den ha hd).mono ?_
      rintro _ w2 ⟨y, rfl, ry, oky, bb⟩
      replace okx := okx.below bb
      replace bw := below_on bw bb bw.size
      clear bb
      have a11 := (fa_alloc okx).1
      have bb := (fa_alloc okx).2
      have sz := size_al w2 (.cells #[.bool x.b, .slice x.A x.xs.length x.c, .slice x.D x.ys.length x.d] 26)
      replace oky := oky.below bb
      replace bw := below_on bw bb bw.size
      have a12 := (fa_alloc oky).1
      have bc := (fa_alloc oky).2
      replace a11 := a11.below bc
      replace bw := below_on bw bc bw.size
      clear bb bc okx oky
      go_wp2_with fail
      go_meet
      case rel => exact ⟨_, _, x, y, rfl, by rw [sz], by rw [show min na na = na by omega]; exact rx, by rw [show max na na = na by omega]; exact ry, a11, a12, bw⟩
    · have e1 : decide ((na : Int) < (nb : Int)) = false := decide_eq_false (by omega)
      have e2 : decide ((nb : Int) < (na : Int)) = true := decide_eq_true (by omega)
      have e3 : decide ((na : Int) ≤ (nb : Int)) = false := decide_eq_false (by omega)
      have e4 : decide ((nb : Int) ≤ (na : Int)) = true := decide_eq_true (by omega)
      go_wp2_with fail
      refine (number_any w nb den hb hd).mono ?_
      rintro _ w1 ⟨x, rfl, rx, okx, bw⟩
      go_wp2_with fail
      refine (number_any w1 na den ha hd).mono ?_
      rintro _ w2 ⟨y, rfl, ry, oky, bb⟩
      replace okx := okx.below bb
      replace bw := below_on bw bb bw.size
      clear bb
      have a11 := (fa_alloc okx).1
      have bb := (fa_alloc okx).2
      have sz := size_al w2 (.cells #[.bool x.b, .slice x.A x.xs.length x.c, .slice x.D x.ys.length x.d] 26)
      replace oky := oky.below bb
      replace bw := below_on bw bb bw.size
      have a12 := (fa_alloc oky).1
      have bc := (fa_alloc oky).2
      replace a11 := a11.below bc
      replace bw := below_on bw bc bw.size
      clear bb bc okx oky
      go_wp2_with fail
      go_meet
      case rel => exact ⟨_, _, x, y, rfl, by rw [sz], by rw [show min na nb = nb by omega]; exact rx, by rw [show max na nb = na by omega]; exact ry, a11, a12, bw⟩
  case rest =>
    obtain ⟨g11, g12, x, y, rfl, rfl, rx, ry, a11, a12, bw⟩ := hcut
    have hna : min na nb < 65536 := by omega
    have hnb : max na nb < 65536 := by omega
    have RX := Lib.hid rx
    have RY := Lib.hid ry
    have LX := Lib.hid (numQ_lq hna hd)
    have LY := Lib.hid (numQ_lq hnb hd)
    have SX := Lib.hid (numQ_ok hna hd).1
    have SY := Lib.hid (numQ_ok hnb hd).1
    have HXY := Lib.hid (numQ_mono (den := den) (show min na nb ≤ max na nb by omega))
    have CX : Hid (∀ (b : Nat) (n : Int), 1 ≤ b → b ≤ 64 → 0 ≤ n → n ≤ 256 → chkE x (b : Int) n = 0) := Lib.hid (fun b n h1 h2 h3 h4 => num_chk rx hna hd h1 h2 h3 h4)
    have CY : Hid (∀ (b : Nat) (n : Int), 1 ≤ b → b ≤ 64 → 0 ≤ n → n ≤ 256 → chkE y (b : Int) n = 0) := Lib.hid (fun b n h1 h2 h3 h4 => num_chk ry hnb hd h1 h2 h3 h4)
    clear rx ry hna hnb
    obtain ⟨p, hp⟩ : ∃ p, numQ (min na nb) den = p := ⟨_, rfl⟩
    obtain ⟨q, hq⟩ : ∃ q, numQ (max na nb) den = q := ⟨_, rfl⟩
    rw [hp] at RX LX SX HXY
    rw [hq] at RY LY SY HXY
    clear hp hq
    have L1 := Lib.hid (RX.out.l1 SX.out)
    have L2 := Lib.hid (RX.out.l2 SX.out)
    have M1 := Lib.hid (RY.out.l1 SY.out)
    have M2 := Lib.hid (RY.out.l2 SY.out)
    have em := bits_mod bs 60 (by omega)
    have en := bits_mod ns 200 (by omega)
    have em2 : (bs : Int) % 60 = ((bs % 60 : Nat) : Int) := by omega
    have en2 : (ns : Int) % 200 = ((ns % 200 : Nat) : Int) := by omega
    obtain ⟨r, hr⟩ : ∃ r, bs % 60 = r := ⟨_, rfl⟩
    obtain ⟨n, hn⟩ : ∃ n, ns % 200 = n := ⟨_, rfl⟩
    rw [hr] at em em2
    rw [hn] at en en2
    have hr60 : r < 60 := by omega
    have hn200 : n < 200 := by omega
    obtain ⟨b, hbb⟩ : ∃ b, 1 + r = b := ⟨_, rfl⟩
    have HB : Hid (1 ≤ b ∧ b ≤ 60) := Lib.hid (by omega)
    have HN : Hid (n < 200) := Lib.hid hn200
    have HBE : Hid ((1 : Int) + (r : Int) = (b : Int)) := Lib.hid (by omega)
    clear hr hn hbb
    go_upto_region 4 with fail
    rw [HBE.out, en2]
    clear em em2 en en2 hr60
    generalize wc = wn at *
    have ci0 := a11.c0
    have ci1 := a11.c1
    have ci2 := a11.c2
    go_wp2_with fail
    clear ci0 ci1 ci2
    refine (xexp_any _ x (b : Int) 0 a11.ok L1.out L2.out (CX.out b 0 HB.out.1 (by have := HB.out; omega) (by omega) (by omega))).mono ?_
    rintro _ wn ⟨i15, rfl, ok15, hi15, bb⟩
    have HI15 := Lib.hid (hi15 rfl)
    clear hi15
    try replace a11 := a11.below bb
    try replace a12 := a12.below bb
    replace bw := below_on bw bb bw.size
    clear bb
    go_upto_region 5 with fail
    have a15 := (ia_alloc ok15).1
    have bb := (ia_alloc ok15).2
    clear ok15
    generalize (wn.alloc (.cells i15.cells 35)) = wm at a15 bb ⊢
    try replace a11 := a11.below bb
    try replace a12 := a12.below bb
    try replace a15 := a15.below bb
    replace bw := below_on bw bb bw.size
    clear bb
    generalize wn.heap.size = g15 at a15 ⊢
    have ci0 := a12.c0
    have ci1 := a12.c1
    have ci2 := a12.c2
    go_wp2_with fail
    clear ci0 ci1 ci2
    refine (xexp_any _ y (b : Int) 0 a12.ok M1.out M2.out (CY.out b 0 HB.out.1 (by have := HB.out; omega) (by omega) (by omega))).mono ?_
    rintro _ wn ⟨i17, rfl, ok17, hi17, bb⟩
    have HI17 := Lib.hid (hi17 rfl)
    clear hi17
    try replace a11 := a11.below bb
    try replace a12 := a12.below bb
    try replace a15 := a15.below bb
    replace bw := below_on bw bb bw.size
    clear bb
    go_upto_region 6 with fail
    have a17 := (ia_alloc ok17).1
    have bb := (ia_alloc ok17).2
    clear ok17
    generalize (wn.alloc (.cells i17.cells 35)) = wm at a17 bb ⊢
    try replace a11 := a11.below bb
    try replace a12 := a12.below bb
    try replace a15 := a15.below bb
    try replace a17 := a17.below bb
    replace bw := below_on bw bb bw.size
    clear bb
    generalize wn.heap.size = g17 at a17 ⊢
    have ci0 := a11.c0
    have ci1 := a11.c1
    have ci2 := a11.c2
    go_wp2_with fail
    clear ci0 ci1 ci2
    refine (xtail_any _ x (n : Int) (b : Int) 0 a11.ok L1.out L2.out (CX.out b n HB.out.1 (by have := HB.out; omega) (by omega) (by have := HN.out; omega))).mono ?_
    rintro _ wn ⟨i19, rfl, ok19, hi19, bb⟩
    have HI19 := Lib.hid (hi19 rfl)
    clear hi19
    try replace a11 := a11.below bb
    try replace a12 := a12.below bb
    try replace a15 := a15.below bb
    try replace a17 := a17.below bb
    replace bw := below_on bw bb bw.size
    clear bb
    go_upto_region 7 with fail
    have a19 := (ia_alloc ok19).1
    have bb := (ia_alloc ok19).2
    clear ok19
    generalize (wn.alloc (.cells i19.cells 35)) = wm at a19 bb ⊢
    try replace a11 := a11.below bb
    try replace a12 := a12.below bb
    try replace a15 := a15.below bb
    try replace a17 := a17.below bb
    try replace a19 := a19.below bb
    replace bw := below_on bw bb bw.size
    clear bb
    generalize wn.heap.size = g19 at a19 ⊢
    have ci0 := a12.c0
    have ci1 := a12.c1
    have ci2 := a12.c2
    go_wp2_with fail
    clear ci0 ci1 ci2
    refine (xtail_any _ y (n : Int) (b : Int) 0 a12.ok M1.out M2.out (CY.out b n HB.out.1 (by have := HB.out; omega) (by omega) (by have := HN.out; omega))).mono ?_
    rintro _ wn ⟨i21, rfl, ok21, hi21, bb⟩
    have HI21 := Lib.hid (hi21 rfl)
    clear hi21
    try replace a11 := a11.below bb
    try replace a12 := a12.below bb
    try replace a15 := a15.below bb
    try replace a17 := a17.below bb
    try replace a19 := a19.below bb
    replace bw := below_on bw bb bw.size
    clear bb
    go_upto_region 8 with fail
    have a21 := (ia_alloc ok21).1
    have bb := (ia_alloc ok21).2
    clear ok21
    generalize (wn.alloc (.cells i21.cells 35)) = wm at a21 bb ⊢
    try replace a11 := a11.below bb
    try replace a12 := a12.below bb
    try replace a15 := a15.below bb
    try replace a17 := a17.below bb
    try replace a19 := a19.below bb
    try replace a21 := a21.below bb
    replace bw := below_on bw bb bw.size
    clear bb
    generalize wn.heap.size = g21 at a21 ⊢
    have HN1 : Hid ((n : Int) + 1 = ((n + 1 : Nat) : Int)) := Lib.hid (by omega)
    have ci0 := a11.c0
    have ci1 := a11.c1
    have ci2 := a11.c2
    go_wp2_with fail
    clear ci0 ci1 ci2
    refine (xtail_any _ x ((n : Int) + 1) (b : Int) 0 a11.ok L1.out L2.out (CX.out b _ HB.out.1 (by have := HB.out; omega) (by omega) (by have := HN.out; omega))).mono ?_
    rintro _ wn ⟨i23, rfl, ok23, hi23, bb⟩
    have HI23 := Lib.hid (hi23 rfl)
    clear hi23
    try replace a11 := a11.below bb
    try replace a12 := a12.below bb
    try replace a15 := a15.below bb
    try replace a17 := a17.below bb
    try replace a19 := a19.below bb
    try replace a21 := a21.below bb
    replace bw := below_on bw bb bw.size
    clear bb
    go_upto_region 9 with fail
    have a23 := (ia_alloc ok23).1
    have bb := (ia_alloc ok23).2
    clear ok23
    generalize (wn.alloc (.cells i23.cells 35)) = wm at a23 bb ⊢
    try replace a11 := a11.below bb
    try replace a12 := a12.below bb
    try replace a15 := a15.below bb
    try replace a17 := a17.below bb
    try replace a19 := a19.below bb
    try replace a21 := a21.below bb
    try replace a23 := a23.below bb
    replace bw := below_on bw bb bw.size
    clear bb
    generalize wn.heap.size = g23 at a23 ⊢
    have MP : MonP i15 i17 i19 i21 i23 b := by
      have h1 := HI15.out
      have h2 := HI17.out
      have h3 := HI19.out
      have h4 := HI21.out
      have h5 := HI23.out
      rw [RX.out.q, Int.toNat_natCast] at h1
      rw [RY.out.q, Int.toNat_natCast] at h2
      rw [RX.out.q, Int.toNat_natCast, Int.toNat_natCast] at h3
      rw [RY.out.q, Int.toNat_natCast, Int.toNat_natCast] at h4
      rw [HN1.out, RX.out.q, Int.toNat_natCast, Int.toNat_natCast] at h5
      exact mon_plain LX.out LY.out HXY.out (by have := HN.out; omega) HB.out.1 (by have := HB.out; omega) h1 h2 h3 h4 h5
    obtain ⟨mu, mv, ms, mt, mw, ⟨l1, l2, l3, l4, l5⟩, ⟨r1, r2, r3, r4, r5⟩, o1, o2, o3⟩ := MP
    have hp := pow64 (b := b) (by have := HB.out; omega)
    have Z1 : Hid (Sz (prt mu b) 128 128) := Lib.hid (prt_sz (by omega) (by have := HB.out; omega))
    have Z2 : Hid (Sz (prt mv b) 128 128) := Lib.hid (prt_sz (by omega) (by have := HB.out; omega))
    have Z3 : Hid (Sz (prt ms b) 128 128) := Lib.hid (prt_sz (by omega) (by have := HB.out; omega))
    have Z4 : Hid (Sz (prt mt b) 128 128) := Lib.hid (prt_sz (by omega) (by have := HB.out; omega))
    have Z5 : Hid (Sz (prt mw b) 128 128) := Lib.hid (prt_sz (by omega) (by have := HB.out; omega))
    have O1 : Hid (¬ prt mu b < prt mv b) := Lib.hid (Rat.not_lt.2 (prt_mono o1))
    have O2 : Hid (¬ prt mt b < prt ms b) := Lib.hid (Rat.not_lt.2 (prt_mono o2))
    have O3 : Hid (¬ prt ms b < prt mw b) := Lib.hid (Rat.not_lt.2 (prt_mono o3))
    have R1 := Lib.hid r1
    have R2 := Lib.hid r2
    have R3 := Lib.hid r3
    have R4 := Lib.hid r4
    have R5 := Lib.hid r5
    clear l1 l2 l3 l4 l5 r1 r2 r3 r4 r5 o1 o2 o3 hp a11 a12
    have ci0 := a15.c0
    have ci1 := a15.c1
    have ci2 := a15.c2
    have ci3 := a15.c3
    have ci4 := a15.c4
    have ci5 := a15.c5
    have cj0 := a17.c0
    have cj1 := a17.c1
    have cj2 := a17.c2
    have cj3 := a17.c3
    have cj4 := a17.c4
    have cj5 := a17.c5
    go_wp2_with fail
    clear ci0 ci1 ci2 ci3 ci4 ci5
    clear cj0 cj1 cj2 cj3 cj4 cj5
    refine (xless_any _ i15.lo i17.lo false a15.ok.lo a17.ok.lo (R1.out.v Z1.out) (R2.out.v Z2.out) (R1.out.l1 Z1.out) (R1.out.l2 Z1.out) (R2.out.l1 Z2.out) (R2.out.l2 Z2.out) (decide_eq_false (by rw [R1.out.q, R2.out.q]; exact O1.out))).mono ?_
    rintro _ w5 ⟨rfl, bb⟩
    try replace a11 := a11.below bb
    try replace a12 := a12.below bb
    try replace a15 := a15.below bb
    try replace a17 := a17.below bb
    try replace a19 := a19.below bb
    try replace a21 := a21.below bb
    try replace a23 := a23.below bb
    replace bw := below_on bw bb bw.size
    clear bb
    clear a15 a17
    have ci0 := a21.c0
    have ci1 := a21.c1
    have ci2 := a21.c2
    have ci3 := a21.c3
    have ci4 := a21.c4
    have ci5 := a21.c5
    have cj0 := a19.c0
    have cj1 := a19.c1
    have cj2 := a19.c2
    have cj3 := a19.c3
    have cj4 := a19.c4
    have cj5 := a19.c5
    go_wp2_with fail
    clear ci0 ci1 ci2 ci3 ci4 ci5
    clear cj0 cj1 cj2 cj3 cj4 cj5
    refine (xless_any _ i21.lo i19.lo false a21.ok.lo a19.ok.lo (R4.out.v Z4.out) (R3.out.v Z3.out) (R4.out.l1 Z4.out) (R4.out.l2 Z4.out) (R3.out.l1 Z3.out) (R3.out.l2 Z3.out) (decide_eq_false (by rw [R4.out.q, R3.out.q]; exact O2.out))).mono ?_
    rintro _ w6 ⟨rfl, bb⟩
    try replace a11 := a11.below bb
    try replace a12 := a12.below bb
    try replace a15 := a15.below bb
    try replace a17 := a17.below bb
    try replace a19 := a19.below bb
    try replace a21 := a21.below bb
    try replace a23 := a23.below bb
    replace bw := below_on bw bb bw.size
    clear bb
    clear a21
    have ci0 := a19.c0
    have ci1 := a19.c1
    have ci2 := a19.c2
    have ci3 := a19.c3
    have ci4 := a19.c4
    have ci5 := a19.c5
    have cj0 := a23.c0
    have cj1 := a23.c1
    have cj2 := a23.c2
    have cj3 := a23.c3
    have cj4 := a23.c4
    have cj5 := a23.c5
    go_wp2_with fail
    clear ci0 ci1 ci2 ci3 ci4 ci5
    clear cj0 cj1 cj2 cj3 cj4 cj5
    refine (xless_any _ i19.lo i23.lo false a19.ok.lo a23.ok.lo (R3.out.v Z3.out) (R5.out.v Z5.out) (R3.out.l1 Z3.out) (R3.out.l2 Z3.out) (R5.out.l1 Z5.out) (R5.out.l2 Z5.out) (decide_eq_false (by rw [R3.out.q, R5.out.q]; exact O3.out))).mono ?_
    rintro _ w7 ⟨rfl, bb⟩
    try replace a11 := a11.below bb
    try replace a12 := a12.below bb
    try replace a15 := a15.below bb
    try replace a17 := a17.below bb
    try replace a19 := a19.below bb
    try replace a21 := a21.below bb
    try replace a23 := a23.below bb
    replace bw := below_on bw bb bw.size
    clear bb
    clear a19 a23
    go_wp2_with fail
    refine (xawake_any w7).mono ?_
    rintro _ w8 ⟨rfl, bb⟩
    replace bw := below_on bw bb bw.size
    go_wp2_with fail
    go_ret
    exact ⟨rfl, bw⟩
theorem mon_law (w : World) (a b c d e : Int) (h1 : (Lit.int .u16 a).wf = true) (h2 : (Lit.int .u16 b).wf = true) (h3 : (Lit.int .u8 c).wf = true) (h4 : (Lit.int .u8 d).wf = true) (h5 : (Lit.int .u8 e).wf = true) :
    Calls Try.prog 6 #[.int .u16 a, .int .u16 b, .int .u8 c, .int .u8 d, .int .u8 e] w fun e w' => e = .returned (.bool true) ∧ Below w.heap.size w w' := by
  obtain ⟨na, rfl, hna⟩ := wf_u16 h1
  obtain ⟨nb, rfl, hnb⟩ := wf_u16 h2
  obtain ⟨den, rfl, hd⟩ := wf_u8 h3
  obtain ⟨ns, rfl, hn⟩ := wf_u8 h4
  obtain ⟨bs, rfl, hb⟩ := wf_u8 h5
  exact mon_walk w na nb den ns bs hna hnb hd hn hb
end Go.Proofs.Ytnmomigaedfdoaa
namespace Go.Proofs.Ytnmomigaedfdoaa
set_option maxRecDepth 100000
open Go.ChangeShapes Go.WideShapes Go.ChangeAt Go.RowKit

theorem own_knob : ownKnob Try.prog.godebug = none := by kernel_rfl
end Go.Proofs.Ytnmomigaedfdoaa
