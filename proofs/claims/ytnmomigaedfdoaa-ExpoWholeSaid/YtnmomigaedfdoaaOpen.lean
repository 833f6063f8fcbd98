/- The reference's Scale, Meet, Add, Contains, Inside and Width for intervals in lowest terms. The walk of ExpoNext. Arguments that came in, opened to what the walks ask. -/
import Derived.Test.YtnmomigaedfdoaaIvH
import Derived.Test.YtnmomigaedfdoaaIvW
import Derived.Test.YtnmomigaedfdoaaIvF
import Derived.Test.YtnmomigaedfdoaaRows
import Derived.Test.YtnmomigaedfdoaaBase
import Derived.ProofKit
import Derived.OpenShut
import Derived.ShutString
import Derived.ChangeOld
import Derived.Below
namespace Go.Proofs.Ytnmomigaedfdoaa
set_option maxRecDepth 100000
open Go.RowKit

/-- an interval from lo to hi, both in lowest terms -/
structure Ri (i : Ix) (lo hi : Rat) : Prop where
  l : Rp i.lo lo
  h : Rp i.hi hi
  sl : Sz lo 128 128
  sh : Sz hi 128 128
  le : lo ≤ hi
section
variable {i j : Ix} {a b c d : Rat}
theorem Ri.v (h : Ri i a b) : i.v := ⟨h.l.v h.sl, h.h.v h.sh, by rw [h.l.q, h.h.q]; exact h.le⟩
theorem Ri.few (h : Ri i a b) : i.few := ⟨h.l.l1 h.sl, h.l.l2 h.sl, h.h.l1 h.sh, h.h.l2 h.sh⟩
theorem Rp.few {x : Fx} {q : Rat} (h : Rp x q) (s : Sz q 128 128) : x.few := ⟨h.l1 s, h.l2 s⟩
end
theorem not_big {q : Rat} (h : Sz q 128 128) : ¬ bigQ q := by
  rintro (k | k)
  · have := h.1; omega
  · have := h.2; omega
theorem riscale_rp (w : World) (x : Fx) (i : Ix) (t a b : Rat) (ox : x.ok w) (oi : i.ok w) (rx : Rp x t) (st : Sz t 128 128) (t0 : 0 ≤ t) (h : Ri i a b) (s1 : Sz (t * a) 128 128) (s2 : Sz (t * b) 128 128) :
    Calls Try.prog 30 #[x.val, i.val] w fun e w' => ∃ c : Ix, e = .returned (.tuple #[c.val, .int .i64 0]) ∧ Ri c (t * a) (t * b) ∧ c.ok w' ∧ Below w.heap.size w w' := by
  have hle : t * a ≤ t * b := mul_le_l t0 h.le
  have hS : sclI x i = (okS (t * a), okS (t * b), 0) := by
    rw [sclI, if_pos ⟨rx.v st, h.v⟩]
    show mulsS [x.q * i.lo.q, x.q * i.hi.q] = _
    rw [rx.q, h.l.q, h.h.q, mulsS, if_neg]
    · have e1 : loP [t * a, t * b] = t * a := by
        show (if t * b ≤ t * a then t * b else t * a) = t * a
        split
        · grind
        · rfl
      have e2 : hiP [t * a, t * b] = t * b := by
        show (if t * a ≤ t * b then t * b else t * a) = t * b
        rw [if_pos hle]
      rw [e1, e2]
    · rintro ⟨p, hp, hb⟩
      simp only [List.mem_cons, List.not_mem_nil, or_false] at hp
      rcases hp with rfl | rfl
      · exact not_big s1 hb
      · exact not_big s2 hb
  refine (riscale_any w x i _ ox oi (rx.few st) h.few hS).mono fun e w' ⟨c, he, h1, h2, ok, bb⟩ => ?_
  exact ⟨c, he, ⟨Rp.of h1, Rp.of h2, s1, s2, hle⟩, ok, bb⟩
theorem rimeet_rp (w : World) (i j : Ix) (a b c d : Rat) (oi : i.ok w) (oj : j.ok w) (h : Ri i a b) (k : Ri j c d) (h1 : a ≤ d) (h2 : c ≤ b) :
    Calls Try.prog 20 #[i.val, j.val] w fun e w' => ∃ m : Ix, e = .returned (.tuple #[m.val, .bool true]) ∧ m.ok w' ∧ Below w.heap.size w w' := by
  have hS : ∃ S T, meetS i j = (S, T, true) := by
    rw [meetS, if_pos]
    · exact ⟨_, _, rfl⟩
    · refine ⟨h.v, k.v, ?_⟩
      rw [h.l.q, h.h.q, k.l.q, k.h.q, maxR, minR]
      have := h.le
      have := k.le
      split <;> split <;> grind
  obtain ⟨S, T, hS⟩ := hS
  exact (rimeet_any w i j _ oi oj h.few k.few hS).mono fun e w' ⟨m, he, _, _, ok, bb⟩ => ⟨m, he, ok, bb⟩
theorem ricontains_rp (w : World) (i : Ix) (x : Fx) (a b q : Rat) (oi : i.ok w) (ox : x.ok w) (h : Ri i a b) (rx : Rp x q) (sq : Sz q 128 128) (h1 : a ≤ q) (h2 : q ≤ b) :
    Calls Try.prog 36 #[i.val, x.val] w fun e w' => e = .returned (.bool true) ∧ Below w.heap.size w w' :=
  ricontains_any w i x true oi ox h.few (rx.few sq) (decide_eq_true ⟨h.v, ⟨h.l.v h.sl, rx.v sq, by rw [h.l.q, rx.q]; exact h1⟩, ⟨rx.v sq, h.h.v h.sh, by rw [h.h.q, rx.q]; exact h2⟩⟩)
theorem riinside_rp (w : World) (i j : Ix) (a b c d : Rat) (oi : i.ok w) (oj : j.ok w) (h : Ri i a b) (k : Ri j c d) (h1 : c ≤ a) (h2 : b ≤ d) :
    Calls Try.prog 32 #[i.val, j.val] w fun e w' => e = .returned (.bool true) ∧ Below w.heap.size w w' :=
  riinside_any w i j true oi oj h.few k.few (decide_eq_true ⟨h.v, k.v, ⟨k.l.v k.sl, h.l.v h.sl, by rw [k.l.q, h.l.q]; exact h1⟩, ⟨h.h.v h.sh, k.h.v k.sh, by rw [h.h.q, k.h.q]; exact h2⟩⟩)
theorem riadd_rp (w : World) (i j : Ix) (a b c d : Rat) (oi : i.ok w) (oj : j.ok w) (h : Ri i a b) (k : Ri j c d) (s1 : Sz (a + c) 128 128) (s2 : Sz (b + d) 128 128) :
    Calls Try.prog 35 #[i.val, j.val] w fun e w' => ∃ m : Ix, e = .returned (.tuple #[m.val, .int .i64 0]) ∧ Ri m (a + c) (b + d) ∧ m.ok w' ∧ Below w.heap.size w w' := by
  have hS : opS addF i j j.lo j.hi = (okS (a + c), okS (b + d), 0) := by
    rw [opS, if_pos ⟨h.v, k.v⟩, addF_ok (h.l.v h.sl) (k.l.v k.sl) h.l.q k.l.q s1, addF_ok (h.h.v h.sh) (k.h.v k.sh) h.h.q k.h.q s2]
    rfl
  refine (riadd_any w i j _ oi oj h.few k.few hS).mono fun e w' ⟨m, he, h1, h2, ok, bb⟩ => ?_
  refine ⟨m, he, ⟨Rp.of h1, Rp.of h2, s1, s2, ?_⟩, ok, bb⟩
  have := h.le
  have := k.le
  grind
theorem riwidth_rp (w : World) (i : Ix) (a b : Rat) (oi : i.ok w) (h : Ri i a b) (s : Sz (b - a) 128 128) :
    Calls Try.prog 31 #[i.val] w fun e w' => ∃ z : Fx, e = .returned (.tuple #[z.val, .int .i64 0]) ∧ Rp z (b - a) ∧ z.ok w' ∧ Below w.heap.size w w' := by
  have hS : widS i = okS (b - a) := by
    rw [widS, if_pos h.v]
    exact subF_ok (h.h.v h.sh) (h.l.v h.sl) h.h.q h.l.q s
  exact (riwidth_any w i _ oi h.few hS).mono fun e w' ⟨z, he, h1, ok, bb⟩ => ⟨z, he, Rp.of h1, ok, bb⟩
end Go.Proofs.Ytnmomigaedfdoaa
namespace Go.Proofs.Ytnmomigaedfdoaa
set_option maxRecDepth 100000
open Go.RowKit

theorem prt_sz3 {m b : Nat} (hm : m ≤ 36893488147419103232) (hb : b ≤ 64) : Sz (prt m b) 3 3 := by
  have hp := pow64 hb
  exact Sz.of_qv (by omega) (lim_len_le (by omega)) (lim_len_le (by omega))
theorem int_sz {n : Nat} (hn : n < 4294967296) : Sz (((n : Int)) : Rat) 1 1 := by
  refine ⟨?_, ?_⟩
  · rw [Rat.num_intCast, Int.natAbs_natCast]; exact lim_len_le (by omega)
  · rw [Rat.den_intCast]; exact lim_len_le (by omega)
/-- an interval of the laws -/
theorem enc_ri {q : Rat} {n b kind zv : Nat} {i : Ix} (h : encP q n b kind zv i) (hq : Lq q) (hn : n ≤ 256) (b0 : 1 ≤ b) (b1 : b ≤ 63) (hk : kind ≤ 2) (hk0 : kind = 0 → n = 0) (hz : zv ≤ 1) :
    (q = 0 ∧ Ri i (zv : Rat) (zv : Rat) ∧ Sz (zv : Rat) 3 3) ∨ (q ≠ 0 ∧ ∃ m, m ≤ 2 ^ b ∧ Ri i (prt m b) (prt (m + 1) b) ∧ Sz (prt m b) 3 3 ∧ Sz (prt (m + 1) b) 3 3 ∧ Flo (2 ^ b) m q (sV kind n q)) := by
  rcases enc_iv h hq hn b0 b1 hk hk0 with ⟨h0, h1, h2⟩ | ⟨h0, m, h1⟩
  · have s : Sz (zv : Rat) 1 1 := int_sz (n := zv) (by omega)
    exact Or.inl ⟨h0, ⟨h1, h2, s.mono (by omega) (by omega), s.mono (by omega) (by omega), Rat.le_refl⟩, s.mono (by omega) (by omega)⟩
  · have hp := pow64 (b := b) (by omega)
    have hle := h1.le
    have s1 := prt_sz3 (m := m) (b := b) (by omega) (by omega)
    have s2 := prt_sz3 (m := m + 1) (b := b) (by omega) (by omega)
    exact Or.inr ⟨h0, m, hle, ⟨h1.lo, h1.hi, s1.mono (by omega) (by omega), s2.mono (by omega) (by omega), prt_mono (by omega)⟩, s1, s2, h1.fl⟩
def NxtP (ia ib : Ix) (t : Rat) : Prop := ∃ la ha lb hb, Ri ia la ha ∧ Ri ib lb hb ∧ Sz (t * la) 128 128 ∧ Sz (t * ha) 128 128 ∧ lb ≤ t * ha ∧ t * la ≤ hb
theorem nxt_plain {q : Rat} {b n : Nat} {ia ib : Ix} {zv : Nat} (hq : Lq q) (hs : Sz q 2 2) (hn : n + 1 ≤ 256) (b0 : 1 ≤ b) (b1 : b ≤ 63) (hz : zv ≤ 1) (h1 : encP q n b 1 zv ia) (h2 : encP q (n + 1) b 1 0 ib) :
    NxtP ia ib (q / (((n : Int) + 1 : Int) : Rat)) := by
  have c1 : (((n : Int) + 1 : Int) : Rat) = ((n + 1 : Nat) : Rat) := rfl
  have hk := nat_pos n
  have st : Sz (q / ((n + 1 : Nat) : Rat)) 3 3 := Sz.div hs (int_sz (n := n + 1) (by omega)) (by grind)
  have ht : q / ((n + 1 : Nat) : Rat) * ((n + 1 : Nat) : Rat) = q := Rat.div_mul_cancel (by grind)
  have tn : 0 ≤ q / ((n + 1 : Nat) : Rat) := by
    rw [Rat.div_def]; exact Rat.mul_nonneg hq.nn (Rat.le_of_lt (Rat.inv_pos.2 hk))
  have hts := tq_step q n
  rw [c1]
  generalize ((n + 1 : Nat) : Rat) = k at *
  generalize q / k = t at *
  rcases enc_ri h1 hq (by omega) b0 b1 (by omega) (fun h => absurd h (by omega)) hz with ⟨e0, r1, s1⟩ | ⟨e0, ma, _, r1, s1, s2, f1⟩
  · rcases enc_ri h2 hq (by omega) b0 b1 (by omega) (fun h => absurd h (by omega)) (by omega) with ⟨_, r2, _⟩ | ⟨e1, _⟩
    · have t0 : t = 0 := by
        have h3 : t * k = 0 := by rw [ht, e0]
        rcases Rat.mul_eq_zero.1 h3 with h | h
        · exact h
        · grind
      refine ⟨_, _, _, _, r1, r2, (Sz.mul st s1).mono (by omega) (by omega), (Sz.mul st s1).mono (by omega) (by omega), ?_, ?_⟩
      · rw [t0]; show (0 : Rat) ≤ _; grind
      · rw [t0]; show _ ≤ (0 : Rat); grind
    · exact absurd e0 e1
  · rcases enc_ri h2 hq (by omega) b0 b1 (by omega) (fun h => absurd h (by omega)) (by omega) with ⟨e1, _⟩ | ⟨_, mb, _, r2, _, _, f2⟩
    · exact absurd e1 e0
    · refine ⟨_, _, _, _, r1, r2, (Sz.mul st s1).mono (by omega) (by omega), (Sz.mul st s2).mono (by omega) (by omega), ?_⟩
      obtain ⟨M1, f1⟩ := f1
      obtain ⟨M2, f2⟩ := f2
      obtain ⟨g1, g2⟩ := f1 (max M1 M2 + 1) (by omega)
      obtain ⟨g3, g4⟩ := f2 (max M1 M2 + 1) (by omega)
      have p1 : 0 < eq_ q (max M1 M2 + 1) := by have := eq_one_le hq.nn (max M1 M2); grind
      have e2 : sV 1 n q (max M1 M2 + 1) = tq q n := rfl
      have e3 : sV 1 (n + 1) q (max M1 M2 + 1) = tq q (n + 1) := rfl
      rw [e2] at g1 g2
      rw [e3] at g3 g4
      have e4 : tq q (n + 1) = t * tq q n := by
        have h3 : (tq q (n + 1) - t * tq q n) * k = 0 := by
          have : (tq q (n + 1) - t * tq q n) * k = k * tq q (n + 1) - t * k * tq q n := by grind
          rw [this, hts, ht]; grind
        rcases Rat.mul_eq_zero.1 h3 with h | h
        · grind
        · grind
      rw [e4] at g3 g4
      have m1 := prt_mul ma b
      have m2 := prt_mul (ma + 1) b
      have m3 := prt_mul mb b
      have m4 := prt_mul (mb + 1) b
      have hT := two_pos b
      generalize ((2 ^ b : Nat) : Rat) = K at *
      generalize eq_ q (max M1 M2 + 1) = S at *
      generalize tq q n = w at *
      generalize prt ma b = a at *
      generalize prt (ma + 1) b = a1 at *
      generalize prt mb b = c at *
      generalize prt (mb + 1) b = c1 at *
      generalize ((ma + 1 : Nat) : Rat) = A1 at *
      generalize ((mb + 1 : Nat) : Rat) = C1 at *
      generalize (ma : Rat) = A at *
      generalize (mb : Rat) = C at *
      have x1 := mul_le_l tn (Rat.le_of_lt g2)
      have x2 := mul_le_l tn g1
      constructor
      · -- C S <= K t w <= t A1 S
        refine Rat.le_of_mul_le_mul_right (c := K) ?_ hT
        refine Rat.le_of_mul_le_mul_right (c := S) ?_ p1
        have y1 : c * K * S = C * S := by rw [m3]
        have y2 : t * a1 * K * S = t * (A1 * S) := by
          have : t * a1 * K * S = t * (a1 * K * S) := by grind
          rw [this, m2]
        have y3 : t * (K * w) = K * (t * w) := by grind
        rw [y1, y2]
        rw [y3] at x1
        exact Rat.le_trans g3 x1
      · refine Rat.le_of_mul_le_mul_right (c := K) ?_ hT
        refine Rat.le_of_mul_le_mul_right (c := S) ?_ p1
        have y1 : c1 * K * S = C1 * S := by rw [m4]
        have y2 : t * a * K * S = t * (A * S) := by
          have : t * a * K * S = t * (a * K * S) := by grind
          rw [this, m1]
        have y3 : t * (K * w) = K * (t * w) := by grind
        rw [y1, y2]
        rw [y3] at x2
        exact Rat.le_trans x2 (Rat.le_of_lt g4)
set_option maxHeartbeats 1000000 in
theorem nxt_walk (w : World) (num den ns bs : Nat) (hnum : num < 65536) (hd : den < 256) (hns : ns < 256) (hbs : bs < 256) :
    Calls Try.prog 8 #[.int .u16 (num : Int), .int .u8 (den : Int), .int .u8 (ns : Int), .int .u8 (bs : Int)] w fun e w' => e = .returned (.bool true) ∧ Below w.heap.size w w' := by
  have SX0 := Lib.hid (numQ_sz hnum hd)
  have SX := Lib.hid (numQ_ok hnum hd).1
  have LX := Lib.hid (numQ_lq hnum hd)
  go_enter Try.func8, Try.ntmps8
  go_wp2_with fail
  refine (number_any w num den hnum hd).mono ?_
  rintro _ w1 ⟨x, rfl, rx, okx, bw⟩
  have RX := Lib.hid rx
  have L1 := Lib.hid (rx.l1 SX.out)
  have L2 := Lib.hid (rx.l2 SX.out)
  have CX : Hid (∀ (b : Nat) (n : Int), 1 ≤ b → b ≤ 64 → 0 ≤ n → n ≤ 256 → chkE x (b : Int) n = 0) := Lib.hid (fun b n h1 h2 h3 h4 => num_chk rx hnum hd h1 h2 h3 h4)
  clear rx
  go_upto_region 2 with fail
  have a9 := (fa_alloc okx).1
  have bb := (fa_alloc okx).2
  clear okx
  generalize (w1.alloc (.cells #[.bool x.b, .slice x.A x.xs.length x.c, .slice x.D x.ys.length x.d] 26)) = wn at a9 bb ⊢
  try replace a9 := a9.below bb
  replace bw := below_on bw bb bw.size
  clear bb
  generalize w1.heap.size = g9 at a9 ⊢
  obtain ⟨p, hp⟩ : ∃ p, numQ num den = p := ⟨_, rfl⟩
  rw [hp] at RX LX SX SX0
  clear hp
  have em := bits_mod bs 60 (by omega)
  have en := bits_mod ns 200 (by omega)
  have em2 : (bs : Int) % 60 = ((bs % 60 : Nat) : Int) := by omega
  have en2 : (ns : Int) % 200 = ((ns % 200 : Nat) : Int) := by omega
  obtain ⟨r, hr⟩ : ∃ r, bs % 60 = r := ⟨_, rfl⟩
  obtain ⟨n, hn⟩ : ∃ n, ns % 200 = n := ⟨_, rfl⟩
  rw [hr] at em em2
  rw [hn] at en en2
  have hr60 : r < 60 := by omega
  have hn200 : n < 200 := by omega
  obtain ⟨b, hbb⟩ : ∃ b, 1 + r = b := ⟨_, rfl⟩
  have HB : Hid (1 ≤ b ∧ b ≤ 60) := Lib.hid (by omega)
  have HN : Hid (n < 200) := Lib.hid hn200
  have HBE : Hid ((1 : Int) + (r : Int) = (b : Int)) := Lib.hid (by omega)
  have HN1 : Hid ((n : Int) + 1 = ((n + 1 : Nat) : Int)) := Lib.hid (by omega)
  clear hr hn hbb
  go_upto_region 4 with fail
  rw [HBE.out, en2]
  clear em em2 en en2 hr60
  have ci0 := a9.c0
  have ci1 := a9.c1
  have ci2 := a9.c2
  go_wp2_with fail
  clear ci0 ci1 ci2
  refine (xpoisson_any _ x (n : Int) (b : Int) 0 a9.ok L1.out L2.out (CX.out b n HB.out.1 (by have := HB.out; omega) (by omega) (by have := HN.out; omega))).mono ?_
  rintro _ wn ⟨i12, rfl, ok12, hi12, bb⟩
  have HI12 := Lib.hid (hi12 rfl)
  clear hi12
  try replace a9 := a9.below bb
  replace bw := below_on bw bb bw.size
  clear bb
  go_upto_region 5 with fail
  have a12 := (ia_alloc ok12).1
  have bb := (ia_alloc ok12).2
  clear ok12
  generalize (wn.alloc (.cells i12.cells 35)) = wm at a12 bb ⊢
  try replace a9 := a9.below bb
  try replace a12 := a12.below bb
  replace bw := below_on bw bb bw.size
  clear bb
  generalize wn.heap.size = g12 at a12 ⊢
  have ci0 := a9.c0
  have ci1 := a9.c1
  have ci2 := a9.c2
  go_wp2_with fail
  clear ci0 ci1 ci2
  refine (xpoisson_any _ x ((n : Int) + 1) (b : Int) 0 a9.ok L1.out L2.out (CX.out b _ HB.out.1 (by have := HB.out; omega) (by omega) (by have := HN.out; omega))).mono ?_
  rintro _ wn ⟨i14, rfl, ok14, hi14, bb⟩
  have HI14 := Lib.hid (hi14 rfl)
  clear hi14
  try replace a9 := a9.below bb
  try replace a12 := a12.below bb
  replace bw := below_on bw bb bw.size
  clear bb
  go_upto_region 6 with fail
  have a14 := (ia_alloc ok14).1
  have bb := (ia_alloc ok14).2
  clear ok14
  generalize (wn.alloc (.cells i14.cells 35)) = wm at a14 bb ⊢
  try replace a9 := a9.below bb
  try replace a12 := a12.below bb
  try replace a14 := a14.below bb
  replace bw := below_on bw bb bw.size
  clear bb
  generalize wn.heap.size = g14 at a14 ⊢
  have NP : Hid (NxtP i12 i14 (p / (((n : Int) + 1 : Int) : Rat))) := Lib.hid (by
    have h1 := HI12.out
    have h2 := HI14.out
    rw [RX.out.q, Int.toNat_natCast, Int.toNat_natCast] at h1
    rw [HN1.out, RX.out.q, Int.toNat_natCast, Int.toNat_natCast, if_neg (by omega)] at h2
    exact nxt_plain LX.out SX0.out (by have := HN.out; omega) HB.out.1 (by have := HB.out; omega) (by split <;> omega) h1 h2)
  have ZI : Hid (Sz (((n : Int) + 1 : Int) : Rat) 128 128) := Lib.hid (by have := HN.out; exact (int_sz (n := n + 1) (by omega)).mono (by omega) (by omega))
  have NI : Hid ((((n : Int) + 1 : Int) : Rat) ≠ 0) := Lib.hid (by
    have := nat_ne n
    exact this)
  have ZT : Hid (Sz (p / (((n : Int) + 1 : Int) : Rat)) 128 128) := Lib.hid (by have := HN.out; exact (Sz.div SX0.out (int_sz (n := n + 1) (by omega)) NI.out).mono (by omega) (by omega))
  have T0 : Hid (0 ≤ p / (((n : Int) + 1 : Int) : Rat)) := Lib.hid (by
    rw [Rat.div_def]
    refine Rat.mul_nonneg LX.out.nn (Rat.le_of_lt (Rat.inv_pos.2 ?_))
    exact nat_pos n)
  have H9 := Lib.hid a9
  have HBW := Lib.hid bw
  have H12 := Lib.hid a12
  have H14 := Lib.hid a14
  clear a9 a12 a14 bw HI12 HI14 HBE
  generalize hwr : wm = wr at *
  clear hwr
  go_cut [16] (fun s16 wx => ∃ (G : Nat) (z : Fx), s16 = .pointer (some ⟨G, 0, none⟩) ∧ Rp z (p / (((n : Int) + 1 : Int) : Rat)) ∧ Fa wx G z ∧ Below wr.heap.size wr wx)
  case first =>
    refine wp_region_held_drew (S := fun w' => w'.cell? ⟨g9, 0, none⟩ = some (.bool x.b) ∧ w'.cell? ⟨g9, 1, none⟩ = some (.slice x.A x.xs.length x.c) ∧ w'.cell? ⟨g9, 2, none⟩ = some (.slice x.D x.ys.length x.d)) (by kernel_rfl) ⟨(H9.out.below ((Below.refl wr.heap.size wr).drew)).c0, (H9.out.below ((Below.refl wr.heap.size wr).drew)).c1, (H9.out.below ((Below.refl wr.heap.size wr).drew)).c2⟩ (fun hHeld => ?_)
    have bz := (Below.refl wr.heap.size wr).drew
    generalize wr.drew = wd at *
    refine tkw 0 (x.val) rfl (by kernel_rfl) (by kernel_rfl) (by kernel_rfl) (fun _ _ _ h => h) ⟨by rfl, ?_⟩ (by assumption) ?_
    ·intro w hSw; (try dsimp only at hSw); obtain ⟨s0, s1, s2⟩ := hSw; go_simp; (try with_reducible rfl)
    try simp only [Act.put, tzA, tzB, tzD, tzE, tzF]
    refine tkw 1 (.int .i64 (n : Int)) rfl (by kernel_rfl) (by kernel_rfl) (by kernel_rfl) (fun _ _ _ h => h) ⟨by rfl, ?_⟩ (by assumption) ?_
    ·intro w hSw; go_simp; (try with_reducible rfl)
    try simp only [Act.put, tzA, tzB, tzC, tzD, tzE, tzF]
    refine tkw 2 (.int .i64 ((n : Int) + 1)) rfl (by kernel_rfl) (by kernel_rfl) (by kernel_rfl) (fun _ _ _ h => h) ⟨by rfl, ?_⟩ (by assumption) ?_
    ·intro w hSw; have hn := HN.out; go_simp; exact IntWalk.i64_in _ (by have := HN.out; omega)
    try simp only [Act.put, tzA, tzB, tzC, tzD, tzE, tzF]
    refine wpAnyH_ready (rs := [3, 8]) (by kernel_rfl) (by simp) ?_
    refine AllReadyH.cons rfl (fun K hK => ?_) ?_
    ·go_simp
     go_at_call 16
     refine (xint_any wd ((n : Int) + 1) (by omega) (by have := HN.out; omega)).mono ?_
     rintro e wd ⟨x1, rfl, n1, ok1, bb⟩
     try replace k16 := k16.below bb
     try replace ok1 := ok1.below bb
     try replace ok2 := ok2.below bb
     replace bz := below_on bz bb bz.size
     clear bb
     refine hK.out _ _ ⟨(H9.out.below bz).c0, (H9.out.below bz).c1, (H9.out.below bz).c2⟩ (fun hHeld => ?_)
     clear hK K
     try simp only [Act.put]
     try simp only [tzD, tzE, tzF]
     refine wpAnyH_ready (rs := [4, 8]) (by kernel_rfl) (by simp) ?_
     refine AllReadyH.cons rfl (fun K hK => ?_) ?_
     ·go_simp
      go_at_call 22
      refine (rquo_rp wd x x1 _ _ (H9.out.below bz).ok ok1 RX.out n1 SX.out ZI.out NI.out ZT.out).mono ?_
      rintro e wd ⟨x2, rfl, n2, ok2, bb⟩
      clear ok1 n1
      try replace k16 := k16.below bb
      try replace ok1 := ok1.below bb
      try replace ok2 := ok2.below bb
      replace bz := below_on bz bb bz.size
      clear bb
      refine hK.out _ _ ⟨(H9.out.below bz).c0, (H9.out.below bz).c1, (H9.out.below bz).c2⟩ (fun hHeld => ?_)
      clear hK K
      try simp only [Act.put]
      try simp only [tzD, tzE, tzF]
      refine tkw 5 (.tuple #[x2.val, .int .i64 0]) rfl (by kernel_rfl) (by kernel_rfl) (by kernel_rfl) (fun _ _ _ h => h) ⟨by rfl, ?_⟩ (by assumption) ?_
      ·intro w hSw; go_simp; (try with_reducible rfl)
      try simp only [Act.put, tzA, tzB, tzC, tzD, tzE, tzF]
      refine tkw 6 (x2.val) rfl (by kernel_rfl) (by kernel_rfl) (by kernel_rfl) (fun _ _ _ h => h) ⟨by rfl, ?_⟩ (by assumption) ?_
      ·intro w hSw; go_simp; (try with_reducible rfl)
      try simp only [Act.put, tzA, tzB, tzC, tzD, tzE, tzF]
      refine tkw 7 (.int .i64 0) rfl (by kernel_rfl) (by kernel_rfl) (by kernel_rfl) (fun _ _ _ h => h) ⟨by rfl, ?_⟩ (by assumption) ?_
      ·intro w hSw; go_simp; (try with_reducible rfl)
      try simp only [Act.put, tzA, tzB, tzC, tzD, tzE, tzF]
      refine wpAnyH_ready (rs := [8]) (by kernel_rfl) (by simp) ?_
      refine AllReadyH.cons rfl (fun K hK => ?_) ?_
      ·go_simp
       have k16 := bk3_new wd
       have bb := (Below.refl wd.heap.size wd).alloc (Nat.le_refl _) (.cells #[.bool false, .slice none 0 0, .slice none 0 0] 26)
       have s16 := bz.size
       generalize h16 : wd.heap.size = g16 at k16 s16 ⊢
       try replace k16 := k16.below bb
       try replace ok1 := ok1.below bb
       try replace ok2 := ok2.below bb
       replace bz := below_on bz bb bz.size
       clear bb
       generalize (wd.alloc (.cells #[.bool false, .slice none 0 0, .slice none 0 0] 26)) = we at *
       clear h16
       generalize we = wd at *
       refine hK.out _ _ ⟨(H9.out.below bz).c0, (H9.out.below bz).c1, (H9.out.below bz).c2⟩ (fun hHeld => ?_)
       clear hK K
       try simp only [Act.put]
       try simp only [tzD, tzE, tzF]
       refine wpAnyH_ready (rs := [9]) (by kernel_rfl) (by simp) ?_
       refine AllReadyH.cons rfl (fun K hK => ?_) ?_
       ·have t := k16
        obtain ⟨k0, k1, k2, kf0, kf1, kf2, _, _⟩ := t
        go_simp
        clear k0 k1 k2 kf0 kf1 kf2
        have hk : Fa wd g16 Fx.nil := ⟨k16, Fx.nil_ok _⟩
        have a2 := hk.put ok2
        have b5 := set3g (G := g16) (a := (.bool x2.b)) (b := (.slice x2.A x2.xs.length x2.c)) (c := (.slice x2.D x2.ys.length x2.d)) bz s16
        clear bz hk k16 ok2 hHeld
        generalize (((wd.setCell ⟨g16, 0, none⟩ (.bool x2.b)).setCell ⟨g16, 1, none⟩ (.slice x2.A x2.xs.length x2.c)).setCell ⟨g16, 2, none⟩ (.slice x2.D x2.ys.length x2.d)) = we at *
        have bz := b5
        clear b5
        generalize we = wd at *
        refine hK.out _ _ ⟨(H9.out.below bz).c0, (H9.out.below bz).c1, (H9.out.below bz).c2⟩ (fun hHeld => ?_)
        clear hK K
        try simp only [Act.put]
        try simp only [tzD, tzE, tzF]
        refine wpAnyH_ready (rs := [10]) (by kernel_rfl) (by simp) ?_
        refine AllReadyH.cons rfl (fun K hK => ?_) ?_
        ·go_simp
         refine hK.out _ _ ⟨(H9.out.below bz).c0, (H9.out.below bz).c1, (H9.out.below bz).c2⟩ (fun hHeld => ?_)
         clear hK K
         try simp only [Act.put]
         try simp only [tzD, tzE, tzF]
         refine wpAnyH_done (by kernel_rfl) ?_ _
         go_wp2_with fail
         go_meet
         case rel => exact ⟨g16, x2, rfl, n2, a2, bz⟩
        exact AllReadyH.nil
       exact AllReadyH.nil
      exact AllReadyH.nil
     refine AllReadyH.cons rfl (fun K hK => ?_) ?_
     ·go_simp
      have k16 := bk3_new wd
      have bb := (Below.refl wd.heap.size wd).alloc (Nat.le_refl _) (.cells #[.bool false, .slice none 0 0, .slice none 0 0] 26)
      have s16 := bz.size
      generalize h16 : wd.heap.size = g16 at k16 s16 ⊢
      try replace k16 := k16.below bb
      try replace ok1 := ok1.below bb
      try replace ok2 := ok2.below bb
      replace bz := below_on bz bb bz.size
      clear bb
      generalize (wd.alloc (.cells #[.bool false, .slice none 0 0, .slice none 0 0] 26)) = we at *
      clear h16
      generalize we = wd at *
      refine hK.out _ _ ⟨(H9.out.below bz).c0, (H9.out.below bz).c1, (H9.out.below bz).c2⟩ (fun hHeld => ?_)
      clear hK K
      try simp only [Act.put]
      try simp only [tzD, tzE, tzF]
      refine wpAnyH_ready (rs := [4]) (by kernel_rfl) (by simp) ?_
      refine AllReadyH.cons rfl (fun K hK => ?_) ?_
      ·go_simp
       go_at_call 22
       refine (rquo_rp wd x x1 _ _ (H9.out.below bz).ok ok1 RX.out n1 SX.out ZI.out NI.out ZT.out).mono ?_
       rintro e wd ⟨x2, rfl, n2, ok2, bb⟩
       clear ok1 n1
       try replace k16 := k16.below bb
       try replace ok1 := ok1.below bb
       try replace ok2 := ok2.below bb
       replace bz := below_on bz bb bz.size
       clear bb
       refine hK.out _ _ ⟨(H9.out.below bz).c0, (H9.out.below bz).c1, (H9.out.below bz).c2⟩ (fun hHeld => ?_)
       clear hK K
       try simp only [Act.put]
       try simp only [tzD, tzE, tzF]
       refine tkw 5 (.tuple #[x2.val, .int .i64 0]) rfl (by kernel_rfl) (by kernel_rfl) (by kernel_rfl) (fun _ _ _ h => h) ⟨by rfl, ?_⟩ (by assumption) ?_
       ·intro w hSw; go_simp; (try with_reducible rfl)
       try simp only [Act.put, tzA, tzB, tzC, tzD, tzE, tzF]
       refine tkw 6 (x2.val) rfl (by kernel_rfl) (by kernel_rfl) (by kernel_rfl) (fun _ _ _ h => h) ⟨by rfl, ?_⟩ (by assumption) ?_
       ·intro w hSw; go_simp; (try with_reducible rfl)
       try simp only [Act.put, tzA, tzB, tzC, tzD, tzE, tzF]
       refine tkw 7 (.int .i64 0) rfl (by kernel_rfl) (by kernel_rfl) (by kernel_rfl) (fun _ _ _ h => h) ⟨by rfl, ?_⟩ (by assumption) ?_
       ·intro w hSw; go_simp; (try with_reducible rfl)
       try simp only [Act.put, tzA, tzB, tzC, tzD, tzE, tzF]
       refine wpAnyH_ready (rs := [9]) (by kernel_rfl) (by simp) ?_
       refine AllReadyH.cons rfl (fun K hK => ?_) ?_
       ·have t := k16
        obtain ⟨k0, k1, k2, kf0, kf1, kf2, _, _⟩ := t
        go_simp
        clear k0 k1 k2 kf0 kf1 kf2
        have hk : Fa wd g16 Fx.nil := ⟨k16, Fx.nil_ok _⟩
        have a2 := hk.put ok2
        have b5 := set3g (G := g16) (a := (.bool x2.b)) (b := (.slice x2.A x2.xs.length x2.c)) (c := (.slice x2.D x2.ys.length x2.d)) bz s16
        clear bz hk k16 ok2 hHeld
        generalize (((wd.setCell ⟨g16, 0, none⟩ (.bool x2.b)).setCell ⟨g16, 1, none⟩ (.slice x2.A x2.xs.length x2.c)).setCell ⟨g16, 2, none⟩ (.slice x2.D x2.ys.length x2.d)) = we at *
        have bz := b5
        clear b5
        generalize we = wd at *
        refine hK.out _ _ ⟨(H9.out.below bz).c0, (H9.out.below bz).c1, (H9.out.below bz).c2⟩ (fun hHeld => ?_)
        clear hK K
        try simp only [Act.put]
        try simp only [tzD, tzE, tzF]
        refine wpAnyH_ready (rs := [10]) (by kernel_rfl) (by simp) ?_
        refine AllReadyH.cons rfl (fun K hK => ?_) ?_
        ·go_simp
         refine hK.out _ _ ⟨(H9.out.below bz).c0, (H9.out.below bz).c1, (H9.out.below bz).c2⟩ (fun hHeld => ?_)
         clear hK K
         try simp only [Act.put]
         try simp only [tzD, tzE, tzF]
         refine wpAnyH_done (by kernel_rfl) ?_ _
         go_wp2_with fail
         go_meet
         case rel => exact ⟨g16, x2, rfl, n2, a2, bz⟩
        exact AllReadyH.nil
       exact AllReadyH.nil
      exact AllReadyH.nil
     exact AllReadyH.nil
    refine AllReadyH.cons rfl (fun K hK => ?_) ?_
    ·go_simp
     have k16 := bk3_new wd
     have bb := (Below.refl wd.heap.size wd).alloc (Nat.le_refl _) (.cells #[.bool false, .slice none 0 0, .slice none 0 0] 26)
     have s16 := bz.size
     generalize h16 : wd.heap.size = g16 at k16 s16 ⊢
     try replace k16 := k16.below bb
     try replace ok1 := ok1.below bb
     try replace ok2 := ok2.below bb
     replace bz := below_on bz bb bz.size
     clear bb
     generalize (wd.alloc (.cells #[.bool false, .slice none 0 0, .slice none 0 0] 26)) = we at *
     clear h16
     generalize we = wd at *
     refine hK.out _ _ ⟨(H9.out.below bz).c0, (H9.out.below bz).c1, (H9.out.below bz).c2⟩ (fun hHeld => ?_)
     clear hK K
     try simp only [Act.put]
     try simp only [tzD, tzE, tzF]
     refine wpAnyH_ready (rs := [3]) (by kernel_rfl) (by simp) ?_
     refine AllReadyH.cons rfl (fun K hK => ?_) ?_
     ·go_simp
      go_at_call 16
      refine (xint_any wd ((n : Int) + 1) (by omega) (by have := HN.out; omega)).mono ?_
      rintro e wd ⟨x1, rfl, n1, ok1, bb⟩
      try replace k16 := k16.below bb
      try replace ok1 := ok1.below bb
      try replace ok2 := ok2.below bb
      replace bz := below_on bz bb bz.size
      clear bb
      refine hK.out _ _ ⟨(H9.out.below bz).c0, (H9.out.below bz).c1, (H9.out.below bz).c2⟩ (fun hHeld => ?_)
      clear hK K
      try simp only [Act.put]
      try simp only [tzD, tzE, tzF]
      refine wpAnyH_ready (rs := [4]) (by kernel_rfl) (by simp) ?_
      refine AllReadyH.cons rfl (fun K hK => ?_) ?_
      ·go_simp
       go_at_call 22
       refine (rquo_rp wd x x1 _ _ (H9.out.below bz).ok ok1 RX.out n1 SX.out ZI.out NI.out ZT.out).mono ?_
       rintro e wd ⟨x2, rfl, n2, ok2, bb⟩
       clear ok1 n1
       try replace k16 := k16.below bb
       try replace ok1 := ok1.below bb
       try replace ok2 := ok2.below bb
       replace bz := below_on bz bb bz.size
       clear bb
       refine hK.out _ _ ⟨(H9.out.below bz).c0, (H9.out.below bz).c1, (H9.out.below bz).c2⟩ (fun hHeld => ?_)
       clear hK K
       try simp only [Act.put]
       try simp only [tzD, tzE, tzF]
       refine tkw 5 (.tuple #[x2.val, .int .i64 0]) rfl (by kernel_rfl) (by kernel_rfl) (by kernel_rfl) (fun _ _ _ h => h) ⟨by rfl, ?_⟩ (by assumption) ?_
       ·intro w hSw; go_simp; (try with_reducible rfl)
       try simp only [Act.put, tzA, tzB, tzC, tzD, tzE, tzF]
       refine tkw 6 (x2.val) rfl (by kernel_rfl) (by kernel_rfl) (by kernel_rfl) (fun _ _ _ h => h) ⟨by rfl, ?_⟩ (by assumption) ?_
       ·intro w hSw; go_simp; (try with_reducible rfl)
       try simp only [Act.put, tzA, tzB, tzC, tzD, tzE, tzF]
       refine tkw 7 (.int .i64 0) rfl (by kernel_rfl) (by kernel_rfl) (by kernel_rfl) (fun _ _ _ h => h) ⟨by rfl, ?_⟩ (by assumption) ?_
       ·intro w hSw; go_simp; (try with_reducible rfl)
       try simp only [Act.put, tzA, tzB, tzC, tzD, tzE, tzF]
       refine wpAnyH_ready (rs := [9]) (by kernel_rfl) (by simp) ?_
       refine AllReadyH.cons rfl (fun K hK => ?_) ?_
       ·have t := k16
        obtain ⟨k0, k1, k2, kf0, kf1, kf2, _, _⟩ := t
        go_simp
        clear k0 k1 k2 kf0 kf1 kf2
        have hk : Fa wd g16 Fx.nil := ⟨k16, Fx.nil_ok _⟩
        have a2 := hk.put ok2
        have b5 := set3g (G := g16) (a := (.bool x2.b)) (b := (.slice x2.A x2.xs.length x2.c)) (c := (.slice x2.D x2.ys.length x2.d)) bz s16
        clear bz hk k16 ok2 hHeld
        generalize (((wd.setCell ⟨g16, 0, none⟩ (.bool x2.b)).setCell ⟨g16, 1, none⟩ (.slice x2.A x2.xs.length x2.c)).setCell ⟨g16, 2, none⟩ (.slice x2.D x2.ys.length x2.d)) = we at *
        have bz := b5
        clear b5
        generalize we = wd at *
        refine hK.out _ _ ⟨(H9.out.below bz).c0, (H9.out.below bz).c1, (H9.out.below bz).c2⟩ (fun hHeld => ?_)
        clear hK K
        try simp only [Act.put]
        try simp only [tzD, tzE, tzF]
        refine wpAnyH_ready (rs := [10]) (by kernel_rfl) (by simp) ?_
        refine AllReadyH.cons rfl (fun K hK => ?_) ?_
        ·go_simp
         refine hK.out _ _ ⟨(H9.out.below bz).c0, (H9.out.below bz).c1, (H9.out.below bz).c2⟩ (fun hHeld => ?_)
         clear hK K
         try simp only [Act.put]
         try simp only [tzD, tzE, tzF]
         refine wpAnyH_done (by kernel_rfl) ?_ _
         go_wp2_with fail
         go_meet
         case rel => exact ⟨g16, x2, rfl, n2, a2, bz⟩
        exact AllReadyH.nil
       exact AllReadyH.nil
      exact AllReadyH.nil
     exact AllReadyH.nil
    exact AllReadyH.nil
  case rest =>
    obtain ⟨g16, z, rfl, nz, a16, bb⟩ := hcut
    have a12 := H12.out.below bb
    have a14 := H14.out.below bb
    have bw := below_on HBW.out bb HBW.out.size
    clear bb H12 H14 HBW H9
    obtain ⟨la, ha, lb, hb, RA, RB, sa, sb, o1, o2⟩ := NP.out
    obtain ⟨t, ht⟩ : ∃ t, p / (((n : Int) + 1 : Int) : Rat) = t := ⟨_, rfl⟩
    rw [ht] at nz sa sb o1 o2 ZT T0
    clear ht NP
    have HRA := Lib.hid RA
    have HRB := Lib.hid RB
    have HSA := Lib.hid sa
    have HSB := Lib.hid sb
    have HO1 := Lib.hid o1
    have HO2 := Lib.hid o2
    have HNZ := Lib.hid nz
    clear RA RB sa sb o1 o2 nz
    have ci0 := a16.c0
    have ci1 := a16.c1
    have ci2 := a16.c2
    have cj0 := a12.c0
    have cj1 := a12.c1
    have cj2 := a12.c2
    have cj3 := a12.c3
    have cj4 := a12.c4
    have cj5 := a12.c5
    go_wp2_with fail
    clear ci0 ci1 ci2
    clear cj0 cj1 cj2 cj3 cj4 cj5
    refine (riscale_rp wc z i12 t la ha a16.ok a12.ok HNZ.out ZT.out T0.out HRA.out HSA.out HSB.out).mono ?_
    rintro _ wn ⟨i18, rfl, rc, ok18, bb⟩
    have HRC := Lib.hid rc
    clear rc
    try replace a9 := a9.below bb
    try replace a12 := a12.below bb
    try replace a14 := a14.below bb
    try replace a16 := a16.below bb
    replace bw := below_on bw bb bw.size
    clear bb
    clear a12 a16
    go_upto_region 8 with fail
    have a18 := (ia_alloc ok18).1
    have bb := (ia_alloc ok18).2
    clear ok18
    generalize (wn.alloc (.cells i18.cells 35)) = wm at a18 bb ⊢
    try replace a9 := a9.below bb
    try replace a12 := a12.below bb
    try replace a14 := a14.below bb
    try replace a16 := a16.below bb
    try replace a18 := a18.below bb
    replace bw := below_on bw bb bw.size
    clear bb
    generalize wn.heap.size = g18 at a18 ⊢
    have ci0 := a14.c0
    have ci1 := a14.c1
    have ci2 := a14.c2
    have ci3 := a14.c3
    have ci4 := a14.c4
    have ci5 := a14.c5
    have cj0 := a18.c0
    have cj1 := a18.c1
    have cj2 := a18.c2
    have cj3 := a18.c3
    have cj4 := a18.c4
    have cj5 := a18.c5
    go_wp2_with fail
    clear ci0 ci1 ci2 ci3 ci4 ci5
    clear cj0 cj1 cj2 cj3 cj4 cj5
    refine (rimeet_rp wm i14 i18 lb hb (t * la) (t * ha) a14.ok a18.ok HRB.out HRC.out HO1.out HO2.out).mono ?_
    rintro _ wn ⟨i20, rfl, ok20, bb⟩
    try replace a9 := a9.below bb
    try replace a12 := a12.below bb
    try replace a14 := a14.below bb
    try replace a16 := a16.below bb
    try replace a18 := a18.below bb
    replace bw := below_on bw bb bw.size
    clear bb
    clear a14 a18
    go_upto_region 9 with fail
    have a20 := (ia_alloc ok20).1
    have bb := (ia_alloc ok20).2
    clear ok20
    generalize (wn.alloc (.cells i20.cells 35)) = wm at a20 bb ⊢
    try replace a9 := a9.below bb
    try replace a12 := a12.below bb
    try replace a14 := a14.below bb
    try replace a16 := a16.below bb
    try replace a18 := a18.below bb
    try replace a20 := a20.below bb
    replace bw := below_on bw bb bw.size
    clear bb
    generalize wn.heap.size = g20 at a20 ⊢
    clear a20
    go_wp2_with fail
    refine (xawake_any wm).mono ?_
    rintro _ w8 ⟨rfl, bb⟩
    replace bw := below_on bw bb bw.size
    go_wp2_with fail
    go_ret
    exact ⟨rfl, bw⟩
theorem nxt_law (w : World) (a c d e : Int) (h1 : (Lit.int .u16 a).wf = true) (h3 : (Lit.int .u8 c).wf = true) (h4 : (Lit.int .u8 d).wf = true) (h5 : (Lit.int .u8 e).wf = true) :
    Calls Try.prog 8 #[.int .u16 a, .int .u8 c, .int .u8 d, .int .u8 e] w fun e w' => e = .returned (.bool true) ∧ Below w.heap.size w w' := by
  obtain ⟨na, rfl, hna⟩ := wf_u16 h1
  obtain ⟨den, rfl, hd⟩ := wf_u8 h3
  obtain ⟨ns, rfl, hn⟩ := wf_u8 h4
  obtain ⟨bs, rfl, hb⟩ := wf_u8 h5
  exact nxt_walk w na den ns bs hna hd hn hb
end Go.Proofs.Ytnmomigaedfdoaa
namespace Go.Proofs.Ytnmomigaedfdoaa
set_option maxRecDepth 100000
open Go.ChangeShapes Go.WideShapes Go.ChangeAt Go.RowKit

theorem own_knob : ownKnob Try.prog.godebug = none := by kernel_rfl
end Go.Proofs.Ytnmomigaedfdoaa
