/- The walk of ExpoWhole. -/
import Derived.Test.YtnmomigaedfdoaaEwNestedP
import Derived.Test.YtnmomigaedfdoaaEwBetween
namespace Go.Proofs.Ytnmomigaedfdoaa
set_option maxRecDepth 100000
open Go.RowKit

theorem prt_add (a c b : Nat) : prt a b + prt c b = prt (a + c) b := by
  have h1 := prt_mul a b
  have h2 := prt_mul c b
  have h3 := prt_mul (a + c) b
  have h5 := two_pos b
  rw [Rat.natCast_add] at h3
  have h4 : (prt a b + prt c b - prt (a + c) b) * ((2 ^ b : Nat) : Rat) = 0 := by grind
  rcases Rat.mul_eq_zero.1 h4 with h | h
  · grind
  · grind
/-- the sum of the tail behind n and the first k weights -/
def WhP (q : Rat) (b n k : Nat) (s : Ix) : Prop := ∃ A B, Ri s A B ∧ ((q = 0 ∧ A = (((if k = 0 then 0 else 1 : Nat)) : Rat) ∧ B = A) ∨ (q ≠ 0 ∧ ∃ S, S ≤ (k + 1) * 2 ^ b ∧ A = prt S b ∧ B = prt (S + 1 + k) b ∧
  ∃ M0, ∀ M, M0 ≤ M → (S : Rat) * eq_ q M ≤ ((2 ^ b : Nat) : Rat) * (eq_ q M - eq_ q (n + 1) + eq_ q k) ∧ ((2 ^ b : Nat) : Rat) * (eq_ q M - eq_ q (n + 1) + eq_ q k) < ((S + 1 + k : Nat) : Rat) * eq_ q M))
theorem wh_init {q : Rat} {b n : Nat} {i : Ix} (hq : Lq q) (hn : n ≤ 256) (b0 : 1 ≤ b) (b1 : b ≤ 63) (h : encP q n b 2 0 i) : WhP q b n 0 i := by
  rcases enc_ri h hq hn b0 b1 (by omega) (fun h => absurd h (by omega)) (by omega) with ⟨e0, r1, _⟩ | ⟨e0, m, hm, r1, _, _, M0, f⟩
  · exact ⟨_, _, r1, Or.inl ⟨e0, by rw [if_pos rfl], rfl⟩⟩
  · refine ⟨_, _, r1, Or.inr ⟨e0, m, by omega, rfl, rfl, M0, fun M hM => ?_⟩⟩
    obtain ⟨h1, h2⟩ := f M hM
    have e : sV 2 n q M = eq_ q M - eq_ q (n + 1) := rfl
    rw [e] at h1 h2
    have e2 : eq_ q M - eq_ q (n + 1) + eq_ q 0 = eq_ q M - eq_ q (n + 1) := by
      show _ + (0 : Rat) = _
      grind
    rw [e2, Nat.add_zero]
    exact ⟨h1, h2⟩
theorem wh_step {q : Rat} {b n k : Nat} {s i : Ix} (hq : Lq q) (hn : k ≤ 24) (b0 : 1 ≤ b) (b1 : b ≤ 40) (h : WhP q b n k s) (hi : encP q k b 1 (if k = 0 then 1 else 0) i) :
    ∃ A B c d, Ri s A B ∧ Ri i c d ∧ Sz (A + c) 128 128 ∧ Sz (B + d) 128 128 ∧ ∀ m, Ri m (A + c) (B + d) → WhP q b n (k + 1) m := by
  obtain ⟨A, B, r, h⟩ := h
  rcases enc_ri hi hq (by omega) b0 (by omega) (by omega) (fun h => absurd h (by omega)) (by split <;> omega) with ⟨e0, r1, _⟩ | ⟨e0, m, hm, r1, _, _, M1, f⟩
  · rcases h with ⟨_, h1, h2⟩ | ⟨e1, _⟩
    · subst h2
      have hs : B + (((if k = 0 then 1 else 0 : Nat)) : Rat) = ((1 : Nat) : Rat) := by
        rw [h1]
        by_cases hk : k = 0
        · rw [if_pos hk, if_pos hk]; show ((0 : Nat) : Rat) + ((1 : Nat) : Rat) = _; rw [← Rat.natCast_add]
        · rw [if_neg hk, if_neg hk]; show ((1 : Nat) : Rat) + ((0 : Nat) : Rat) = _; rw [← Rat.natCast_add]
      have sz1 : Sz ((1 : Nat) : Rat) 128 128 := one_szb
      refine ⟨B, B, _, _, r, r1, by rw [hs]; exact sz1, by rw [hs]; exact sz1, fun m hm => ?_⟩
      rw [hs] at hm
      exact ⟨_, _, hm, Or.inl ⟨e0, by rw [if_neg (by omega)], rfl⟩⟩
    · exact absurd e0 e1
  · rcases h with ⟨e1, _⟩ | ⟨_, S, hS, h1, h2, M0, g⟩
    · exact absurd e1 e0
    · have hp := Nat.pow_le_pow_right (n := 2) (by omega) b1
      have e40 : 2 ^ 40 = 1099511627776 := by decide
      have hS2 : S ≤ 25 * 2 ^ b := Nat.le_trans hS (Nat.mul_le_mul_right _ (by omega))
      have eA : A + prt m b = prt (S + m) b := by rw [h1, prt_add]
      have eB : B + prt (m + 1) b = prt (S + m + 1 + (k + 1)) b := by rw [h2, prt_add]; congr 1; omega
      refine ⟨A, B, _, _, r, r1, by rw [eA]; exact prt_sz (by omega) (by omega), by rw [eB]; exact prt_sz (by omega) (by omega), fun z hz => ?_⟩
      rw [eA, eB] at hz
      refine ⟨_, _, hz, Or.inr ⟨e0, S + m, ?_, rfl, rfl, max M0 M1, fun M hM => ?_⟩⟩
      · have e : (k + 1 + 1) * 2 ^ b = (k + 1) * 2 ^ b + 2 ^ b := by grind
        omega
      · obtain ⟨g1, g2⟩ := g M (by omega)
        obtain ⟨f1, f2⟩ := f M (by omega)
        have e : sV 1 k q M = tq q k := rfl
        have e2 : eq_ q (k + 1) = eq_ q k + tq q k := rfl
        have c1 : ((S + m : Nat) : Rat) = (S : Rat) + (m : Rat) := Rat.natCast_add _ _
        have c2 : ((S + m + 1 + (k + 1) : Nat) : Rat) = ((S + 1 + k : Nat) : Rat) + ((m + 1 : Nat) : Rat) := by rw [← Rat.natCast_add]; congr 1; omega
        rw [e] at f1 f2
        rw [e2, c1, c2]
        generalize ((2 ^ b : Nat) : Rat) = K at *
        generalize eq_ q M = E at *
        generalize eq_ q (n + 1) = u at *
        generalize eq_ q k = v at *
        generalize tq q k = t at *
        generalize ((S + 1 + k : Nat) : Rat) = s1 at *
        generalize ((m + 1 : Nat) : Rat) = m1 at *
        generalize (S : Rat) = s0 at *
        generalize (m : Rat) = m0 at *
        have d1 : K * (E - u + (v + t)) = K * (E - u + v) + K * t := by grind
        have d2 : (s0 + m0) * E = s0 * E + m0 * E := by grind
        have d3 : (s1 + m1) * E = s1 * E + m1 * E := by grind
        rw [d1, d2, d3]
        grind
theorem wh_end {q : Rat} {b n : Nat} {s : Ix} (hq : Lq q) (h : WhP q b n (n + 1) s) : ∃ A B, Ri s A B ∧ A ≤ ((1 : Int) : Rat) ∧ ((1 : Int) : Rat) ≤ B := by
  have c1 : ((1 : Int) : Rat) = 1 := rfl
  obtain ⟨A, B, r, h⟩ := h
  refine ⟨A, B, r, ?_⟩
  rw [c1]
  rcases h with ⟨_, h1, h2⟩ | ⟨_, S, _, h1, h2, M0, g⟩
  · rw [if_neg (by omega)] at h1
    have e : ((1 : Nat) : Rat) = 1 := rfl
    rw [h2, h1, e]
    exact ⟨Rat.le_refl, Rat.le_refl⟩
  · obtain ⟨g1, g2⟩ := g (M0 + 1) (by omega)
    have p1 : 0 < eq_ q (M0 + 1) := by have := eq_one_le hq.nn M0; grind
    have e : eq_ q (M0 + 1) - eq_ q (n + 1) + eq_ q (n + 1) = eq_ q (M0 + 1) := by grind
    rw [e] at g1 g2
    have k1 : S ≤ 2 ^ b := by
      have := Rat.le_of_mul_le_mul_right g1 p1
      exact_mod_cast this
    have k2 : 2 ^ b ≤ S + 1 + (n + 1) := by
      have := Rat.le_of_mul_le_mul_right (Rat.le_of_lt g2) p1
      exact_mod_cast this
    rw [h1, h2, ← prt_full b]
    exact ⟨prt_mono k1, prt_mono k2⟩
theorem Ia.putw {w : World} {G : Nat} {a z : Ix} (h : Ia w G a) (hz : z.ok w) : Ia (set6 w G (.bool z.lo.b) (.slice z.lo.A z.lo.xs.length z.lo.c) (.slice z.lo.D z.lo.ys.length z.lo.d) (.bool z.hi.b) (.slice z.hi.A z.hi.xs.length z.hi.c) (.slice z.hi.D z.hi.ys.length z.hi.d)) G z :=
  ⟨set6_blk h.bk rfl, ⟨set6_ok hz.lo h.bk (noInt_i a), set6_ok hz.hi h.bk (noInt_i a)⟩⟩
theorem Fa.farw {w : World} {G H : Nat} {x : Fx} {b : Ix} {v0 v1 v2 v3 v4 v5 : Value} (h : Fa w G x) (k : Ia w H b) (hne : H ≠ G) : Fa (set6 w H v0 v1 v2 v3 v4 v5) G x := by
  refine ⟨?_, set6_ok h.ok k.bk (noInt_i b)⟩
  have hg : (set6 w H v0 v1 v2 v3 v4 v5).heap[G]? = w.heap[G]? := by
    rw [set6, heap_setCell_other _ _ _ _ (by exact fun e => hne e.symm), heap_setCell_other _ _ _ _ (by exact fun e => hne e.symm), heap_setCell_other _ _ _ _ (by exact fun e => hne e.symm), heap_setCell_other _ _ _ _ (by exact fun e => hne e.symm), heap_setCell_other _ _ _ _ (by exact fun e => hne e.symm), heap_setCell_other _ _ _ _ (by exact fun e => hne e.symm)]
  have hc : ∀ o, (set6 w H v0 v1 v2 v3 v4 v5).cell? ⟨G, o, none⟩ = w.cell? ⟨G, o, none⟩ := fun o => by unfold World.cell?; rw [hg]
  have hf : ∀ o, (set6 w H v0 v1 v2 v3 v4 v5).frozen? ⟨G, o, none⟩ = w.frozen? ⟨G, o, none⟩ := fun o => by unfold World.frozen?; rw [hg]
  have b := h.bk
  exact ⟨(hc 0).trans b.c0, (hc 1).trans b.c1, (hc 2).trans b.c2, (hf 0).trans b.f0, (hf 1).trans b.f1, (hf 2).trans b.f2, by simp [World.setCell]; exact b.lt, by rw [hg]; exact b.blk⟩
set_option maxHeartbeats 1600000 in
theorem who_walk (w : World) (num0 den ns bs : Nat) (_hnum0 : num0 < 65536) (hd : den < 256) (hns : ns < 256) (hbs : bs < 256) :
    Calls Try.prog 10 #[.int .u16 (num0 : Int), .int .u8 (den : Int), .int .u8 (ns : Int), .int .u8 (bs : Int)] w fun e w' => e = .returned (.bool true) ∧ Below w.heap.size w w' := by
  go_enter Try.func10, Try.ntmps10
  have eu := bits_mod num0 512 (by omega)
  have eu2 : (num0 : Int) % 512 = ((num0 % 512 : Nat) : Int) := by omega
  have hnum : num0 % 512 < 65536 := by omega
  obtain ⟨num, hnn⟩ : ∃ num, num0 % 512 = num := ⟨_, rfl⟩
  rw [hnn] at eu eu2 hnum
  clear hnn _hnum0
  have SX := Lib.hid (numQ_ok hnum hd).1
  have LX := Lib.hid (numQ_lq hnum hd)
  go_wp2_with fail
  clear eu eu2
  refine (number_any w num den hnum hd).mono ?_
  rintro _ w1 ⟨x, rfl, rx, okx, bw⟩
  have RX := Lib.hid rx
  have L1 := Lib.hid (rx.l1 SX.out)
  have L2 := Lib.hid (rx.l2 SX.out)
  have CX : Hid (∀ (b : Nat) (n : Int), 1 ≤ b → b ≤ 64 → 0 ≤ n → n ≤ 256 → chkE x (b : Int) n = 0) := Lib.hid (fun b n h1 h2 h3 h4 => num_chk rx hnum hd h1 h2 h3 h4)
  clear rx
  go_upto_region 2 with fail
  have a9 := (fa_alloc okx).1
  have bb := (fa_alloc okx).2
  clear okx
  generalize (w1.alloc (.cells #[.bool x.b, .slice x.A x.xs.length x.c, .slice x.D x.ys.length x.d] 26)) = wn at a9 bb ⊢
  try replace a9 := a9.below bb
  replace bw := below_on bw bb bw.size
  clear bb
  have g9l := a9.lt
  generalize w1.heap.size = g9 at a9 g9l ⊢
  obtain ⟨p, hp⟩ : ∃ p, numQ num den = p := ⟨_, rfl⟩
  rw [hp] at RX LX SX
  clear hp
  have em := bits_mod bs 40 (by omega)
  have en := bits_mod ns 24 (by omega)
  have em2 : (bs : Int) % 40 = ((bs % 40 : Nat) : Int) := by omega
  have en2 : (ns : Int) % 24 = ((ns % 24 : Nat) : Int) := by omega
  obtain ⟨r, hr⟩ : ∃ r, bs % 40 = r := ⟨_, rfl⟩
  obtain ⟨n, hn⟩ : ∃ n, ns % 24 = n := ⟨_, rfl⟩
  rw [hr] at em em2
  rw [hn] at en en2
  have hr40 : r < 40 := by omega
  have hn24 : n < 24 := by omega
  obtain ⟨b, hbb⟩ : ∃ b, 1 + r = b := ⟨_, rfl⟩
  have HB : Hid (1 ≤ b ∧ b ≤ 40) := Lib.hid (by omega)
  have HN : Hid (n < 24) := Lib.hid hn24
  have HBE : Hid ((1 : Int) + (r : Int) = (b : Int)) := Lib.hid (by omega)
  clear hr hn hbb
  go_upto_region 4 with fail
  rw [HBE.out, en2]
  clear em em2 en en2 hr40 HBE
  have ci0 := a9.c0
  have ci1 := a9.c1
  have ci2 := a9.c2
  go_wp2_with fail
  clear ci0 ci1 ci2
  refine (xtail_any _ x (n : Int) (b : Int) 0 a9.ok L1.out L2.out (CX.out b n HB.out.1 (by have := HB.out; omega) (by omega) (by have := HN.out; omega))).mono ?_
  rintro _ wn ⟨s, rfl, ok12, hi, bb⟩
  have HW : Hid (WhP p b n 0 s) := Lib.hid (by
    have h1 := hi rfl
    rw [RX.out.q, Int.toNat_natCast, Int.toNat_natCast] at h1
    exact wh_init LX.out (by have := HN.out; omega) HB.out.1 (by have := HB.out; omega) h1)
  clear hi
  try replace a9 := a9.below bb
  replace bw := below_on bw bb bw.size
  clear bb
  go_upto_region 5 with fail
  have a12 := (ia_alloc ok12).1
  have bb := (ia_alloc ok12).2
  clear ok12
  have g12l : g9 < wn.heap.size := a9.lt
  have g12w : w.heap.size ≤ wn.heap.size := bw.size
  generalize (wn.alloc (.cells s.cells 35)) = wm at a12 bb ⊢
  try replace a9 := a9.below bb
  try replace a12 := a12.below bb
  replace bw := below_on bw bb bw.size
  clear bb
  generalize wn.heap.size = g12 at a12 g12l g12w ⊢
  clear g9l
  go_wp2_with fail
  go_loopw [14] (fun i wr => ∃ (k : Nat) (s : Ix), k ≤ n + 1 ∧ i = .int .i64 (k : Int) ∧ Fa wr g9 x ∧ Ia wr g12 s ∧ Hid (WhP p b n k s) ∧ Below w.heap.size w wr) (fun i _ => n + 2 - (intOf i).toNat)
  case atStart => exact ⟨0, s, by omega, rfl, a9, a12, HW, bw⟩
  case round =>
    clear a9 a12 bw HW
    obtain ⟨k, s, hk, rfl, a9, a12, HW, bw⟩ := hrel
    by_cases hkn : k ≤ n
    · have e1 : decide ((k : Int) ≤ (n : Int)) = true := decide_eq_true (by omega)
      have HK := Lib.hid hkn
      clear hkn
      have ci0 := a9.c0
      have ci1 := a9.c1
      have ci2 := a9.c2
      go_wp2_with fail
      clear ci0 ci1 ci2
      refine (xpoisson_any _ x (k : Int) (b : Int) 0 a9.ok L1.out L2.out (CX.out b k HB.out.1 (by have := HB.out; omega) (by omega) (by have := HN.out; have := HK.out; omega))).mono ?_
      rintro _ wn ⟨i15, rfl, ok15, hi, bb⟩
      have HS : Hid (∃ A B c d, Ri s A B ∧ Ri i15 c d ∧ Sz (A + c) 128 128 ∧ Sz (B + d) 128 128 ∧ ∀ m, Ri m (A + c) (B + d) → WhP p b n (k + 1) m) := Lib.hid (by
        have h1 := hi rfl
        rw [RX.out.q, Int.toNat_natCast, Int.toNat_natCast] at h1
        have e : (if (k : Int) = 0 then 1 else 0 : Nat) = (if k = 0 then 1 else 0 : Nat) := by
          by_cases h : k = 0
          · rw [if_pos h, if_pos (by omega)]
          · rw [if_neg h, if_neg (by omega)]
        rw [e] at h1
        exact wh_step LX.out (by have := HN.out; have := HK.out; omega) HB.out.1 HB.out.2 HW.out h1)
      clear hi HW
      try replace a9 := a9.below bb
      try replace a12 := a12.below bb
      replace bw := below_on bw bb bw.size
      clear bb
      obtain ⟨A, B, c, d, r1, r2, s1, s2, hw⟩ := HS.out
      have R1 := Lib.hid r1
      have R2 := Lib.hid r2
      have S1 := Lib.hid s1
      have S2 := Lib.hid s2
      have HW := Lib.hid hw
      clear r1 r2 s1 s2 hw HS
      go_upto_region 11 with fail
      have a15 := (ia_alloc ok15).1
      have bb := (ia_alloc ok15).2
      clear ok15
      generalize (wn.alloc (.cells i15.cells 35)) = wm at a15 bb ⊢
      try replace a9 := a9.below bb
      try replace a12 := a12.below bb
      try replace a15 := a15.below bb
      replace bw := below_on bw bb bw.size
      clear bb
      generalize wn.heap.size = g15 at a15 ⊢
      have ci0 := a12.c0
      have ci1 := a12.c1
      have ci2 := a12.c2
      have ci3 := a12.c3
      have ci4 := a12.c4
      have ci5 := a12.c5
      have cj0 := a15.c0
      have cj1 := a15.c1
      have cj2 := a15.c2
      have cj3 := a15.c3
      have cj4 := a15.c4
      have cj5 := a15.c5
      go_wp2_with fail
      clear ci0 ci1 ci2 ci3 ci4 ci5
      clear cj0 cj1 cj2 cj3 cj4 cj5
      refine (riadd_rp wm s i15 A B c d a12.ok a15.ok R1.out R2.out S1.out S2.out).mono ?_
      rintro _ wn ⟨z, rfl, rz, okz, bb⟩
      have HWZ : Hid (WhP p b n (k + 1) z) := Lib.hid (HW.out z rz)
      clear rz
      try replace a9 := a9.below bb
      try replace a12 := a12.below bb
      try replace a15 := a15.below bb
      replace bw := below_on bw bb bw.size
      clear bb
      clear a15
      have b12 := a12.putw okz
      have b9 := a9.farw a12 (v0 := .bool z.lo.b) (v1 := .slice z.lo.A z.lo.xs.length z.lo.c) (v2 := .slice z.lo.D z.lo.ys.length z.lo.d) (v3 := .bool z.hi.b) (v4 := .slice z.hi.A z.hi.xs.length z.hi.c) (v5 := .slice z.hi.D z.hi.ys.length z.hi.d) (by omega)
      have bw2 := set6_below (v0 := .bool z.lo.b) (v1 := .slice z.lo.A z.lo.xs.length z.lo.c) (v2 := .slice z.lo.D z.lo.ys.length z.lo.d) (v3 := .bool z.hi.b) (v4 := .slice z.hi.A z.hi.xs.length z.hi.c) (v5 := .slice z.hi.D z.hi.ys.length z.hi.d) bw g12w
      have br := a12.bk
      have r0 := br.cell 0
      have r1 := br.cell 1
      have r2 := br.cell 2
      have r3 := br.cell 3
      have r4 := br.cell 4
      have r5 := br.cell 5
      have rf0 := br.unf 0
      have rf1 := br.unf 1
      have rf2 := br.unf 2
      have rf3 := br.unf 3
      have rf4 := br.unf 4
      have rf5 := br.unf 5
      simp only [List.getElem?_toArray, List.getElem?_cons_succ, List.getElem?_cons_zero] at r0 r1 r2 r3 r4 r5
      have hk64 : k < 24 := by have := HN.out; have := HK.out; omega
      go_wp2_with fail
      go_roundw
      case rel => exact ⟨k + 1, z, by have := HK.out; omega, by go_num, b9, b12, HWZ, bw2⟩
      case measure => have := HK.out; simp [intOf]; omega
    · have e1 : decide ((k : Int) ≤ (n : Int)) = false := decide_eq_false (by omega)
      obtain rfl : k = n + 1 := by omega
      obtain ⟨A, B, r1, o1, o2⟩ := wh_end LX.out HW.out
      have HR := Lib.hid r1
      have HA := Lib.hid o1
      have HC := Lib.hid o2
      have H12 := Lib.hid a12
      have HBW := Lib.hid bw
      clear r1 o1 o2 a12 a9 bw HW hk hkn
      go_upto_region 14 with fail
      refine wp_region_held_drew (S := fun w' => Celi w' g12 s) (by kernel_rfl) (H12.out.below ((Below.refl wr.heap.size wr).drew)).cel (fun hHeld => ?_)
      have bz := (Below.refl wr.heap.size wr).drew
      generalize wr.drew = wd at *
      refine tkw 0 (s.val) rfl (by kernel_rfl) (by kernel_rfl) (by kernel_rfl) (fun _ _ _ h => h) ⟨by rfl, ?_⟩ (by assumption) ?_
      ·intro w hSw; (try dsimp only at hSw); obtain ⟨s0, s1, s2, s3, s4, s5⟩ := hSw; go_simp; (try with_reducible rfl)
      try simp only [Act.put, tzA, tzB, tzD, tzE, tzF]
      refine wpAnyH_ready (rs := [1]) (by kernel_rfl) (by simp) ?_
      refine AllReadyH.cons rfl (fun K hK => ?_) ?_
      ·go_simp
       go_at_call 16
       refine (xint_any wd 1 (by omega) (by omega)).mono ?_
       rintro e wd ⟨x1, rfl, n1, ok1, bb⟩
       try replace ok1 := ok1.below bb
       replace bz := below_on bz bb bz.size
       clear bb
       refine hK.out _ _ (H12.out.below bz).cel (fun hHeld => ?_)
       clear hK K
       try simp only [Act.put]
       try simp only [tzD, tzE, tzF]
       refine wpAnyH_ready (rs := [2]) (by kernel_rfl) (by simp) ?_
       refine AllReadyH.cons rfl (fun K hK => ?_) ?_
       ·go_simp
        go_at_call 36
        refine (ricontains_rp wd s x1 A B ((1 : Int) : Rat) (H12.out.below bz).ok ok1 HR.out n1 one_szb HA.out HC.out).mono ?_
        rintro e wd ⟨rfl, bb⟩
        clear ok1 n1
        try replace ok1 := ok1.below bb
        replace bz := below_on bz bb bz.size
        clear bb
        refine hK.out _ _ (H12.out.below bz).cel (fun hHeld => ?_)
        clear hK K
        try simp only [Act.put]
        try simp only [tzD, tzE, tzF]
        refine tkw 3 (.bool true) rfl (by kernel_rfl) (by kernel_rfl) (by kernel_rfl) (fun _ _ _ h => h) ⟨by rfl, ?_⟩ (by assumption) ?_
        ·intro w hSw; go_simp; (try with_reducible rfl)
        try simp only [Act.put, tzA, tzB, tzC, tzD, tzE, tzF]
        refine wpAnyH_ready (rs := [4]) (by kernel_rfl) (by simp) ?_
        refine AllReadyH.cons rfl (fun K hK => ?_) ?_
        ·go_simp
         go_at_call 17
         refine (xawake_any wd).mono ?_
         rintro e wd ⟨rfl, bb⟩
         try replace ok1 := ok1.below bb
         replace bz := below_on bz bb bz.size
         clear bb
         refine hK.out _ _ (H12.out.below bz).cel (fun hHeld => ?_)
         clear hK K
         try simp only [Act.put]
         try simp only [tzD, tzE, tzF]
         refine tkw 5 (.bool true) rfl (by kernel_rfl) (by kernel_rfl) (by kernel_rfl) (fun _ _ _ h => h) ⟨by rfl, ?_⟩ (by assumption) ?_
         ·intro w hSw; go_simp; (try with_reducible rfl)
         try simp only [Act.put, tzA, tzB, tzC, tzD, tzE, tzF]
         refine wpAnyH_ready (rs := [6]) (by kernel_rfl) (by simp) ?_
         refine AllReadyH.cons rfl (fun K hK => ?_) ?_
         ·go_simp
          refine hK.out _ _ (H12.out.below bz).cel (fun hHeld => ?_)
          clear hK K
          try simp only [Act.put]
          try simp only [tzD, tzE, tzF]
          refine wpAnyH_done (by kernel_rfl) ?_ _
          go_wp2_with fail
          go_ret
          exact ⟨rfl, below_on HBW.out bz HBW.out.size⟩
         exact AllReadyH.nil
        exact AllReadyH.nil
       exact AllReadyH.nil
      exact AllReadyH.nil
theorem who_law (w : World) (a c d e : Int) (h1 : (Lit.int .u16 a).wf = true) (h3 : (Lit.int .u8 c).wf = true) (h4 : (Lit.int .u8 d).wf = true) (h5 : (Lit.int .u8 e).wf = true) :
    Calls Try.prog 10 #[.int .u16 a, .int .u8 c, .int .u8 d, .int .u8 e] w fun e w' => e = .returned (.bool true) ∧ Below w.heap.size w w' := by
  obtain ⟨na, rfl, hna⟩ := wf_u16 h1
  obtain ⟨den, rfl, hd⟩ := wf_u8 h3
  obtain ⟨ns, rfl, hn⟩ := wf_u8 h4
  obtain ⟨bs, rfl, hb⟩ := wf_u8 h5
  exact who_walk w na den ns bs hna hd hn hb
end Go.Proofs.Ytnmomigaedfdoaa
