/- The walk of expo.Terms. The walks of expo.unit and expo.enclose. -/
import Derived.Test.YtnmomigaedfdoaaExG
import Derived.Test.YtnmomigaedfdoaaIvB
namespace Go.Proofs.Ytnmomigaedfdoaa
set_option maxRecDepth 100000
open Go.RowKit

theorem xok_of {q : Rat} {bits n : Int} (h : ¬ rangeP q bits n) (hl : ¬ longP q) : XOk q.num.natAbs q.den := by
  have h1 : ¬ q < 0 := fun k => h (Or.inl k)
  have h2 : ¬ 64 < q := fun k => h (Or.inr (Or.inl k))
  have l1 : (lim q.num.natAbs).length ≤ 2 := Nat.le_of_not_lt fun k => hl (Or.inl k)
  have l2 : (lim q.den).length ≤ 2 := Nat.le_of_not_lt fun k => hl (Or.inr k)
  rw [lim_length_le] at l1 l2
  refine ⟨q.den_pos, l2, l1, ?_⟩
  have h3 : q ≤ 64 := by grind
  have hn : 0 ≤ q.num := Rat.num_nonneg.2 (by grind)
  have h4 := Rat.le_iff (a := q) (b := 64) |>.1 h3
  have e1 : (64 : Rat).num = 64 := rfl
  have e2 : (64 : Rat).den = 1 := rfl
  rw [e1, e2] at h4
  omega
theorem bits_of {q : Rat} {bits n : Int} (h : ¬ rangeP q bits n) : (1 ≤ bits ∧ bits ≤ 64) ∧ 0 ≤ n ∧ n ≤ 256 := by
  unfold rangeP at h
  refine ⟨⟨?_, ?_⟩, ?_, ?_⟩
  · exact Int.not_lt.1 fun k => h (Or.inr (Or.inr (Or.inl k)))
  · exact Int.not_lt.1 fun k => h (Or.inr (Or.inr (Or.inr (Or.inl k))))
  · exact Int.not_lt.1 fun k => h (Or.inr (Or.inr (Or.inr (Or.inr (Or.inl k)))))
  · exact Int.not_lt.1 fun k => h (Or.inr (Or.inr (Or.inr (Or.inr (Or.inr k)))))
theorem chkE_ok {x : Fx} {bits n : Int} (h : chkE x bits n = 0) : x.v ∧ ¬ rangeP x.q bits n ∧ ¬ longP x.q := by
  unfold chkE at h
  by_cases h1 : x.v
  · rw [if_neg (fun k => k h1)] at h
    by_cases h2 : rangeP x.q bits n
    · rw [if_pos h2] at h; exact absurd h (by decide)
    · rw [if_neg h2] at h
      by_cases h3 : longP x.q
      · rw [if_pos h3] at h; exact absurd h (by decide)
      · exact ⟨h1, h2, h3⟩
  · rw [if_pos h1] at h; exact absurd h (by decide)
/-- the sum of the weights behind m is below 2^-b -/
def zP (q : Rat) (b m : Nat) : Prop := floorM q.num.natAbs q.den m b 2 = 0
def termsP (q : Rat) (b r : Nat) : Prop := (q = 0 ∧ r = 0) ∨ (q ≠ 0 ∧ zP q b r ∧ (r = 0 ∨ ¬ zP q b (r - 1)))
end Go.Proofs.Ytnmomigaedfdoaa
namespace Go.Proofs.Ytnmomigaedfdoaa
set_option maxRecDepth 100000
open Go.RowKit

/-- m parts of 2^-b -/
abbrev prt (m b : Nat) : Rat := qv false m (2 ^ b)
theorem len128 {m : Nat} (h : m ≤ 36893488147419103232) : (lim m).length ≤ 128 := by
  have h3 : (lim m).length ≤ 3 := by
    rw [lim_length_le]
    have h4 : pw 3 = 79228162514264337593543950336 := by rfl
    omega
  omega
theorem pow64 {b : Nat} (h : b ≤ 64) : 1 ≤ 2 ^ b ∧ 2 ^ b ≤ 18446744073709551616 := by
  have h2 := Nat.pow_le_pow_right (n := 2) (by omega) h
  exact ⟨Nat.one_le_two_pow, by omega⟩
theorem prt_v {m b : Nat} (A D : Option Addr) (c d : Nat) (hm : m ≤ 36893488147419103232) (hb : b ≤ 64) : (⟨false, A, c, lim m, D, d, lim (2 ^ b)⟩ : Fx).v ∧ (⟨false, A, c, lim m, D, d, lim (2 ^ b)⟩ : Fx).q = prt m b := by
  have h1 := pow64 hb
  refine ⟨?_, ?_⟩
  · show Vf (nv (lim m)) (nv (lim (2 ^ b)))
    rw [nv_lim, nv_lim]
    exact ⟨by omega, len128 (by omega), len128 (by omega)⟩
  · show qv false (nv (lim m)) (nv (lim (2 ^ b))) = _
    rw [nv_lim, nv_lim]
theorem prt_red {m b : Nat} (A D : Option Addr) (c d : Nat) (hm : m ≤ 36893488147419103232) (hb : b ≤ 64) : redS ⟨false, A, c, lim m, D, d, lim (2 ^ b)⟩ = okS (prt m b) := by
  obtain ⟨h1, h2⟩ := prt_v A D c d hm hb
  rw [redS_okS h1, h2]
set_option maxHeartbeats 1600000 in
theorem xunit_any (w : World) (A : Option Addr) (c m b : Nat) (h : Nt w A c (lim m)) (hm : m ≤ 18446744073709551616) (hb : b ≤ 64) :
    Calls Try.prog 75 #[.slice A (lim m).length c, .int .i64 (b : Int)] w fun e w' => ∃ i : Ix, e = .returned i.val ∧ Rp i.lo (prt m b) ∧ Rp i.hi (prt (m + 1) b) ∧ i.ok w' ∧ Below w.heap.size w w' := by
  have HSB : Hid (shO b = 2 ^ b) := Lib.hid (shO_ok (by omega))
  have HAD : Hid (addO m 1 = m + 1) := Lib.hid (addO_ok (Nat.le_trans (len128 (by omega)) (by omega)) (Nat.le_trans (len128 (by omega)) (by omega)) (Nat.le_trans (len128 (by omega)) (by omega)))
  have HL0 : Hid ((lim m).length ≤ 10000) := Lib.hid (Nat.le_trans (len128 (by omega)) (by omega))
  have HL1 : Hid ((lim (m + 1)).length ≤ 10000) := Lib.hid (Nat.le_trans (len128 (by omega)) (by omega))
  have HL2 : Hid ((lim (2 ^ b)).length ≤ 10000) := Lib.hid (Nat.le_trans (len128 (by have := (pow64 hb).2; omega)) (by omega))
  go_enter Try.func75, Try.ntmps75
  go_upto_region 1 with fail
  have br := (zr_alloc w).1
  have bw := (zr_alloc w).2
  replace h := h.below bw
  generalize (w.alloc (.cells zcells 35)) = w1 at br bw h ⊢
  go_wp2_with fail
  refine (make_any w1 1 (by omega)).mono ?_
  rintro _ w2 ⟨A1, c1, rfl, n1, bb⟩
  replace h := h.below bb
  replace br := br.below bb
  replace bw := below_on bw bb bw.size
  clear bb
  go_wp2_with fail
  refine (nsh_any w2 A1 c1 b n1).mono ?_
  rintro _ w3 ⟨A2, c2, E2, rfl, n2, bb⟩
  rw [HSB.out] at n2 ⊢
  replace h := h.below bb
  replace br := br.below bb
  replace bw := below_on bw bb bw.size
  clear bb n1
  go_wp2_with fail
  refine (make_any w3 1 (by omega)).mono ?_
  rintro _ w4 ⟨A3, c3, rfl, n3, bb⟩
  replace h := h.below bb
  replace n2 := n2.below bb
  replace br := br.below bb
  replace bw := below_on bw bb bw.size
  clear bb
  go_wp2_with fail
  refine (nadd_any w4 A A3 c c3 m 1 h n3).mono ?_
  rintro _ w5 ⟨A4, c4, E4, rfl, n4, bb⟩
  rw [HAD.out] at n4 ⊢
  replace h := h.below bb
  replace n2 := n2.below bb
  replace br := br.below bb
  replace bw := below_on bw bb bw.size
  clear bb n3
  go_wp2_with fail
  refine (freduce_any w5 ⟨false, A, c, lim m, A2, c2, lim (2 ^ b)⟩ (okS (prt m b)) ⟨h, n2⟩ HL0.out HL2.out (prt_red A A2 c c2 (by omega) hb)).mono ?_
  rintro _ w6 ⟨x3, rfl, hs3, ok3, bb⟩
  have R3 := Lib.hid (Rp.of hs3)
  replace n2 := n2.below bb
  replace n4 := n4.below bb
  replace br := br.below bb
  replace bw := below_on bw bb bw.size
  clear bb h hs3
  go_upto_region 4 with fail
  have a3 := (fa_alloc ok3).1
  have bb := (fa_alloc ok3).2
  clear ok3
  generalize (w6.alloc (.cells #[.bool x3.b, .slice x3.A x3.xs.length x3.c, .slice x3.D x3.ys.length x3.d] 26)) = w7 at a3 bb ⊢
  replace n2 := n2.below bb
  replace n4 := n4.below bb
  replace br := br.below bb
  replace bw := below_on bw bb bw.size
  clear bb
  generalize w6.heap.size = g3 at a3 ⊢
  go_wp2_with fail
  refine (freduce_any w7 ⟨false, A4, c4, lim (m + 1), A2, c2, lim (2 ^ b)⟩ (okS (prt (m + 1) b)) ⟨n4, n2⟩ HL1.out HL2.out (prt_red A4 A2 c4 c2 (by omega) hb)).mono ?_
  rintro _ w8 ⟨x4, rfl, hs4, ok4, bb⟩
  have R4 := Lib.hid (Rp.of hs4)
  replace a3 := a3.below bb
  replace br := br.below bb
  replace bw := below_on bw bb bw.size
  clear bb n2 n4 hs4
  go_upto_region 5 with fail
  have a4 := (fa_alloc ok4).1
  have bb := (fa_alloc ok4).2
  clear ok4
  generalize (w8.alloc (.cells #[.bool x4.b, .slice x4.A x4.xs.length x4.c, .slice x4.D x4.ys.length x4.d] 26)) = w9 at a4 bb ⊢
  replace a3 := a3.below bb
  replace br := br.below bb
  replace bw := below_on bw bb bw.size
  clear bb
  generalize w8.heap.size = g4 at a4 ⊢
  have ci0 := a3.c0
  have ci1 := a3.c1
  have ci2 := a3.c2
  have cj0 := a4.c0
  have cj1 := a4.c1
  have cj2 := a4.c2
  have r0 := br.cell 0
  have r1 := br.cell 1
  have r2 := br.cell 2
  have r3 := br.cell 3
  have r4 := br.cell 4
  have r5 := br.cell 5
  have rf0 := br.unf 0
  have rf1 := br.unf 1
  have rf2 := br.unf 2
  have rf3 := br.unf 3
  have rf4 := br.unf 4
  have rf5 := br.unf 5
  simp only [List.getElem?_toArray, List.getElem?_cons_succ, List.getElem?_cons_zero] at r0 r1 r2 r3 r4 r5
  go_wp2_with fail
  refine bodyPost_ret (v := (⟨x3, x4⟩ : Ix).val) (by simp [results, Try.results75, go_sem, r0, r1, r2, r3, r4, r5]) rfl ?_
  exact ⟨⟨x3, x4⟩, rfl, R3.out, R4.out, ⟨set6_ok a3.ok br noInt_z, set6_ok a4.ok br noInt_z⟩, set6_below bw (by omega)⟩
end Go.Proofs.Ytnmomigaedfdoaa
