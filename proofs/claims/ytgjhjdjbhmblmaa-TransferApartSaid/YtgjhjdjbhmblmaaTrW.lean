/- The walks of SameInts and of the sanity check of the laws of transfers. -/
import Derived.Test.YtgjhjdjbhmblmaaTrN
import Derived.Test.YtgjhjdjbhmblmaaTrD
namespace Go.Proofs.Ytgjhjdjbhmblmaa
open Go.RowKit

theorem same_any (w : World) (A : Option Addr) (n c : Nat) (xs : List Int) (D : Option Addr) (m d : Nat) (ys : List Int) (b : Bool) (hA : Is w A c xs) (hD : Is w D d ys) (hn : n = xs.length) (hm : m = ys.length) (hb : decide (xs = ys) = b) :
    Calls Try.prog 20 #[.slice A n c, .slice D m d] w fun e w' => e = .returned (.bool b) ∧ Below w.heap.size w w' := by
  have HB := Lib.hid hb; clear hb
  have HA := Lib.hid hA; clear hA
  have HD := Lib.hid hD; clear hD
  subst hn hm
  have hla := HA.out.len
  by_cases hl : xs.length = ys.length
  · have hl1 : ((xs.length : Int) == (ys.length : Int)) = true := by simp [hl]
    have hl2 : ((xs.length : Int) != (ys.length : Int)) = false := by simp [hl]
    have HL := Lib.hid hl
    clear hl
    go_enter Try.func20, Try.ntmps20
    go_wp2_with fail
    go_loopw [5] (fun i wr => ∃ k : Nat, k ≤ xs.length ∧ i = .int .i64 k ∧ xs.take k = ys.take k ∧ Below w.heap.size w wr) (fun i _ => xs.length - (intOf i).toNat)
    case atStart => exact ⟨0, by omega, rfl, rfl, Below.refl _ _⟩
    case round =>
      obtain ⟨k, hk, rfl, hP, bw⟩ := hrel
      have HP := Lib.hid hP
      clear hP
      by_cases hlt : k < xs.length
      · have hlt2 : k < ys.length := by have := HL.out; omega
        obtain ⟨ad, rfl, _, hc⟩ := (HA.out.below bw).at k hlt
        obtain ⟨bd, rfl, _, hd⟩ := (HD.out.below bw).at k hlt2
        have hac := HA.out.cap
        have hdc := HD.out.cap
        have hdm := HD.out.max
        by_cases hz : xs[k] = ys[k]
        · have hz1 : (xs[k] == ys[k]) = true := by simp [hz]
          have hz2 : (xs[k] != ys[k]) = false := by simp [hz]
          have HNX : Hid (xs.take (k + 1) = ys.take (k + 1)) := Lib.hid (by rw [List.take_succ_eq_append_getElem hlt, List.take_succ_eq_append_getElem hlt2, HP.out, hz])
          clear hz HP
          go_wp2_with fail
          go_quiet (fail)
          go_wp2_with fail
          go_roundw
          case rel => exact ⟨k + 1, by omega, by go_num, HNX.out, below_drewN bw nq⟩
          case measure => simp [intOf]; omega
        · have hz1 : (xs[k] == ys[k]) = false := beq_eq_false_iff_ne.2 hz
          have hz2 : (xs[k] != ys[k]) = true := by simp [hz]
          have HBB : Hid (b = false) := Lib.hid (by
            rw [← HB.out]
            refine decide_eq_false (fun h => hz ?_)
            subst h; rfl)
          clear hz HP
          go_wp2_with fail
          go_quiet (fail)
          go_wp2_with fail
          go_ret
          exact ⟨ret_bool HBB.out.symm, below_drewN bw nq⟩
      · have HBB : Hid (b = true) := Lib.hid (by
          rw [← HB.out]
          have h1 := HP.out
          rw [List.take_of_length_le (by omega), List.take_of_length_le (by have := HL.out; omega)] at h1
          exact decide_eq_true h1)
        go_wp2_with fail
        go_ret
        exact ⟨ret_bool HBB.out.symm, bw⟩
  · have hl1 : ((xs.length : Int) == (ys.length : Int)) = false := beq_eq_false_iff_ne.2 (by omega)
    have hl2 : ((xs.length : Int) != (ys.length : Int)) = true := by simp; omega
    have HBB : Hid (b = false) := Lib.hid (by rw [← HB.out]; exact decide_eq_false (fun h => hl (by rw [h])))
    clear hl
    go_enter Try.func20, Try.ntmps20
    go_wp2_with fail
    go_ret
    exact ⟨ret_bool HBB.out.symm, Below.refl _ _⟩
/-- the transfers of the sanity check -/
abbrev awL : List Tr := [([0], 5, 0), ([0], 3, 0)]
instance (s : Un) : Decidable (allFin s) := inferInstanceAs (Decidable (∀ i, i < s.fin.length → s.fin.getD i true = true))
instance (s : Sm) : Decidable (allZ s) := inferInstanceAs (Decidable (∀ i, i < s.left.length → s.left.getD i 0 = 0))
theorem awC : checkM [4] awL = 0 := by decide +kernel
theorem awS0 : sentM [4] awL [5, 3] 0 = [2, 2] := by
  have hok : stepOk [4] awL [5, 3] 0 := by decide +kernel
  rw [sentM, ← unitsM_of hok.fl.ok (k := 5) (by decide +kernel)]
  decide +kernel
theorem awS1 : sentM [4] awL [3, 1] 1 = [3, 1] := by
  have hok : stepOk [4] awL [3, 1] 1 := by decide +kernel
  rw [sentM, ← unitsM_of hok.fl.ok (k := 6) (by decide +kernel)]
  decide +kernel
theorem awR : simM [4] awL 2 = ⟨[0, 0], [1, 1], 2⟩ := by
  have e0 : simM [4] awL 0 = ⟨[5, 3], [-1, -1], 0⟩ := rfl
  have e1 : simM [4] awL 1 = ⟨[3, 1], [-1, -1], 0⟩ := by
    rw [simM, e0, tickM]
    show fpart (sentM [4] awL [5, 3] 0) 0 _ _ = _
    rw [awS0]; rfl
  rw [simM, e1, tickM]
  show fpart (sentM [4] awL [3, 1] 1) 1 _ _ = _
  rw [awS1]; rfl
theorem awB : boundM [4] awL = 2 := by decide +kernel
theorem is_lit (w : World) (v : Int) (hv : -9223372036854775808 ≤ v ∧ v ≤ 9223372036854775807) (e : TypeId) : Is (w.alloc (.cells #[.int .i64 v] e)) (some ⟨w.heap.size, 0, none⟩) 1 [v] ∧ Below w.heap.size w (w.alloc (.cells #[.int .i64 v] e)) ∧ (w.alloc (.cells #[.int .i64 v] e)).heap.size = w.heap.size + 1 :=
  ⟨⟨by simp, by omega, Rd.one w e v, by intro x hx; rw [List.mem_singleton] at hx; rw [hx]; exact hv⟩, (Below.refl _ _).alloc (Nat.le_refl _) _, by simp⟩
theorem rdt_two (w : World) (x y : Tm) (e : TypeId) : RdT (w.alloc (.cells #[.slice x.A x.ls.length x.c, .int .i64 x.b, .int .i64 x.s, .slice y.A y.ls.length y.c, .int .i64 y.b, .int .i64 y.s] e)) (some ⟨w.heap.size, 0, none⟩) [x, y] := fun _ =>
  ⟨_, rfl, by simp, fun k hk => by
    rcases (show k = 0 ∨ k = 1 by simp at hk; omega) with rfl | rfl
    · exact ⟨by go_simp, by go_simp, by go_simp⟩
    · exact ⟨by go_simp, by go_simp, by go_simp⟩⟩
set_option maxRecDepth 100000 in
set_option maxHeartbeats 1600000 in
theorem awake_any (w : World) : Calls Try.prog 10 #[] w fun e w' => e = .returned (.bool true) ∧ Below w.heap.size w w' := by
  go_enter Try.func10, Try.ntmps10
  go_upto_region 2 with fail
  obtain ⟨i0, b0, z0⟩ := is_lit w 0 (by omega) 3
  generalize (w.alloc (.cells #[.int .i64 0] 3)) = w0 at i0 b0 z0 ⊢
  obtain ⟨i1, b1, z1⟩ := is_lit w0 0 (by omega) 3
  rw [z0] at i1 z1
  generalize (w0.alloc (.cells #[.int .i64 0] 3)) = w1 at i1 b1 z1 ⊢
  have bt := (Below.refl w1.heap.size w1).alloc (Nat.le_refl _) (.cells #[.slice (some ⟨w.heap.size, 0, none⟩) 1 1, .int .i64 5, .int .i64 0, .slice (some ⟨w.heap.size + 1, 0, none⟩) 1 1, .int .i64 3, .int .i64 0] 26)
  have hT : Ts (w1.alloc (.cells #[.slice (some ⟨w.heap.size, 0, none⟩) 1 1, .int .i64 5, .int .i64 0, .slice (some ⟨w.heap.size + 1, 0, none⟩) 1 1, .int .i64 3, .int .i64 0] 26)) (some ⟨w.heap.size + 1 + 1, 0, none⟩) 2 [⟨some ⟨w.heap.size, 0, none⟩, 1, [0], 5, 0⟩, ⟨some ⟨w.heap.size + 1, 0, none⟩, 1, [0], 3, 0⟩] := by
    have e2 : w.heap.size + 1 + 1 = w1.heap.size := z1.symm
    have hr := rdt_two w1 ⟨some ⟨w.heap.size, 0, none⟩, 1, [0], 5, 0⟩ ⟨some ⟨w.heap.size + 1, 0, none⟩, 1, [0], 3, 0⟩ 26
    rw [← e2] at hr
    refine ⟨by simp, by omega, hr, fun x hx => ?_⟩
    · simp only [List.mem_cons, List.not_mem_nil, or_false] at hx
      rcases hx with rfl | rfl
      · exact ⟨(i0.below b1).below bt, by show (-9223372036854775808 : Int) ≤ 5 ∧ (5 : Int) ≤ _; omega, by show (-9223372036854775808 : Int) ≤ 0 ∧ (0 : Int) ≤ _; omega⟩
      · exact ⟨i1.below bt, by show (-9223372036854775808 : Int) ≤ 3 ∧ (3 : Int) ≤ _; omega, by show (-9223372036854775808 : Int) ≤ 0 ∧ (0 : Int) ≤ _; omega⟩
  have bw : Below w.heap.size w (w1.alloc (.cells #[.slice (some ⟨w.heap.size, 0, none⟩) 1 1, .int .i64 5, .int .i64 0, .slice (some ⟨w.heap.size + 1, 0, none⟩) 1 1, .int .i64 3, .int .i64 0] 26)) := below_on (below_on b0 b1 b0.size) bt (by omega)
  have HT := Lib.hid hT
  clear hT i0 i1 b0 b1 bt
  generalize (w1.alloc (.cells #[.slice (some ⟨w.heap.size, 0, none⟩) 1 1, .int .i64 5, .int .i64 0, .slice (some ⟨w.heap.size + 1, 0, none⟩) 1 1, .int .i64 3, .int .i64 0] 26)) = wt at HT bw ⊢
  obtain ⟨ts, hts⟩ : ∃ ts : List Tm, [⟨some ⟨w.heap.size, 0, none⟩, 1, [0], 5, 0⟩, ⟨some ⟨w.heap.size + 1, 0, none⟩, 1, [0], 3, 0⟩] = ts := ⟨_, rfl⟩
  rw [hts] at HT
  have HTL : Hid (2 = ts.length) := Lib.hid (by rw [← hts]; rfl)
  have HTR : Hid (ts.map Tm.tr = awL) := Lib.hid (by rw [← hts]; rfl)
  clear hts
  generalize w.heap.size + 1 + 1 = gt at HT ⊢
  have h60 : ts.length ≤ 60 := by have := HTL.out; omega
  go_wp2_with fail
  obtain ⟨ic, bc, _⟩ := is_lit wt 4 (by omega) 3
  refine (trun_ok (wt.alloc (.cells #[.int .i64 4] 3)) _ 1 1 [4] _ 2 2 ts ic (HT.out.below bc) rfl HTL.out h60 awL HTR.out awC 2 (by rw [awR]; decide) (by omega)).mono ?_
  rintro e wr hres
  rw [awR] at hres
  obtain ⟨A', c', rfl, hfin, bb⟩ := hres
  have bw2 := below_on (below_on bw bc bw.size) bb (Nat.le_trans bw.size bc.size)
  have HFIN := Lib.hid hfin
  have HT2 := Lib.hid ((HT.out.below bc).below bb)
  clear ic bc bb hfin bw
  go_upto_region 3 with fail
  obtain ⟨bk, bb, _⟩ := bk2_alloc wr (.slice A' 2 c') (.int .i64 2) 29
  have HFIN2 := Lib.hid (HFIN.out.below bb)
  have HT3 := Lib.hid (HT2.out.below bb)
  have bw3 := below_on bw2 bb bw2.size
  clear bb HT2 bw2
  generalize (wr.alloc (.cells #[.slice A' 2 c', .int .i64 2] 29)) = ws at bk HFIN2 HT3 bw3 ⊢
  generalize wr.heap.size = gs at *
  clear HFIN
  go_wp2_with fail
  obtain ⟨ic, bc, _⟩ := is_lit ws 4 (by omega) 3
  refine (tbound_ok (ws.alloc (.cells #[.int .i64 4] 3)) _ 1 1 [4] _ 2 2 ts ic (HT3.out.below bc) rfl HTL.out h60 awL HTR.out awC).mono ?_
  rw [awB]
  rintro e wb ⟨rfl, bb⟩
  have bk2 := (bk.below bc).below bb
  have HFIN3 := Lib.hid ((HFIN2.out.below bc).below bb)
  have bw4 := below_on (below_on bw3 bc bw3.size) bb (Nat.le_trans bw3.size bc.size)
  clear ic bc bb bk HFIN2 HT3 bw3
  have k0 := bk2.c0
  have k1 := bk2.c1
  go_wp2_with fail
  have gl := Gr.lit (mk := iv) (e := 3) (B := wb.heap.size) wb [1, 1] #[.int .i64 1, .int .i64 1] rfl (by simp [maxLen]) (Nat.le_refl _)
  have bl := (Below.refl wb.heap.size wb).alloc (Nat.le_refl _) (.cells #[.int .i64 1, .int .i64 1] 3)
  refine (same_any _ A' _ c' [1, 1] _ _ _ [1, 1] true (HFIN3.out.below bl) (gl.is (by intro x hx; simp at hx; omega)) rfl rfl (by decide)).mono ?_
  rintro e wc ⟨rfl, bb⟩
  have bk3 := (bk2.below bl).below bb
  have k0 := bk3.c0
  have k1 := bk3.c1
  have bw5 := below_on (below_on bw4 bl bw4.size) bb (Nat.le_trans bw4.size bl.size)
  clear gl bl bb bk2 HFIN3 bw4
  go_wp2_with fail
  go_ret
  exact ⟨rfl, bw5⟩
end Go.Proofs.Ytgjhjdjbhmblmaa
