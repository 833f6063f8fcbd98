/- The walk of expo.series. -/
import Derived.Test.YtnmomigaedfdoaaExD
import Derived.Deep.Cut
namespace Go.Proofs.Ytnmomigaedfdoaa
set_option maxRecDepth 100000
open Go.RowKit

/-- what series holds in memory -/
structure SeW (w wr : World) (g g11 : Nat) (x : Fx) (t term rest all : Px) : Prop where
  q : Qv wr g x
  v6 : Pv wr (g + 1) term
  v7 : Pv wr (g + 1 + 1) rest
  v8 : Pv wr (g + 1 + 1 + 1) all
  v11 : Pv wr g11 t
  bw : Below w.heap.size w wr
  hg : w.heap.size = g
  h11 : g + 1 + 1 + 1 < g11
section
variable {w wr wn : World} {g g11 : Nat} {x : Fx} {t term rest all y : Px}
theorem SeW.below (h : SeW w wr g g11 x t term rest all) (bb : Below wr.heap.size wr wn) : SeW w wn g g11 x t term rest all :=
  ⟨h.q.below bb, h.v6.below bb, h.v7.below bb, h.v8.below bb, h.v11.below bb, below_on h.bw bb h.bw.size, h.hg, h.h11⟩
theorem SeW.put6 (h : SeW w wr g g11 x t term rest all) (hy : y.ok wr) : SeW w (set2 wr (g + 1) (.slice y.A (lim y.lo).length y.c) (.slice y.D (lim y.hi).length y.d)) g g11 x t y rest all :=
  have := h.h11
  have := h.hg
  ⟨h.q.far h.v6 (by omega), h.v6.put hy, h.v7.far h.v6 (by omega), h.v8.far h.v6 (by omega), h.v11.far h.v6 (by omega), set2_below h.bw (by omega), h.hg, h.h11⟩
theorem SeW.put7 (h : SeW w wr g g11 x t term rest all) (hy : y.ok wr) : SeW w (set2 wr (g + 1 + 1) (.slice y.A (lim y.lo).length y.c) (.slice y.D (lim y.hi).length y.d)) g g11 x t term y all :=
  have := h.h11
  have := h.hg
  ⟨h.q.far h.v7 (by omega), h.v6.far h.v7 (by omega), h.v7.put hy, h.v8.far h.v7 (by omega), h.v11.far h.v7 (by omega), set2_below h.bw (by omega), h.hg, h.h11⟩
theorem SeW.put8 (h : SeW w wr g g11 x t term rest all) (hy : y.ok wr) : SeW w (set2 wr (g + 1 + 1 + 1) (.slice y.A (lim y.lo).length y.c) (.slice y.D (lim y.hi).length y.d)) g g11 x t term rest y :=
  have := h.h11
  have := h.hg
  ⟨h.q.far h.v8 (by omega), h.v6.far h.v8 (by omega), h.v7.far h.v8 (by omega), h.v8.put hy, h.v11.far h.v8 (by omega), set2_below h.bw (by omega), h.hg, h.h11⟩
theorem SeW.put11 (h : SeW w wr g g11 x t term rest all) (hy : y.ok wr) : SeW w (set2 wr g11 (.slice y.A (lim y.lo).length y.c) (.slice y.D (lim y.hi).length y.d)) g g11 x y term rest all :=
  have := h.h11
  have := h.hg
  ⟨h.q.far h.v11 (by omega), h.v6.far h.v11 (by omega), h.v7.far h.v11 (by omega), h.v8.far h.v11 (by omega), h.v11.put hy, set2_below h.bw (by omega), h.hg, h.h11⟩
end
theorem lim_one : lim 1 = [1] := by rw [lim_pos (by omega)]; simp [lim_zero]
theorem bits_le_one {a : Nat} : bits2 a ≤ 1 ↔ a < 2 := by rw [bits2_le]
theorem ser_init {w : World} {x : Fx} (hx : x.ok w) : Qv ((((w.alloc (.cells x.cells 26)).alloc (.cells #[.slice none 0 0, .slice none 0 0] 97)).alloc (.cells #[.slice none 0 0, .slice none 0 0] 97)).alloc (.cells #[.slice none 0 0, .slice none 0 0] 97)) w.heap.size x ∧
    Pv ((((w.alloc (.cells x.cells 26)).alloc (.cells #[.slice none 0 0, .slice none 0 0] 97)).alloc (.cells #[.slice none 0 0, .slice none 0 0] 97)).alloc (.cells #[.slice none 0 0, .slice none 0 0] 97)) (w.heap.size + 1) Px.nil ∧
    Pv ((((w.alloc (.cells x.cells 26)).alloc (.cells #[.slice none 0 0, .slice none 0 0] 97)).alloc (.cells #[.slice none 0 0, .slice none 0 0] 97)).alloc (.cells #[.slice none 0 0, .slice none 0 0] 97)) (w.heap.size + 1 + 1) Px.nil ∧
    Pv ((((w.alloc (.cells x.cells 26)).alloc (.cells #[.slice none 0 0, .slice none 0 0] 97)).alloc (.cells #[.slice none 0 0, .slice none 0 0] 97)).alloc (.cells #[.slice none 0 0, .slice none 0 0] 97)) (w.heap.size + 1 + 1 + 1) Px.nil ∧
    Below w.heap.size w ((((w.alloc (.cells x.cells 26)).alloc (.cells #[.slice none 0 0, .slice none 0 0] 97)).alloc (.cells #[.slice none 0 0, .slice none 0 0] 97)).alloc (.cells #[.slice none 0 0, .slice none 0 0] 97)) ∧
    ((((w.alloc (.cells x.cells 26)).alloc (.cells #[.slice none 0 0, .slice none 0 0] 97)).alloc (.cells #[.slice none 0 0, .slice none 0 0] 97)).alloc (.cells #[.slice none 0 0, .slice none 0 0] 97)).heap.size = w.heap.size + 1 + 1 + 1 + 1 := by
  obtain ⟨q, b⟩ := qv_alloc hx 26
  have z := size_al w (.cells x.cells 26)
  generalize (w.alloc (.cells x.cells 26)) = w1 at q b z ⊢
  obtain ⟨v6, b1⟩ := pv_new w1 97
  have z1 := size_al w1 (.cells #[.slice none 0 0, .slice none 0 0] 97)
  replace q := q.below b1
  replace b := below_on b b1 b.size
  rw [z] at v6 z1
  generalize (w1.alloc (.cells #[.slice none 0 0, .slice none 0 0] 97)) = w2 at q b v6 z1 ⊢
  obtain ⟨v7, b2⟩ := pv_new w2 97
  have z2 := size_al w2 (.cells #[.slice none 0 0, .slice none 0 0] 97)
  replace q := q.below b2
  replace v6 := v6.below b2
  replace b := below_on b b2 b.size
  rw [z1] at v7 z2
  generalize (w2.alloc (.cells #[.slice none 0 0, .slice none 0 0] 97)) = w3 at q b v6 v7 z2 ⊢
  obtain ⟨v8, b3⟩ := pv_new w3 97
  have z3 := size_al w3 (.cells #[.slice none 0 0, .slice none 0 0] 97)
  rw [z2] at v8 z3
  exact ⟨q.below b3, v6.below b3, v7.below b3, v8, below_on b b3 b.size, z3⟩
set_option maxHeartbeats 6400000 in
theorem xseries_any (w : World) (x : Fx) (num den n p : Nat) (hx : x.ok w) (hn : x.xs = lim num) (hd : x.ys = lim den) (ho : XOk num den) (hn2 : n ≤ 256) (hp : p ≤ 100000) :
    Calls Try.prog 90 #[x.val, .int .i64 (n : Int), .int .i64 (p : Int)] w fun e w' => ∃ a b c : Px, e = .returned (.tuple #[a.val, b.val, c.val]) ∧ a.pr = tP num den (shO p) n ∧ b.pr = sumR num den (shO p) n ∧ c.pr = sumA num den (shO p) n ∧ a.ok w' ∧ b.ok w' ∧ c.ok w' ∧ Below w.heap.size w w' := by
  obtain ⟨b, A, c, xs, D, d, ys⟩ := x
  simp only at hn hd
  subst hn hd
  have HO := Lib.hid ho
  have HST := Lib.hid (stop_spec (shO p) ho hn2)
  clear ho
  go_enter Try.func90, Try.ntmps90
  go_upto_region 1 with fail
  have h0 := ser_init hx
  clear hx
  generalize ((((w.alloc (.cells #[.bool b, .slice A (lim num).length c, .slice D (lim den).length d] 26)).alloc (.cells #[.slice none 0 0, .slice none 0 0] 97)).alloc (.cells #[.slice none 0 0, .slice none 0 0] 97)).alloc (.cells #[.slice none 0 0, .slice none 0 0] 97)) = w1 at h0 ⊢
  obtain ⟨q, v6, v7, v8, bw, hz⟩ := h0
  obtain ⟨g, hg⟩ : ∃ g, w.heap.size = g := ⟨_, rfl⟩
  rw [hg] at q v6 v7 v8 hz ⊢
  go_wp2_with fail
  refine (make_any w1 1 (by omega)).mono ?_
  rintro _ w2 ⟨A1, c1, rfl, n1, bb⟩
  replace q := q.below bb
  replace v6 := v6.below bb
  replace v7 := v7.below bb
  replace v8 := v8.below bb
  replace bw := below_on bw bb bw.size
  have hz1 := bb.size
  clear bb
  go_wp2_with fail
  refine (nsh_any w2 A1 c1 p n1).mono ?_
  rintro _ w3 ⟨A2, c2, E2, rfl, n2, bb⟩
  replace q := q.below bb
  replace v6 := v6.below bb
  replace v7 := v7.below bb
  replace v8 := v8.below bb
  replace bw := below_on bw bb bw.size
  have hz2 := bb.size
  clear bb n1
  go_upto_region 3 with fail
  have hok : (⟨A2, c2, shO p, A2, c2, shO p⟩ : Px).ok w3 := ⟨n2, n2⟩
  have v11 := (pv_alloc hok 97).1
  have bb := (pv_alloc hok 97).2
  have h11 : g + 1 + 1 + 1 < w3.heap.size := by omega
  replace q := q.below bb
  replace v6 := v6.below bb
  replace v7 := v7.below bb
  replace v8 := v8.below bb
  replace bw := below_on bw bb bw.size
  clear bb hok n2
  generalize (w3.alloc (.cells #[.slice A2 (lim (shO p)).length c2, .slice A2 (lim (shO p)).length c2] 97)) = w4 at q v6 v7 v8 v11 bw ⊢
  generalize w3.heap.size = g11 at v11 h11 ⊢
  have hse : SeW w w4 g g11 ⟨b, A, c, lim num, D, d, lim den⟩ ⟨A2, c2, shO p, A2, c2, shO p⟩ Px.nil Px.nil Px.nil := ⟨q, v6, v7, v8, v11, bw, hg, h11⟩
  clear v6 v7 v8 v11 bw h11 hz hz1 hz2
  have c3 := q.c1
  have c4 := q.c2
  go_wp2_with fail
  refine (ndiv_any w4 A D c d num den q.ok.num q.ok.den).mono ?_
  rintro _ w5 ⟨A3, c5, D3, d3, E3, rfl, n3, _, bb⟩
  replace hse := hse.below bb
  clear c3 c4 q bb
  have hdv : divO num den = num / den := divO_ok (Nat.le_trans (lim_len_le (k := 2) HO.out.n1) (by omega)) (Nat.le_trans (lim_len_le (k := 2) HO.out.d1) (by omega))
  have hw64 : num / den ≤ 64 := Nat.div_le_of_le_mul (by rw [Nat.mul_comm]; exact HO.out.le)
  rw [hdv] at n3 ⊢
  obtain ⟨wh, hwh⟩ : ∃ wh, num / den = wh := ⟨_, rfl⟩
  have HWH := Lib.hid hwh
  rw [hwh] at n3 hw64 ⊢
  clear hdv hwh
  go_wp2_with fail
  refine (xlimb_any w5 A3 c5 wh n3 (by omega)).mono ?_
  rintro _ w6 ⟨rfl, rfl⟩
  clear n3
  obtain ⟨I, hI⟩ : ∃ I, stopI num den (shO p) n = I := ⟨_, rfl⟩
  have HI := Lib.hid hI
  rw [hI] at HST
  have hI2 := HST.out.2.1
  clear hI
  go_wp2_with fail
  go_loopw [16] (fun i wr => ∃ (k : Nat) (t term rest all : Px), k ≤ I ∧ i = .int .i64 k ∧ t.pr = tP num den (shO p) k ∧ rest.pr = restP num den (shO p) n k ∧ all.pr = allP num den (shO p) k ∧ (n < k → term.pr = tP num den (shO p) n) ∧ SeW w wr g g11 ⟨b, A, c, lim num, D, d, lim den⟩ t term rest all) (fun i _ => 40001 - (intOf i).toNat)
  case atStart => exact ⟨0, _, _, _, _, by omega, rfl, rfl, rfl, rfl, fun h => by omega, hse⟩
  case round =>
    clear hse
    obtain ⟨k, t, term, rest, all, hk, rfl, ht, hr, ha, htm, S⟩ := hrel
    have HT := Lib.hid ht
    have HR := Lib.hid hr
    have HA := Lib.hid ha
    have HTM := Lib.hid htm
    have HS := Lib.hid S
    clear ht hr ha htm S
    go_upto_if 47 with fail
    go_cut [] (fun wx => ∃ term : Px, (n ≤ k → term.pr = tP num den (shO p) n) ∧ SeW w wx g g11 ⟨b, A, c, lim num, D, d, lim den⟩ t term rest all)
    case first =>
      by_cases hkn : k = n
      · have e1 : ((k : Int) == (n : Int)) = true := by simp [hkn]
        have p0 := HS.out.v11.c0
        have p1 := HS.out.v11.c1
        have q0 := HS.out.v6.c0
        have q1 := HS.out.v6.c1
        have r0 := HS.out.v6.f0
        have r1 := HS.out.v6.f1
        have hput := HS.out.put6 HS.out.v11.ok
        go_wp2_with fail
        go_meet
        case rel => exact ⟨t, fun _ => by rw [HT.out, hkn], hput⟩
      · have e1 : ((k : Int) == (n : Int)) = false := beq_eq_false_iff_ne.2 (by omega)
        go_wp2_with fail
        go_meet
        case rel => exact ⟨term, fun h => HTM.out (by omega), HS.out⟩
    case rest =>
      obtain ⟨term, htm, S⟩ := hcut
      have HTM := Lib.hid htm
      have HS := Lib.hid S
      clear htm S
      go_upto_if 51 with fail
      go_cut [] (fun wx => ∃ rest : Px, rest.pr = restP num den (shO p) n (k + 1) ∧ SeW w wx g g11 ⟨b, A, c, lim num, D, d, lim den⟩ t term rest all)
      case first =>
        by_cases hkn : n < k
        · have e1 : decide ((n : Int) < (k : Int)) = true := decide_eq_true (by omega)
          have HE : Hid (restP num den (shO p) n (k + 1) = plusP (restP num den (shO p) n k) (tP num den (shO p) k)) := Lib.hid (by rw [restP, if_pos hkn])
          have p0 := HS.out.v11.c0
          have p1 := HS.out.v11.c1
          have q0 := HS.out.v7.c0
          have q1 := HS.out.v7.c1
          go_wp2_with fail
          refine (xadd_any _ rest t HS.out.v7.ok HS.out.v11.ok).mono ?_
          rintro _ wn ⟨z, rfl, hz, oz, bb⟩
          have S := HS.out.below bb
          have HZ := Lib.hid hz
          clear p0 p1 q0 q1 bb hz
          have q0 := S.v7.c0
          have q1 := S.v7.c1
          have r0 := S.v7.f0
          have r1 := S.v7.f1
          have hput := S.put7 oz
          go_wp2_with fail
          go_meet
          case rel => exact ⟨z, by rw [HZ.out, HE.out, HR.out, HT.out], hput⟩
        · have e1 : decide ((n : Int) < (k : Int)) = false := decide_eq_false (by omega)
          have HE : Hid (restP num den (shO p) n (k + 1) = restP num den (shO p) n k) := Lib.hid (by rw [restP, if_neg hkn])
          go_wp2_with fail
          go_meet
          case rel => exact ⟨rest, by rw [HE.out, HR.out], HS.out⟩
      case rest =>
        obtain ⟨rest, hr, S⟩ := hcut
        have HR := Lib.hid hr
        have HS := Lib.hid S
        clear hr S
        have p0 := HS.out.v11.c0
        have p1 := HS.out.v11.c1
        have q0 := HS.out.v8.c0
        have q1 := HS.out.v8.c1
        go_wp2_with fail
        refine (xadd_any _ all t HS.out.v8.ok HS.out.v11.ok).mono ?_
        rintro _ wn ⟨z, rfl, hz, oz, bb⟩
        have S := HS.out.below bb
        have HZ : Hid (z.pr = allP num den (shO p) (k + 1)) := Lib.hid (by rw [hz, HA.out, HT.out]; rfl)
        clear p0 p1 q0 q1 bb hz HS
        have q0 := S.v8.c0
        have q1 := S.v8.c1
        have r0 := S.v8.f0
        have r1 := S.v8.f1
        go_upto_region 12 with fail
        have S2 := S.put8 oz
        dsimp only [set2] at S2
        clear q0 q1 r0 r1 S oz
        generalize (wn.setCell ⟨g + 1 + 1 + 1, 0, none⟩ (.slice z.A (lim z.lo).length z.c)).setCell ⟨g + 1 + 1 + 1, 1, none⟩ (.slice z.D (lim z.hi).length z.d) = wa at S2 ⊢
        have HS := Lib.hid S2
        clear S2
        have hhi : t.hi = (tP num den (shO p) k).hi := by have := congrArg Pr.hi HT.out; exact this
        have HHI := Lib.hid hhi
        have hthl : (lim t.hi).length ≤ 1000000 := by
          have h1 := HS.out.v11.ok.hi.cap
          have h2 := HS.out.v11.ok.hi.max
          rw [hhi]
          cases k with
          | zero =>
            show (lim (shO p)).length ≤ _
            have h3 : (lim (shO p)).length ≤ 512 := by rw [← shS_lim, shiftS]; split; simp; split; simp; split; exact (by rw [sizS]; split; simp; rename_i h; show (lim _).length ≤ 512; omega); exact lim_len_mono (Nat.div_le_self _ _) (by have := lim_len_le (n := 1) (k := 1) (by omega); omega)
            omega
          | succ k => have := upO_len (tP num den (shO p) k).hi num (mulO den (k + 1)); show (lim (upO (tP num den (shO p) k).hi num (mulO den (k + 1)))).length ≤ _; omega
        clear hhi
        go_cut [71] (fun s71 w2 => s71 = .bool (decide (endP num den (shO p) n k)) ∧ SeW w w2 g g11 ⟨b, A, c, lim num, D, d, lim den⟩ t term rest z)
        case first =>
          by_cases hkn : n < k
          · have e1 : decide ((n : Int) < (k : Int)) = true := decide_eq_true (by omega)
            by_cases hkm : 2 * wh + 2 < k
            · have e2 : decide ((2 * (wh : Int) + 2) < (k : Int)) = true := decide_eq_true (by omega)
              have p1 := HS.out.v11.c1
              go_wp2_with fail
              refine (nbits_any _ _ _ t.hi HS.out.v11.ok.hi hthl).mono ?_
              rintro _ wn ⟨rfl, rfl⟩
              obtain ⟨bt, hbt⟩ : ∃ bt, bits2 t.hi = bt := ⟨_, rfl⟩
              rw [hbt]
              have HP : Hid (Value.bool (decide ((bt : Int) ≤ 1)) = .bool (decide (endP num den (shO p) n k))) := Lib.hid (by
                congr 1
                rw [decide_eq_decide, endP, ← HHI.out, ← bits_le_one, hbt, HWH.out]
                exact ⟨fun h => ⟨hkn, hkm, by omega⟩, fun h => by have := h.2.2; omega⟩)
              clear hbt
              go_wp2_with fail
              go_meet
              case rel => exact ⟨HP.out, HS.out⟩
            · have e2 : decide ((2 * (wh : Int) + 2) < (k : Int)) = false := decide_eq_false (by omega)
              have HP : Hid (Value.bool false = .bool (decide (endP num den (shO p) n k))) := Lib.hid (by rw [decide_eq_false (fun h => by have := h.2.1; rw [HWH.out] at this; exact hkm this)])
              go_wp2_with fail
              go_meet
              case rel => exact ⟨HP.out, HS.out⟩
          · have e1 : decide ((n : Int) < (k : Int)) = false := decide_eq_false (by omega)
            have HP : Hid (Value.bool false = .bool (decide (endP num den (shO p) n k))) := Lib.hid (by rw [decide_eq_false (fun h => hkn h.1)])
            go_wp2_with fail
            go_meet
            case rel => exact ⟨HP.out, HS.out⟩
        case rest =>
          obtain ⟨rfl, S⟩ := hcut
          have HS := Lib.hid S
          clear S hthl
          by_cases hend : endP num den (shO p) n k
          · have hki : k = I := by
              rcases Nat.lt_or_ge k I with h1 | h1
              · exact absurd hend (HST.out.2.2 k h1)
              · omega
            have HEND := Lib.hid hend
            have HKI := Lib.hid hki
            rw [decide_eq_true hend]
            clear hend hki
            have p1 := HS.out.v11.c1
            go_upto_region 14 with fail
            have hok : (⟨none, 0, 0, t.D, t.d, t.hi⟩ : Px).ok wc := ⟨nt_nil0 _, HS.out.v11.ok.hi⟩
            have v17 := (pv_alloc hok 97).1
            have bb := (pv_alloc hok 97).2
            have e0 : (⟨none, 0, 0, t.D, t.d, t.hi⟩ : Px).cells = #[.slice none 0 0, .slice t.D (lim t.hi).length t.d] := by simp [Px.cells, lim_zero]
            rw [e0] at v17 bb
            have S2 := HS.out.below bb
            have h17 : g11 < wc.heap.size := HS.out.v11.lt
            clear p1 hok e0 bb
            generalize (wc.alloc (.cells #[.slice none 0 0, .slice t.D (lim t.hi).length t.d] 97)) = wx at v17 S2 ⊢
            generalize wc.heap.size = g17 at v17 h17 ⊢
            obtain ⟨tl, htl⟩ : ∃ tl : Px, (⟨none, 0, 0, t.D, t.d, t.hi⟩ : Px) = tl := ⟨_, rfl⟩
            rw [htl] at v17
            have HTL : Hid (tl.pr = ⟨0, (tP num den (shO p) k).hi⟩) := Lib.hid (by rw [← htl, ← HHI.out])
            have H17 := Lib.hid v17
            have HX := Lib.hid S2
            clear htl v17 S2 HS
            refine wp_region_held_drew (S := fun w' => w'.cell? ⟨g + 1, 0, none⟩ = some (.slice term.A (lim term.lo).length term.c) ∧ w'.cell? ⟨g + 1, 1, none⟩ = some (.slice term.D (lim term.hi).length term.d) ∧ w'.cell? ⟨g17, 0, none⟩ = some (.slice tl.A (lim tl.lo).length tl.c) ∧ w'.cell? ⟨g17, 1, none⟩ = some (.slice tl.D (lim tl.hi).length tl.d)) (by kernel_rfl) ⟨(HX.out.below ((Below.refl wx.heap.size wx).drew)).v6.c0, (HX.out.below ((Below.refl wx.heap.size wx).drew)).v6.c1, (H17.out.below ((Below.refl wx.heap.size wx).drew)).c0, (H17.out.below ((Below.refl wx.heap.size wx).drew)).c1⟩ (fun hHeld => ?_)
            have bz := (Below.refl wx.heap.size wx).drew
            generalize wx.drew = wd at *
            refine tkw 0 (term.val) rfl (by kernel_rfl) (by kernel_rfl) (by kernel_rfl) (fun _ _ _ h => h) ⟨by rfl, ?_⟩ (by assumption) ?_
            ·intro w hSw; (try dsimp only at hSw); obtain ⟨s0, s1, _, _⟩ := hSw; go_simp; (try with_reducible rfl)
            try simp only [Act.put, tzA, tzB, tzD, tzE, tzF]
            refine tkw 2 (tl.val) rfl (by kernel_rfl) (by kernel_rfl) (by kernel_rfl) (fun _ _ _ h => h) ⟨by rfl, ?_⟩ (by assumption) ?_
            ·intro w hSw; (try dsimp only at hSw); obtain ⟨_, _, s0, s1⟩ := hSw; go_simp; (try with_reducible rfl)
            try simp only [Act.put, tzA, tzB, tzC, tzD, tzE, tzF]
            refine tkw 5 (tl.val) rfl (by kernel_rfl) (by kernel_rfl) (by kernel_rfl) (fun _ _ _ h => h) ⟨by rfl, ?_⟩ (by assumption) ?_
            ·intro w hSw; (try dsimp only at hSw); obtain ⟨_, _, s0, s1⟩ := hSw; go_simp; (try with_reducible rfl)
            try simp only [Act.put, tzA, tzB, tzC, tzD, tzE, tzF]
            refine wpAnyH_ready (rs := [1, 4]) (by kernel_rfl) (by simp) ?_
            refine AllReadyH.cons rfl (fun K hK => ?_) ?_
            ·have vd := (HX.out.below bz).v7
             have k0 := vd.c0
             have k1 := vd.c1
             go_simp
             clear vd k0 k1
             refine hK.out _ _ (by first | exact ⟨n8.v6.c0, n8.v6.c1, k8.c0, k8.c1⟩ | exact ⟨n7.v6.c0, n7.v6.c1, k7.c0, k7.c1⟩ | exact ⟨n6.v6.c0, n6.v6.c1, k6.c0, k6.c1⟩ | exact ⟨(HX.out.below bz).v6.c0, (HX.out.below bz).v6.c1, (H17.out.below bz).c0, (H17.out.below bz).c1⟩) (fun hHeld => ?_)
             clear hK K
             try simp only [Act.put]
             try simp only [tzD, tzE, tzF]
             refine wpAnyH_ready (rs := [3, 4]) (by kernel_rfl) (by simp) ?_
             refine AllReadyH.cons rfl (fun K hK => ?_) ?_
             ·go_simp
              go_at_call 103
              refine (xadd_any wd rest tl (HX.out.below bz).v7.ok (H17.out.below bz).ok).mono ?_
              rintro _ wd ⟨z7, rfl, h7, o7, bb⟩
              try replace o7 := o7.below bb
              try replace o8 := o8.below bb
              replace bz := below_on bz bb bz.size
              clear bb
              refine hK.out _ _ (by first | exact ⟨n8.v6.c0, n8.v6.c1, k8.c0, k8.c1⟩ | exact ⟨n7.v6.c0, n7.v6.c1, k7.c0, k7.c1⟩ | exact ⟨n6.v6.c0, n6.v6.c1, k6.c0, k6.c1⟩ | exact ⟨(HX.out.below bz).v6.c0, (HX.out.below bz).v6.c1, (H17.out.below bz).c0, (H17.out.below bz).c1⟩) (fun hHeld => ?_)
              clear hK K
              try simp only [Act.put]
              try simp only [tzD, tzE, tzF]
              refine wpAnyH_ready (rs := [4]) (by kernel_rfl) (by simp) ?_
              refine AllReadyH.cons rfl (fun K hK => ?_) ?_
              ·have vd := (HX.out.below bz).v8
               have k0 := vd.c0
               have k1 := vd.c1
               go_simp
               clear vd k0 k1
               refine hK.out _ _ (by first | exact ⟨n8.v6.c0, n8.v6.c1, k8.c0, k8.c1⟩ | exact ⟨n7.v6.c0, n7.v6.c1, k7.c0, k7.c1⟩ | exact ⟨n6.v6.c0, n6.v6.c1, k6.c0, k6.c1⟩ | exact ⟨(HX.out.below bz).v6.c0, (HX.out.below bz).v6.c1, (H17.out.below bz).c0, (H17.out.below bz).c1⟩) (fun hHeld => ?_)
               clear hK K
               try simp only [Act.put]
               try simp only [tzD, tzE, tzF]
               refine wpAnyH_ready (rs := [6]) (by kernel_rfl) (by simp) ?_
               refine AllReadyH.cons rfl (fun K hK => ?_) ?_
               ·go_simp
                go_at_call 103
                refine (xadd_any wd z tl (HX.out.below bz).v8.ok (H17.out.below bz).ok).mono ?_
                rintro _ wd ⟨z8, rfl, h8, o8, bb⟩
                try replace o7 := o7.below bb
                try replace o8 := o8.below bb
                replace bz := below_on bz bb bz.size
                clear bb
                refine hK.out _ _ (by first | exact ⟨n8.v6.c0, n8.v6.c1, k8.c0, k8.c1⟩ | exact ⟨n7.v6.c0, n7.v6.c1, k7.c0, k7.c1⟩ | exact ⟨n6.v6.c0, n6.v6.c1, k6.c0, k6.c1⟩ | exact ⟨(HX.out.below bz).v6.c0, (HX.out.below bz).v6.c1, (H17.out.below bz).c0, (H17.out.below bz).c1⟩) (fun hHeld => ?_)
                clear hK K
                try simp only [Act.put]
                try simp only [tzD, tzE, tzF]
                refine wpAnyH_ready (rs := [7]) (by kernel_rfl) (by simp) ?_
                refine AllReadyH.cons rfl (fun K hK => ?_) ?_
                ·have hd := HX.out.below bz
                 have hk := H17.out.below bz
                 have k0 := hd.v6.c0
                 have k1 := hd.v6.c1
                 have k2 := hd.v6.f0
                 have k3 := hd.v6.f1
                 have n6 := hd.put6 (HX.out.below bz).v6.ok
                 have k6 := hk.far hd.v6 (v0 := .slice term.A (lim term.lo).length term.c) (v1 := .slice term.D (lim term.hi).length term.d) (by have := hd.h11; omega)
                 have q7 := o7.set2 (v0 := .slice term.A (lim term.lo).length term.c) (v1 := .slice term.D (lim term.hi).length term.d) hd.v6.bk (noInt_p _)
                 have q8 := o8.set2 (v0 := .slice term.A (lim term.lo).length term.c) (v1 := .slice term.D (lim term.hi).length term.d) hd.v6.bk (noInt_p _)
                 dsimp only [set2] at n6 k6 q7 q8
                 go_simp
                 clear k0 k1 k2 k3 hd hk hHeld
                 clear o7 o8 bz
                 generalize ((wd.setCell ⟨g + 1, 0, none⟩ (.slice term.A (lim term.lo).length term.c)).setCell ⟨g + 1, 1, none⟩ (.slice term.D (lim term.hi).length term.d)) = we at *
                 generalize we = wd at *
                 refine hK.out _ _ (by first | exact ⟨n8.v6.c0, n8.v6.c1, k8.c0, k8.c1⟩ | exact ⟨n7.v6.c0, n7.v6.c1, k7.c0, k7.c1⟩ | exact ⟨n6.v6.c0, n6.v6.c1, k6.c0, k6.c1⟩ | exact ⟨(HX.out.below bz).v6.c0, (HX.out.below bz).v6.c1, (H17.out.below bz).c0, (H17.out.below bz).c1⟩) (fun hHeld => ?_)
                 clear hK K
                 try simp only [Act.put]
                 try simp only [tzD, tzE, tzF]
                 refine wpAnyH_ready (rs := [8]) (by kernel_rfl) (by simp) ?_
                 refine AllReadyH.cons rfl (fun K hK => ?_) ?_
                 ·have hd := n6
                  have hk := k6
                  have k0 := hd.v7.c0
                  have k1 := hd.v7.c1
                  have k2 := hd.v7.f0
                  have k3 := hd.v7.f1
                  have n7 := hd.put7 q7
                  have k7 := hk.far hd.v7 (v0 := .slice z7.A (lim z7.lo).length z7.c) (v1 := .slice z7.D (lim z7.hi).length z7.d) (by have := hd.h11; omega)
                  have r8 := q8.set2 (v0 := .slice z7.A (lim z7.lo).length z7.c) (v1 := .slice z7.D (lim z7.hi).length z7.d) hd.v7.bk (noInt_p _)
                  dsimp only [set2] at n7 k7 r8
                  go_simp
                  clear k0 k1 k2 k3 hd hk hHeld
                  clear n6 k6 q7 q8
                  generalize ((wd.setCell ⟨g + 1 + 1, 0, none⟩ (.slice z7.A (lim z7.lo).length z7.c)).setCell ⟨g + 1 + 1, 1, none⟩ (.slice z7.D (lim z7.hi).length z7.d)) = we at *
                  generalize we = wd at *
                  refine hK.out _ _ (by first | exact ⟨n8.v6.c0, n8.v6.c1, k8.c0, k8.c1⟩ | exact ⟨n7.v6.c0, n7.v6.c1, k7.c0, k7.c1⟩ | exact ⟨n6.v6.c0, n6.v6.c1, k6.c0, k6.c1⟩ | exact ⟨(HX.out.below bz).v6.c0, (HX.out.below bz).v6.c1, (H17.out.below bz).c0, (H17.out.below bz).c1⟩) (fun hHeld => ?_)
                  clear hK K
                  try simp only [Act.put]
                  try simp only [tzD, tzE, tzF]
                  refine wpAnyH_ready (rs := [9]) (by kernel_rfl) (by simp) ?_
                  refine AllReadyH.cons rfl (fun K hK => ?_) ?_
                  ·have hd := n7
                   have hk := k7
                   have k0 := hd.v8.c0
                   have k1 := hd.v8.c1
                   have k2 := hd.v8.f0
                   have k3 := hd.v8.f1
                   have n8 := hd.put8 r8
                   have k8 := hk.far hd.v8 (v0 := .slice z8.A (lim z8.lo).length z8.c) (v1 := .slice z8.D (lim z8.hi).length z8.d) (by have := hd.h11; omega)
                   dsimp only [set2] at n8 k8
                   go_simp
                   clear k0 k1 k2 k3 hd hk hHeld
                   clear n7 k7 r8
                   generalize ((wd.setCell ⟨g + 1 + 1 + 1, 0, none⟩ (.slice z8.A (lim z8.lo).length z8.c)).setCell ⟨g + 1 + 1 + 1, 1, none⟩ (.slice z8.D (lim z8.hi).length z8.d)) = we at *
                   generalize we = wd at *
                   refine hK.out _ _ (by first | exact ⟨n8.v6.c0, n8.v6.c1, k8.c0, k8.c1⟩ | exact ⟨n7.v6.c0, n7.v6.c1, k7.c0, k7.c1⟩ | exact ⟨n6.v6.c0, n6.v6.c1, k6.c0, k6.c1⟩ | exact ⟨(HX.out.below bz).v6.c0, (HX.out.below bz).v6.c1, (H17.out.below bz).c0, (H17.out.below bz).c1⟩) (fun hHeld => ?_)
                   clear hK K
                   try simp only [Act.put]
                   try simp only [tzD, tzE, tzF]
                   refine wpAnyH_done (by kernel_rfl) ?_ _
                   have c60 := n8.v6.c0
                   have c61 := n8.v6.c1
                   have c70 := n8.v7.c0
                   have c71 := n8.v7.c1
                   have c80 := n8.v8.c0
                   have c81 := n8.v8.c1
                   go_wp2_with fail
                   refine bodyPost_ret (v := .tuple #[term.val, z7.val, z8.val]) (by simp [results, Try.results90, go_sem, c60, c61, c70, c71, c80, c81]) rfl ?_
                   refine ⟨term, z7, z8, rfl, HTM.out (Nat.le_of_lt HEND.out.1), ?_, ?_, n8.v6.ok, n8.v7.ok, n8.v8.ok, n8.bw⟩
                   ·rw [h7, HR.out, HTL.out, HKI.out, sumR, HI.out]
                   ·rw [h8, HZ.out, HTL.out, HKI.out, sumA, HI.out]
                  exact AllReadyH.nil
                 exact AllReadyH.nil
                exact AllReadyH.nil
               exact AllReadyH.nil
              exact AllReadyH.nil
             refine AllReadyH.cons rfl (fun K hK => ?_) ?_
             ·have vd := (HX.out.below bz).v8
              have k0 := vd.c0
              have k1 := vd.c1
              go_simp
              clear vd k0 k1
              refine hK.out _ _ (by first | exact ⟨n8.v6.c0, n8.v6.c1, k8.c0, k8.c1⟩ | exact ⟨n7.v6.c0, n7.v6.c1, k7.c0, k7.c1⟩ | exact ⟨n6.v6.c0, n6.v6.c1, k6.c0, k6.c1⟩ | exact ⟨(HX.out.below bz).v6.c0, (HX.out.below bz).v6.c1, (H17.out.below bz).c0, (H17.out.below bz).c1⟩) (fun hHeld => ?_)
              clear hK K
              try simp only [Act.put]
              try simp only [tzD, tzE, tzF]
              refine wpAnyH_ready (rs := [3]) (by kernel_rfl) (by simp) ?_
              refine AllReadyH.cons rfl (fun K hK => ?_) ?_
              ·go_simp
               go_at_call 103
               refine (xadd_any wd rest tl (HX.out.below bz).v7.ok (H17.out.below bz).ok).mono ?_
               rintro _ wd ⟨z7, rfl, h7, o7, bb⟩
               try replace o7 := o7.below bb
               try replace o8 := o8.below bb
               replace bz := below_on bz bb bz.size
               clear bb
               refine hK.out _ _ (by first | exact ⟨n8.v6.c0, n8.v6.c1, k8.c0, k8.c1⟩ | exact ⟨n7.v6.c0, n7.v6.c1, k7.c0, k7.c1⟩ | exact ⟨n6.v6.c0, n6.v6.c1, k6.c0, k6.c1⟩ | exact ⟨(HX.out.below bz).v6.c0, (HX.out.below bz).v6.c1, (H17.out.below bz).c0, (H17.out.below bz).c1⟩) (fun hHeld => ?_)
               clear hK K
               try simp only [Act.put]
               try simp only [tzD, tzE, tzF]
               refine wpAnyH_ready (rs := [6]) (by kernel_rfl) (by simp) ?_
               refine AllReadyH.cons rfl (fun K hK => ?_) ?_
               ·go_simp
                go_at_call 103
                refine (xadd_any wd z tl (HX.out.below bz).v8.ok (H17.out.below bz).ok).mono ?_
                rintro _ wd ⟨z8, rfl, h8, o8, bb⟩
                try replace o7 := o7.below bb
                try replace o8 := o8.below bb
                replace bz := below_on bz bb bz.size
                clear bb
                refine hK.out _ _ (by first | exact ⟨n8.v6.c0, n8.v6.c1, k8.c0, k8.c1⟩ | exact ⟨n7.v6.c0, n7.v6.c1, k7.c0, k7.c1⟩ | exact ⟨n6.v6.c0, n6.v6.c1, k6.c0, k6.c1⟩ | exact ⟨(HX.out.below bz).v6.c0, (HX.out.below bz).v6.c1, (H17.out.below bz).c0, (H17.out.below bz).c1⟩) (fun hHeld => ?_)
                clear hK K
                try simp only [Act.put]
                try simp only [tzD, tzE, tzF]
                refine wpAnyH_ready (rs := [7]) (by kernel_rfl) (by simp) ?_
                refine AllReadyH.cons rfl (fun K hK => ?_) ?_
                ·have hd := HX.out.below bz
                 have hk := H17.out.below bz
                 have k0 := hd.v6.c0
                 have k1 := hd.v6.c1
                 have k2 := hd.v6.f0
                 have k3 := hd.v6.f1
                 have n6 := hd.put6 (HX.out.below bz).v6.ok
                 have k6 := hk.far hd.v6 (v0 := .slice term.A (lim term.lo).length term.c) (v1 := .slice term.D (lim term.hi).length term.d) (by have := hd.h11; omega)
                 have q7 := o7.set2 (v0 := .slice term.A (lim term.lo).length term.c) (v1 := .slice term.D (lim term.hi).length term.d) hd.v6.bk (noInt_p _)
                 have q8 := o8.set2 (v0 := .slice term.A (lim term.lo).length term.c) (v1 := .slice term.D (lim term.hi).length term.d) hd.v6.bk (noInt_p _)
                 dsimp only [set2] at n6 k6 q7 q8
                 go_simp
                 clear k0 k1 k2 k3 hd hk hHeld
                 clear o7 o8 bz
                 generalize ((wd.setCell ⟨g + 1, 0, none⟩ (.slice term.A (lim term.lo).length term.c)).setCell ⟨g + 1, 1, none⟩ (.slice term.D (lim term.hi).length term.d)) = we at *
                 generalize we = wd at *
                 refine hK.out _ _ (by first | exact ⟨n8.v6.c0, n8.v6.c1, k8.c0, k8.c1⟩ | exact ⟨n7.v6.c0, n7.v6.c1, k7.c0, k7.c1⟩ | exact ⟨n6.v6.c0, n6.v6.c1, k6.c0, k6.c1⟩ | exact ⟨(HX.out.below bz).v6.c0, (HX.out.below bz).v6.c1, (H17.out.below bz).c0, (H17.out.below bz).c1⟩) (fun hHeld => ?_)
                 clear hK K
                 try simp only [Act.put]
                 try simp only [tzD, tzE, tzF]
                 refine wpAnyH_ready (rs := [8]) (by kernel_rfl) (by simp) ?_
                 refine AllReadyH.cons rfl (fun K hK => ?_) ?_
                 ·have hd := n6
                  have hk := k6
                  have k0 := hd.v7.c0
                  have k1 := hd.v7.c1
                  have k2 := hd.v7.f0
                  have k3 := hd.v7.f1
                  have n7 := hd.put7 q7
                  have k7 := hk.far hd.v7 (v0 := .slice z7.A (lim z7.lo).length z7.c) (v1 := .slice z7.D (lim z7.hi).length z7.d) (by have := hd.h11; omega)
                  have r8 := q8.set2 (v0 := .slice z7.A (lim z7.lo).length z7.c) (v1 := .slice z7.D (lim z7.hi).length z7.d) hd.v7.bk (noInt_p _)
                  dsimp only [set2] at n7 k7 r8
                  go_simp
                  clear k0 k1 k2 k3 hd hk hHeld
                  clear n6 k6 q7 q8
                  generalize ((wd.setCell ⟨g + 1 + 1, 0, none⟩ (.slice z7.A (lim z7.lo).length z7.c)).setCell ⟨g + 1 + 1, 1, none⟩ (.slice z7.D (lim z7.hi).length z7.d)) = we at *
                  generalize we = wd at *
                  refine hK.out _ _ (by first | exact ⟨n8.v6.c0, n8.v6.c1, k8.c0, k8.c1⟩ | exact ⟨n7.v6.c0, n7.v6.c1, k7.c0, k7.c1⟩ | exact ⟨n6.v6.c0, n6.v6.c1, k6.c0, k6.c1⟩ | exact ⟨(HX.out.below bz).v6.c0, (HX.out.below bz).v6.c1, (H17.out.below bz).c0, (H17.out.below bz).c1⟩) (fun hHeld => ?_)
                  clear hK K
                  try simp only [Act.put]
                  try simp only [tzD, tzE, tzF]
                  refine wpAnyH_ready (rs := [9]) (by kernel_rfl) (by simp) ?_
                  refine AllReadyH.cons rfl (fun K hK => ?_) ?_
                  ·have hd := n7
                   have hk := k7
                   have k0 := hd.v8.c0
                   have k1 := hd.v8.c1
                   have k2 := hd.v8.f0
                   have k3 := hd.v8.f1
                   have n8 := hd.put8 r8
                   have k8 := hk.far hd.v8 (v0 := .slice z8.A (lim z8.lo).length z8.c) (v1 := .slice z8.D (lim z8.hi).length z8.d) (by have := hd.h11; omega)
                   dsimp only [set2] at n8 k8
                   go_simp
                   clear k0 k1 k2 k3 hd hk hHeld
                   clear n7 k7 r8
                   generalize ((wd.setCell ⟨g + 1 + 1 + 1, 0, none⟩ (.slice z8.A (lim z8.lo).length z8.c)).setCell ⟨g + 1 + 1 + 1, 1, none⟩ (.slice z8.D (lim z8.hi).length z8.d)) = we at *
                   generalize we = wd at *
                   refine hK.out _ _ (by first | exact ⟨n8.v6.c0, n8.v6.c1, k8.c0, k8.c1⟩ | exact ⟨n7.v6.c0, n7.v6.c1, k7.c0, k7.c1⟩ | exact ⟨n6.v6.c0, n6.v6.c1, k6.c0, k6.c1⟩ | exact ⟨(HX.out.below bz).v6.c0, (HX.out.below bz).v6.c1, (H17.out.below bz).c0, (H17.out.below bz).c1⟩) (fun hHeld => ?_)
                   clear hK K
                   try simp only [Act.put]
                   try simp only [tzD, tzE, tzF]
                   refine wpAnyH_done (by kernel_rfl) ?_ _
                   have c60 := n8.v6.c0
                   have c61 := n8.v6.c1
                   have c70 := n8.v7.c0
                   have c71 := n8.v7.c1
                   have c80 := n8.v8.c0
                   have c81 := n8.v8.c1
                   go_wp2_with fail
                   refine bodyPost_ret (v := .tuple #[term.val, z7.val, z8.val]) (by simp [results, Try.results90, go_sem, c60, c61, c70, c71, c80, c81]) rfl ?_
                   refine ⟨term, z7, z8, rfl, HTM.out (Nat.le_of_lt HEND.out.1), ?_, ?_, n8.v6.ok, n8.v7.ok, n8.v8.ok, n8.bw⟩
                   ·rw [h7, HR.out, HTL.out, HKI.out, sumR, HI.out]
                   ·rw [h8, HZ.out, HTL.out, HKI.out, sumA, HI.out]
                  exact AllReadyH.nil
                 exact AllReadyH.nil
                exact AllReadyH.nil
               exact AllReadyH.nil
              exact AllReadyH.nil
             exact AllReadyH.nil
            refine AllReadyH.cons rfl (fun K hK => ?_) ?_
            ·have vd := (HX.out.below bz).v8
             have k0 := vd.c0
             have k1 := vd.c1
             go_simp
             clear vd k0 k1
             refine hK.out _ _ (by first | exact ⟨n8.v6.c0, n8.v6.c1, k8.c0, k8.c1⟩ | exact ⟨n7.v6.c0, n7.v6.c1, k7.c0, k7.c1⟩ | exact ⟨n6.v6.c0, n6.v6.c1, k6.c0, k6.c1⟩ | exact ⟨(HX.out.below bz).v6.c0, (HX.out.below bz).v6.c1, (H17.out.below bz).c0, (H17.out.below bz).c1⟩) (fun hHeld => ?_)
             clear hK K
             try simp only [Act.put]
             try simp only [tzD, tzE, tzF]
             refine wpAnyH_ready (rs := [1]) (by kernel_rfl) (by simp) ?_
             refine AllReadyH.cons rfl (fun K hK => ?_) ?_
             ·have vd := (HX.out.below bz).v7
              have k0 := vd.c0
              have k1 := vd.c1
              go_simp
              clear vd k0 k1
              refine hK.out _ _ (by first | exact ⟨n8.v6.c0, n8.v6.c1, k8.c0, k8.c1⟩ | exact ⟨n7.v6.c0, n7.v6.c1, k7.c0, k7.c1⟩ | exact ⟨n6.v6.c0, n6.v6.c1, k6.c0, k6.c1⟩ | exact ⟨(HX.out.below bz).v6.c0, (HX.out.below bz).v6.c1, (H17.out.below bz).c0, (H17.out.below bz).c1⟩) (fun hHeld => ?_)
              clear hK K
              try simp only [Act.put]
              try simp only [tzD, tzE, tzF]
              refine wpAnyH_ready (rs := [3]) (by kernel_rfl) (by simp) ?_
              refine AllReadyH.cons rfl (fun K hK => ?_) ?_
              ·go_simp
               go_at_call 103
               refine (xadd_any wd rest tl (HX.out.below bz).v7.ok (H17.out.below bz).ok).mono ?_
               rintro _ wd ⟨z7, rfl, h7, o7, bb⟩
               try replace o7 := o7.below bb
               try replace o8 := o8.below bb
               replace bz := below_on bz bb bz.size
               clear bb
               refine hK.out _ _ (by first | exact ⟨n8.v6.c0, n8.v6.c1, k8.c0, k8.c1⟩ | exact ⟨n7.v6.c0, n7.v6.c1, k7.c0, k7.c1⟩ | exact ⟨n6.v6.c0, n6.v6.c1, k6.c0, k6.c1⟩ | exact ⟨(HX.out.below bz).v6.c0, (HX.out.below bz).v6.c1, (H17.out.below bz).c0, (H17.out.below bz).c1⟩) (fun hHeld => ?_)
               clear hK K
               try simp only [Act.put]
               try simp only [tzD, tzE, tzF]
               refine wpAnyH_ready (rs := [6]) (by kernel_rfl) (by simp) ?_
               refine AllReadyH.cons rfl (fun K hK => ?_) ?_
               ·go_simp
                go_at_call 103
                refine (xadd_any wd z tl (HX.out.below bz).v8.ok (H17.out.below bz).ok).mono ?_
                rintro _ wd ⟨z8, rfl, h8, o8, bb⟩
                try replace o7 := o7.below bb
                try replace o8 := o8.below bb
                replace bz := below_on bz bb bz.size
                clear bb
                refine hK.out _ _ (by first | exact ⟨n8.v6.c0, n8.v6.c1, k8.c0, k8.c1⟩ | exact ⟨n7.v6.c0, n7.v6.c1, k7.c0, k7.c1⟩ | exact ⟨n6.v6.c0, n6.v6.c1, k6.c0, k6.c1⟩ | exact ⟨(HX.out.below bz).v6.c0, (HX.out.below bz).v6.c1, (H17.out.below bz).c0, (H17.out.below bz).c1⟩) (fun hHeld => ?_)
                clear hK K
                try simp only [Act.put]
                try simp only [tzD, tzE, tzF]
                refine wpAnyH_ready (rs := [7]) (by kernel_rfl) (by simp) ?_
                refine AllReadyH.cons rfl (fun K hK => ?_) ?_
                ·have hd := HX.out.below bz
                 have hk := H17.out.below bz
                 have k0 := hd.v6.c0
                 have k1 := hd.v6.c1
                 have k2 := hd.v6.f0
                 have k3 := hd.v6.f1
                 have n6 := hd.put6 (HX.out.below bz).v6.ok
                 have k6 := hk.far hd.v6 (v0 := .slice term.A (lim term.lo).length term.c) (v1 := .slice term.D (lim term.hi).length term.d) (by have := hd.h11; omega)
                 have q7 := o7.set2 (v0 := .slice term.A (lim term.lo).length term.c) (v1 := .slice term.D (lim term.hi).length term.d) hd.v6.bk (noInt_p _)
                 have q8 := o8.set2 (v0 := .slice term.A (lim term.lo).length term.c) (v1 := .slice term.D (lim term.hi).length term.d) hd.v6.bk (noInt_p _)
                 dsimp only [set2] at n6 k6 q7 q8
                 go_simp
                 clear k0 k1 k2 k3 hd hk hHeld
                 clear o7 o8 bz
                 generalize ((wd.setCell ⟨g + 1, 0, none⟩ (.slice term.A (lim term.lo).length term.c)).setCell ⟨g + 1, 1, none⟩ (.slice term.D (lim term.hi).length term.d)) = we at *
                 generalize we = wd at *
                 refine hK.out _ _ (by first | exact ⟨n8.v6.c0, n8.v6.c1, k8.c0, k8.c1⟩ | exact ⟨n7.v6.c0, n7.v6.c1, k7.c0, k7.c1⟩ | exact ⟨n6.v6.c0, n6.v6.c1, k6.c0, k6.c1⟩ | exact ⟨(HX.out.below bz).v6.c0, (HX.out.below bz).v6.c1, (H17.out.below bz).c0, (H17.out.below bz).c1⟩) (fun hHeld => ?_)
                 clear hK K
                 try simp only [Act.put]
                 try simp only [tzD, tzE, tzF]
                 refine wpAnyH_ready (rs := [8]) (by kernel_rfl) (by simp) ?_
                 refine AllReadyH.cons rfl (fun K hK => ?_) ?_
                 ·have hd := n6
                  have hk := k6
                  have k0 := hd.v7.c0
                  have k1 := hd.v7.c1
                  have k2 := hd.v7.f0
                  have k3 := hd.v7.f1
                  have n7 := hd.put7 q7
                  have k7 := hk.far hd.v7 (v0 := .slice z7.A (lim z7.lo).length z7.c) (v1 := .slice z7.D (lim z7.hi).length z7.d) (by have := hd.h11; omega)
                  have r8 := q8.set2 (v0 := .slice z7.A (lim z7.lo).length z7.c) (v1 := .slice z7.D (lim z7.hi).length z7.d) hd.v7.bk (noInt_p _)
                  dsimp only [set2] at n7 k7 r8
                  go_simp
                  clear k0 k1 k2 k3 hd hk hHeld
                  clear n6 k6 q7 q8
                  generalize ((wd.setCell ⟨g + 1 + 1, 0, none⟩ (.slice z7.A (lim z7.lo).length z7.c)).setCell ⟨g + 1 + 1, 1, none⟩ (.slice z7.D (lim z7.hi).length z7.d)) = we at *
                  generalize we = wd at *
                  refine hK.out _ _ (by first | exact ⟨n8.v6.c0, n8.v6.c1, k8.c0, k8.c1⟩ | exact ⟨n7.v6.c0, n7.v6.c1, k7.c0, k7.c1⟩ | exact ⟨n6.v6.c0, n6.v6.c1, k6.c0, k6.c1⟩ | exact ⟨(HX.out.below bz).v6.c0, (HX.out.below bz).v6.c1, (H17.out.below bz).c0, (H17.out.below bz).c1⟩) (fun hHeld => ?_)
                  clear hK K
                  try simp only [Act.put]
                  try simp only [tzD, tzE, tzF]
                  refine wpAnyH_ready (rs := [9]) (by kernel_rfl) (by simp) ?_
                  refine AllReadyH.cons rfl (fun K hK => ?_) ?_
                  ·have hd := n7
                   have hk := k7
                   have k0 := hd.v8.c0
                   have k1 := hd.v8.c1
                   have k2 := hd.v8.f0
                   have k3 := hd.v8.f1
                   have n8 := hd.put8 r8
                   have k8 := hk.far hd.v8 (v0 := .slice z8.A (lim z8.lo).length z8.c) (v1 := .slice z8.D (lim z8.hi).length z8.d) (by have := hd.h11; omega)
                   dsimp only [set2] at n8 k8
                   go_simp
                   clear k0 k1 k2 k3 hd hk hHeld
                   clear n7 k7 r8
                   generalize ((wd.setCell ⟨g + 1 + 1 + 1, 0, none⟩ (.slice z8.A (lim z8.lo).length z8.c)).setCell ⟨g + 1 + 1 + 1, 1, none⟩ (.slice z8.D (lim z8.hi).length z8.d)) = we at *
                   generalize we = wd at *
                   refine hK.out _ _ (by first | exact ⟨n8.v6.c0, n8.v6.c1, k8.c0, k8.c1⟩ | exact ⟨n7.v6.c0, n7.v6.c1, k7.c0, k7.c1⟩ | exact ⟨n6.v6.c0, n6.v6.c1, k6.c0, k6.c1⟩ | exact ⟨(HX.out.below bz).v6.c0, (HX.out.below bz).v6.c1, (H17.out.below bz).c0, (H17.out.below bz).c1⟩) (fun hHeld => ?_)
                   clear hK K
                   try simp only [Act.put]
                   try simp only [tzD, tzE, tzF]
                   refine wpAnyH_done (by kernel_rfl) ?_ _
                   have c60 := n8.v6.c0
                   have c61 := n8.v6.c1
                   have c70 := n8.v7.c0
                   have c71 := n8.v7.c1
                   have c80 := n8.v8.c0
                   have c81 := n8.v8.c1
                   go_wp2_with fail
                   refine bodyPost_ret (v := .tuple #[term.val, z7.val, z8.val]) (by simp [results, Try.results90, go_sem, c60, c61, c70, c71, c80, c81]) rfl ?_
                   refine ⟨term, z7, z8, rfl, HTM.out (Nat.le_of_lt HEND.out.1), ?_, ?_, n8.v6.ok, n8.v7.ok, n8.v8.ok, n8.bw⟩
                   ·rw [h7, HR.out, HTL.out, HKI.out, sumR, HI.out]
                   ·rw [h8, HZ.out, HTL.out, HKI.out, sumA, HI.out]
                  exact AllReadyH.nil
                 exact AllReadyH.nil
                exact AllReadyH.nil
               exact AllReadyH.nil
              exact AllReadyH.nil
             exact AllReadyH.nil
            exact AllReadyH.nil
          · have hki : k < I := by
              rcases Nat.lt_or_ge k I with h1 | h1
              · exact h1
              · obtain rfl : k = I := by omega
                exact absurd HST.out.1 hend
            rw [decide_eq_false hend]
            clear hend
            have hwr1 : IntKind.i64.wrap ((k : Int) + 1) = (k : Int) + 1 := IntWalk.i64_in _ (by omega)
            have hwr2 : IntKind.u64.wrap ((k : Int) + 1) = (k : Int) + 1 := by
              simp [IntKind.wrap, IntKind.signed, IntKind.bits]; omega
            go_upto_region 15 with fail
            go_cut [18, 19] (fun s18 s19 w2 => ∃ (A' : Option Addr) (c' : Nat) (E' : Int), s18 = .slice A' (lim (mulO den (k + 1))).length c' ∧ s19 = .int .i64 E' ∧ Nt w2 A' c' (lim (mulO den (k + 1))) ∧ Below wc.heap.size wc w2)
            case first =>
              refine wp_region_held_drew (S := fun w' => w'.cell? ⟨g, 2, none⟩ = some (.slice D (lim den).length d)) (by kernel_rfl) (HS.out.below ((Below.refl wc.heap.size wc).drew)).q.c2 (fun hHeld => ?_)
              have bz := (Below.refl wc.heap.size wc).drew
              generalize wc.drew = wd at *
              refine tkw 0 (.pointer (some ⟨g, 2, none⟩)) rfl (by kernel_rfl) (by kernel_rfl) (by kernel_rfl) (fun _ _ _ h => h) ⟨by rfl, ?_⟩ (by assumption) ?_
              ·intro w hSw; go_simp; (try with_reducible rfl)
              try simp only [Act.put, tzA, tzB, tzD, tzE, tzF]
              refine tkw 1 (.slice D (lim den).length d) rfl (by kernel_rfl) (by kernel_rfl) (by kernel_rfl) (fun _ _ _ h => h) ⟨by rfl, ?_⟩ (by assumption) ?_
              ·intro w hSw; go_simp; (try with_reducible rfl)
              try simp only [Act.put, tzA, tzB, tzC, tzD, tzE, tzF]
              refine tkw 2 (.int .i64 (k : Int)) rfl (by kernel_rfl) (by kernel_rfl) (by kernel_rfl) (fun _ _ _ h => h) ⟨by rfl, ?_⟩ (by assumption) ?_
              ·intro w hSw; go_simp; (try with_reducible rfl)
              try simp only [Act.put, tzA, tzB, tzC, tzD, tzE, tzF]
              refine tkw 3 (.int .i64 ((k : Int) + 1)) rfl (by kernel_rfl) (by kernel_rfl) (by kernel_rfl) (fun _ _ _ h => h) ⟨by rfl, ?_⟩ (by assumption) ?_
              ·intro w hSw; go_simp; (try with_reducible rfl)
              try simp only [Act.put, tzA, tzB, tzC, tzD, tzE, tzF]
              refine tkw 4 (.int .u64 ((k : Int) + 1)) rfl (by kernel_rfl) (by kernel_rfl) (by kernel_rfl) (fun _ _ _ h => h) ⟨by rfl, ?_⟩ (by assumption) ?_
              ·intro w hSw; go_simp; (try with_reducible rfl)
              try simp only [Act.put, tzA, tzB, tzC, tzD, tzE, tzF]
              refine wpAnyH_ready (rs := [5]) (by kernel_rfl) (by simp) ?_
              refine AllReadyH.cons rfl (fun K hK => ?_) ?_
              ·go_simp
               go_at_call 74
               refine (make_any wd (k + 1) (by omega)).mono ?_
               rintro _ wd ⟨A1, c1, rfl, m1, bb⟩
               try replace m1 := m1.below bb
               try replace m2 := m2.below bb
               replace bz := below_on bz bb bz.size
               clear bb
               refine hK.out _ _ (HS.out.below bz).q.c2 (fun hHeld => ?_)
               clear hK K
               try simp only [Act.put]
               try simp only [tzD, tzE, tzF]
               refine wpAnyH_ready (rs := [6]) (by kernel_rfl) (by simp) ?_
               refine AllReadyH.cons rfl (fun K hK => ?_) ?_
               ·go_simp
                go_at_call 104
                refine (nmul_any wd D A1 d c1 den (k + 1) (HS.out.below bz).q.ok.den m1).mono ?_
                rintro _ wd ⟨A2, c2, E2, rfl, m2, bb⟩
                clear m1
                try replace m1 := m1.below bb
                try replace m2 := m2.below bb
                replace bz := below_on bz bb bz.size
                clear bb
                refine hK.out _ _ (HS.out.below bz).q.c2 (fun hHeld => ?_)
                clear hK K
                try simp only [Act.put]
                try simp only [tzD, tzE, tzF]
                refine tkw 7 (.tuple #[.slice A2 (lim (mulO den (k + 1))).length c2, .int .i64 E2]) rfl (by kernel_rfl) (by kernel_rfl) (by kernel_rfl) (fun _ _ _ h => h) ⟨by rfl, ?_⟩ (by assumption) ?_
                ·intro w hSw; go_simp; (try with_reducible rfl)
                try simp only [Act.put, tzA, tzB, tzC, tzD, tzE, tzF]
                refine tkw 8 (.slice A2 (lim (mulO den (k + 1))).length c2) rfl (by kernel_rfl) (by kernel_rfl) (by kernel_rfl) (fun _ _ _ h => h) ⟨by rfl, ?_⟩ (by assumption) ?_
                ·intro w hSw; go_simp; (try with_reducible rfl)
                try simp only [Act.put, tzA, tzB, tzC, tzD, tzE, tzF]
                refine tkw 9 (.int .i64 E2) rfl (by kernel_rfl) (by kernel_rfl) (by kernel_rfl) (fun _ _ _ h => h) ⟨by rfl, ?_⟩ (by assumption) ?_
                ·intro w hSw; go_simp; (try with_reducible rfl)
                try simp only [Act.put, tzA, tzB, tzC, tzD, tzE, tzF]
                refine wpAnyH_ready (rs := [10]) (by kernel_rfl) (by simp) ?_
                refine AllReadyH.cons rfl (fun K hK => ?_) ?_
                ·go_simp
                 refine hK.out _ _ (HS.out.below bz).q.c2 (fun hHeld => ?_)
                 clear hK K
                 try simp only [Act.put]
                 try simp only [tzD, tzE, tzF]
                 refine wpAnyH_ready (rs := [11]) (by kernel_rfl) (by simp) ?_
                 refine AllReadyH.cons rfl (fun K hK => ?_) ?_
                 ·go_simp
                  refine hK.out _ _ (HS.out.below bz).q.c2 (fun hHeld => ?_)
                  clear hK K
                  try simp only [Act.put]
                  try simp only [tzD, tzE, tzF]
                  refine wpAnyH_done (by kernel_rfl) ?_ _
                  go_wp2_with fail
                  go_meet
                  case rel => exact ⟨A2, c2, E2, rfl, rfl, m2, bz⟩
                 exact AllReadyH.nil
                exact AllReadyH.nil
               exact AllReadyH.nil
              exact AllReadyH.nil
            case rest =>
              obtain ⟨A', c', E', rfl, rfl, nby, bb⟩ := hcut
              have HS1 := Lib.hid (HS.out.below bb)
              have HBY := Lib.hid nby
              have HNT : Hid (tP num den (shO p) (k + 1) = ⟨downO t.lo num (mulO den (k + 1)), upO t.hi num (mulO den (k + 1))⟩) := Lib.hid (by rw [tP, ← HT.out])
              obtain ⟨by_, hby⟩ : ∃ by_, mulO den (k + 1) = by_ := ⟨_, rfl⟩
              rw [hby] at HBY HNT ⊢
              clear hby nby bb HS
              go_upto_region 16 with fail
              refine wp_region_held_drew (S := fun w' => w'.cell? ⟨g, 1, none⟩ = some (.slice A (lim num).length c)) (by kernel_rfl) (HS1.out.below ((Below.refl wc.heap.size wc).drew)).q.c1 (fun hHeld => ?_)
              have bz := (Below.refl wc.heap.size wc).drew
              generalize wc.drew = wd at *
              refine tkw 0 (.pointer (some ⟨g11, 0, none⟩)) rfl (by kernel_rfl) (by kernel_rfl) (by kernel_rfl) (fun _ _ _ h => h) ⟨by rfl, ?_⟩ (by assumption) ?_
              ·intro w hSw; go_simp; (try with_reducible rfl)
              try simp only [Act.put, tzA, tzB, tzD, tzE, tzF]
              refine tkw 2 (.pointer (some ⟨g, 1, none⟩)) rfl (by kernel_rfl) (by kernel_rfl) (by kernel_rfl) (fun _ _ _ h => h) ⟨by rfl, ?_⟩ (by assumption) ?_
              ·intro w hSw; go_simp; (try with_reducible rfl)
              try simp only [Act.put, tzA, tzB, tzC, tzD, tzE, tzF]
              refine tkw 3 (.slice A (lim num).length c) rfl (by kernel_rfl) (by kernel_rfl) (by kernel_rfl) (fun _ _ _ h => h) ⟨by rfl, ?_⟩ (by assumption) ?_
              ·intro w hSw; go_simp; (try with_reducible rfl)
              try simp only [Act.put, tzA, tzB, tzC, tzD, tzE, tzF]
              refine tkw 4 ((.slice A' (lim by_).length c')) rfl (by kernel_rfl) (by kernel_rfl) (by kernel_rfl) (fun _ _ _ h => h) ⟨by rfl, ?_⟩ (by assumption) ?_
              ·intro w hSw; go_simp; (try with_reducible rfl)
              try simp only [Act.put, tzA, tzB, tzC, tzD, tzE, tzF]
              refine tkw 6 (.pointer (some ⟨g11, 1, none⟩)) rfl (by kernel_rfl) (by kernel_rfl) (by kernel_rfl) (fun _ _ _ h => h) ⟨by rfl, ?_⟩ (by assumption) ?_
              ·intro w hSw; go_simp; (try with_reducible rfl)
              try simp only [Act.put, tzA, tzB, tzC, tzD, tzE, tzF]
              refine tkw 8 (.pointer (some ⟨g, 1, none⟩)) rfl (by kernel_rfl) (by kernel_rfl) (by kernel_rfl) (fun _ _ _ h => h) ⟨by rfl, ?_⟩ (by assumption) ?_
              ·intro w hSw; go_simp; (try with_reducible rfl)
              try simp only [Act.put, tzA, tzB, tzC, tzD, tzE, tzF]
              refine tkw 9 (.slice A (lim num).length c) rfl (by kernel_rfl) (by kernel_rfl) (by kernel_rfl) (fun _ _ _ h => h) ⟨by rfl, ?_⟩ (by assumption) ?_
              ·intro w hSw; go_simp; (try with_reducible rfl)
              try simp only [Act.put, tzA, tzB, tzC, tzD, tzE, tzF]
              refine tkw 10 ((.slice A' (lim by_).length c')) rfl (by kernel_rfl) (by kernel_rfl) (by kernel_rfl) (fun _ _ _ h => h) ⟨by rfl, ?_⟩ (by assumption) ?_
              ·intro w hSw; go_simp; (try with_reducible rfl)
              try simp only [Act.put, tzA, tzB, tzC, tzD, tzE, tzF]
              refine wpAnyH_ready (rs := [1, 7]) (by kernel_rfl) (by simp) ?_
              refine AllReadyH.cons rfl (fun K hK => ?_) ?_
              ·have vd := (HS1.out.below bz).v11
               have k0 := vd.c0
               go_simp
               clear vd k0
               refine hK.out _ _ (by first | exact n6.q.c1 | exact (HS1.out.below bz).q.c1) (fun hHeld => ?_)
               clear hK K
               try simp only [Act.put]
               try simp only [tzD, tzE, tzF]
               refine wpAnyH_ready (rs := [5, 7]) (by kernel_rfl) (by simp) ?_
               refine AllReadyH.cons rfl (fun K hK => ?_) ?_
               ·go_simp
                go_at_call 92
                refine (xdown_any wd _ _ _ _ _ _ t.lo num by_ (HS1.out.below bz).v11.ok.lo (HS1.out.below bz).q.ok.num (HBY.out.below bz)).mono ?_
                rintro _ wd ⟨A3, c3, rfl, m3, bb⟩
                try replace m3 := m3.below bb
                try replace m4 := m4.below bb
                replace bz := below_on bz bb bz.size
                clear bb
                refine hK.out _ _ (by first | exact n6.q.c1 | exact (HS1.out.below bz).q.c1) (fun hHeld => ?_)
                clear hK K
                try simp only [Act.put]
                try simp only [tzD, tzE, tzF]
                refine wpAnyH_ready (rs := [7]) (by kernel_rfl) (by simp) ?_
                refine AllReadyH.cons rfl (fun K hK => ?_) ?_
                ·have vd := (HS1.out.below bz).v11
                 have k1 := vd.c1
                 go_simp
                 clear vd k1
                 refine hK.out _ _ (by first | exact n6.q.c1 | exact (HS1.out.below bz).q.c1) (fun hHeld => ?_)
                 clear hK K
                 try simp only [Act.put]
                 try simp only [tzD, tzE, tzF]
                 refine wpAnyH_ready (rs := [11]) (by kernel_rfl) (by simp) ?_
                 refine AllReadyH.cons rfl (fun K hK => ?_) ?_
                 ·go_simp
                  go_at_call 105
                  refine (xup_any wd _ _ _ _ _ _ t.hi num by_ (HS1.out.below bz).v11.ok.hi (HS1.out.below bz).q.ok.num (HBY.out.below bz)).mono ?_
                  rintro _ wd ⟨A4, c4, rfl, m4, bb⟩
                  try replace m3 := m3.below bb
                  try replace m4 := m4.below bb
                  replace bz := below_on bz bb bz.size
                  clear bb
                  refine hK.out _ _ (by first | exact n6.q.c1 | exact (HS1.out.below bz).q.c1) (fun hHeld => ?_)
                  clear hK K
                  try simp only [Act.put]
                  try simp only [tzD, tzE, tzF]
                  refine tkw 12 (.agg #[.slice A3 (lim (downO t.lo num by_)).length c3, .slice A4 (lim (upO t.hi num by_)).length c4]) rfl (by kernel_rfl) (by kernel_rfl) (by kernel_rfl) (fun _ _ _ h => h) ⟨by rfl, ?_⟩ (by assumption) ?_
                  ·intro w hSw; go_simp; (try with_reducible rfl)
                  try simp only [Act.put, tzA, tzB, tzC, tzD, tzE, tzF]
                  refine wpAnyH_ready (rs := [13]) (by kernel_rfl) (by simp) ?_
                  refine AllReadyH.cons rfl (fun K hK => ?_) ?_
                  ·have hd := HS1.out.below bz
                   have k0 := hd.v11.c0
                   have k1 := hd.v11.c1
                   have k2 := hd.v11.f0
                   have k3 := hd.v11.f1
                   have n6 := hd.put11 (y := ⟨A3, c3, downO t.lo num by_, A4, c4, upO t.hi num by_⟩) ⟨m3, m4⟩
                   dsimp only [set2] at n6
                   go_simp
                   clear k0 k1 k2 k3 hd hHeld m3 m4 bz
                   generalize ((wd.setCell ⟨g11, 0, none⟩ (.slice A3 (lim (downO t.lo num by_)).length c3)).setCell ⟨g11, 1, none⟩ (.slice A4 (lim (upO t.hi num by_)).length c4)) = we at *
                   generalize we = wd at *
                   refine hK.out _ _ (by first | exact n6.q.c1 | exact (HS1.out.below bz).q.c1) (fun hHeld => ?_)
                   clear hK K
                   try simp only [Act.put]
                   try simp only [tzD, tzE, tzF]
                   refine wpAnyH_done (by kernel_rfl) ?_ _
                   go_wp2_with fail
                   go_roundw
                   case rel => exact ⟨k + 1, _, term, rest, z, by omega, by go_num, HNT.out.symm, HR.out, HZ.out, fun h => HTM.out (by omega), n6⟩
                   case measure => simp [intOf]; omega
                  exact AllReadyH.nil
                 exact AllReadyH.nil
                exact AllReadyH.nil
               refine AllReadyH.cons rfl (fun K hK => ?_) ?_
               ·have vd := (HS1.out.below bz).v11
                have k1 := vd.c1
                go_simp
                clear vd k1
                refine hK.out _ _ (by first | exact n6.q.c1 | exact (HS1.out.below bz).q.c1) (fun hHeld => ?_)
                clear hK K
                try simp only [Act.put]
                try simp only [tzD, tzE, tzF]
                refine wpAnyH_ready (rs := [5]) (by kernel_rfl) (by simp) ?_
                refine AllReadyH.cons rfl (fun K hK => ?_) ?_
                ·go_simp
                 go_at_call 92
                 refine (xdown_any wd _ _ _ _ _ _ t.lo num by_ (HS1.out.below bz).v11.ok.lo (HS1.out.below bz).q.ok.num (HBY.out.below bz)).mono ?_
                 rintro _ wd ⟨A3, c3, rfl, m3, bb⟩
                 try replace m3 := m3.below bb
                 try replace m4 := m4.below bb
                 replace bz := below_on bz bb bz.size
                 clear bb
                 refine hK.out _ _ (by first | exact n6.q.c1 | exact (HS1.out.below bz).q.c1) (fun hHeld => ?_)
                 clear hK K
                 try simp only [Act.put]
                 try simp only [tzD, tzE, tzF]
                 refine wpAnyH_ready (rs := [11]) (by kernel_rfl) (by simp) ?_
                 refine AllReadyH.cons rfl (fun K hK => ?_) ?_
                 ·go_simp
                  go_at_call 105
                  refine (xup_any wd _ _ _ _ _ _ t.hi num by_ (HS1.out.below bz).v11.ok.hi (HS1.out.below bz).q.ok.num (HBY.out.below bz)).mono ?_
                  rintro _ wd ⟨A4, c4, rfl, m4, bb⟩
                  try replace m3 := m3.below bb
                  try replace m4 := m4.below bb
                  replace bz := below_on bz bb bz.size
                  clear bb
                  refine hK.out _ _ (by first | exact n6.q.c1 | exact (HS1.out.below bz).q.c1) (fun hHeld => ?_)
                  clear hK K
                  try simp only [Act.put]
                  try simp only [tzD, tzE, tzF]
                  refine tkw 12 (.agg #[.slice A3 (lim (downO t.lo num by_)).length c3, .slice A4 (lim (upO t.hi num by_)).length c4]) rfl (by kernel_rfl) (by kernel_rfl) (by kernel_rfl) (fun _ _ _ h => h) ⟨by rfl, ?_⟩ (by assumption) ?_
                  ·intro w hSw; go_simp; (try with_reducible rfl)
                  try simp only [Act.put, tzA, tzB, tzC, tzD, tzE, tzF]
                  refine wpAnyH_ready (rs := [13]) (by kernel_rfl) (by simp) ?_
                  refine AllReadyH.cons rfl (fun K hK => ?_) ?_
                  ·have hd := HS1.out.below bz
                   have k0 := hd.v11.c0
                   have k1 := hd.v11.c1
                   have k2 := hd.v11.f0
                   have k3 := hd.v11.f1
                   have n6 := hd.put11 (y := ⟨A3, c3, downO t.lo num by_, A4, c4, upO t.hi num by_⟩) ⟨m3, m4⟩
                   dsimp only [set2] at n6
                   go_simp
                   clear k0 k1 k2 k3 hd hHeld m3 m4 bz
                   generalize ((wd.setCell ⟨g11, 0, none⟩ (.slice A3 (lim (downO t.lo num by_)).length c3)).setCell ⟨g11, 1, none⟩ (.slice A4 (lim (upO t.hi num by_)).length c4)) = we at *
                   generalize we = wd at *
                   refine hK.out _ _ (by first | exact n6.q.c1 | exact (HS1.out.below bz).q.c1) (fun hHeld => ?_)
                   clear hK K
                   try simp only [Act.put]
                   try simp only [tzD, tzE, tzF]
                   refine wpAnyH_done (by kernel_rfl) ?_ _
                   go_wp2_with fail
                   go_roundw
                   case rel => exact ⟨k + 1, _, term, rest, z, by omega, by go_num, HNT.out.symm, HR.out, HZ.out, fun h => HTM.out (by omega), n6⟩
                   case measure => simp [intOf]; omega
                  exact AllReadyH.nil
                 exact AllReadyH.nil
                exact AllReadyH.nil
               exact AllReadyH.nil
              refine AllReadyH.cons rfl (fun K hK => ?_) ?_
              ·have vd := (HS1.out.below bz).v11
               have k1 := vd.c1
               go_simp
               clear vd k1
               refine hK.out _ _ (by first | exact n6.q.c1 | exact (HS1.out.below bz).q.c1) (fun hHeld => ?_)
               clear hK K
               try simp only [Act.put]
               try simp only [tzD, tzE, tzF]
               refine wpAnyH_ready (rs := [1]) (by kernel_rfl) (by simp) ?_
               refine AllReadyH.cons rfl (fun K hK => ?_) ?_
               ·have vd := (HS1.out.below bz).v11
                have k0 := vd.c0
                go_simp
                clear vd k0
                refine hK.out _ _ (by first | exact n6.q.c1 | exact (HS1.out.below bz).q.c1) (fun hHeld => ?_)
                clear hK K
                try simp only [Act.put]
                try simp only [tzD, tzE, tzF]
                refine wpAnyH_ready (rs := [5]) (by kernel_rfl) (by simp) ?_
                refine AllReadyH.cons rfl (fun K hK => ?_) ?_
                ·go_simp
                 go_at_call 92
                 refine (xdown_any wd _ _ _ _ _ _ t.lo num by_ (HS1.out.below bz).v11.ok.lo (HS1.out.below bz).q.ok.num (HBY.out.below bz)).mono ?_
                 rintro _ wd ⟨A3, c3, rfl, m3, bb⟩
                 try replace m3 := m3.below bb
                 try replace m4 := m4.below bb
                 replace bz := below_on bz bb bz.size
                 clear bb
                 refine hK.out _ _ (by first | exact n6.q.c1 | exact (HS1.out.below bz).q.c1) (fun hHeld => ?_)
                 clear hK K
                 try simp only [Act.put]
                 try simp only [tzD, tzE, tzF]
                 refine wpAnyH_ready (rs := [11]) (by kernel_rfl) (by simp) ?_
                 refine AllReadyH.cons rfl (fun K hK => ?_) ?_
                 ·go_simp
                  go_at_call 105
                  refine (xup_any wd _ _ _ _ _ _ t.hi num by_ (HS1.out.below bz).v11.ok.hi (HS1.out.below bz).q.ok.num (HBY.out.below bz)).mono ?_
                  rintro _ wd ⟨A4, c4, rfl, m4, bb⟩
                  try replace m3 := m3.below bb
                  try replace m4 := m4.below bb
                  replace bz := below_on bz bb bz.size
                  clear bb
                  refine hK.out _ _ (by first | exact n6.q.c1 | exact (HS1.out.below bz).q.c1) (fun hHeld => ?_)
                  clear hK K
                  try simp only [Act.put]
                  try simp only [tzD, tzE, tzF]
                  refine tkw 12 (.agg #[.slice A3 (lim (downO t.lo num by_)).length c3, .slice A4 (lim (upO t.hi num by_)).length c4]) rfl (by kernel_rfl) (by kernel_rfl) (by kernel_rfl) (fun _ _ _ h => h) ⟨by rfl, ?_⟩ (by assumption) ?_
                  ·intro w hSw; go_simp; (try with_reducible rfl)
                  try simp only [Act.put, tzA, tzB, tzC, tzD, tzE, tzF]
                  refine wpAnyH_ready (rs := [13]) (by kernel_rfl) (by simp) ?_
                  refine AllReadyH.cons rfl (fun K hK => ?_) ?_
                  ·have hd := HS1.out.below bz
                   have k0 := hd.v11.c0
                   have k1 := hd.v11.c1
                   have k2 := hd.v11.f0
                   have k3 := hd.v11.f1
                   have n6 := hd.put11 (y := ⟨A3, c3, downO t.lo num by_, A4, c4, upO t.hi num by_⟩) ⟨m3, m4⟩
                   dsimp only [set2] at n6
                   go_simp
                   clear k0 k1 k2 k3 hd hHeld m3 m4 bz
                   generalize ((wd.setCell ⟨g11, 0, none⟩ (.slice A3 (lim (downO t.lo num by_)).length c3)).setCell ⟨g11, 1, none⟩ (.slice A4 (lim (upO t.hi num by_)).length c4)) = we at *
                   generalize we = wd at *
                   refine hK.out _ _ (by first | exact n6.q.c1 | exact (HS1.out.below bz).q.c1) (fun hHeld => ?_)
                   clear hK K
                   try simp only [Act.put]
                   try simp only [tzD, tzE, tzF]
                   refine wpAnyH_done (by kernel_rfl) ?_ _
                   go_wp2_with fail
                   go_roundw
                   case rel => exact ⟨k + 1, _, term, rest, z, by omega, by go_num, HNT.out.symm, HR.out, HZ.out, fun h => HTM.out (by omega), n6⟩
                   case measure => simp [intOf]; omega
                  exact AllReadyH.nil
                 exact AllReadyH.nil
                exact AllReadyH.nil
               exact AllReadyH.nil
              exact AllReadyH.nil
end Go.Proofs.Ytnmomigaedfdoaa
