/- The walks of drydockref01: divide for all numbers, Div, Gcd. -/
import Derived.Test.YtnmomigaedfdoaaRefI
import Derived.Test.YtnmomigaedfdoaaShT
namespace Go.Proofs.Ytnmomigaedfdoaa
set_option maxRecDepth 100000
open Go.RowKit

theorem rdivide_any (w : World) (A D : Option Addr) (c d M N : Nat) (h : Nt w A c (lim M)) (k : Nt w D d (lim N)) (hl : (lim M).length ≤ 1000) (hl2 : (lim N).length ≤ 1000) (hN : 0 < N) :
    Calls Try.prog 95 #[.slice A (lim M).length c, .slice D (lim N).length d] w (DivRes w (M / N) (M % N)) := by
  rcases Nat.lt_or_ge M N with hlt | hge
  · exact rdivide_less w A D c d M N h k hl hl2 hlt
  · have h1 : 0 < (lim N).length := lim_length_pos.2 (by omega)
    rcases Nat.lt_or_ge 1 (lim N).length with h2 | h2
    · obtain ⟨n, hn⟩ : ∃ n, (lim N).length = n + 2 := ⟨(lim N).length - 2, by omega⟩
      have := rdivide_long w A D c d M N n _ h k rfl hl hn hge
      rw [hn]
      exact this
    · obtain ⟨x, hx⟩ : ∃ x, lim N = [x] := by
        rcases hL : lim N with _ | ⟨x, _ | ⟨y, l⟩⟩
        · rw [hL] at h1; simp at h1
        · exact ⟨x, rfl⟩
        · rw [hL] at h2; simp at h2
      have hv : x = N := by
        have := nv_lim N
        rw [hx] at this
        simpa [nv_cons, nv_nil] using this
      subst hv
      have := rdivide_short w A D c d M x h (by rw [← hx]; exact k) hl hN hge
      rw [hx]
      exact this

set_option maxHeartbeats 400000 in
theorem rdiv_any (w : World) (A D : Option Addr) (c d n m : Nat) (xs ys Q R : List Nat) (E : Int) (h : Nt w A c xs) (k : Nt w D d ys) (hn : n = xs.length) (hm : m = ys.length) (hl : xs.length ≤ 10000) (hl2 : ys.length ≤ 10000) (hr : divS (nv xs) (nv ys) = (Q, R, E)) :
    Calls Try.prog 72 #[.slice A n c, .slice D m d] w (Nat2Res w Q R E) := by
  subst hn hm
  have HR := Lib.hid hr; clear hr
  have hl1 := lim_length_le_length h.u
  have hl2 := lim_length_le_length k.u
  have hl3 : (lim (nv xs)).length ≤ 1000000 := by omega
  have hl4 : (lim (nv ys)).length ≤ 1000000 := by omega
  have h3 := h.cap
  have h4 := h.max
  have k3 := k.cap
  have k4 := k.max
  by_cases hb : 512 < (lim (nv xs)).length
  · go_enter Try.func72, Try.ntmps72
    go_wp2_with fail
    refine (rlarge_any _ A c _ xs true h rfl hl3 (by simp <;> omega)).mono ?_
    rintro e wn ⟨rfl, bb⟩
    replace h := h.below bb
    replace k := k.below bb
    have bw := bb
    clear bb
    go_wp2_with fail
    go_ret3
    have e := HR.out
    rw [divS_big1 hb] at e
    simp only [Prod.mk.injEq] at e
    obtain ⟨rfl, rfl, rfl⟩ := e
    exact ⟨_, _, _, _, rfl, Nt.nil _ _ _ (by omega), Nt.nil _ _ _ (by omega), bw⟩
  · by_cases hb2 : 512 < (lim (nv ys)).length
    · go_enter Try.func72, Try.ntmps72
      go_wp2_with fail
      refine (rlarge_any _ A c _ xs false h rfl hl3 (by simp <;> omega)).mono ?_
      rintro e wn ⟨rfl, bb⟩
      replace h := h.below bb
      replace k := k.below bb
      have bw := bb
      clear bb
      go_wp2_with fail
      refine (rlarge_any _ D d _ ys true k rfl hl4 (by simp <;> omega)).mono ?_
      rintro e wn ⟨rfl, bb⟩
      replace h := h.below bb
      replace k := k.below bb
      replace bw := below_on bw bb bw.size
      clear bb
      go_wp2_with fail
      go_ret3
      have e := HR.out
      rw [divS_big2 hb2] at e
      simp only [Prod.mk.injEq] at e
      obtain ⟨rfl, rfl, rfl⟩ := e
      exact ⟨_, _, _, _, rfl, Nt.nil _ _ _ (by omega), Nt.nil _ _ _ (by omega), bw⟩
    · by_cases h0 : nv ys = 0
      · have hz : (((lim (nv ys)).length : Int) == 0) = true := by rw [h0, lim_zero]; rfl
        have H0 := Lib.hid h0
        clear h0
        go_enter Try.func72, Try.ntmps72
        go_wp2_with fail
        refine (rlarge_any _ A c _ xs false h rfl hl3 (by simp <;> omega)).mono ?_
        rintro e wn ⟨rfl, bb⟩
        replace h := h.below bb
        replace k := k.below bb
        have bw := bb
        clear bb
        go_wp2_with fail
        refine (rlarge_any _ D d _ ys false k rfl hl4 (by simp <;> omega)).mono ?_
        rintro e wn ⟨rfl, bb⟩
        replace h := h.below bb
        replace k := k.below bb
        replace bw := below_on bw bb bw.size
        clear bb
        go_wp2_with fail
        refine (rtrim_any _ D d _ ys k rfl hl4).mono ?_
        rintro e wn ⟨A2, c2, rfl, g2, bb⟩
        replace bw := below_on bw bb bw.size
        clear g2
        go_wp2_with fail
        go_ret3
        have e := HR.out
        rw [divS_zero hb hb2 H0.out] at e
        simp only [Prod.mk.injEq] at e
        obtain ⟨rfl, rfl, rfl⟩ := e
        exact ⟨_, _, _, _, rfl, Nt.nil _ _ _ (by omega), Nt.nil _ _ _ (by omega), bw⟩
      · have hp := lim_length_pos.2 h0
        have hz : (((lim (nv ys)).length : Int) == 0) = false := beq_eq_false_iff_ne.2 (by omega)
        have H0 : Hid (nv ys ≠ 0) := h0
        clear h0
        go_enter Try.func72, Try.ntmps72
        go_wp2_with fail
        refine (rlarge_any _ A c _ xs false h rfl hl3 (by simp <;> omega)).mono ?_
        rintro e wn ⟨rfl, bb⟩
        replace h := h.below bb
        replace k := k.below bb
        have bw := bb
        clear bb
        go_wp2_with fail
        refine (rlarge_any _ D d _ ys false k rfl hl4 (by simp <;> omega)).mono ?_
        rintro e wn ⟨rfl, bb⟩
        replace h := h.below bb
        replace k := k.below bb
        replace bw := below_on bw bb bw.size
        clear bb
        go_wp2_with fail
        refine (rtrim_any _ D d _ ys k rfl hl4).mono ?_
        rintro e wn ⟨A0, c0, rfl, g0, bb⟩
        replace h := h.below bb
        replace k := k.below bb
        replace bw := below_on bw bb bw.size
        clear g0 bb
        go_wp2_with fail
        refine (rtrim_any _ A c _ xs h rfl hl3).mono ?_
        rintro e wn ⟨A1, c1, rfl, g1, bb⟩
        have n1 := g1.nt (lim_u32 _)
        replace k := k.below bb
        replace bw := below_on bw bb bw.size
        clear g1 bb
        go_wp2_with fail
        refine (rtrim_any _ D d _ ys k rfl hl4).mono ?_
        rintro e wn ⟨A2, c2, rfl, g2, bb⟩
        have n2 := g2.nt (lim_u32 _)
        replace n1 := n1.below bb
        replace bw := below_on bw bb bw.size
        clear g2 bb
        go_wp2_with fail
        refine (rdivide_any _ A1 A2 c1 c2 _ _ n1 n2 (by omega) (by omega) (Nat.pos_of_ne_zero H0.out)).mono ?_
        rintro e wn ⟨A3, c3, A4, c4, rfl, n3, n4, bb⟩
        replace bw := below_on bw bb bw.size
        clear bb
        go_wp2_with fail
        go_ret3
        have e := HR.out
        rw [divS_ok hb hb2 H0.out] at e
        simp only [Prod.mk.injEq] at e
        obtain ⟨rfl, rfl, rfl⟩ := e
        exact ⟨_, _, _, _, rfl, n3, n4, bw⟩

set_option maxHeartbeats 400000 in
theorem rgcd_any (w : World) (A D : Option Addr) (c d n m : Nat) (xs ys R : List Nat) (E : Int) (h : Nt w A c xs) (k : Nt w D d ys) (hn : n = xs.length) (hm : m = ys.length) (hl : xs.length ≤ 10000) (hl2 : ys.length ≤ 10000) (hr : gcdS (nv xs) (nv ys) = (R, E)) :
    Calls Try.prog 71 #[.slice A n c, .slice D m d] w (NatRes w R E) := by
  subst hn hm
  have HR := Lib.hid hr; clear hr
  have hl1 := lim_length_le_length h.u
  have hl2 := lim_length_le_length k.u
  have hl3 : (lim (nv xs)).length ≤ 1000000 := by omega
  have hl4 : (lim (nv ys)).length ≤ 1000000 := by omega
  have h3 := h.cap
  have h4 := h.max
  have k3 := k.cap
  have k4 := k.max
  by_cases hb : 512 < (lim (nv xs)).length
  · go_enter Try.func71, Try.ntmps71
    go_wp2_with fail
    refine (rlarge_any _ A c _ xs true h rfl hl3 (by simp <;> omega)).mono ?_
    rintro e wn ⟨rfl, bb⟩
    replace h := h.below bb
    replace k := k.below bb
    have bw := bb
    clear bb
    go_wp2_with fail
    go_ret2
    have e := HR.out
    rw [gcdS_big1 hb] at e
    obtain ⟨rfl, rfl⟩ := Prod.mk.inj e
    exact ⟨_, _, rfl, Nt.nil _ _ _ (by omega), bw⟩
  · by_cases hb2 : 512 < (lim (nv ys)).length
    · go_enter Try.func71, Try.ntmps71
      go_wp2_with fail
      refine (rlarge_any _ A c _ xs false h rfl hl3 (by simp <;> omega)).mono ?_
      rintro e wn ⟨rfl, bb⟩
      replace h := h.below bb
      replace k := k.below bb
      have bw := bb
      clear bb
      go_wp2_with fail
      refine (rlarge_any _ D d _ ys true k rfl hl4 (by simp <;> omega)).mono ?_
      rintro e wn ⟨rfl, bb⟩
      replace h := h.below bb
      replace k := k.below bb
      replace bw := below_on bw bb bw.size
      clear bb
      go_wp2_with fail
      go_ret2
      have e := HR.out
      rw [gcdS_big2 hb2] at e
      obtain ⟨rfl, rfl⟩ := Prod.mk.inj e
      exact ⟨_, _, rfl, Nt.nil _ _ _ (by omega), bw⟩
    · go_enter Try.func71, Try.ntmps71
      go_wp2_with fail
      refine (rlarge_any _ A c _ xs false h rfl hl3 (by simp <;> omega)).mono ?_
      rintro e wn ⟨rfl, bb⟩
      replace h := h.below bb
      replace k := k.below bb
      have bw := bb
      clear bb
      go_wp2_with fail
      refine (rlarge_any _ D d _ ys false k rfl hl4 (by simp <;> omega)).mono ?_
      rintro e wn ⟨rfl, bb⟩
      replace h := h.below bb
      replace k := k.below bb
      replace bw := below_on bw bb bw.size
      clear bb
      go_wp2_with fail
      refine (rtrim_any _ A c _ xs h rfl hl3).mono ?_
      rintro e wn ⟨A1, c1, rfl, g1, bb⟩
      have n1 := g1.nt (lim_u32 _)
      replace k := k.below bb
      replace bw := below_on bw bb bw.size
      clear g1 bb
      go_wp2_with fail
      refine (rtrim_any _ D d _ ys k rfl hl4).mono ?_
      rintro e wn ⟨A2, c2, rfl, g2, bb⟩
      have n2 := g2.nt (lim_u32 _)
      replace n1 := n1.below bb
      replace bw := below_on bw bb bw.size
      clear g2 bb
      go_wp2_with fail
      go_loopg [6, 7] (nv ys) (fun kn a b wr => ∃ (M N : Nat) (A B : Option Addr) (c d : Nat), N = kn ∧ a = .slice A (lim M).length c ∧ b = .slice B (lim N).length d ∧ Nt wr A c (lim M) ∧ Nt wr B d (lim N) ∧ (lim M).length ≤ 512 ∧ (lim N).length ≤ 512 ∧ Nat.gcd M N = Nat.gcd (nv xs) (nv ys) ∧ Below w.heap.size w wr)
      case atStart => exact ⟨nv xs, nv ys, A1, A2, c1, c2, rfl, rfl, rfl, n1, n2, by omega, by omega, rfl, bw⟩
      case round =>
        obtain ⟨M, N, AM, AN, cM, cN, rfl, rfl, rfl, nM, nN, lM, lN, hg, bb⟩ := hrel
        have HG := Lib.hid hg
        clear hg n1 n2 bw
        by_cases hN : N = 0
        · have hN1 : (lim N).length = 0 := by rw [hN, lim_zero]; rfl
          have hN2 : decide ((0 : Int) < ((lim N).length : Int)) = false := decide_eq_false (by omega)
          have hN3 : decide (0 < (lim N).length) = false := decide_eq_false (by omega)
          have HN := Lib.hid hN
          clear hN hN1
          go_wp2_with fail
          go_ret2
          have e := HR.out
          rw [gcdS_ok hb hb2, ← HG.out, HN.out, Nat.gcd_zero_right] at e
          obtain ⟨rfl, rfl⟩ := Prod.mk.inj e
          exact ⟨_, _, rfl, nM, bb⟩
        · have hN1 : 0 < (lim N).length := lim_length_pos.2 hN
          have HN : Hid (0 < N) := Lib.hid (by omega)
          clear hN
          go_wp2_with fail
          refine (rdivide_any _ AM AN cM cN M N nM nN (by omega) (by omega) HN.out).mono ?_
          rintro e w1 ⟨A3, c3, D3, d3, rfl, n3, n4, b3⟩
          have nN2 := nN.below b3
          clear nM nN n3
          go_wp2_with fail
          go_roundg (M % N)
          case measure => exact Nat.mod_lt _ HN.out
          case rel =>
            refine ⟨N, M % N, AN, D3, cN, d3, rfl, rfl, rfl, nN2, n4, lN, ?_, ?_, below_on bb b3 bb.size⟩
            · have := lim_length_mono (Nat.le_of_lt (Nat.mod_lt M HN.out)); omega
            · rw [← HG.out, Nat.gcd_comm N (M % N), ← Nat.gcd_rec, Nat.gcd_comm]
end Go.Proofs.Ytnmomigaedfdoaa
