/- The walks of natural.divide for all numbers, natural.Div and natural.Gcd. Shifting numbers by limbs and bits: plain arithmetic. -/
import Derived.Test.YtnmomigaedfdoaaNatJ
import Derived.Test.YtnmomigaedfdoaaBase
import Derived.Test.YtnmomigaedfdoaaDivV
namespace Go.Proofs.Ytnmomigaedfdoaa
set_option maxRecDepth 100000
open Go.RowKit

/-- divide, whatever the numbers are -/
theorem divide_any (w : World) (A D : Option Addr) (c d M N : Nat) (h : Nt w A c (lim M)) (k : Nt w D d (lim N)) (hl : (lim M).length ≤ 1000) (hN : 0 < N) :
    Calls Try.prog 111 #[.slice A (lim M).length c, .slice D (lim N).length d] w (DivRes w (M / N) (M % N)) := by
  rcases Nat.lt_or_ge M N with hlt | hge
  · exact divide_less w A D c d M N h k hl hlt
  · have h1 : 0 < (lim N).length := lim_length_pos.2 (by omega)
    rcases Nat.lt_or_ge 1 (lim N).length with h2 | h2
    · obtain ⟨n, hn⟩ : ∃ n, (lim N).length = n + 2 := ⟨(lim N).length - 2, by omega⟩
      have := divide_long w A D c d M N n _ (lim N) h k rfl hl hn (nv_lim N) (fun hk => Nat.pos_of_ne_zero (lim_last N (n + 1) (by omega))) hge
      rw [hn]
      exact this
    · obtain ⟨x, hx⟩ : ∃ x, lim N = [x] := by
        rcases hL : lim N with _ | ⟨x, _ | ⟨y, l⟩⟩
        · rw [hL] at h1; simp at h1
        · exact ⟨x, rfl⟩
        · rw [hL] at h2; simp at h2
      have hv : x = N := by
        have := nv_lim N
        rw [hx] at this
        simpa [nv_cons, nv_nil] using this
      subst hv
      have := divide_short w A D c d M x h (by rw [← hx]; exact k) hl hN hge
      rw [hx]
      exact this

/-- the quotient, the remainder and the error -/
def divS (m n : Nat) : List Nat × List Nat × Int := if 512 < (lim m).length ∨ 512 < (lim n).length then ([], [], 2) else if n = 0 then ([], [], 3) else (lim (m / n), lim (m % n), 0)
theorem divS_big1 {m n : Nat} (h : 512 < (lim m).length) : divS m n = ([], [], 2) := by simp [divS, h]
theorem divS_big2 {m n : Nat} (h : 512 < (lim n).length) : divS m n = ([], [], 2) := by simp [divS, h]
theorem divS_zero {m n : Nat} (h : ¬ 512 < (lim m).length) (h2 : ¬ 512 < (lim n).length) (h3 : n = 0) : divS m n = ([], [], 3) := by rw [divS, if_neg (by omega), if_pos h3]
theorem divS_ok {m n : Nat} (h : ¬ 512 < (lim m).length) (h2 : ¬ 512 < (lim n).length) (h3 : n ≠ 0) : divS m n = (lim (m / n), lim (m % n), 0) := by simp [divS, h, h2, h3]
/-- two numbers and an error -/
def Nat2Res (w : World) (Q R : List Nat) (E : Int) (e : Ending) (w' : World) : Prop :=
  ∃ A c D d, e = .returned (.tuple #[.slice A Q.length c, .slice D R.length d, .int .i64 E]) ∧ Nt w' A c Q ∧ Nt w' D d R ∧ Below w.heap.size w w'
def gcdS (m n : Nat) : List Nat × Int := if 512 < (lim m).length ∨ 512 < (lim n).length then ([], 2) else (lim (Nat.gcd m n), 0)
theorem gcdS_big1 {m n : Nat} (h : 512 < (lim m).length) : gcdS m n = ([], 2) := by simp [gcdS, h]
theorem gcdS_big2 {m n : Nat} (h : 512 < (lim n).length) : gcdS m n = ([], 2) := by simp [gcdS, h]
theorem gcdS_ok {m n : Nat} (h : ¬ 512 < (lim m).length) (h2 : ¬ 512 < (lim n).length) : gcdS m n = (lim (Nat.gcd m n), 0) := by simp [gcdS, h, h2]

set_option maxHeartbeats 400000 in
theorem div_any (w : World) (A D : Option Addr) (c d n m : Nat) (xs ys Q R : List Nat) (E : Int) (h : Nt w A c xs) (k : Nt w D d ys) (hn : n = xs.length) (hm : m = ys.length) (hr : divS (nv xs) (nv ys) = (Q, R, E)) :
    Calls Try.prog 101 #[.slice A n c, .slice D m d] w (Nat2Res w Q R E) := by
  subst hn hm
  have HR := Lib.hid hr; clear hr
  have h1 := h.lim
  have h2 := lim_length_le_length h.u
  have h3 := h.cap
  have h4 := h.max
  have k1 := k.lim
  have k2 := lim_length_le_length k.u
  have k3 := k.cap
  have k4 := k.max
  obtain ⟨i0, hi, hz0, hz1, hz2⟩ := info_parts u32_info
  by_cases hl : 512 < (lim (nv xs)).length
  · go_enter Try.func101, Try.ntmps101
    go_wp2_with fail
    refine (large_any w A c _ xs true h rfl (by simpa using hl)).mono ?_
    rintro e w' ⟨rfl, rfl⟩
    go_wp2_with fail
    go_ret3
    have e := HR.out
    rw [divS_big1 hl] at e
    simp only [Prod.mk.injEq] at e
    obtain ⟨rfl, rfl, rfl⟩ := e
    exact ⟨_, _, _, _, rfl, Nt.nil _ _ _ (by omega), Nt.nil _ _ _ (by omega), Below.refl _ _⟩
  · by_cases hl2 : 512 < (lim (nv ys)).length
    · go_enter Try.func101, Try.ntmps101
      go_wp2_with fail
      refine (large_any w A c _ xs false h rfl (by simpa using hl)).mono ?_
      rintro e w' ⟨rfl, rfl⟩
      go_wp2_with fail
      refine (large_any w D d _ ys true k rfl (by simpa using hl2)).mono ?_
      rintro e w' ⟨rfl, rfl⟩
      go_wp2_with fail
      go_ret3
      have e := HR.out
      rw [divS_big2 hl2] at e
      simp only [Prod.mk.injEq] at e
      obtain ⟨rfl, rfl, rfl⟩ := e
      exact ⟨_, _, _, _, rfl, Nt.nil _ _ _ (by omega), Nt.nil _ _ _ (by omega), Below.refl _ _⟩
    · by_cases h0 : nv ys = 0
      · have hz1 : (((lim (nv ys)).length : Int) == 0) = true := by rw [h0, lim_zero]; rfl
        have H0 := Lib.hid h0
        clear h0
        go_enter Try.func101, Try.ntmps101
        go_wp2_with fail
        refine (large_any w A c _ xs false h rfl (by simpa using hl)).mono ?_
        rintro e w' ⟨rfl, rfl⟩
        go_wp2_with fail
        refine (large_any w D d _ ys false k rfl (by simpa using hl2)).mono ?_
        rintro e w' ⟨rfl, rfl⟩
        go_wp2_with fail
        refine (length_any w D d _ ys k rfl).mono ?_
        rintro e w' ⟨rfl, rfl⟩
        go_wp2_with fail
        go_ret3
        have e := HR.out
        rw [divS_zero hl hl2 H0.out] at e
        simp only [Prod.mk.injEq] at e
        obtain ⟨rfl, rfl, rfl⟩ := e
        exact ⟨_, _, _, _, rfl, Nt.nil _ _ _ (by omega), Nt.nil _ _ _ (by omega), Below.refl _ _⟩
      · have hpos := lim_length_pos.2 h0
        have hz1 : (((lim (nv ys)).length : Int) == 0) = false := beq_eq_false_iff_ne.2 (by omega)
        have H0 : Hid (nv ys ≠ 0) := h0
        clear h0
        go_enter Try.func101, Try.ntmps101
        go_wp2_with fail
        refine (large_any w A c _ xs false h rfl (by simpa using hl)).mono ?_
        rintro e w' ⟨rfl, rfl⟩
        go_wp2_with fail
        refine (large_any w D d _ ys false k rfl (by simpa using hl2)).mono ?_
        rintro e w' ⟨rfl, rfl⟩
        go_wp2_with fail
        refine (length_any w D d _ ys k rfl).mono ?_
        rintro e w' ⟨rfl, rfl⟩
        go_wp2_with fail
        go_region_with (first
          | (go_at_call 89
             with_reducible refine (length_any _ A c _ xs (nt_drew h) rfl).mono ?_
             rintro e w' ⟨rfl, rfl⟩)
          | (go_at_call 89
             with_reducible refine (length_any _ D d _ ys (nt_drew k) rfl).mono ?_
             rintro e w' ⟨rfl, rfl⟩)
          | (go_at_call 111
             with_reducible refine (divide_any _ A D c d _ _ (nt_drew h1) (nt_drew k1) (by omega) (Nat.pos_of_ne_zero H0.out)).mono ?_
             rintro e w1 ⟨A1, c1, D1, d1, rfl, n1, n2, bb⟩))
        all_goals
          go_wp2_with fail
          go_ret3
          have e := HR.out
          rw [divS_ok hl hl2 H0.out] at e
          simp only [Prod.mk.injEq] at e
          obtain ⟨rfl, rfl, rfl⟩ := e
          exact ⟨_, _, _, _, rfl, n1, n2, below_of_drew bb⟩

set_option maxHeartbeats 400000 in
theorem gcd_any (w : World) (A D : Option Addr) (c d n m : Nat) (xs ys R : List Nat) (E : Int) (h : Nt w A c xs) (k : Nt w D d ys) (hn : n = xs.length) (hm : m = ys.length) (hr : gcdS (nv xs) (nv ys) = (R, E)) :
    Calls Try.prog 109 #[.slice A n c, .slice D m d] w (NatRes w R E) := by
  subst hn hm
  have HR := Lib.hid hr; clear hr
  have h1 := h.lim
  have h2 := lim_length_le_length h.u
  have h3 := h.cap
  have h4 := h.max
  have k1 := k.lim
  have k2 := lim_length_le_length k.u
  have k3 := k.cap
  have k4 := k.max
  obtain ⟨i0, hi, hz0, hz1, hz2⟩ := info_parts u32_info
  by_cases hl : 512 < (lim (nv xs)).length
  · go_enter Try.func109, Try.ntmps109
    go_wp2_with fail
    refine (large_any w A c _ xs true h rfl (by simpa using hl)).mono ?_
    rintro e w' ⟨rfl, rfl⟩
    go_wp2_with fail
    go_ret2
    have e := HR.out
    rw [gcdS_big1 hl] at e
    obtain ⟨rfl, rfl⟩ := Prod.mk.inj e
    exact ⟨_, _, rfl, Nt.nil _ _ _ (by omega), Below.refl _ _⟩
  · by_cases hl2 : 512 < (lim (nv ys)).length
    · go_enter Try.func109, Try.ntmps109
      go_wp2_with fail
      refine (large_any w A c _ xs false h rfl (by simpa using hl)).mono ?_
      rintro e w' ⟨rfl, rfl⟩
      go_wp2_with fail
      refine (large_any w D d _ ys true k rfl (by simpa using hl2)).mono ?_
      rintro e w' ⟨rfl, rfl⟩
      go_wp2_with fail
      go_ret2
      have e := HR.out
      rw [gcdS_big2 hl2] at e
      obtain ⟨rfl, rfl⟩ := Prod.mk.inj e
      exact ⟨_, _, rfl, Nt.nil _ _ _ (by omega), Below.refl _ _⟩
    · go_enter Try.func109, Try.ntmps109
      go_wp2_with fail
      refine (large_any w A c _ xs false h rfl (by simpa using hl)).mono ?_
      rintro e w' ⟨rfl, rfl⟩
      go_wp2_with fail
      refine (large_any w D d _ ys false k rfl (by simpa using hl2)).mono ?_
      rintro e w' ⟨rfl, rfl⟩
      go_wp2_with fail
      refine (trim_any w A c _ xs h rfl (by omega)).mono ?_
      rintro e wa ⟨A1, c1, rfl, g1, b1⟩
      have na := g1.nt (lim_u32 _)
      have k5 := k.below b1
      clear g1
      go_wp2_with fail
      refine (trim_any _ D d _ ys k5 rfl (by omega)).mono ?_
      rintro e wb ⟨A2, c2, rfl, g2, b2⟩
      have nb := g2.nt (lim_u32 _)
      have na2 := na.below b2
      have bw := below_on b1 b2 b1.size
      clear g2 na k5 b1 b2
      go_wp2_with fail
      go_loopg [0, 1] (nv ys) (fun kn a b wr => ∃ (M N : Nat) (A B : Option Addr) (c d : Nat), N = kn ∧ a = .slice A (lim M).length c ∧ b = .slice B (lim N).length d ∧ Nt wr A c (lim M) ∧ Nt wr B d (lim N) ∧ (lim M).length ≤ 512 ∧ (lim N).length ≤ 512 ∧ Nat.gcd M N = Nat.gcd (nv xs) (nv ys) ∧ Below w.heap.size w wr)
      case atStart => exact ⟨nv xs, nv ys, A1, A2, c1, c2, rfl, rfl, rfl, na2, nb, by omega, by omega, rfl, bw⟩
      case round =>
        obtain ⟨M, N, AM, AN, cM, cN, rfl, rfl, rfl, nM, nN, lM, lN, hg, bb⟩ := hrel
        have HG := Lib.hid hg
        clear hg na2 nb bw
        by_cases hN : N = 0
        · have hN1 : (lim N).length = 0 := by rw [hN, lim_zero]; rfl
          have hN2 : decide ((0 : Int) < ((lim N).length : Int)) = false := decide_eq_false (by omega)
          have hN3 : decide (0 < (lim N).length) = false := decide_eq_false (by omega)
          have HN := Lib.hid hN
          clear hN hN1
          go_wp2_with fail
          go_ret2
          have e := HR.out
          rw [gcdS_ok hl hl2, ← HG.out, HN.out, Nat.gcd_zero_right] at e
          obtain ⟨rfl, rfl⟩ := Prod.mk.inj e
          exact ⟨_, _, rfl, nM, bb⟩
        · have hN1 : 0 < (lim N).length := lim_length_pos.2 hN
          have HN : Hid (0 < N) := Lib.hid (by omega)
          clear hN
          go_wp2_with fail
          refine (divide_any _ AM AN cM cN M N nM nN (by omega) HN.out).mono ?_
          rintro e w1 ⟨A3, c3, D3, d3, rfl, n3, n4, b3⟩
          have nN2 := nN.below b3
          clear nM nN n3
          go_wp2_with fail
          go_roundg (M % N)
          case measure => exact Nat.mod_lt _ HN.out
          case rel =>
            refine ⟨N, M % N, AN, D3, cN, d3, rfl, rfl, rfl, nN2, n4, lN, ?_, ?_, below_on bb b3 bb.size⟩
            · have := lim_length_mono (Nat.le_of_lt (Nat.mod_lt M HN.out)); omega
            · rw [← HG.out, Nat.gcd_comm N (M % N), ← Nat.gcd_rec, Nat.gcd_comm]
end Go.Proofs.Ytnmomigaedfdoaa
namespace Go.Proofs.Ytnmomigaedfdoaa
set_option maxRecDepth 100000

theorem two_pow_split (k : Nat) : 2 ^ k = pw (k / 32) * 2 ^ (k % 32) := by
  unfold pw
  rw [show (4294967296 : Nat) = 2 ^ 32 from rfl, ← Nat.pow_mul, ← Nat.pow_add, Nat.div_add_mod]
/-- zeros below -/
theorem nv_low_zeros (k : Nat) (O : List Nat) : nv (List.replicate k 0 ++ O) = nv O * pw k := by
  rw [nv_append, nv_replicate, List.length_replicate, Nat.zero_add, Nat.mul_comm]
theorem nv_shift_up {O : List Nat} {m k : Nat} (h : nv O = m * 2 ^ (k % 32)) : nv (List.replicate (k / 32) 0 ++ O) = m * 2 ^ k := by
  rw [nv_low_zeros, h, two_pow_split k, Nat.mul_assoc, Nat.mul_comm (2 ^ (k % 32))]
/-- a limb of a number that is shifted down by whole limbs and some bits -/
theorem down_limb {X : List Nat} (hu : U32 X) {wh s i : Nat} (hs : s < 32) (hi : wh + i < X.length) : (X.getD (wh + i + 1) 0 * 4294967296 + X[wh + i]) / 2 ^ s % 4294967296 = nv X / (pw wh * 2 ^ s) / pw i % 4294967296 := by
  have h1 := nv_drop_div X hu (wh + i) (by omega)
  have hp : 0 < 2 ^ s := Nat.pow_pos (by omega)
  have e : nv X / (pw wh * 2 ^ s) / pw i = nv X / pw (wh + i) / 2 ^ s := by
    rw [Nat.div_div_eq_div_mul, Nat.div_div_eq_div_mul, pw_add]
    congr 1
    rw [Nat.mul_assoc, Nat.mul_comm (2 ^ s), ← Nat.mul_assoc]
  rw [e, h1]
  rcases Nat.lt_or_ge (wh + i + 1) X.length with h2 | h2
  · rw [List.drop_eq_getElem_cons hi, List.drop_eq_getElem_cons h2, nv_cons, nv_cons]
    rw [List.getD_eq_getElem?_getD, List.getElem?_eq_getElem h2, Option.getD_some]
    exact shift_limb (hu.at _ hi) (hu.at _ h2) hs
  · rw [List.drop_eq_getElem_cons hi, List.drop_eq_nil_of_le h2, nv_cons, nv_nil]
    rw [List.getD_eq_getElem?_getD, List.getElem?_eq_none h2, Option.getD_none]
    simp
theorem nv_shift_down {X R : List Nat} (hu : U32 X) {k : Nat} (hk : k / 32 < X.length) (hl : R.length = X.length - k / 32) (h : ∀ t (ht : t < R.length), R[t] = nv X / (pw (k / 32) * 2 ^ (k % 32)) / pw t % 4294967296) : nv R = nv X / 2 ^ k := by
  rw [nv_digits _ _ R hl h, ← two_pow_split]
  apply Nat.mod_eq_of_lt
  rw [Nat.div_lt_iff_lt_mul (Nat.pow_pos (by omega))]
  have h1 := nv_lt hu
  refine Nat.lt_of_lt_of_le h1 ?_
  rw [two_pow_split, ← Nat.mul_assoc, ← pw_add, show X.length - k / 32 + k / 32 = X.length from by omega]
  exact Nat.le_mul_of_pos_right _ (Nat.pow_pos (by omega))
theorem shift_down_far {X : List Nat} (hu : U32 X) {k : Nat} (hk : X.length ≤ k / 32) : nv X / 2 ^ k = 0 := by
  apply Nat.div_eq_of_lt
  have h1 := nv_lt hu
  rw [two_pow_split]
  refine Nat.lt_of_lt_of_le h1 (Nat.le_trans (pw_le hk) (Nat.le_mul_of_pos_right _ (Nat.pow_pos (by omega))))
end Go.Proofs.Ytnmomigaedfdoaa
