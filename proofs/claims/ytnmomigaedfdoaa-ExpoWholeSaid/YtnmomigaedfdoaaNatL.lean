/- The walks of natural.divide for all numbers, natural.Div and natural.Gcd. Shifting numbers by limbs and bits: plain arithmetic. The walk of natural.Shift. -/
import Derived.Test.YtnmomigaedfdoaaNatJ
import Derived.Test.YtnmomigaedfdoaaBase
import Derived.Test.YtnmomigaedfdoaaDivV
import Derived.Deep.RegionLaw
import Derived.Deep.OwnRows
namespace Go.Proofs.Ytnmomigaedfdoaa
set_option maxRecDepth 100000
open Go.RowKit

/-- divide, whatever the numbers are -/
theorem divide_any (w : World) (A D : Option Addr) (c d M N : Nat) (h : Nt w A c (lim M)) (k : Nt w D d (lim N)) (hl : (lim M).length ≤ 1000) (hN : 0 < N) :
    Calls Try.prog 111 #[.slice A (lim M).length c, .slice D (lim N).length d] w (DivRes w (M / N) (M % N)) := by
  rcases Nat.lt_or_ge M N with hlt | hge
  · exact divide_less w A D c d M N h k hl hlt
  · have h1 : 0 < (lim N).length := lim_length_pos.2 (by omega)
    rcases Nat.lt_or_ge 1 (lim N).length with h2 | h2
    · obtain ⟨n, hn⟩ : ∃ n, (lim N).length = n + 2 := ⟨(lim N).length - 2, by omega⟩
      have := divide_long w A D c d M N n _ (lim N) h k rfl hl hn (nv_lim N) (fun hk => Nat.pos_of_ne_zero (lim_last N (n + 1) (by omega))) hge
      rw [hn]
      exact this
    · obtain ⟨x, hx⟩ : ∃ x, lim N = [x] := by
        rcases hL : lim N with _ | ⟨x, _ | ⟨y, l⟩⟩
        · rw [hL] at h1; simp at h1
        · exact ⟨x, rfl⟩
        · rw [hL] at h2; simp at h2
      have hv : x = N := by
        have := nv_lim N
        rw [hx] at this
        simpa [nv_cons, nv_nil] using this
      subst hv
      have := divide_short w A D c d M x h (by rw [← hx]; exact k) hl hN hge
      rw [hx]
      exact this

/-- the quotient, the remainder and the error -/
def divS (m n : Nat) : List Nat × List Nat × Int := if 512 < (lim m).length ∨ 512 < (lim n).length then ([], [], 2) else if n = 0 then ([], [], 3) else (lim (m / n), lim (m % n), 0)
theorem divS_big1 {m n : Nat} (h : 512 < (lim m).length) : divS m n = ([], [], 2) := by simp [divS, h]
theorem divS_big2 {m n : Nat} (h : 512 < (lim n).length) : divS m n = ([], [], 2) := by simp [divS, h]
theorem divS_zero {m n : Nat} (h : ¬ 512 < (lim m).length) (h2 : ¬ 512 < (lim n).length) (h3 : n = 0) : divS m n = ([], [], 3) := by rw [divS, if_neg (by omega), if_pos h3]
theorem divS_ok {m n : Nat} (h : ¬ 512 < (lim m).length) (h2 : ¬ 512 < (lim n).length) (h3 : n ≠ 0) : divS m n = (lim (m / n), lim (m % n), 0) := by simp [divS, h, h2, h3]
/-- two numbers and an error -/
def Nat2Res (w : World) (Q R : List Nat) (E : Int) (e : Ending) (w' : World) : Prop :=
  ∃ A c D d, e = .returned (.tuple #[.slice A Q.length c, .slice D R.length d, .int .i64 E]) ∧ Nt w' A c Q ∧ Nt w' D d R ∧ Below w.heap.size w w'
def gcdS (m n : Nat) : List Nat × Int := if 512 < (lim m).length ∨ 512 < (lim n).length then ([], 2) else (lim (Nat.gcd m n), 0)
theorem gcdS_big1 {m n : Nat} (h : 512 < (lim m).length) : gcdS m n = ([], 2) := by simp [gcdS, h]
theorem gcdS_big2 {m n : Nat} (h : 512 < (lim n).length) : gcdS m n = ([], 2) := by simp [gcdS, h]
theorem gcdS_ok {m n : Nat} (h : ¬ 512 < (lim m).length) (h2 : ¬ 512 < (lim n).length) : gcdS m n = (lim (Nat.gcd m n), 0) := by simp [gcdS, h, h2]

set_option maxHeartbeats 400000 in
theorem div_any (w : World) (A D : Option Addr) (c d n m : Nat) (xs ys Q R : List Nat) (E : Int) (h : Nt w A c xs) (k : Nt w D d ys) (hn : n = xs.length) (hm : m = ys.length) (hr : divS (nv xs) (nv ys) = (Q, R, E)) :
    Calls Try.prog 101 #[.slice A n c, .slice D m d] w (Nat2Res w Q R E) := by
  subst hn hm
  have HR := Lib.hid hr; clear hr
  have h1 := h.lim
  have h2 := lim_length_le_length h.u
  have h3 := h.cap
  have h4 := h.max
  have k1 := k.lim
  have k2 := lim_length_le_length k.u
  have k3 := k.cap
  have k4 := k.max
  obtain ⟨i0, hi, hz0, hz1, hz2⟩ := info_parts u32_info
  by_cases hl : 512 < (lim (nv xs)).length
  · go_enter Try.func101, Try.ntmps101
    go_wp2_with fail
    refine (large_any w A c _ xs true h rfl (by simpa using hl)).mono ?_
    rintro e w' ⟨rfl, rfl⟩
    go_wp2_with fail
    go_ret3
    have e := HR.out
    rw [divS_big1 hl] at e
    simp only [Prod.mk.injEq] at e
    obtain ⟨rfl, rfl, rfl⟩ := e
    exact ⟨_, _, _, _, rfl, Nt.nil _ _ _ (by omega), Nt.nil _ _ _ (by omega), Below.refl _ _⟩
  · by_cases hl2 : 512 < (lim (nv ys)).length
    · go_enter Try.func101, Try.ntmps101
      go_wp2_with fail
      refine (large_any w A c _ xs false h rfl (by simpa using hl)).mono ?_
      rintro e w' ⟨rfl, rfl⟩
      go_wp2_with fail
      refine (large_any w D d _ ys true k rfl (by simpa using hl2)).mono ?_
      rintro e w' ⟨rfl, rfl⟩
      go_wp2_with fail
      go_ret3
      have e := HR.out
      rw [divS_big2 hl2] at e
      simp only [Prod.mk.injEq] at e
      obtain ⟨rfl, rfl, rfl⟩ := e
      exact ⟨_, _, _, _, rfl, Nt.nil _ _ _ (by omega), Nt.nil _ _ _ (by omega), Below.refl _ _⟩
    · by_cases h0 : nv ys = 0
      · have hz1 : (((lim (nv ys)).length : Int) == 0) = true := by rw [h0, lim_zero]; rfl
        have H0 := Lib.hid h0
        clear h0
        go_enter Try.func101, Try.ntmps101
        go_wp2_with fail
        refine (large_any w A c _ xs false h rfl (by simpa using hl)).mono ?_
        rintro e w' ⟨rfl, rfl⟩
        go_wp2_with fail
        refine (large_any w D d _ ys false k rfl (by simpa using hl2)).mono ?_
        rintro e w' ⟨rfl, rfl⟩
        go_wp2_with fail
        refine (length_any w D d _ ys k rfl).mono ?_
        rintro e w' ⟨rfl, rfl⟩
        go_wp2_with fail
        go_ret3
        have e := HR.out
        rw [divS_zero hl hl2 H0.out] at e
        simp only [Prod.mk.injEq] at e
        obtain ⟨rfl, rfl, rfl⟩ := e
        exact ⟨_, _, _, _, rfl, Nt.nil _ _ _ (by omega), Nt.nil _ _ _ (by omega), Below.refl _ _⟩
      · have hpos := lim_length_pos.2 h0
        have hz1 : (((lim (nv ys)).length : Int) == 0) = false := beq_eq_false_iff_ne.2 (by omega)
        have H0 : Hid (nv ys ≠ 0) := h0
        clear h0
        go_enter Try.func101, Try.ntmps101
        go_wp2_with fail
        refine (large_any w A c _ xs false h rfl (by simpa using hl)).mono ?_
        rintro e w' ⟨rfl, rfl⟩
        go_wp2_with fail
        refine (large_any w D d _ ys false k rfl (by simpa using hl2)).mono ?_
        rintro e w' ⟨rfl, rfl⟩
        go_wp2_with fail
        refine (length_any w D d _ ys k rfl).mono ?_
        rintro e w' ⟨rfl, rfl⟩
        go_wp2_with fail
        go_region_with (first
          | (go_at_call 89
             with_reducible refine (length_any _ A c _ xs (nt_drew h) rfl).mono ?_
             rintro e w' ⟨rfl, rfl⟩)
          | (go_at_call 89
             with_reducible refine (length_any _ D d _ ys (nt_drew k) rfl).mono ?_
             rintro e w' ⟨rfl, rfl⟩)
          | (go_at_call 111
             with_reducible refine (divide_any _ A D c d _ _ (nt_drew h1) (nt_drew k1) (by omega) (Nat.pos_of_ne_zero H0.out)).mono ?_
             rintro e w1 ⟨A1, c1, D1, d1, rfl, n1, n2, bb⟩))
        all_goals
          go_wp2_with fail
          go_ret3
          have e := HR.out
          rw [divS_ok hl hl2 H0.out] at e
          simp only [Prod.mk.injEq] at e
          obtain ⟨rfl, rfl, rfl⟩ := e
          exact ⟨_, _, _, _, rfl, n1, n2, below_of_drew bb⟩

set_option maxHeartbeats 400000 in
theorem gcd_any (w : World) (A D : Option Addr) (c d n m : Nat) (xs ys R : List Nat) (E : Int) (h : Nt w A c xs) (k : Nt w D d ys) (hn : n = xs.length) (hm : m = ys.length) (hr : gcdS (nv xs) (nv ys) = (R, E)) :
    Calls Try.prog 109 #[.slice A n c, .slice D m d] w (NatRes w R E) := by
  subst hn hm
  have HR := Lib.hid hr; clear hr
  have h1 := h.lim
  have h2 := lim_length_le_length h.u
  have h3 := h.cap
  have h4 := h.max
  have k1 := k.lim
  have k2 := lim_length_le_length k.u
  have k3 := k.cap
  have k4 := k.max
  obtain ⟨i0, hi, hz0, hz1, hz2⟩ := info_parts u32_info
  by_cases hl : 512 < (lim (nv xs)).length
  · go_enter Try.func109, Try.ntmps109
    go_wp2_with fail
    refine (large_any w A c _ xs true h rfl (by simpa using hl)).mono ?_
    rintro e w' ⟨rfl, rfl⟩
    go_wp2_with fail
    go_ret2
    have e := HR.out
    rw [gcdS_big1 hl] at e
    obtain ⟨rfl, rfl⟩ := Prod.mk.inj e
    exact ⟨_, _, rfl, Nt.nil _ _ _ (by omega), Below.refl _ _⟩
  · by_cases hl2 : 512 < (lim (nv ys)).length
    · go_enter Try.func109, Try.ntmps109
      go_wp2_with fail
      refine (large_any w A c _ xs false h rfl (by simpa using hl)).mono ?_
      rintro e w' ⟨rfl, rfl⟩
      go_wp2_with fail
      refine (large_any w D d _ ys true k rfl (by simpa using hl2)).mono ?_
      rintro e w' ⟨rfl, rfl⟩
      go_wp2_with fail
      go_ret2
      have e := HR.out
      rw [gcdS_big2 hl2] at e
      obtain ⟨rfl, rfl⟩ := Prod.mk.inj e
      exact ⟨_, _, rfl, Nt.nil _ _ _ (by omega), Below.refl _ _⟩
    · go_enter Try.func109, Try.ntmps109
      go_wp2_with fail
      refine (large_any w A c _ xs false h rfl (by simpa using hl)).mono ?_
      rintro e w' ⟨rfl, rfl⟩
      go_wp2_with fail
      refine (large_any w D d _ ys false k rfl (by simpa using hl2)).mono ?_
      rintro e w' ⟨rfl, rfl⟩
      go_wp2_with fail
      refine (trim_any w A c _ xs h rfl (by omega)).mono ?_
      rintro e wa ⟨A1, c1, rfl, g1, b1⟩
      have na := g1.nt (lim_u32 _)
      have k5 := k.below b1
      clear g1
      go_wp2_with fail
      refine (trim_any _ D d _ ys k5 rfl (by omega)).mono ?_
      rintro e wb ⟨A2, c2, rfl, g2, b2⟩
      have nb := g2.nt (lim_u32 _)
      have na2 := na.below b2
      have bw := below_on b1 b2 b1.size
      clear g2 na k5 b1 b2
      go_wp2_with fail
      go_loopg [0, 1] (nv ys) (fun kn a b wr => ∃ (M N : Nat) (A B : Option Addr) (c d : Nat), N = kn ∧ a = .slice A (lim M).length c ∧ b = .slice B (lim N).length d ∧ Nt wr A c (lim M) ∧ Nt wr B d (lim N) ∧ (lim M).length ≤ 512 ∧ (lim N).length ≤ 512 ∧ Nat.gcd M N = Nat.gcd (nv xs) (nv ys) ∧ Below w.heap.size w wr)
      case atStart => exact ⟨nv xs, nv ys, A1, A2, c1, c2, rfl, rfl, rfl, na2, nb, by omega, by omega, rfl, bw⟩
      case round =>
        obtain ⟨M, N, AM, AN, cM, cN, rfl, rfl, rfl, nM, nN, lM, lN, hg, bb⟩ := hrel
        have HG := Lib.hid hg
        clear hg na2 nb bw
        by_cases hN : N = 0
        · have hN1 : (lim N).length = 0 := by rw [hN, lim_zero]; rfl
          have hN2 : decide ((0 : Int) < ((lim N).length : Int)) = false := decide_eq_false (by omega)
          have hN3 : decide (0 < (lim N).length) = false := decide_eq_false (by omega)
          have HN := Lib.hid hN
          clear hN hN1
          go_wp2_with fail
          go_ret2
          have e := HR.out
          rw [gcdS_ok hl hl2, ← HG.out, HN.out, Nat.gcd_zero_right] at e
          obtain ⟨rfl, rfl⟩ := Prod.mk.inj e
          exact ⟨_, _, rfl, nM, bb⟩
        · have hN1 : 0 < (lim N).length := lim_length_pos.2 hN
          have HN : Hid (0 < N) := Lib.hid (by omega)
          clear hN
          go_wp2_with fail
          refine (divide_any _ AM AN cM cN M N nM nN (by omega) HN.out).mono ?_
          rintro e w1 ⟨A3, c3, D3, d3, rfl, n3, n4, b3⟩
          have nN2 := nN.below b3
          clear nM nN n3
          go_wp2_with fail
          go_roundg (M % N)
          case measure => exact Nat.mod_lt _ HN.out
          case rel =>
            refine ⟨N, M % N, AN, D3, cN, d3, rfl, rfl, rfl, nN2, n4, lN, ?_, ?_, below_on bb b3 bb.size⟩
            · have := lim_length_mono (Nat.le_of_lt (Nat.mod_lt M HN.out)); omega
            · rw [← HG.out, Nat.gcd_comm N (M % N), ← Nat.gcd_rec, Nat.gcd_comm]
end Go.Proofs.Ytnmomigaedfdoaa
namespace Go.Proofs.Ytnmomigaedfdoaa
set_option maxRecDepth 100000

theorem two_pow_split (k : Nat) : 2 ^ k = pw (k / 32) * 2 ^ (k % 32) := by
  unfold pw
  rw [show (4294967296 : Nat) = 2 ^ 32 from rfl, ← Nat.pow_mul, ← Nat.pow_add, Nat.div_add_mod]
/-- zeros below -/
theorem nv_low_zeros (k : Nat) (O : List Nat) : nv (List.replicate k 0 ++ O) = nv O * pw k := by
  rw [nv_append, nv_replicate, List.length_replicate, Nat.zero_add, Nat.mul_comm]
theorem nv_shift_up {O : List Nat} {m k : Nat} (h : nv O = m * 2 ^ (k % 32)) : nv (List.replicate (k / 32) 0 ++ O) = m * 2 ^ k := by
  rw [nv_low_zeros, h, two_pow_split k, Nat.mul_assoc, Nat.mul_comm (2 ^ (k % 32))]
/-- a limb of a number that is shifted down by whole limbs and some bits -/
theorem down_limb {X : List Nat} (hu : U32 X) {wh s i : Nat} (hs : s < 32) (hi : wh + i < X.length) : (X.getD (wh + i + 1) 0 * 4294967296 + X[wh + i]) / 2 ^ s % 4294967296 = nv X / (pw wh * 2 ^ s) / pw i % 4294967296 := by
  have h1 := nv_drop_div X hu (wh + i) (by omega)
  have hp : 0 < 2 ^ s := Nat.pow_pos (by omega)
  have e : nv X / (pw wh * 2 ^ s) / pw i = nv X / pw (wh + i) / 2 ^ s := by
    rw [Nat.div_div_eq_div_mul, Nat.div_div_eq_div_mul, pw_add]
    congr 1
    rw [Nat.mul_assoc, Nat.mul_comm (2 ^ s), ← Nat.mul_assoc]
  rw [e, h1]
  rcases Nat.lt_or_ge (wh + i + 1) X.length with h2 | h2
  · rw [List.drop_eq_getElem_cons hi, List.drop_eq_getElem_cons h2, nv_cons, nv_cons]
    rw [List.getD_eq_getElem?_getD, List.getElem?_eq_getElem h2, Option.getD_some]
    exact shift_limb (hu.at _ hi) (hu.at _ h2) hs
  · rw [List.drop_eq_getElem_cons hi, List.drop_eq_nil_of_le h2, nv_cons, nv_nil]
    rw [List.getD_eq_getElem?_getD, List.getElem?_eq_none h2, Option.getD_none]
    simp
theorem nv_shift_down {X R : List Nat} (hu : U32 X) {k : Nat} (hk : k / 32 < X.length) (hl : R.length = X.length - k / 32) (h : ∀ t (ht : t < R.length), R[t] = nv X / (pw (k / 32) * 2 ^ (k % 32)) / pw t % 4294967296) : nv R = nv X / 2 ^ k := by
  rw [nv_digits _ _ R hl h, ← two_pow_split]
  apply Nat.mod_eq_of_lt
  rw [Nat.div_lt_iff_lt_mul (Nat.pow_pos (by omega))]
  have h1 := nv_lt hu
  refine Nat.lt_of_lt_of_le h1 ?_
  rw [two_pow_split, ← Nat.mul_assoc, ← pw_add, show X.length - k / 32 + k / 32 = X.length from by omega]
  exact Nat.le_mul_of_pos_right _ (Nat.pow_pos (by omega))
theorem shift_down_far {X : List Nat} (hu : U32 X) {k : Nat} (hk : X.length ≤ k / 32) : nv X / 2 ^ k = 0 := by
  apply Nat.div_eq_of_lt
  have h1 := nv_lt hu
  rw [two_pow_split]
  refine Nat.lt_of_lt_of_le h1 (Nat.le_trans (pw_le hk) (Nat.le_mul_of_pos_right _ (Nat.pow_pos (by omega))))
end Go.Proofs.Ytnmomigaedfdoaa
namespace Go.Proofs.Ytnmomigaedfdoaa
set_option maxRecDepth 100000
open Go.RowKit

/-- append at a step of a region that draws its order -/
theorem step_append_rd {P : Program} (w : World) {α : Type} {mk : α → Value} (hone : ∀ x, (mk x).oneCell' = true) {ops : Array Oper} {o : Oper} {a : Act} {K : Act → World → Prop} {Q : Exit → Act → World → Prop} {X : Prop} (hgd : o.guard = none) (s x : Operand) (t : TypeId)
    (ho : o.op = .call { callee := .builtin .append, args := #[s, x], argTypes := #[t, t] })
    (e : TypeId) (i : TypeInfo) (z : Value) (bytes : Nat) (ht : P.underlying t = some (.slice e)) (hi : P.info? e = some i) (hz : i.zero = some z)
    (hsize : i.size = 1) (hby : i.bytes = bytes) (hzs : z.cells.size = 1) {B c n : Nat} {A : Option Addr} {xs : List α} (hs : a.eval s = .slice A n c) (hn : n = xs.length) (hown : Gr mk e w B A c xs)
    (A2 : Option Addr) (m c2 : Nat) (ys : List α) (hx : a.eval x = .slice A2 m c2) (hm : m = ys.length) (hr : Rd mk w A2 ys) (hmax : n + m ≤ maxLen) (hbytes : (n + m) * bytes ≤ 140737488355328) (hbase : B ≤ w.heap.size)
    (h : ∀ A' c' w', Gr mk e w' B A' c' (xs ++ ys) → w.grownBy w' (A.map (·.block)) → Below B w w' → (A'.map (·.block) = A.map (·.block) ∨ A'.map (·.block) = some w.heap.size) →
      K (a.put o.dst (.slice A' (n + m) c')) w') :
    if Region.wanted o (yielded ops a.tmps) = true then Oper.wp P o a w K Q else X := by
  have hw : Region.wanted o (yielded ops a.tmps) = true := by simp [Region.wanted, hgd]
  rw [if_pos hw]
  subst hn hm
  obtain ⟨A', c', w', hrun, h1, h2, h3, h4⟩ := run_append_rd (P := P) w hone t o.type e i z bytes ht hi hz hsize hby hzs hown A2 c2 ys hr hmax hbytes hbase
  unfold Oper.wp execOp
  simp only [ho, resolve, invoke, builtin, Sem.run_bind, Sem.run_pure, Result.andThen_ok, List.map_toArray, List.map_cons, List.map_nil, hs, hx, hrun]
  exact h A' c' w' h1 h2 h3 h4

/-- the number shifted, and the error -/
def shiftS (m : Nat) (n : Int) : List Nat × Int :=
  if 512 < (lim m).length ∨ (m ≠ 0 ∧ 16384 < n) then ([], 2) else if m = 0 ∨ n ≤ -16384 then ([], 0) else if 0 ≤ n then sizS (m * 2 ^ n.toNat) else (lim (m / 2 ^ (-n).toNat), 0)
theorem shiftS_big {m : Nat} {n : Int} (h : 512 < (lim m).length) : shiftS m n = ([], 2) := by rw [shiftS, if_pos (.inl h)]
theorem shiftS_far {m : Nat} {n : Int} (h : m ≠ 0) (h2 : 16384 < n) : shiftS m n = ([], 2) := by rw [shiftS, if_pos (.inr ⟨h, h2⟩)]
theorem shiftS_zero {m : Nat} {n : Int} (h : m = 0) : shiftS m n = ([], 0) := by subst h; rw [shiftS, if_neg (by rw [lim_zero]; simp), if_pos (.inl rfl)]
theorem shiftS_low {m : Nat} {n : Int} (h : ¬ 512 < (lim m).length) (h2 : n ≤ -16384) : shiftS m n = ([], 0) := by rw [shiftS, if_neg (by omega), if_pos (.inr h2)]
theorem shiftS_up {m k : Nat} (h : ¬ 512 < (lim m).length) (h0 : m ≠ 0) (h2 : (k : Int) ≤ 16384) : shiftS m k = sizS (m * 2 ^ k) := by rw [shiftS, if_neg (by omega), if_neg (by omega), if_pos (by omega), Int.toNat_natCast]
theorem shiftS_down {m k : Nat} (h : ¬ 512 < (lim m).length) (h0 : m ≠ 0) (h2 : (k : Int) < 16384) (h3 : 0 < k) : shiftS m (-(k : Int)) = (lim (m / 2 ^ k), 0) := by
  rw [shiftS, if_neg (by omega), if_neg (by omega), if_neg (by omega)]; simp
theorem sizS_small {m : Nat} (h : ¬ 512 < (lim m).length) : sizS m = (lim m, 0) := by rw [sizS, if_neg h]

theorem nt_alloc_drew {w : World} {A : Option Addr} {c : Nat} {xs : List Nat} (h : Nt w A c xs) (o : Obj) : Nt ((w.alloc o).drew) A c xs := h.below (below_drew ((Below.refl _ _).alloc (Nat.le_refl _) o))
/-- up, its place a letter -/
theorem up_ex (w : World) (B : Nat) (A : Option Addr) (c n s N : Nat) (xs : List Nat) (h : Nt w A c xs) (hn : xs.length = n) (hN : nv xs = N) (hs : s < 32) (hl : n ≤ 1000000) (hB : B ≤ w.heap.size) :
    Calls Try.prog 107 #[.slice A n c, .int .u64 (s : Int)] w fun e w' => ∃ (AO : Option Addr) (O : List Nat), e = .returned (.slice AO (n + 1) (n + 1)) ∧ O.length = n + 1 ∧ nv O = N * 2 ^ s ∧ Nt w' AO (n + 1) O ∧ Below w.heap.size w w' ∧ B ≤ w'.heap.size := by
  refine (up_at w _ A c n s N xs h hn hN rfl hs hl).mono ?_
  rintro e w' ⟨O, rfl, l1, v1, u1, g1, b1, z1⟩
  exact ⟨_, O, rfl, l1, v1, g1.nt u1, b1, by omega⟩
theorem gr_made (w : World) (n : Nat) (hn : n ≤ 1000000) : Gr lmv 82 (w.alloc (.cells (madeCells #[.int .u32 0] n) 82)) w.heap.size (some ⟨w.heap.size, 0, none⟩) n (List.replicate n 0) := by
  have h := Gr.lit (mk := lmv) (e := 82) (B := w.heap.size) w (List.replicate n 0) (madeCells #[.int .u32 0] n) (by rw [toList_madeCells_one, List.map_replicate]; rfl) (by simp [maxLen]; omega) (Nat.le_refl _)
  rwa [List.length_replicate] at h
theorem size_ad (w : World) (o : Obj) : w.heap.size ≤ ((w.alloc o).drew).heap.size := by
  show w.heap.size ≤ (w.alloc o).heap.size
  simp
/-- the row that was made ahead of up, and the one that was made behind it -/
theorem shift_ord1 {w w2 : World} {AO : Option Addr} {m wh : Nat} {O : List Nat} (hw : wh ≤ 1000000) (n1 : Nt w2 AO m O) (b2 : Below ((w.alloc (.cells (madeCells #[.int .u32 0] wh) 82)).drew).heap.size ((w.alloc (.cells (madeCells #[.int .u32 0] wh) 82)).drew) w2) :
    Gr lmv 82 w2 w.heap.size (some ⟨w.heap.size, 0, none⟩) wh (List.replicate wh 0) ∧ Nt w2 AO m O ∧ w.heap.size ≤ w2.heap.size ∧ Below w.heap.size w w2 :=
  ⟨(gr_made w wh hw).drew.below b2, n1, Nat.le_trans (size_ad w _) b2.size, below_on (below_drew ((Below.refl _ _).alloc (Nat.le_refl _) _)) b2 (size_ad w _)⟩
theorem shift_ord2 {w w2 : World} {AO : Option Addr} {m wh : Nat} {O : List Nat} (hw : wh ≤ 1000000) (n1 : Nt w2 AO m O) (b2 : Below w.drew.heap.size w.drew w2) :
    Gr lmv 82 (w2.alloc (.cells (madeCells #[.int .u32 0] wh) 82)) w.heap.size (some ⟨w2.heap.size, 0, none⟩) wh (List.replicate wh 0) ∧ Nt (w2.alloc (.cells (madeCells #[.int .u32 0] wh) 82)) AO m O ∧ w.heap.size ≤ (w2.alloc (.cells (madeCells #[.int .u32 0] wh) 82)).heap.size ∧ Below w.heap.size w (w2.alloc (.cells (madeCells #[.int .u32 0] wh) 82)) := by
  have hs : w.heap.size ≤ w2.heap.size := b2.size
  exact ⟨(gr_made w2 wh hw).more (by intro a e; injection e with e; subst e; exact hs), n1.below ((Below.refl _ _).alloc (Nat.le_refl _) _), Nat.le_trans hs (by simp), (below_of_drew b2).alloc hs _⟩

theorem or_low32 {x y : Nat} (hx : x < 4294967296) (hy : y < 4294967296) : bits .or .u64 (x : Int) ((y : Int) * 4294967296) = ((y * 4294967296 + x : Nat) : Int) := by
  have h := u64_or_nat x (y * 4294967296) (by omega) (by omega)
  rw [Nat.or_comm, nat_join32 (y * 4294967296) x (by omega) hx] at h
  have e1 : (((y * 4294967296 : Nat)) : Int) = (y : Int) * 4294967296 := by omega
  rw [e1] at h
  exact h
theorem cell_at_succ {w : World} {ad : Addr} {k : Nat} {v : Value} (h : w.cell? (ad.add (k + 1)) = some v) : w.cell? ⟨ad.block, ad.off + (k + 1), none⟩ = some v := by
  have e : ad.add (k + 1) = ⟨ad.block, ad.off + (k + 1), none⟩ := by unfold Addr.add; rw [if_neg (by omega)]
  rw [← e]; exact h

set_option maxHeartbeats 1000000 in
theorem shift_any (w : World) (A : Option Addr) (c n : Nat) (N : Int) (xs R : List Nat) (E : Int) (h : Nt w A c xs) (hn : n = xs.length) (hr : shiftS (nv xs) N = (R, E)) :
    Calls Try.prog 91 #[.slice A n c, .int .i64 N] w (NatRes w R E) := by
  subst hn
  have HR := Lib.hid hr; clear hr
  have h1 := h.lim
  have h2 := lim_length_le_length h.u
  have h3 := h.cap
  have h4 := h.max
  by_cases hl : 512 < (lim (nv xs)).length
  · go_enter Try.func91, Try.ntmps91
    go_wp2_with fail
    refine (length_any w A c _ xs h rfl).mono ?_
    rintro e w' ⟨rfl, rfl⟩
    go_wp2_with fail
    go_ret2
    have e := HR.out
    rw [shiftS_big hl] at e
    obtain ⟨rfl, rfl⟩ := Prod.mk.inj e
    exact ⟨_, _, rfl, Nt.nil _ _ _ (by omega), Below.refl _ _⟩
  · have hd0 : decide (512 < ((lim (nv xs)).length : Int)) = false := decide_eq_false (by omega)
    by_cases h0 : nv xs = 0
    · have hz : (lim (nv xs)).length = 0 := by rw [h0, lim_zero]; rfl
      have HL : Hid (¬ 512 < (lim (nv xs)).length) := hl
      have hz1 : (((lim (nv xs)).length : Int) == 0) = true := by simp [hz]
      have hz2 : decide (0 < (lim (nv xs)).length) = false := decide_eq_false (by omega)
      have hz3 : decide (0 < ((lim (nv xs)).length : Int)) = false := decide_eq_false (by omega)
      have H0 := Lib.hid h0
      clear h0 hz hl
      go_enter Try.func91, Try.ntmps91
      go_wp2_with fail
      refine (length_any w A c _ xs h rfl).mono ?_
      rintro e w' ⟨rfl, rfl⟩
      go_wp2_with fail
      go_ret2
      have e := HR.out
      rw [shiftS_zero H0.out] at e
      obtain ⟨rfl, rfl⟩ := Prod.mk.inj e
      exact ⟨_, _, rfl, Nt.nil _ _ _ (by omega), Below.refl _ _⟩
    · have hp := lim_length_pos.2 h0
      have hz1 : (((lim (nv xs)).length : Int) == 0) = false := beq_eq_false_iff_ne.2 (by omega)
      have hz2 : decide (0 < (lim (nv xs)).length) = true := decide_eq_true (by omega)
      have hz3 : decide (0 < ((lim (nv xs)).length : Int)) = true := decide_eq_true (by omega)
      have H0 : Hid (nv xs ≠ 0) := h0
      have HL : Hid (¬ 512 < (lim (nv xs)).length) := hl
      have hl5 : (lim (nv xs)).length ≤ 512 := by omega
      clear h0 hl
      by_cases hf : 16384 < N
      · have hf1 : decide (16384 < N) = true := decide_eq_true hf
        have HF : Hid (16384 < N) := hf
        clear hf
        go_enter Try.func91, Try.ntmps91
        go_wp2_with fail
        refine (length_any w A c _ xs h rfl).mono ?_
        rintro e w' ⟨rfl, rfl⟩
        go_wp2_with fail
        go_ret2
        have e := HR.out
        rw [shiftS_far H0.out HF.out] at e
        obtain ⟨rfl, rfl⟩ := Prod.mk.inj e
        exact ⟨_, _, rfl, Nt.nil _ _ _ (by omega), Below.refl _ _⟩
      · have hf1 : decide (16384 < N) = false := decide_eq_false hf
        by_cases hg : N ≤ -16384
        · have hg1 : decide (N ≤ -16384) = true := decide_eq_true hg
          go_enter Try.func91, Try.ntmps91
          go_wp2_with fail
          refine (length_any w A c _ xs h rfl).mono ?_
          rintro e w' ⟨rfl, rfl⟩
          go_wp2_with fail
          go_ret2
          have e := HR.out
          rw [shiftS_low HL.out hg] at e
          obtain ⟨rfl, rfl⟩ := Prod.mk.inj e
          exact ⟨_, _, rfl, Nt.nil _ _ _ (by omega), Below.refl _ _⟩
        · have hg1 : decide (N ≤ -16384) = false := decide_eq_false hg
          by_cases hpos : 0 ≤ N
          · obtain ⟨k, rfl⟩ := Int.eq_ofNat_of_zero_le hpos
            have hk5 : (k : Int) ≤ 16384 := by omega
            have HK5 := Lib.hid hk5
            obtain ⟨wh, hwh⟩ : ∃ wh, wh = k / 32 := ⟨_, rfl⟩
            obtain ⟨s, hs⟩ : ∃ s, s = k % 32 := ⟨_, rfl⟩
            have hwl : wh ≤ 512 := by omega
            have hs32 : s < 32 := by omega
            have e1 : (k : Int) / 32 = (wh : Int) := by omega
            have e2 : (k : Int) % 32 = (s : Int) := by omega
            have e3 : (k : Int).tmod 32 = (s : Int) := by rw [Int.tmod_eq_emod_of_nonneg (by omega)]; omega
            have e4 : (k : Int).tdiv 32 = (wh : Int) := by rw [Int.tdiv_eq_ediv_of_nonneg (by omega)]; omega
            have HWH := Lib.hid hwh
            have HS := Lib.hid hs
            clear hwh hs hk5 hpos hf hg
            obtain ⟨i0, hi, hz0, hz1', hz2'⟩ := info_parts u32_info
            have hwm : wh ≤ 1000000 := by omega
            have hl6 : (lim (nv xs)).length ≤ 1000000 := by omega
            have hw1 : IntKind.i64.wrap (wh : Int) = wh := IntWalk.i64_in _ (by omega)
            have hw2 : IntKind.i64.wrap (s : Int) = s := IntWalk.i64_in _ (by omega)
            have hw3 : IntKind.u64.wrap (s : Int) = s := by rw [IntKind.wrap_u64]; omega
            have hmk := fun w => run_make_row' (P := Try.prog) 24 82 (.int .u32 0) 4 Try.underlying24 u32_info rfl .i64 .i64 wh (by omega) (by omega) w
            go_enter Try.func91, Try.ntmps91
            go_wp2_with fail
            refine (length_any w A c _ xs h rfl).mono ?_
            rintro e w' ⟨rfl, rfl⟩
            go_wp2_with fail
            go_region_law (first
              | (go_simp
                 go_at_call 107
                 with_reducible refine (up_ex _ w.heap.size A c (lim (nv xs)).length s (nv xs) (lim (nv xs)) ?_ rfl (nv_lim (nv xs)) hs32 hl6 ?_).mono ?_
                 · first | exact nt_drew h1 | exact nt_alloc_drew h1 _
                 · first | exact Nat.le_refl _ | exact size_ad _ _
                 rintro e w2 ⟨AO, O, rfl, l1, v1, n1, b2, z2⟩)
              | (go_simp
                 go_at_call 106
                 refine (sized_any _ A3 c3 _ _ R E (g3.nt ?_) ?_ ?_).mono ?_
                 · exact (U32.replicate _).append n1.u
                 · simp [l1]
                 · rw [HWH.out, nv_shift_up (k := k) (m := nv xs)]
                   · rw [← HR.out, shiftS_up HL.out H0.out HK5.out]
                   · rw [v1, HS.out]
                 rintro e w4 ⟨⟨A4, c4, rfl, n4⟩, rfl⟩)
              | (refine step_append_rd _ (mk := lmv) (fun _ => rfl) rfl _ _ 24 rfl 82 i0 (.int .u32 0) 4 Try.underlying24 hi hz0 hz1' hz2' rfl (B := w.heap.size) (xs := List.replicate wh 0) rfl ?_ ?_ AO _ _ O rfl l1.symm ?_ ?_ ?_ ?_ ?_
                 · simp
                 · first | exact (shift_ord1 hwm n1 b2).1 | exact (shift_ord2 hwm n1 b2).1
                 · first | exact (shift_ord1 hwm n1 b2).2.1.rd | exact (shift_ord2 hwm n1 b2).2.1.rd
                 · simp only [maxLen]; omega
                 · omega
                 · first | exact (shift_ord1 hwm n1 b2).2.2.1 | exact (shift_ord2 hwm n1 b2).2.2.1
                 first | have bb := (shift_ord1 hwm n1 b2).2.2.2 | have bb := (shift_ord2 hwm n1 b2).2.2.2
                 intro A3 c3 w3 g3 gr3 b3 _))
            all_goals
              go_wp2_with fail
              go_ret2
              exact ⟨A4, c4, rfl, n4, bb.trans b3⟩
          · have hpos1 : decide (0 ≤ N) = false := decide_eq_false hpos
            obtain ⟨k, hk⟩ : ∃ k : Nat, -N = (k : Int) := ⟨(-N).toNat, by omega⟩
            have hk5 : (k : Int) < 16384 := by omega
            have hk0 : 0 < k := by omega
            have HN : Hid (N = -(k : Int)) := Lib.hid (by omega)
            have HK5 := Lib.hid hk5
            have HK0 := Lib.hid hk0
            obtain ⟨wh, hwh⟩ : ∃ wh, wh = k / 32 := ⟨_, rfl⟩
            obtain ⟨s, hs⟩ : ∃ s, s = k % 32 := ⟨_, rfl⟩
            have hwl : wh ≤ 512 := by omega
            have hs32 : s < 32 := by omega
            have e1 : (k : Int) / 32 = (wh : Int) := by omega
            have e2 : (k : Int) % 32 = (s : Int) := by omega
            have e3 : (k : Int).tmod 32 = (s : Int) := by rw [Int.tmod_eq_emod_of_nonneg (by omega)]; omega
            have e4 : (k : Int).tdiv 32 = (wh : Int) := by rw [Int.tdiv_eq_ediv_of_nonneg (by omega)]; omega
            have HWH := Lib.hid hwh
            have HS := Lib.hid hs
            have hk16 : (k : Int) ≤ 16384 := by omega
            clear hwh hs hk5 hpos hf hg hk0
            have hw1 : IntKind.i64.wrap (wh : Int) = wh := IntWalk.i64_in _ (by omega)
            have hw2 : IntKind.i64.wrap (s : Int) = s := IntWalk.i64_in _ (by omega)
            have hw3 : IntKind.u64.wrap (s : Int) = s := by rw [IntKind.wrap_u64]; omega
            obtain ⟨i0, hi, hz0, hz1', hz2'⟩ := info_parts u32_info
            obtain ⟨L, hL⟩ : ∃ L, L = (lim (nv xs)).length := ⟨_, rfl⟩
            have HLL := Lib.hid hL
            by_cases hwl2 : L ≤ wh
            · have hgeq : decide ((L : Int) ≤ wh) = true := decide_eq_true (by omega)
              have hgeq2 : decide (L ≤ wh) = true := decide_eq_true (by omega)
              rw [hL] at hgeq hgeq2
              have HW2 := Lib.hid hwl2
              clear hL hwl2
              go_enter Try.func91, Try.ntmps91
              go_wp2_with fail
              refine (length_any w A c _ xs h rfl).mono ?_
              rintro e w' ⟨rfl, rfl⟩
              go_wp2_with fail
              go_ret2
              have e := HR.out
              rw [HN.out, shiftS_down HL.out H0.out HK5.out HK0.out, ← nv_lim (nv xs), shift_down_far (lim_u32 _) (by rw [← HWH.out, ← HLL.out]; exact HW2.out), lim_zero] at e
              obtain ⟨rfl, rfl⟩ := Prod.mk.inj e
              exact ⟨_, _, rfl, Nt.nil _ _ _ (by omega), Below.refl _ _⟩
            · have hgeq : decide ((L : Int) ≤ wh) = false := decide_eq_false (by omega)
              have hgeq2 : decide (L ≤ wh) = false := decide_eq_false (by omega)
              rw [hL] at hgeq hgeq2
              have hLw : wh < (lim (nv xs)).length := by omega
              clear hL
              go_enter Try.func91, Try.ntmps91
              go_wp2_with fail
              refine (length_any w A c _ xs h rfl).mono ?_
              rintro e w' ⟨rfl, rfl⟩
              obtain ⟨X, hX⟩ : ∃ X, X = lim (nv xs) := ⟨_, rfl⟩
              rw [← hX] at hgeq hgeq2 hLw h1 hz1 hz2 hz3 hd0 hl5 ⊢
              have HX := Lib.hid hX
              have hXc := h1.cap
              clear hX hwl2 h2
              go_wp2_with (at_make; refine wpList_make_rd w (mk := lmv) 0 rfl _ _ 24 rfl 82 i0 4 Try.underlying24 hi hz0 hz1' hz2' rfl .i64 .i64 _ _ (X.length - wh) rfl rfl (by omega) (by omega) (by omega) (by simp only [maxLen]; omega) ?_; intro w1 hg1 hb1 hs1)
              have k1 := h1.below hb1
              go_wp2_with fail
              go_loopg [69] (X.length - wh) (fun rk iv wr => ∃ (i : Nat) (R : List Nat), rk + i = X.length - wh ∧ iv = .int .i64 i ∧ R.length = i ∧ (∀ t (ht : t < R.length), R[t] = nv X / (pw wh * 2 ^ s) / pw t % 4294967296) ∧ Gr lmv 82 wr w.heap.size (some ⟨w.heap.size, 0, none⟩) (X.length - wh) (R ++ List.replicate (X.length - wh - i) 0) ∧ Below w.heap.size w wr)
              case atStart => exact ⟨0, [], by omega, rfl, rfl, fun t ht => absurd ht (by simp), by simpa using hg1, hb1⟩
              case round =>
                obtain ⟨i, S, hi2, rfl, hR, hRv, gR, bR⟩ := hrel
                have HI := Lib.hid hi2
                have HRl := Lib.hid hR
                have HRv := Lib.hid hRv
                have hi3 : i ≤ X.length - wh := by omega
                clear hi2 hR hRv hg1 hb1 hs1 k1
                by_cases hlt : i < X.length - wh
                · obtain ⟨ad, hA, hbX, hcX, hvX⟩ := (h1.below bR).at (wh + i) (by omega)
                  subst hA
                  obtain ⟨x, hx⟩ : ∃ x, x = X[wh + i]'(by omega) := ⟨_, rfl⟩
                  rw [← hx] at hcX hvX
                  have HXX := Lib.hid hx
                  have XU := Lib.hid h1.u
                  have hw5 : IntKind.u64.wrap (x : Int) = x := by rw [IntKind.wrap_u64]; omega
                  clear hx
                  by_cases hnx : wh + i + 1 < X.length
                  · obtain ⟨ad2, hA, _, hcX2, hvX2⟩ := (h1.below bR).at (wh + i + 1) hnx
                    injection hA with hA
                    subst hA
                    obtain ⟨y, hy⟩ : ∃ y, y = X[wh + i + 1]'(by omega) := ⟨_, rfl⟩
                    rw [← hy] at hcX2 hvX2
                    have hcX3 := cell_at_succ hcX2
                    have hw6 : IntKind.u64.wrap (y : Int) = y := by rw [IntKind.wrap_u64]; omega
                    obtain ⟨hd, hhd⟩ : ∃ t, t = y * 4294967296 + x := ⟨_, rfl⟩
                    have hor : bits .or .u64 (x : Int) ((y : Int) * 4294967296) = (hd : Int) := by rw [or_low32 hvX hvX2, hhd]
                    have HHD := Lib.hid hhd
                    have HYY := Lib.hid hy
                    clear hhd hy hcX2
                    have hcr := gR.cell i (by have := HRl.out; simp; omega)
                    rw [List.getElem_append_right (by have := HRl.out; omega)] at hcr
                    simp only [List.getElem_replicate] at hcr
                    have hfr := gR.free i
                    have GR := Lib.hid gR
                    have BR := Lib.hid bR
                    clear gR bR
                    go_wp2_with fail
                    go_roundg (X.length - wh - (i + 1))
                    case measure => have := HI.out; omega
                    case rel =>
                      refine ⟨i + 1, S ++ [hd / 2 ^ s % 4294967296], by omega, by go_num, by have := HRl.out; simp; omega, ?_, ?_, BR.out.setCell (Nat.le_refl _) _⟩
                      · intro t ht
                        rcases Nat.lt_or_ge t S.length with h1 | h1
                        · rw [List.getElem_append_left h1]; exact HRv.out t h1
                        · have ht1 : t = i := by have := HRl.out; simp at ht; omega
                          subst ht1
                          rw [List.getElem_append_right h1]
                          simp only [List.getElem_singleton]
                          rw [HHD.out]
                          have := down_limb XU.out hs32 (wh := wh) (i := t) (by omega)
                          rw [← this]
                          (rw [HXX.out, HYY.out, List.getD_eq_getElem?_getD, List.getElem?_eq_getElem hnx, Option.getD_some])
                      · rw [cast_shr_mod hd s]
                        exact GR.out.push HRl.out hlt _
                  · have hnx1 : decide ((wh : Int) + i + 1 < X.length) = false := decide_eq_false (by omega)
                    have hnx2 : decide (wh + i + 1 < X.length) = false := decide_eq_false hnx
                    obtain ⟨hd, hhd⟩ : ∃ t, t = x := ⟨_, rfl⟩
                    have HHD := Lib.hid hhd
                    rw [← hhd] at hcX hw5 hvX HXX
                    clear hhd
                    have hcr := gR.cell i (by have := HRl.out; simp; omega)
                    rw [List.getElem_append_right (by have := HRl.out; omega)] at hcr
                    simp only [List.getElem_replicate] at hcr
                    have hfr := gR.free i
                    have GR := Lib.hid gR
                    have BR := Lib.hid bR
                    clear gR bR
                    go_wp2_with fail
                    go_roundg (X.length - wh - (i + 1))
                    case measure => have := HI.out; omega
                    case rel =>
                      refine ⟨i + 1, S ++ [hd / 2 ^ s % 4294967296], by omega, by go_num, by have := HRl.out; simp; omega, ?_, ?_, BR.out.setCell (Nat.le_refl _) _⟩
                      · intro t ht
                        rcases Nat.lt_or_ge t S.length with h1 | h1
                        · rw [List.getElem_append_left h1]; exact HRv.out t h1
                        · have ht1 : t = i := by have := HRl.out; simp at ht; omega
                          subst ht1
                          rw [List.getElem_append_right h1]
                          simp only [List.getElem_singleton]
                          rw [HHD.out]
                          have := down_limb XU.out hs32 (wh := wh) (i := t) (by omega)
                          rw [← this]
                          (rw [← HHD.out, HXX.out, List.getD_eq_getElem?_getD, List.getElem?_eq_none (by omega), Option.getD_none, Nat.zero_mul, Nat.zero_add])
                      · rw [cast_shr_mod hd s]
                        exact GR.out.push HRl.out hlt _
                · obtain rfl : i = X.length - wh := by omega
                  have gR2 : Gr lmv 82 wr w.heap.size (some ⟨w.heap.size, 0, none⟩) (X.length - wh) S := by simpa using gR
                  have hRu : U32 S := u32_of_at fun t ht => by rw [HRv.out t ht]; exact Nat.mod_lt _ (by omega)
                  have hval : nv S = nv xs / 2 ^ k := by
                    have h5 := nv_shift_down h1.u (k := k) (R := S) (by rw [← HWH.out]; exact hLw) (by rw [← HWH.out]; exact HRl.out) (by rw [← HWH.out, ← HS.out]; exact HRv.out)
                    rw [h5, HX.out, nv_lim]
                  have hle : nv xs / 2 ^ k ≤ nv xs := Nat.div_le_self _ _
                  have hl8 := lim_length_mono hle
                  have hcall := sized_any wr _ _ _ S R E (gR2.nt hRu) HRl.out.symm (by
                    rw [hval, sizS_small (by have := HL.out; omega), ← HR.out, HN.out, shiftS_down HL.out H0.out HK5.out HK0.out])
                  have HC := Lib.hid hcall
                  clear hcall gR gR2 hval hle hl8
                  go_wp2_with fail
                  refine HC.out.mono ?_
                  rintro e w4 ⟨⟨A4, c4, rfl, n4⟩, rfl⟩
                  go_wp2_with fail
                  go_ret2
                  exact ⟨A4, c4, rfl, n4, bR⟩
end Go.Proofs.Ytnmomigaedfdoaa
