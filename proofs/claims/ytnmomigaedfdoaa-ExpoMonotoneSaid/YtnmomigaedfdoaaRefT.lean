/- The walks of drydockref01: down, Shift. The reference's long division: plain arithmetic. -/
import Derived.Test.YtnmomigaedfdoaaRefG
import Derived.Test.YtnmomigaedfdoaaDivV
import Derived.Test.YtnmomigaedfdoaaNatD
namespace Go.Proofs.Ytnmomigaedfdoaa
set_option maxRecDepth 100000
open Go.RowKit

set_option maxHeartbeats 800000 in
theorem rdown_any (w : World) (A : Option Addr) (c n k : Nat) (kI : Int) (xs : List Nat) (h : Nt w A c xs) (hn : n = xs.length) (hk : kI = k) (hl : xs.length ≤ 10000) (hkl : k ≤ 100000) :
    Calls Try.prog 85 #[.slice A n c, .int .i64 kI] w (NatNew w (lim (nv xs / 2 ^ k))) := by
  subst hn hk
  have h3 := h.cap
  have h4 := h.max
  obtain ⟨wh, hwh⟩ : ∃ wh, wh = k / 32 := ⟨_, rfl⟩
  obtain ⟨s, hs⟩ : ∃ s, s = k % 32 := ⟨_, rfl⟩
  have hwl : wh ≤ 10000 := by omega
  have hs32 : s < 32 := by omega
  have e1 : (k : Int) / 32 = (wh : Int) := by omega
  have e2 : (k : Int) % 32 = (s : Int) := by omega
  have e3 : (k : Int).tmod 32 = (s : Int) := by rw [Int.tmod_eq_emod_of_nonneg (by omega)]; omega
  have e4 : (k : Int).tdiv 32 = (wh : Int) := by rw [Int.tdiv_eq_ediv_of_nonneg (by omega)]; omega
  have HWH := Lib.hid hwh
  have HS := Lib.hid hs
  clear hwh hs
  obtain ⟨i0, hi, hz0, hz1, hz2⟩ := info_parts u32_info
  by_cases hge : xs.length ≤ wh
  · have hge1 : (xs.length : Int) ≤ wh := by omega
    have HGE := Lib.hid hge
    go_enter Try.func85, Try.ntmps85
    go_wp2_with fail
    go_ret
    rw [shift_down_far h.u (by rw [← HWH.out]; exact HGE.out), lim_zero]
    exact ⟨none, 0, rfl, Gr.nil _ _, Below.refl _ _⟩
  · have hge1 : decide ((xs.length : Int) ≤ wh) = false := decide_eq_false (by omega)
    have hge2 : decide (xs.length ≤ wh) = false := decide_eq_false (by omega)
    have hgt : wh < xs.length := by omega
    clear hge
    have XU := Lib.hid h.u
    go_enter Try.func85, Try.ntmps85
    go_wp2_with fail
    go_loopw [5, 6] (fun o iv wr => ∃ (j : Nat) (O : List Nat) (AO : Option Addr) (cO : Nat), wh + j ≤ xs.length ∧ iv = .int .i64 ((wh : Int) + j) ∧ o = .slice AO O.length cO ∧ O.length = j ∧ (∀ t (ht : t < O.length), O[t] = nv xs / (pw wh * 2 ^ s) / pw t % 4294967296) ∧ Gr lmv 82 wr w.heap.size AO cO O ∧ Below w.heap.size w wr) (fun _ iv _ => xs.length - (intOf iv).toNat)
    case atStart => exact ⟨0, [], none, 0, by omega, int_num (by omega), rfl, rfl, fun t ht => absurd ht (by simp), Gr.nil _ _, Below.refl _ _⟩
    case round =>
      obtain ⟨j, O, AO, cO, hj, rfl, rfl, hO, hOv, hgr, hbr⟩ := hrel
      have HO := Lib.hid hO
      have HV := Lib.hid hOv
      have hOl : O.length ≤ 10000 := by omega
      clear hO hOv
      by_cases hlt : wh + j < xs.length
      · obtain ⟨ad, hA, hbX, hcX, hvX⟩ := (h.below hbr).at (wh + j) hlt
        subst hA
        have hlt1 : (wh : Int) + j < xs.length := by omega
        obtain ⟨x, hx⟩ : ∃ x, x = xs[wh + j] := ⟨_, rfl⟩
        rw [← hx] at hcX hvX
        have HXX := Lib.hid hx
        have hw5 : IntKind.u64.wrap (x : Int) = x := by rw [IntKind.wrap_u64]; omega
        clear hx
        by_cases hnx : wh + j + 1 < xs.length
        · obtain ⟨ad2, hA, _, hcX2, hvX2⟩ := (h.below hbr).at (wh + j + 1) hnx
          injection hA with hA
          subst hA
          obtain ⟨y, hy⟩ : ∃ y, y = xs[wh + j + 1] := ⟨_, rfl⟩
          rw [← hy] at hcX2 hvX2
          have hcX3 := cell_at_succ hcX2
          have hw6 : IntKind.u64.wrap (y : Int) = y := by rw [IntKind.wrap_u64]; omega
          have hnx1 : (wh : Int) + j + 1 < xs.length := by omega
          obtain ⟨hd, hhd⟩ : ∃ t, t = y * 4294967296 + x := ⟨_, rfl⟩
          have hor : bits .or .u64 (x : Int) ((y : Int) * 4294967296) = (hd : Int) := by rw [or_low32 hvX hvX2, hhd]
          have HHD := Lib.hid hhd
          have HYY := Lib.hid hy
          clear hhd hy hcX2
          go_wp2_with (at_builtin; refine wpList_append_rd _ (mk := lmv) (fun _ => rfl) rfl _ _ 24 rfl 82 i0 (.int .u32 0) 4 Try.underlying24 hi hz0 hz1 hz2 rfl (B := w.heap.size) (xs := O) rfl rfl (hgr.below ((Below.refl _ wr).alloc (Nat.le_refl _) _)) _ 1 1 [hd / 2 ^ s % 4294967296] rfl rfl (Rd.one_ wr _ _ _ (int_num (cast_shr_mod hd s))) (by simp only [maxLen]; omega) (by omega) (by have := hbr.size; simp; omega) ?_; intro A' c' w3 hgA hgrA hbA hatA)
          go_roundw
          case rel =>
            refine ⟨j + 1, O ++ [hd / 2 ^ s % 4294967296], A', c', by omega, int_num (by omega), by simp, by have := HO.out; simp; omega, ?_, hgA, (hbr.alloc hbr.size _).trans hbA⟩
            intro t ht
            rcases Nat.lt_or_ge t O.length with h1 | h1
            · rw [List.getElem_append_left h1]; exact HV.out t h1
            · have ht1 : t = j := by have := HO.out; simp at ht; omega
              subst ht1
              rw [List.getElem_append_right h1]
              simp only [List.getElem_singleton]
              rw [HHD.out]
              have := down_limb XU.out hs32 (wh := wh) (i := t) (by omega)
              rw [← this]
              (rw [HXX.out, HYY.out, List.getD_eq_getElem?_getD, List.getElem?_eq_getElem hnx, Option.getD_some])
          case measure => simp [intOf]; omega
        · have hnx1 : decide ((wh : Int) + j + 1 < xs.length) = false := decide_eq_false (by omega)
          have hnx2 : decide (wh + j + 1 < xs.length) = false := decide_eq_false hnx
          obtain ⟨hd, hhd⟩ : ∃ t, t = x := ⟨_, rfl⟩
          have HHD := Lib.hid hhd
          rw [← hhd] at hcX hw5 hvX HXX
          clear hhd
          go_wp2_with (at_builtin; refine wpList_append_rd _ (mk := lmv) (fun _ => rfl) rfl _ _ 24 rfl 82 i0 (.int .u32 0) 4 Try.underlying24 hi hz0 hz1 hz2 rfl (B := w.heap.size) (xs := O) rfl rfl (hgr.below ((Below.refl _ wr).alloc (Nat.le_refl _) _)) _ 1 1 [hd / 2 ^ s % 4294967296] rfl rfl (Rd.one_ wr _ _ _ (int_num (cast_shr_mod hd s))) (by simp only [maxLen]; omega) (by omega) (by have := hbr.size; simp; omega) ?_; intro A' c' w3 hgA hgrA hbA hatA)
          go_roundw
          case rel =>
            refine ⟨j + 1, O ++ [hd / 2 ^ s % 4294967296], A', c', by omega, int_num (by omega), by simp, by have := HO.out; simp; omega, ?_, hgA, (hbr.alloc hbr.size _).trans hbA⟩
            intro t ht
            rcases Nat.lt_or_ge t O.length with h1 | h1
            · rw [List.getElem_append_left h1]; exact HV.out t h1
            · have ht1 : t = j := by have := HO.out; simp at ht; omega
              subst ht1
              rw [List.getElem_append_right h1]
              simp only [List.getElem_singleton]
              rw [HHD.out]
              have := down_limb XU.out hs32 (wh := wh) (i := t) (by omega)
              rw [← this]
              (rw [← HHD.out, HXX.out, List.getD_eq_getElem?_getD, List.getElem?_eq_none (by omega), Option.getD_none, Nat.zero_mul, Nat.zero_add])
          case measure => simp [intOf]; omega
      · have hj2 : j = xs.length - wh := by omega
        have hlt1 : decide ((wh : Int) + j < xs.length) = false := decide_eq_false (by omega)
        have hRu : U32 O := u32_of_at fun t ht => by rw [HV.out t ht]; exact Nat.mod_lt _ (by omega)
        have hval : nv O = nv xs / 2 ^ k :=
          nv_shift_down h.u (k := k) (R := O) (by rw [← HWH.out]; exact hgt) (by rw [← HWH.out, HO.out]; exact hj2) (by rw [← HWH.out, ← HS.out]; exact HV.out)
        have hll := lim_length_le_length hRu
        have hcall := rtrim_any wr AO cO _ O (hgr.nt hRu) rfl (by omega)
        rw [hval] at hcall
        have HC := Lib.hid hcall
        clear hcall hgr hval hj2 hll
        go_wp2_with fail
        refine HC.out.mono ?_
        rintro e w2 ⟨A2, c2, rfl, hg2, hb2⟩
        go_wp2_with fail
        go_ret
        exact ⟨A2, c2, rfl, hg2.more fun ad e => Nat.le_trans hbr.size (hg2.form.2.2 ad e).1, below_on hbr hb2 hbr.size⟩

theorem rdown_lim (w : World) (A : Option Addr) (c N k : Nat) (kI : Int) (h : Nt w A c (lim N)) (hk : kI = k) (hl : (lim N).length ≤ 10000) (hkl : k ≤ 100000) :
    Calls Try.prog 85 #[.slice A (lim N).length c, .int .i64 kI] w (NatNew w (lim (N / 2 ^ k))) := by
  have := rdown_any w A c _ k kI (lim N) h rfl hk hl hkl
  rwa [nv_lim] at this
theorem rup_lim (w : World) (A : Option Addr) (c N k : Nat) (kI : Int) (h : Nt w A c (lim N)) (hk : kI = k) (hl : (lim N).length ≤ 10000) (hkl : k ≤ 100000) :
    Calls Try.prog 86 #[.slice A (lim N).length c, .int .i64 kI] w (NatNew w (lim (N * 2 ^ k))) := by
  have := rup_any w A c _ k kI (lim N) h rfl hk hl hkl
  rwa [nv_lim] at this
end Go.Proofs.Ytnmomigaedfdoaa
namespace Go.Proofs.Ytnmomigaedfdoaa
set_option maxRecDepth 100000

theorem norm_bits {N n k : Nat} (hn : (lim N).length = n + 2) (hk : k + bits2 N = 32 * (n + 2)) :
    k < 32 ∧ (lim (N * 2 ^ k)).length = n + 2 ∧ 2147483648 * pw (n + 1) ≤ N * 2 ^ k ∧ ∀ h : n + 1 < (lim (N * 2 ^ k)).length, 2147483648 ≤ (lim (N * 2 ^ k))[n + 1] := by
  have hN : N ≠ 0 := by intro h; rw [h, lim_zero] at hn; simp at hn
  have h1 : pw (n + 1) ≤ N := (lim_length_lt N (n + 1)).1 (by omega)
  have h2 : ¬ bits2 N ≤ 32 * (n + 1) := by rw [bits2_le, ← pw_two]; omega
  have hb : bits2 (N * 2 ^ k) = 32 * (n + 2) := by rw [bits2_mul _ _ hN]; omega
  have h3 : N * 2 ^ k < 2 ^ (32 * (n + 2)) := (bits2_le _ _).1 (by omega)
  have h4 : ¬ N * 2 ^ k < 2 ^ (32 * (n + 1) + 31) := fun h => by have := (bits2_le _ _).2 h; omega
  have h5 : 2 ^ (32 * (n + 1) + 31) = pw (n + 1) * 2147483648 := by rw [Nat.pow_add, ← pw_two]
  rw [← pw_two] at h3
  have h6 : 2147483648 * pw (n + 1) ≤ N * 2 ^ k := by rw [h5] at h4; omega
  have hl : (lim (N * 2 ^ k)).length = n + 2 := by
    have a := (lim_length_le (N * 2 ^ k) (n + 2)).2 h3
    have b := (lim_length_lt (N * 2 ^ k) (n + 1)).2 (by omega)
    omega
  refine ⟨by omega, hl, h6, fun h => ?_⟩
  have h7 := nv_bounds (lim (N * 2 ^ k)) (lim_u32 _) (n + 1) (by omega) h
  rw [nv_lim] at h7
  have h8 : 2147483648 * pw (n + 1) < ((lim (N * 2 ^ k))[n + 1] + 1) * pw (n + 1) := by omega
  have h9 := Nat.lt_of_mul_lt_mul_right h8
  omega
theorem rdiv_start {M N n k K L : Nat} (hL : (lim (M * 2 ^ k)).length = L) (hK : L + 1 = n + 2 + K) (hV : pw (n + 1) ≤ N * 2 ^ k) : DivInv (M * 2 ^ k) (lim (N * 2 ^ k)) (n + 2) (L + 1) K (lim (M * 2 ^ k) ++ [0]) [] := by
  have h := DivInv.start (V := lim (N * 2 ^ k)) (U := lim (M * 2 ^ k) ++ [0]) (M := M * 2 ^ k) (n := n) (m := L) (K := K) (s := 0) (by simp [hL]) ((lim_u32 _).append (U32.one (by omega))) hK (by rw [nv_append, nv_lim]; simp [nv_cons, nv_nil]) ((lim_length_le _ _).1 (by omega)) (by rw [nv_lim]; simpa using hV)
  simpa using h
/-- a guess that is not too small -/
def GuessN (nS nV g : Nat) : Prop := g < 4294967296 ∧ nS < (g + 1) * nV
theorem GuessN.start {nS nV p top next u2 hd : Nat} (hp : 0 < p) (ht : 0 < top) (ht2 : top < 4294967296) (hv1 : (top * 4294967296 + next) * p ≤ nV) (hS2 : nS < (hd * 4294967296 + u2 + 1) * p) (h2 : u2 < 4294967296) (hb : hd / top < 4294967296) : GuessN nS nV (hd / top) := by
  have h := (GuessInv.start hp ht ht2 hv1 hS2 h2).2.2.2.1
  refine ⟨hb, ?_⟩
  rw [show (hd : Int) / top = ((hd / top : Nat) : Int) from (Int.natCast_ediv _ _).symm] at h
  exact_mod_cast h
theorem GuessN.most {nS nV : Nat} (h : nS < 4294967296 * nV) : GuessN nS nV 4294967295 := ⟨by omega, by simpa using h⟩
theorem GuessN.less {nS nV g : Nat} (h : GuessN nS nV g) (hgt : nS < nV * g) : 1 ≤ g ∧ GuessN nS nV (g - 1) := by
  have h0 : 1 ≤ g := by
    rcases Nat.eq_zero_or_pos g with h0 | h0
    · subst h0; simp at hgt
    · exact h0
  exact ⟨h0, by have := h.1; omega, by rw [show g - 1 + 1 = g from by omega, Nat.mul_comm]; exact hgt⟩
theorem GuessN.done {nS nV g : Nat} (h : GuessN nS nV g) (hle : nV * g ≤ nS) : g = nS / nV ∧ nS - nV * g = nS % nV := by
  have hV : 0 < nV := by
    rcases Nat.eq_zero_or_pos nV with h0 | h0
    · have := h.2; rw [h0] at this; simp at this
    · exact h0
  have hg : nS / nV = g := by
    apply Nat.div_eq_of_lt_le
    · rw [Nat.mul_comm]; exact hle
    · exact h.2
  refine ⟨hg.symm, ?_⟩
  have := Nat.div_add_mod nS nV
  rw [hg] at this
  omega
/-- limbs with zeros behind them -/
def padl (l : List Nat) (n : Nat) : List Nat := l ++ List.replicate (n - l.length) 0
theorem padl_length {l : List Nat} {n : Nat} (h : l.length ≤ n) : (padl l n).length = n := by simp [padl]; omega
theorem padl_nv (l : List Nat) (n : Nat) : nv (padl l n) = nv l := by rw [padl, nv_append, nv_replicate]; simp
theorem padl_u32 {l : List Nat} (h : U32 l) (n : Nat) : U32 (padl l n) := h.append (U32.replicate _)
theorem padl_in {l : List Nat} {n t : Nat} (h : t < l.length) (h2 : t < (padl l n).length) : (padl l n)[t] = l[t] := by simp only [padl]; rw [List.getElem_append_left h]
theorem padl_out {l : List Nat} {n t : Nat} (h : ¬ t < l.length) (h2 : t < (padl l n).length) : (padl l n)[t] = 0 := by simp only [padl]; rw [List.getElem_append_right (by omega)]; simp
theorem mix_set {A B : List Nat} {t : Nat} (hA : t < A.length) (hAB : A.length = B.length) (v : Nat) (hv : v = A[t]) : (A.take t ++ B.drop t).set t v = A.take (t + 1) ++ B.drop (t + 1) := by
  have ht : (A.take t).length = t := by simp; omega
  rw [List.set_append_right _ _ (by omega), ht, Nat.sub_self, List.drop_eq_getElem_cons (show t < B.length by omega), List.set_cons_zero, List.take_succ_eq_append_getElem hA, hv, List.append_assoc]
  rfl
end Go.Proofs.Ytnmomigaedfdoaa
