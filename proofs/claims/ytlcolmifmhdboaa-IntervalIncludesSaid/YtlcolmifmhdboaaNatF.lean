/- The walk of natural.Format. -/
import Derived.Test.YtlcolmifmhdboaaNatE
import Derived.Test.YtlcolmifmhdboaaNatA
import Derived.BigRegion
import Derived.RegionTactic
namespace Go.Proofs.Ytlcolmifmhdboaa
open Go.RowKit

abbrev u8v (n : Nat) : Value := .int .u8 (n : Int)
set_option maxRecDepth 100000 in
theorem u8_info : (Try.prog.info? 5).map (fun i => (i.zero, i.size, i.bytes)) = some (some (.int .u8 0), 1, 1) := by kernel_rfl

set_option maxRecDepth 100000 in
theorem foldl_push (l : List Nat) (s : ByteArray) : (l.map (fun n : Nat => (n : Int))).foldl (fun r n => r.push (UInt8.ofNat n.toNat)) s = ⟨s.data ++ (l.map UInt8.ofNat).toArray⟩ := by
  induction l generalizing s with
  | nil => simp
  | cons x l ih =>
    simp only [List.map_cons, List.foldl_cons, ih, Int.toNat_natCast]
    simp [ByteArray.push]
set_option maxRecDepth 100000 in
theorem run_bytes_text {w : World} {A : Option Addr} {l : List Nat} {c : Nat} (h : Rd u8v w A l) :
    (convert 98 9 (.slice A l.length c)).run Try.prog w = .ok (.string (bstr l)) w := by
  rw [run_convert_bytes_string w _ _ 5 A l.length c Try.underlying98 Try.underlying5 Try.underlying9]
  cases A with
  | none =>
    have : l = [] := by
      rcases Nat.eq_zero_or_pos l.length with h0 | h0
      · exact List.eq_nil_of_length_eq_zero h0
      · obtain ⟨ad, e, _⟩ := h h0; cases e
    subst this
    rfl
  | some ad =>
    have hc : ∀ j v, (l.map u8v)[j]? = some v → w.cell? (ad.add j) = some v := by
      intro j v hv
      rw [List.getElem?_map] at hv
      rcases Nat.lt_or_ge j l.length with h1 | h1
      · rw [List.getElem?_eq_getElem h1] at hv
        simp at hv
        subst hv
        obtain ⟨ad', e, _, hcc⟩ := h (by omega)
        injection e with e
        subst e
        exact hcc j h1
      · rw [List.getElem?_eq_none h1] at hv; simp at hv
    have h1 := run_loadCells_list (P := Try.prog) (w := w) ad (l.map u8v) hc
    rw [List.length_map] at h1
    rw [run_bytesToString w ad l.length c (l.map (fun n : Nat => (n : Int))) (by rw [h1]; simp [Function.comp_def])]
    rw [foldl_push, show ByteArray.empty.data = #[] from rfl, Array.empty_append]
    rfl

set_option maxRecDepth 100000 in
theorem decR_len (n : Nat) : (decR n).length ≤ 10 * (lim n).length := by
  rw [decR_lt]
  refine Nat.lt_of_lt_of_le ((lim_length_le n _).1 (Nat.le_refl _)) ?_
  unfold pw
  rw [Nat.pow_mul]
  exact Nat.pow_le_pow_left (by omega) _
/-- the digits so far, and the number that is still to be written -/
def FmtInv (n M : Nat) (O : List Nat) : Prop := (decR n).map digB = O ++ (decR M).map digB
set_option maxRecDepth 100000 in
theorem FmtInv.start (n : Nat) : FmtInv n n [] := by simp [FmtInv]
set_option maxRecDepth 100000 in
theorem FmtInv.step {n M : Nat} {O : List Nat} (h : FmtInv n M O) (hM : M ≠ 0) : FmtInv n (M / 10) (O ++ [48 + M % 10]) := by
  unfold FmtInv at h ⊢
  rw [h, decR_pos hM]
  simp [digB]
set_option maxRecDepth 100000 in
theorem FmtInv.len {n M : Nat} {O : List Nat} (h : FmtInv n M O) : O.length ≤ (decR n).length := by
  have := congrArg List.length h
  simp at this
  omega
set_option maxRecDepth 100000 in
theorem FmtInv.step9 {n q r k : Nat} {O : List Nat} (h : FmtInv n (q * 10 ^ (9 - k) + r) O) (hk : k < 9) (hr : r < 10 ^ (9 - k)) (h0 : 0 < r ∨ 0 < q) :
    FmtInv n (q * 10 ^ (9 - (k + 1)) + r / 10) (O ++ [48 + r % 10]) ∧ r / 10 < 10 ^ (9 - (k + 1)) := by
  obtain ⟨m, hm⟩ : ∃ m, 9 - k = m + 1 := ⟨8 - k, by omega⟩
  have hm2 : 9 - (k + 1) = m := by omega
  rw [hm] at h hr
  rw [hm2]
  have e : q * 10 ^ (m + 1) + r = 10 * (q * 10 ^ m) + r := by rw [Nat.pow_succ]; grind
  have hp : 0 < 10 ^ m := Nat.pow_pos (by omega)
  have hM : q * 10 ^ (m + 1) + r ≠ 0 := by
    rcases h0 with h0 | h0
    · omega
    · have := Nat.mul_pos h0 hp
      omega
  have hs := h.step hM
  have e1 : (q * 10 ^ (m + 1) + r) / 10 = q * 10 ^ m + r / 10 := by rw [e]; omega
  have e2 : (q * 10 ^ (m + 1) + r) % 10 = r % 10 := by rw [e]; omega
  rw [e1, e2] at hs
  refine ⟨hs, ?_⟩
  rw [Nat.pow_succ] at hr
  omega
set_option maxRecDepth 100000 in
theorem FmtInv.exit9 {n q r k : Nat} {O : List Nat} (h : FmtInv n (q * 10 ^ (9 - k) + r) O) (hr : r < 10 ^ (9 - k)) (h0 : k = 9 ∨ (r = 0 ∧ q = 0)) : FmtInv n q O := by
  rcases h0 with h0 | ⟨h1, h2⟩
  · subst h0
    simp at hr h
    subst hr
    simpa using h
  · subst h1 h2
    simpa using h
/-- reversal in place: the first and the last i places have changed hands -/
def RevInv (L M : List Nat) (i : Nat) : Prop := M.length = L.length ∧ ∀ j (h : j < M.length) (h1 : j < L.length), M[j] = if j < i ∨ L.length ≤ j + i then L[L.length - 1 - j]'(by omega) else L[j]
set_option maxRecDepth 100000 in
theorem RevInv.start (L : List Nat) : RevInv L L 0 := ⟨rfl, fun j h _ => by rw [if_neg (by omega)]⟩
set_option maxRecDepth 100000 in
theorem RevInv.step {L M : List Nat} {i : Nat} (h : RevInv L M i) (h1 : 2 * i + 1 < L.length) (a b : Nat) (hi : i < M.length) (hk : L.length - 1 - i < M.length) (ha : M[i] = a) (hb : M[L.length - 1 - i] = b) :
    RevInv L ((M.set i b).set (L.length - 1 - i) a) (i + 1) := by
  obtain ⟨hl, hM⟩ := h
  refine ⟨by simpa using hl, fun j hj hj1 => ?_⟩
  simp only [List.length_set] at hj
  have e1 := hM i hi (by omega)
  have e2 := hM (L.length - 1 - i) hk (by omega)
  rw [if_neg (by omega)] at e1 e2
  by_cases c1 : j = L.length - 1 - i
  · subst c1
    rw [List.getElem_set_self, if_pos (by omega), ← ha, e1]
    congr 1; omega
  · rw [List.getElem_set_ne (fun e => c1 e.symm)]
    by_cases c2 : j = i
    · subst c2
      rw [List.getElem_set_self, if_pos (by omega), ← hb, e2]
    · rw [List.getElem_set_ne (fun e => c2 e.symm), hM j hj hj1]
      by_cases c3 : j < i ∨ L.length ≤ j + i
      · rw [if_pos c3, if_pos (by omega)]
      · rw [if_neg c3, if_neg (by omega)]
set_option maxRecDepth 100000 in
theorem RevInv.done {L M : List Nat} {i : Nat} (h : RevInv L M i) (h1 : L.length ≤ 2 * i + 1) : M = L.reverse := by
  obtain ⟨hl, hM⟩ := h
  apply List.ext_getElem (by simpa using hl)
  intro j h1 h2
  rw [hM j h1 (by omega), List.getElem_reverse]
  split
  · rfl
  · congr 1; omega

def fmtS (n : Nat) : ByteArray × Int := if 512 < (lim n).length then (bstr [], 2) else (bstr (decT n), 0)

/-- the length in a slot -/
def lenOf : Value → Nat | .slice _ n _ => n | _ => 0

set_option maxHeartbeats 1000000 in
set_option maxRecDepth 100000 in
theorem format_any (w : World) (A : Option Addr) (c n : Nat) (xs : List Nat) (h : Nt w A c xs) (hn : n = xs.length) :
    Calls Try.prog 92 #[.slice A n c] w fun e w' => e = .returned (.tuple #[.string (fmtS (nv xs)).1, .int .i64 (fmtS (nv xs)).2]) ∧ Below w.heap.size w w' := by
  subst hn
  have h3 := h.cap
  have h4 := h.max
  by_cases hl : 512 < (lim (nv xs)).length
  · go_enter Try.func92, Try.ntmps92
    go_wp2_with fail
    refine (large_any w A c _ xs true h rfl (by simpa using hl)).mono ?_
    rintro e w' ⟨rfl, rfl⟩
    go_wp2_with fail
    go_ret2
    rw [fmtS, if_pos hl]
    exact ⟨rfl, Below.refl _ _⟩
  · obtain ⟨i0, hi, hz0, hz1, hz2⟩ := info_parts u8_info
    go_enter Try.func92, Try.ntmps92
    go_wp2_with fail
    refine (large_any w A c _ xs false h rfl (by simpa using hl)).mono ?_
    rintro e w' ⟨rfl, rfl⟩
    go_wp2_with fail
    refine (trim_any w A c _ xs h rfl (by omega)).mono ?_
    rintro e w1 ⟨A1, c1, rfl, hg1, hb1⟩
    have hR := hg1.nt (lim_u32 _)
    clear hg1
    go_wp2_with fail
    go_loopw [4, 5] (fun rs o wr => ∃ (N : Nat) (AR : Option Addr) (cR : Nat) (AO : Option Addr) (cO : Nat) (O : List Nat), rs = .slice AR (lim N).length cR ∧ o = .slice AO O.length cO ∧ N ≤ nv xs ∧ FmtInv (nv xs) N O ∧ Nt wr AR cR (lim N) ∧ Gr u8v 5 wr w.heap.size AO cO O ∧ Below w.heap.size w wr ∧ Sep AR (lim N) AO)
      (fun _ o _ => (decR (nv xs)).length - lenOf o)
    case atStart => exact ⟨nv xs, A1, c1, none, 0, [], rfl, rfl, Nat.le_refl _, FmtInv.start _, hR, Gr.nil _ _, hb1, fun _ _ _ _ e => by cases e⟩
    case round =>
      obtain ⟨N, AR, cR, AO, cO, O, rfl, rfl, hN, hinv, hnt, hgr, hbr, hsep⟩ := hrel
      have hNl := lim_length_mono hN
      have HI := Lib.hid hinv
      have hOl := hinv.len
      have hD : (decR (nv xs)).length ≤ 10000 := by have := decR_len (nv xs); omega
      clear hinv hR hb1
      by_cases hN0 : N = 0
      · have hO : O = (decR (nv xs)).map digB := by
          have := HI.out
          unfold FmtInv at this
          rw [hN0, decR_zero] at this
          simpa using this.symm
        have HO := Lib.hid hO
        have hNz : (lim N).length = 0 := by rw [hN0, lim_zero]; rfl
        have HNz := Lib.hid hNz
        have hNz1 : decide ((0 : Int) < ((lim N).length : Int)) = false := decide_eq_false (by omega)
        have hNz2 : decide (0 < (lim N).length) = false := decide_eq_false (by omega)
        clear hN0 hNz hnt hsep hO
        by_cases hz : nv xs = 0
        · have hOz : (((O.length : Nat) : Int) == 0) = true := by rw [HO.out, hz, decR_zero]; rfl
          have HZ := Lib.hid hz
          clear hz
          go_wp2_with fail
          go_ret2
          rw [fmtS, if_neg hl, decT, if_pos HZ.out]
          exact ⟨rfl, hbr⟩
        · have hOp : 0 < O.length := by
            rcases Nat.eq_zero_or_pos O.length with h0 | h0
            · rw [HO.out, List.length_map, List.length_eq_zero_iff, decR_nil] at h0; exact absurd h0 hz
            · exact h0
          have hOz : (((O.length : Nat) : Int) == 0) = false := beq_eq_false_iff_ne.2 (by omega)
          obtain ⟨g, rfl⟩ := hgr.some_ hOp
          have hgB : w.heap.size ≤ g := (hgr.form.2.2 _ rfl).1
          have HZ : Hid (¬ nv xs = 0) := hz
          clear hz
          go_wp2_with fail
          go_loopw [8, 9] (fun iv kv wr => ∃ (i : Nat) (M : List Nat), 2 * i ≤ O.length ∧ iv = .int .i64 i ∧ kv = .int .i64 ((O.length : Int) - 1 - i) ∧ RevInv O M i ∧ Gr u8v 5 wr w.heap.size (some ⟨g, 0, none⟩) cO M ∧ Below w.heap.size w wr) (fun _ kv _ => (intOf kv + 1).toNat)
          case atStart => exact ⟨0, O, by omega, rfl, int_num (by omega), RevInv.start O, hgr, hbr⟩
          case round =>
            obtain ⟨i, M, hi2, rfl, rfl, hrev, hgr2, hbr2⟩ := hrel
            have HV := Lib.hid hrev
            have hMl := hrev.1
            have HM := Lib.hid hMl
            clear hgr hbr hrev
            by_cases hik : 2 * i + 1 < O.length
            · have hc1 := hgr2.cell i (by omega)
              have hc2 := hgr2.cell (O.length - 1 - i) (by omega)
              have hf1 := hgr2.free i
              have hf2 := hgr2.free (O.length - 1 - i)
              have hx1 : (0 : Int) ≤ (O.length : Int) - 1 - i := by omega
              have hx2 : (O.length : Int) - 1 - i < O.length := by omega
              have HG := Lib.hid hgr2
              have HB := Lib.hid hbr2
              clear hgr2 hbr2
              go_wp2_with fail
              go_region
              go_wp2_with fail
              go_roundw
              case rel => exact ⟨i + 1, _, by omega, by go_num, int_num (by omega), HV.out.step hik _ _ (by omega) (by omega) rfl rfl, ((HG.out.store _ _).store _ _).drew, ((HB.out.setCell hgB _).setCell hgB _).drew⟩
              case measure => simp [intOf]; omega
            · have hd := HV.out.done (by omega)
              have hconv := run_bytes_text (c := cO) hgr2.rd
              rw [hMl, hd] at hconv
              have hx1 : ¬ (i : Int) < (O.length : Int) - 1 - i := by omega
              go_wp2_with fail
              go_ret2
              rw [fmtS, if_neg hl, decT, if_neg HZ.out, ← HO.out]
              exact ⟨rfl, hbr2⟩
      · have hpos : 0 < (lim N).length := lim_length_pos.2 hN0
        go_wp2_with fail
        refine (short_any wr AR cR _ 1000000000 N (lim N) hnt rfl (nv_lim N) (by omega) (by omega) (by omega)).mono ?_
        rintro e w2 ⟨rfl, hnt2, hb2, hs2⟩
        have hgr2 := hgr.below hb2
        have hbr2 := below_on hbr hb2 hbr.size
        have hsep2 : Sep (some ⟨wr.heap.size, 0, none⟩) (lim (N / 1000000000)) AO := fun _ a o e1 e2 => by
          have := (hgr.form.2.2 o e2).2
          injection e1 with e1
          subst e1
          simp; omega
        have hc2 := hnt2.cap
        have HQ : Hid (N = N / 1000000000 * 10 ^ (9 - 0) + N % 1000000000) := by show N = N / 1000000000 * 1000000000 + N % 1000000000; omega
        obtain ⟨q, hq⟩ : ∃ q, q = N / 1000000000 := ⟨_, rfl⟩
        obtain ⟨r, hr⟩ : ∃ r, r = N % 1000000000 := ⟨_, rfl⟩
        obtain ⟨AQ, hAQ⟩ : ∃ AQ : Option Addr, AQ = some ⟨wr.heap.size, 0, none⟩ := ⟨_, rfl⟩
        have hrlt : r < 1000000000 := by omega
        have hqN : q ≤ N := by omega
        rw [← hq, ← hAQ] at hnt2 hsep2
        rw [← hq, ← hr] at HQ
        rw [← hq, ← hr, ← hAQ]
        have HN0 : Hid (N ≠ 0) := hN0
        clear hq hr hgr hnt hsep hbr hb2 hs2 hAQ hN0
        go_wp2_with fail
        go_loopw [5, 6, 7] (fun o rv kv wr => ∃ (k r' : Nat) (AO : Option Addr) (cO : Nat) (O' : List Nat), k ≤ 9 ∧ kv = .int .i64 k ∧ rv = .int .u32 r' ∧ o = .slice AO O'.length cO ∧ O'.length = O.length + k ∧ r' < 10 ^ (9 - k) ∧ r' < 4294967296 ∧ (k = 0 → r' = r) ∧ FmtInv (nv xs) (q * 10 ^ (9 - k) + r') O' ∧
          Nt wr AQ (lim N).length (lim q) ∧ Gr u8v 5 wr w.heap.size AO cO O' ∧ Below w.heap.size w wr ∧ Sep AQ (lim q) AO) (fun _ _ kv _ => (9 - intOf kv).toNat)
        case atStart => exact ⟨0, r, AO, cO, O, by omega, rfl, rfl, rfl, rfl, hrlt, by omega, fun _ => rfl, by rw [← HQ.out]; exact HI.out, hnt2, hgr2, hbr2, hsep2⟩
        case round =>
          obtain ⟨k, r', AO', cO', O', hk, rfl, rfl, rfl, hO', hr', hr32, hk0, hinv, hnt3, hgr3, hbr3, hsep3⟩ := hrel
          have HK0 := Lib.hid hk0
          clear hk0
          have HI3 := Lib.hid hinv
          have HO3 := Lib.hid hO'
          have HR3 := Lib.hid hr'
          have hOl3 := hinv.len
          have hql : (lim q).length ≤ (lim N).length := lim_length_mono hqN
          clear hinv hO' hr' hnt2 hgr2 hbr2 hsep2
          by_cases hk9 : k < 9
          · by_cases hr0 : 0 < r'
            · have hgn := hnt3.below ((Below.refl _ wr).alloc (Nat.le_refl _) (.cells #[.int .u8 (48 + (r' : Int) % 10)] 5))
              go_wp2_with (at_builtin; refine wpList_append_rd _ (mk := u8v) (fun _ => rfl) rfl (.tmp 35) (.tmp 40) 98 rfl 5 i0 (.int .u8 0) 1 Try.underlying98 hi hz0 hz1 hz2 rfl (B := w.heap.size) rfl rfl (hgr3.below ((Below.refl _ wr).alloc (Nat.le_refl _) _)) _ 1 1 [(48 + r' % 10)] rfl rfl (Rd.one_ wr _ (48 + r' % 10) _ (int_num (by omega))) (by simp only [maxLen]; omega) (by omega) (by have := hbr3.size; simp; omega) ?_; intro A' c' w3 hgA hgrA hbA hatA)
              go_roundw
              case rel => exact ⟨k + 1, r' / 10, A', c', O' ++ [48 + r' % 10], by omega, by go_num, int_num (by omega), by simp, by have := HO3.out; simp; omega, (HI3.out.step9 hk9 HR3.out (.inl hr0)).2, by omega, fun h0 => absurd h0 (by omega), (HI3.out.step9 hk9 HR3.out (.inl hr0)).1,
                hgn.grown hgrA hsep3.row, hgA, (hbr3.alloc hbr3.size _).trans hbA, hsep3.append hgn.rd hatA⟩
              case measure => simp [intOf]; omega
            · have hr00 : decide ((0 : Int) < (r' : Int)) = false := decide_eq_false (by omega)
              by_cases hq0 : 0 < (lim q).length
              · have hqq : 0 < q := Nat.pos_of_ne_zero (lim_length_pos.1 hq0)
                have hgn := hnt3.below ((Below.refl _ wr).alloc (Nat.le_refl _) (.cells #[.int .u8 (48 + (r' : Int) % 10)] 5))
                go_wp2_with (at_builtin; refine wpList_append_rd _ (mk := u8v) (fun _ => rfl) rfl (.tmp 35) (.tmp 40) 98 rfl 5 i0 (.int .u8 0) 1 Try.underlying98 hi hz0 hz1 hz2 rfl (B := w.heap.size) rfl rfl (hgr3.below ((Below.refl _ wr).alloc (Nat.le_refl _) _)) _ 1 1 [(48 + r' % 10)] rfl rfl (Rd.one_ wr _ (48 + r' % 10) _ (int_num (by omega))) (by simp only [maxLen]; omega) (by omega) (by have := hbr3.size; simp; omega) ?_; intro A' c' w3 hgA hgrA hbA hatA)
                go_roundw
                case rel => exact ⟨k + 1, r' / 10, A', c', O' ++ [48 + r' % 10], by omega, by go_num, int_num (by omega), by simp, by have := HO3.out; simp; omega, (HI3.out.step9 hk9 HR3.out (.inr hqq)).2, by omega, fun h0 => absurd h0 (by omega), (HI3.out.step9 hk9 HR3.out (.inr hqq)).1,
                  hgn.grown hgrA hsep3.row, hgA, (hbr3.alloc hbr3.size _).trans hbA, hsep3.append hgn.rd hatA⟩
                case measure => simp [intOf]; omega
              · have hq1 : q = 0 := by
                  rcases Nat.eq_zero_or_pos q with h0 | h0
                  · exact h0
                  · exact absurd (lim_length_pos.2 (by omega)) hq0
                have HQ1 := Lib.hid hq1
                have hq00 : decide ((0 : Int) < ((lim q).length : Int)) = false := decide_eq_false (by omega)
                have hq01 : decide (0 < (lim q).length) = false := decide_eq_false (by omega)
                clear hq1
                go_wp2_with fail
                go_roundw
                case rel => exact ⟨q, AQ, (lim N).length, AO', cO', O', rfl, rfl, by omega, HI3.out.exit9 HR3.out (.inr ⟨by omega, HQ1.out⟩), hnt3, hgr3, hbr3, hsep3⟩
                case measure =>
                  have := HO3.out
                  have hk1 : k ≠ 0 := fun h0 => HN0.out (by have h1 := HQ.out; have h2 := HK0.out h0; have h3 := HQ1.out; subst h2 h3; simp at h1; omega)
                  simp [lenOf]; omega
          · have hk10 : k = 9 := by omega
            have HK := Lib.hid hk10
            clear hk10
            go_wp2_with fail
            go_roundw
            case rel => exact ⟨q, AQ, (lim N).length, AO', cO', O', rfl, rfl, by omega, HI3.out.exit9 HR3.out (.inl HK.out), hnt3, hgr3, hbr3, hsep3⟩
            case measure => have := HO3.out; simp [lenOf]; omega
end Go.Proofs.Ytlcolmifmhdboaa
