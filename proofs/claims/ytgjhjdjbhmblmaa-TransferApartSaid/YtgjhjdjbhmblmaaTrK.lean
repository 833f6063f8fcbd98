/- What the laws of transfers share: the lists that they make may be; Run on both sides in one word. -/
import Derived.Test.YtgjhjdjbhmblmaaTrH
namespace Go.Proofs.Ytgjhjdjbhmblmaa
open Go.RowKit

theorem linksM_ok (m n : Nat) : LinksOk n (linksM m n) := by
  have hp : (linksM m n).Pairwise (· < ·) := by
    unfold linksM
    rw [List.pairwise_map]
    exact ((List.pairwise_lt_range).filter _).imp (fun h => by omega)
  rw [List.pairwise_iff_getElem] at hp
  intro i hi
  have := linksM_mem (List.getElem_mem hi)
  exact ⟨this.1, this.2, fun h0 => hp (i - 1) i (by omega) hi (by omega)⟩
theorem transM_len (xs : List Int) (n : Nat) : (transM xs n).length ≤ 6 := by simp [transM]; omega
theorem transM_mem {xs : List Int} {n : Nat} {t : Tr} (h : t ∈ transM xs n) : 0 ≤ t.2.1 ∧ t.2.1 ≤ 23 ∧ 0 ≤ t.2.2 ∧ t.2.2 ≤ 11 ∧ LinksOk n t.1 := by
  obtain ⟨j, _, rfl⟩ := List.mem_map.1 h
  have h1 := withinM_bd (xs.getD (2 * j + 1) 0) (show (1 : Int) ≤ 24 by omega)
  have h2 := startM_bd xs j
  refine ⟨h1.1, ?_, h2.1, h2.2, linksM_ok _ _⟩
  show (flowM xs n j).2 ≤ 23
  simp only [flowM]; omega
theorem made_valid (cs ts : List Int) : validTr (capsM cs) (transM ts (capsM cs).length) := by
  have hc := capsM_len cs
  have hl := transM_len ts (capsM cs).length
  refine ⟨fun t ht => ?_, by omega, by rw [flT_len]; omega, fun c hc => ?_, fun f hf => ?_⟩
  · have := transM_mem ht
    exact ⟨this.1, by omega, this.2.2.1, by omega⟩
  · have := capsM_bd cs c hc; omega
  · obtain ⟨i, hi, rfl⟩ := List.getElem_of_mem hf
    rw [flT_len] at hi
    rw [flT_get hi]
    exact ⟨Int.le_refl _, by omega, (transM_mem (List.getElem_mem hi)).2.2.2.2⟩
theorem checkM_two {caps : List Int} {l : List Tr} (h : validTr caps l) : checkM caps l = 0 ∨ checkM caps l = 113 := by
  unfold checkM
  rw [if_pos h]
  split <;> simp
open Classical in
noncomputable def runN (caps : List Int) (l : List Tr) : Nat := if h : ∃ N, N ≤ 300000 ∧ allZ (simM caps l N) then Classical.choose h else 0
/-- what Run answers -/
noncomputable def runS (caps : List Int) (l : List Tr) : Sm := if checkM caps l = 0 then simM caps l (runN caps l) else ⟨[], [], 0⟩
theorem runN_spec {caps : List Int} {l : List Tr} (h : checkM caps l = 0) : runN caps l ≤ 300000 ∧ allZ (simM caps l (runN caps l)) := by
  have hc := checkM_zero h
  have he := sim_ends hc.1 hc.2
  unfold runN
  rw [dif_pos he]
  exact Classical.choose_spec he
theorem runS_of {caps : List Int} {l : List Tr} {N : Nat} (h : checkM caps l = 0) (hN : allZ (simM caps l N)) : runS caps l = simM caps l N := by
  rw [runS, if_pos h]
  exact sim_unique (checkM_zero h).1 (runN_spec h).2 hN
theorem trun_any (w : World) (A : Option Addr) (n c : Nat) (caps : List Int) (D : Option Addr) (m d : Nat) (ts : List Tm) (hA : Is w A c caps) (hD : Ts w D d ts) (hn : n = caps.length) (hm : m = ts.length) (h60 : ts.length ≤ 60) :
    Calls Try.prog 13 #[.slice A n c, .slice D m d] w (RunRes w (runS caps (ts.map Tm.tr)) (checkM caps (ts.map Tm.tr))) := by
  by_cases h : checkM caps (ts.map Tm.tr) = 0
  · have := trun_ok w A n c caps D m d ts hA hD hn hm h60 _ rfl h _ (runN_spec h).2 (runN_spec h).1
    rw [runS, if_pos h, h]; exact this
  · rw [runS, if_neg h]
    exact trun_bad w A n c caps D m d ts hA hD hn hm h60 _ rfl h
theorem trrun_any (w : World) (A : Option Addr) (n c : Nat) (caps : List Int) (D : Option Addr) (m d : Nat) (ts : List Tm) (hA : Is w A c caps) (hD : Ts w D d ts) (hn : n = caps.length) (hm : m = ts.length) (h60 : ts.length ≤ 60) :
    Calls Try.prog 21 #[.slice A n c, .slice D m d] w (RunRes w (runS caps (ts.map Tm.tr)) (checkM caps (ts.map Tm.tr))) := by
  by_cases h : checkM caps (ts.map Tm.tr) = 0
  · have := trrun_ok w A n c caps D m d ts hA hD hn hm h60 _ rfl h _ (runN_spec h).2 (runN_spec h).1
    rw [runS, if_pos h, h]; exact this
  · rw [runS, if_neg h]
    exact trrun_bad w A n c caps D m d ts hA hD hn hm h60 _ rfl h
theorem tbound_any (w : World) (A : Option Addr) (n c : Nat) (caps : List Int) (D : Option Addr) (m d : Nat) (ts : List Tm) (hA : Is w A c caps) (hD : Ts w D d ts) (hn : n = caps.length) (hm : m = ts.length) (h60 : ts.length ≤ 60) :
    Calls Try.prog 14 #[.slice A n c, .slice D m d] w fun e w' => e = .returned (.tuple #[.int .i64 (if checkM caps (ts.map Tm.tr) = 0 then boundM caps (ts.map Tm.tr) else 0), .int .i64 (checkM caps (ts.map Tm.tr))]) ∧ Below w.heap.size w w' := by
  by_cases h : checkM caps (ts.map Tm.tr) = 0
  · have := tbound_ok w A n c caps D m d ts hA hD hn hm h60 _ rfl h
    rw [if_pos h, h]; exact this
  · rw [if_neg h]
    exact tbound_bad w A n c caps D m d ts hA hD hn hm h60 _ rfl h
end Go.Proofs.Ytgjhjdjbhmblmaa
