/- The walk of drydocklaw02.long. -/
import Derived.Test.YtlcolmifmhdboaaLwS
namespace Go.Proofs.Ytlcolmifmhdboaa
open Go.RowKit

/-- a slice that reads as fractions -/
def RdF (w : World) (A : Option Addr) (vs : List Fx) : Prop := 0 < vs.length → ∃ ad, A = some ad ∧ ad.block < w.heap.size ∧
  ∀ k (hk : k < vs.length), w.cell? (ad.add (k * 3)) = some (.bool vs[k].b) ∧ w.cell? ⟨(ad.add (k * 3)).block, (ad.add (k * 3)).off + 1, none⟩ = some (.slice vs[k].A vs[k].xs.length vs[k].c) ∧ w.cell? ⟨(ad.add (k * 3)).block, (ad.add (k * 3)).off + 2, none⟩ = some (.slice vs[k].D vs[k].ys.length vs[k].d)
def longB (vs : List Fx) : Bool := vs.any (fun v => decide (24 < v.xs.length) || decide (24 < v.ys.length))
set_option maxRecDepth 100000 in
theorem flong_any (w : World) (A : Option Addr) (n c : Nat) (vs : List Fx) (b : Bool) (h : RdF w A vs) (hn : n = vs.length) (hc : vs.length ≤ 1000) (hs : ∀ v ∈ vs, v.xs.length ≤ 9223372036854775807 ∧ v.ys.length ≤ 9223372036854775807)
    (hb : longB vs = b) :
    Calls Try.prog 10 #[.slice A n c] w fun e w' => e = .returned (.bool b) ∧ w = w' := by
  have HB := Lib.hid hb; clear hb
  have HS := Lib.hid hs; clear hs
  subst hn
  go_enter Try.func10, Try.ntmps10
  go_wp2_with fail
  go_loop [3] (fun i => ∃ k : Nat, k ≤ vs.length ∧ i = .int .i64 k ∧ longB (vs.take k) = false) (fun i => vs.length - (intOf i).toNat)
  case atStart => exact ⟨0, by omega, rfl, rfl⟩
  case round =>
    obtain ⟨k, hk, rfl, ha⟩ := hrel
    have HA := Lib.hid ha
    clear ha
    by_cases hlt : k < vs.length
    · obtain ⟨ad, rfl, _, hcc⟩ := h (by omega)
      obtain ⟨_, hc1, hc2⟩ := hcc k hlt
      have hle := HS.out _ (List.getElem_mem hlt)
      clear hcc h
      by_cases h60 : 24 < vs[k].xs.length
      · go_wp2_with fail
        go_ret
        exact ⟨ret_bool (by rw [← HB.out]; symm; unfold longB; rw [List.any_eq_true]; exact ⟨vs[k], List.getElem_mem hlt, by simp [h60]⟩), rfl⟩
      · by_cases h61 : 24 < vs[k].ys.length
        · go_wp2_with fail
          go_ret
          exact ⟨ret_bool (by rw [← HB.out]; symm; unfold longB; rw [List.any_eq_true]; exact ⟨vs[k], List.getElem_mem hlt, by simp [h61]⟩), rfl⟩
        · go_wp2_with fail
          go_round
          case rel => exact ⟨k + 1, by omega, by go_num, by have := HA.out; unfold longB at *; rw [List.take_succ_eq_append_getElem hlt, List.any_append, this]; simp; omega⟩
          case measure => simp [intOf]; omega
    · go_wp2_with fail
      go_ret
      exact ⟨ret_bool (by rw [← HB.out, ← HA.out, List.take_of_length_le (by omega)]), rfl⟩
end Go.Proofs.Ytlcolmifmhdboaa
