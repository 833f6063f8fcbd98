/- The walks of what every law of this layer calls: long, awake. -/
import Derived.Test.YtcenpboflecbcaaNatF
import Derived.Test.YtcenpboflecbcaaSame
namespace Go.Proofs.Ytcenpboflecbcaa
open Go.RowKit

/-- a slice as a value: its address, its length, its capacity -/
abbrev slv (s : Option Addr × Nat × Nat) : Value := .slice s.1 s.2.1 s.2.2
theorem long_any (w : World) (ad : Addr) (n c : Nat) (vs : List (Option Addr × Nat × Nat)) (b : Bool) (h : Rd slv w (some ad) vs) (hn : n = vs.length) (hc : vs.length ≤ 1000) (hs : ∀ v ∈ vs, v.2.1 ≤ 9223372036854775807)
    (hb : vs.any (fun v => decide (60 < v.2.1)) = b) :
    Calls Try.prog 16 #[.slice (some ad) n c] w fun e w' => e = .returned (.bool b) ∧ w = w' := by
  have HB := Lib.hid hb; clear hb
  have HS := Lib.hid hs; clear hs
  subst hn
  go_enter Try.func16, Try.ntmps16
  go_wp2_with fail
  go_loop [3] (fun i => ∃ k : Nat, k ≤ vs.length ∧ i = .int .i64 k ∧ (vs.take k).any (fun v => decide (60 < v.2.1)) = false) (fun i => vs.length - (intOf i).toNat)
  case atStart => exact ⟨0, by omega, rfl, rfl⟩
  case round =>
    obtain ⟨k, hk, rfl, ha⟩ := hrel
    have HA := Lib.hid ha
    clear ha
    by_cases hlt : k < vs.length
    · obtain ⟨ad', e', _, hcc⟩ := h (by omega)
      injection e' with e'
      subst e'
      have hck := hcc k hlt
      have hle := HS.out _ (List.getElem_mem hlt)
      clear hcc h
      by_cases h60 : 60 < vs[k].2.1
      · go_wp2_with fail
        go_ret
        exact ⟨ret_bool (by rw [← HB.out]; symm; rw [List.any_eq_true]; exact ⟨vs[k], List.getElem_mem hlt, by simpa using h60⟩), rfl⟩
      · go_wp2_with fail
        go_round
        case rel => exact ⟨k + 1, by omega, by go_num, by rw [List.take_succ_eq_append_getElem hlt, List.any_append, HA.out]; simp; omega⟩
        case measure => simp [intOf]; omega
    · go_wp2_with fail
      go_ret
      exact ⟨ret_bool (by rw [← HB.out, ← HA.out, List.take_of_length_le (by omega)]), rfl⟩

theorem lim_2_32 : lim 4294967296 = [0, 1] := by
  have h := lim_of (xs := [0, 1]) (U32.cons (by omega) (U32.one (by omega))) (by intro k hk; obtain rfl : k = 1 := (by simpa using hk); simp)
  simpa [nv_cons, nv_nil] using h
theorem lim_max : lim 4294967295 = [4294967295] := by
  have h := lim_of (xs := [4294967295]) (U32.one (by omega)) (by intro k hk; obtain rfl : k = 0 := (by simpa using hk); simp)
  simpa [nv_cons, nv_nil] using h
theorem lim_one : lim 1 = [1] := by
  have h := lim_of (xs := [1]) (U32.one (by omega)) (by intro k hk; obtain rfl : k = 0 := (by simpa using hk); simp)
  simpa [nv_cons, nv_nil] using h
theorem dec_2_32 : decR 4294967296 = [6, 9, 2, 7, 6, 9, 4, 9, 2, 4] := by simp [decR_pos, decR_zero]
theorem fmt_2_32 : fmtS 4294967296 = (⟨#[52, 50, 57, 52, 57, 54, 55, 50, 57, 54]⟩, 0) := by
  rw [fmtS, lim_2_32, if_neg (by simp), decT, if_neg (by simp), dec_2_32]; rfl

theorem awake_any (w : World) : Calls Try.prog 15 #[] w fun e w' => e = .returned (.bool true) ∧ Below w.heap.size w w' := by
  go_enter Try.func15, Try.ntmps15
  go_wp2_with fail
  have m1 := make_any w 4294967295 (by omega)
  rw [lim_max] at m1
  refine m1.mono ?_
  rintro e w1 ⟨A1, c1, rfl, n1, b1⟩
  go_wp2_with fail
  have m2 := make_any w1 1 (by omega)
  rw [lim_one] at m2
  refine m2.mono ?_
  rintro e w2 ⟨A2, c2, rfl, n2, b2⟩
  go_wp2_with fail
  refine (add_any w2 A1 A2 c1 c2 _ _ [4294967295] [1] [0, 1] 0 (n1.below b2) n2 rfl rfl (by rw [show nv [4294967295] = 4294967295 from rfl, show nv [1] = 1 from rfl, addS_ok (by rw [lim_max]; simp) (by rw [lim_one]; simp), sizS, lim_2_32, if_neg (by simp)])).mono ?_
  rintro e w3 ⟨A3, c3, rfl, n3, b3⟩
  go_wp2_with fail
  have m4 := format_any w3 A3 c3 _ [0, 1] n3 rfl
  rw [show nv [0, 1] = 4294967296 from rfl, fmt_2_32] at m4
  refine m4.mono ?_
  rintro e w4 ⟨rfl, b4⟩
  obtain ⟨ad, rfl, _, hc0, _⟩ := (n3.below b4).at 0 (by simp)
  obtain ⟨ad', e', _, hc1, _⟩ := (n3.below b4).at 1 (by simp)
  injection e' with e'
  subst e'
  have hd0 : w4.cell? ad = some (.int .u32 0) := hc0
  have hd1 : w4.cell? ⟨ad.block, ad.off + 1, none⟩ = some (.int .u32 1) := hc1
  clear n1 n2 n3 m1 m2 m4 hc0 hc1
  go_wp2_with fail
  go_ret
  exact ⟨rfl, below_on (below_on (below_on b1 b2 b1.size) b3 (Nat.le_trans b1.size b2.size)) b4 (Nat.le_trans (Nat.le_trans b1.size b2.size) b3.size)⟩
end Go.Proofs.Ytcenpboflecbcaa
