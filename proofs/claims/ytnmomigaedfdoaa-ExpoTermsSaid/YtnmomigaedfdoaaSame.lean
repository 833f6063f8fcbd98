/- The walk of same.Nat: two numbers have the same limbs. -/
import Derived.Test.YtnmomigaedfdoaaNatA
namespace Go.Proofs.Ytnmomigaedfdoaa
set_option maxRecDepth 100000
open Go.RowKit

theorem same_any (w : World) (A D : Option Addr) (c d n m : Nat) (xs ys : List Nat) (b : Bool) (h : Nt w A c xs) (k : Nt w D d ys) (hn : n = xs.length) (hm : m = ys.length) (hb : decide (xs = ys) = b) :
    Calls Try.prog 84 #[.slice A n c, .slice D m d] w fun e w' => e = .returned (.bool b) ∧ Qt w w' := by
  have HB := Lib.hid hb; clear hb
  subst hn hm
  have h3 := h.len
  have k3 := k.len
  by_cases hl : xs.length = ys.length
  · have HL := Lib.hid hl
    have hl1 : ((xs.length : Int) != (ys.length : Int)) = false := by simp [hl]
    have hl2 : xs.length ≤ ys.length := by omega
    clear hl
    go_enter Try.func84, Try.ntmps84
    go_wp2_with fail
    go_loopw [5] (fun i wr => ∃ k : Nat, k ≤ xs.length ∧ i = .int .i64 k ∧ (∀ j (h1 : j < xs.length) (h2 : j < ys.length), j < k → xs[j] = ys[j]) ∧ Qt w wr) (fun i _ => xs.length - (intOf i).toNat)
    case atStart => exact ⟨0, by omega, rfl, fun j _ _ h => absurd h (by omega), Qt.refl _⟩
    case round =>
      obtain ⟨i, hi, rfl, he, q⟩ := hrel
      have HE := Lib.hid he
      clear he
      by_cases hlt : i < xs.length
      · have hlt2 : i < ys.length := by omega
        obtain ⟨adX, rfl, hbX, hcX, hvX⟩ := (h.below (q.below _)).at i hlt
        obtain ⟨adY, rfl, hbY, hcY, hvY⟩ := (k.below (q.below _)).at i hlt2
        clear h k
        by_cases hxy : xs[i] = ys[i]
        · have HX := Lib.hid hxy
          have hx1 : ((xs[i] : Int) != (ys[i] : Int)) = false := by simp [hxy]
          clear hxy
          go_wp2_with fail
          go_quiet (fail)
          go_wp2_with fail
          go_roundw
          case rel => exact ⟨i + 1, by omega, by go_num, fun j h1 h2 h3 => by
            rcases Nat.lt_or_ge j i with h4 | h4
            · exact HE.out j h1 h2 h4
            · have : j = i := by omega
              subst this
              exact HX.out, q.drewN _⟩
          case measure => simp [intOf]; omega
        · have hx1 : ((xs[i] : Int) != (ys[i] : Int)) = true := by rw [bne_iff_ne]; omega
          go_wp2_with fail
          go_quiet (fail)
          go_wp2_with fail
          go_ret
          exact ⟨ret_bool (by rw [← HB.out]; symm; apply decide_eq_false; intro e; subst e; exact hxy rfl), q.drewN _⟩
      · go_wp2_with fail
        go_ret
        exact ⟨ret_bool (by rw [← HB.out]; symm; apply decide_eq_true; exact List.ext_getElem HL.out fun j h1 h2 => HE.out j h1 h2 (by omega)), q⟩
  · have hl1 : ((xs.length : Int) != (ys.length : Int)) = true := by rw [bne_iff_ne]; omega
    go_enter Try.func84, Try.ntmps84
    go_wp2_with fail
    go_ret
    exact ⟨ret_bool (by rw [← HB.out]; symm; apply decide_eq_false; intro e; exact hl (by rw [e])), Qt.refl _⟩
end Go.Proofs.Ytnmomigaedfdoaa
