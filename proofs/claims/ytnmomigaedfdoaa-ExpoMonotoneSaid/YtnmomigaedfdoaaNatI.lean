/- The walk of natural.divide. -/
import Derived.Test.YtnmomigaedfdoaaNatH
import Derived.Test.YtnmomigaedfdoaaDivV
import Derived.Deep.RegionHeld3
namespace Go.Proofs.Ytnmomigaedfdoaa
set_option maxRecDepth 100000
open Go.RowKit

/-- what a call hands back: a quotient and a remainder -/
def DivRes (w : World) (q r : Nat) (e : Ending) (w' : World) : Prop :=
  ∃ A c D d, e = .returned (.tuple #[.slice A (lim q).length c, .slice D (lim r).length d]) ∧ Nt w' A c (lim q) ∧ Nt w' D d (lim r) ∧ Below w.heap.size w w'

theorem divide_less (w : World) (A D : Option Addr) (c d M N : Nat) (h : Nt w A c (lim M)) (k : Nt w D d (lim N)) (hl : (lim M).length ≤ 1000) (hlt : M < N) :
    Calls Try.prog 111 #[.slice A (lim M).length c, .slice D (lim N).length d] w (DivRes w (M / N) (M % N)) := by
  have hc := cmp_any w A D c d _ _ (lim M) (lim N) (-1) h k rfl rfl (by rw [nv_lim, nv_lim]; exact cmp3_lt hlt)
  have HC := Lib.hid hc
  clear hc
  go_enter Try.func111, Try.ntmps111
  go_wp2_with fail
  refine HC.out.mono ?_
  rintro e w1 ⟨rfl, q⟩
  have ht := trim_any w1 A c _ (lim M) (h.below q.keep) rfl (by rw [nv_lim]; omega)
  rw [nv_lim] at ht
  have HT := Lib.hid ht
  clear ht
  go_wp2_with fail
  refine HT.out.mono ?_
  rintro e w2 ⟨A2, c2, rfl, g2, b2⟩
  go_wp2_with fail
  go_ret2
  refine ⟨none, 0, A2, c2, ?_, ?_, ?_, below_on q.keep b2 q.keep.size⟩
  · rw [Nat.div_eq_of_lt hlt, lim_zero, Nat.mod_eq_of_lt hlt]; rfl
  · rw [Nat.div_eq_of_lt hlt, lim_zero]; exact Nt.nil _ _ _ (by omega)
  · rw [Nat.mod_eq_of_lt hlt]; exact g2.nt (lim_u32 _)

theorem divide_short (w : World) (A D : Option Addr) (c d M x : Nat) (h : Nt w A c (lim M)) (k : Nt w D d [x]) (hl : (lim M).length ≤ 1000) (hx0 : 0 < x) (hge : x ≤ M) :
    Calls Try.prog 111 #[.slice A (lim M).length c, .slice D 1 d] w (DivRes w (M / x) (M % x)) := by
  obtain ⟨z, hz0, hz⟩ : ∃ z : Int, 0 ≤ z ∧ cmp3 M x = z := ⟨_, by unfold cmp3; rw [if_neg (by omega)]; split <;> omega, rfl⟩
  have hc := cmp_any w A D c d _ _ (lim M) [x] z h k rfl rfl (by rw [nv_lim]; simpa [nv_cons, nv_nil] using hz)
  have HC := Lib.hid hc
  have hx := k.u.at 0 (by simp)
  simp only [List.getElem_cons_zero] at hx
  clear hc hz
  go_enter Try.func111, Try.ntmps111
  go_wp2_with fail
  refine HC.out.mono ?_
  rintro e w1 ⟨rfl, q⟩
  obtain ⟨ad, rfl, hb, hcx, _⟩ := (k.below q.keep).at 0 (by simp)
  have hcx0 : w1.cell? ad = some (.int .u32 (x : Int)) := hcx
  clear hcx
  go_wp2_with fail
  refine (short_any w1 A c _ x M (lim M) (h.below q.keep) rfl (nv_lim M) hx0 hx (by omega)).mono ?_
  rintro e w2 ⟨rfl, n2, b2, hs2⟩
  have hm : M % x < 4294967296 := by have := Nat.mod_lt M hx0; omega
  have HM := Lib.hid hm
  obtain ⟨r, hr⟩ : ∃ r, r = M % x := ⟨_, rfl⟩
  rw [← hr] at HM ⊢
  have hr64 : r < 4294967296 := HM.out
  have HR := Lib.hid hr
  clear hr hm HM
  go_wp2_with fail
  refine (make_any w2 r (by omega)).mono ?_
  rintro e w3 ⟨A3, c3, rfl, n3, b3⟩
  go_wp2_with fail
  go_ret2
  refine ⟨_, (lim M).length, A3, c3, ?_, n2.below b3, ?_, below_on (below_on q.keep b2 q.keep.size) b3 (Nat.le_trans q.keep.size b2.size)⟩
  · rw [← HR.out]; rfl
  · rw [← HR.out]; exact n3

end Go.Proofs.Ytnmomigaedfdoaa
