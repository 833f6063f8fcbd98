/- The walk of FairshareBottlenecks. Arguments that came in, opened to what the walks ask. Whole numbers and transfers that came in as arguments, opened to what the walks ask. -/
import Derived.Test.YthdfflbhogfejaaNatA
import Derived.Test.YthdfflbhogfejaaFhI
import Derived.Test.YthdfflbhogfejaaFhQ
import Derived.Test.YthdfflbhogfejaaRows
import Derived.Test.YthdfflbhogfejaaBase
import Derived.ProofKit
import Derived.OpenShut
import Derived.ShutString
import Derived.ChangeOld
import Derived.Below
import Derived.Lib.SmallJoins
import Derived.Deep.Slices
import Derived.Deep.Fields
namespace Go.Proofs.Ythdfflbhogfejaa
set_option maxRecDepth 100000
open Go.RowKit

theorem botM_wf {caps : List Int} {l : List Fl} (h : validFl caps l) (R : List Rat) : ∀ x ∈ botM (cpF caps) l R, -9223372036854775808 ≤ x ∧ x ≤ 9223372036854775807 := fun x hx => by
  obtain ⟨i, hi, rfl⟩ := List.mem_map.1 hx
  have hil : i < l.length := by simpa using hi
  rw [botA]
  split
  · omega
  · cases hf : (lkA l i).find? (fun e => decide (limP (cpF caps) l R e i)) with
    | none => rw [Option.getD_none]; omega
    | some e =>
      rw [Option.getD_some]
      have := h.okR.lk i hil e (List.mem_of_find?_eq_some hf)
      have := h.1
      omega
set_option maxHeartbeats 4000000 in
theorem bot_walk (w : World) (A : Option Addr) (c : Nat) (cs : List Int) (D : Option Addr) (d : Nat) (xs : List Int) (hA : Is w A c cs) (hB : Is w D d xs) :
    Calls Try.prog 6 #[.slice A cs.length c, .slice D xs.length d] w fun e w' => e = .returned (.bool true) ∧ Below w.heap.size w w' := by
  have HA := Lib.hid hA; clear hA
  have HB := Lib.hid hB; clear hB
  have bw := Below.refl w.heap.size w
  go_enter Try.func6, Try.ntmps6
  go_wp2_with fail
  refine (caps_any w A _ c cs HA.out rfl).mono ?_
  rintro e wn ⟨A', c', rfl, hI, bb⟩
  have HI := Lib.hid hI
  replace bw := below_on bw bb bw.size
  clear bb hI
  go_wp2_with fail
  refine (flowsL_walk wn D _ d xs (capsM cs).length (HB.out.below bw) rfl (by have := (capsM_len cs).2; omega)).mono ?_
  rintro e wt ⟨D', d', fs, rfl, hfm, hT, bb⟩
  have HFM := Lib.hid hfm
  have HT := Lib.hid hT
  have HI := Lib.hid (HI.out.below bb)
  replace bw := below_on bw bb bw.size
  have h7 : fs.length ≤ 7 := by
    have h1 := congrArg List.length hfm
    rw [List.length_map] at h1
    have h2 := flowsM_len xs (capsM cs).length
    omega
  have hc5 := (capsM_len cs).2
  have HV := Lib.hid (flowsM_valid cs xs)
  rw [← hfm] at HV
  clear bb hT hfm
  obtain ⟨caps, hcaps⟩ : ∃ caps, capsM cs = caps := ⟨_, rfl⟩
  have HCAPS := Lib.hid hcaps
  rw [hcaps] at HI HV HFM hc5 ⊢
  clear hcaps
  go_wp2_with fail
  refine (fbot_ok wt A' _ c' caps D' _ d' fs HI.out HT.out rfl rfl HV.out (by omega)).mono ?_
  rintro e w2 ⟨A2, c2, rfl, hu, bb⟩
  have HU := Lib.hid hu
  have HI := Lib.hid (HI.out.below bb)
  have HT := Lib.hid (HT.out.below bb)
  replace bw := below_on bw bb bw.size
  clear bb hu
  go_wp2_with fail
  refine (rbot_ok w2 A' _ c' caps D' _ d' fs HI.out HT.out rfl rfl HV.out (by omega)).mono ?_
  rintro e w3 ⟨A3, c3, rfl, hv, bb⟩
  have HU3 := Lib.hid ((HU.out.below bb).is (botM_wf HV.out _))
  have HW3 := Lib.hid (hv.is (botM_wf HV.out _))
  replace bw := below_on bw bb bw.size
  clear bb hv HU
  go_wp2_with fail
  refine (awakes_any w3).mono ?_
  rintro e w4 ⟨rfl, bb⟩
  have HU4 := Lib.hid (HU3.out.below bb)
  have HW4 := Lib.hid (HW3.out.below bb)
  replace bw := below_on bw bb bw.size
  clear bb
  go_wp2_with fail
  refine (sameints_any w4 A2 _ c2 _ A3 _ c3 _ true HU4.out HW4.out rfl rfl (decide_eq_true rfl)).mono ?_
  rintro e w5 ⟨rfl, bb⟩
  replace bw := below_on bw bb bw.size
  go_wp2_with fail
  go_ret
  exact ⟨rfl, bw⟩
end Go.Proofs.Ythdfflbhogfejaa
namespace Go.Proofs.Ythdfflbhogfejaa
set_option maxRecDepth 100000
open Go.ChangeShapes Go.WideShapes Go.ChangeAt Go.RowKit

theorem own_knob : ownKnob Try.prog.godebug = none := by kernel_rfl
theorem laid_out : laidOutB Try.prog = true := by kernel_rfl
theorem lt_of_cell {w : World} {a : Addr} {v : Value} (h : w.cell? a = some v) : a.block < w.heap.size := by
  rcases Nat.lt_or_ge a.block w.heap.size with h1 | h1
  · exact h1
  · simp [World.cell?, Array.getElem?_eq_none h1] at h
/-- a slice of 32-bit numbers that came in reads as limbs -/
theorem nt_of_ints {H : Type} {enc : TypeId × Value → H} {W : World} {base : Nat} {spare : Nat → Bool} {held : Bool} {t : TypeId} {a : Option Addr} {len cap : Nat} {d : DataW H} {p : List MemPlace}
    (ht : Try.prog.underlying t = some (.slice 77)) (h : DataW.Trod enc Try.prog W base spare held t (.slice a len cap) d p) : ∃ xs : List Nat, xs.length = len ∧ Nt W a cap xs := by
  obtain ⟨fuel, hf⟩ := h
  rcases open_ints ht Try.underlying77 (by kernel_rfl) hf with ⟨hcs, _⟩ | ⟨x, l, c, zs, hcs, _, hl, hm, hz, _, hcell, hwz⟩
  · simp [Value.cells] at hcs
    obtain ⟨rfl, rfl, rfl⟩ := hcs
    exact ⟨[], rfl, Nt.nil _ _ _ (by omega)⟩
  · simp [Value.cells] at hcs
    obtain ⟨rfl, rfl, rfl⟩ := hcs
    unfold maxLen at hm
    have hzl : len ≤ zs.length := by
      rw [hz]; split <;> omega
    have hnum : ∀ k (hk : k < zs.length), 0 ≤ zs[k] ∧ zs[k] < 4294967296 := by
      intro k hk
      have := hwz _ (List.getElem_mem hk)
      simp [Lit.wf, IntKind.min, IntKind.max, IntKind.signed, IntKind.bits] at this
      omega
    have hlen : ((zs.take len).map Int.toNat).length = len := by simp; omega
    refine ⟨(zs.take len).map Int.toNat, hlen, ⟨by rw [hlen]; exact hl, hm, ?_, ?_⟩⟩
    · intro y hy
      obtain ⟨z, hz1, rfl⟩ := List.mem_map.1 hy
      obtain ⟨k, hk, rfl⟩ := List.getElem_of_mem (List.mem_of_mem_take hz1)
      have := hnum k hk
      omega
    · intro hn
      rw [hlen] at hn
      have h0 := hcell 0 (by omega)
      refine ⟨x, rfl, ?_, fun k hk => ?_⟩
      · have := lt_of_cell h0
        rwa [block_of_add] at this
      · rw [hlen] at hk
        rw [hcell k (by omega)]
        have h1 := hnum k (by omega)
        simp only [List.getElem_map, List.getElem_take]
        rw [List.getD_eq_getElem?_getD, List.getElem?_eq_getElem (by omega), Option.getD_some]
        simp only [lmv]
        congr 2
        omega
end Go.Proofs.Ythdfflbhogfejaa
namespace Go.Proofs.Ythdfflbhogfejaa
set_option maxRecDepth 100000
open Go.Joins Go.ChangeShapes Go.WideShapes Go.ChangeAt Go.RowKit Go.Deep

theorem wf_i64 {z : Int} (h : (Lit.int .i64 z).wf = true) : -9223372036854775808 ≤ z ∧ z ≤ 9223372036854775807 := by
  simp [Lit.wf, IntKind.min, IntKind.max, IntKind.signed, IntKind.bits] at h
  omega
/-- a slice of whole numbers that came in -/
theorem is_of_ints {H : Type} {enc : TypeId × Value → H} {W : World} {base : Nat} {spare : Nat → Bool} {held : Bool} {t : TypeId} {a : Option Addr} {len cap : Nat} {d : DataW H} {p : List MemPlace}
    (ht : Try.prog.underlying t = some (.slice 3)) (h : DataW.Trod enc Try.prog W base spare held t (.slice a len cap) d p) : ∃ xs : List Int, xs.length = len ∧ Is W a cap xs := by
  obtain ⟨fuel, hf⟩ := h
  rcases open_ints ht Try.underlying3 (by kernel_rfl) hf with ⟨hcs, _⟩ | ⟨x, l, c, zs, hcs, _, hl, hm, hz, _, hcell, hwz⟩
  · simp [Value.cells] at hcs
    obtain ⟨rfl, rfl, rfl⟩ := hcs
    exact ⟨[], rfl, Is.nil _ _ _ (by omega)⟩
  · simp [Value.cells] at hcs
    obtain ⟨rfl, rfl, rfl⟩ := hcs
    unfold maxLen at hm
    have hzl : len ≤ zs.length := by
      rw [hz]; split <;> omega
    have hlen : (zs.take len).length = len := by simp; omega
    refine ⟨zs.take len, hlen, ⟨by rw [hlen]; exact hl, hm, ?_, ?_⟩⟩
    · intro hn
      rw [hlen] at hn
      have h0 := hcell 0 (by omega)
      refine ⟨x, rfl, ?_, fun k hk => ?_⟩
      · have := lt_of_cell h0
        rwa [block_of_add] at this
      · rw [hlen] at hk
        rw [hcell k (by omega)]
        simp only [List.getElem_take]
        rw [List.getD_eq_getElem?_getD, List.getElem?_eq_getElem (by omega), Option.getD_some]
    · intro y hy
      exact wf_i64 (hwz _ (List.mem_of_mem_take hy))
abbrev Tm.nil : Tm := ⟨none, 0, [], 0, 0⟩
end Go.Proofs.Ythdfflbhogfejaa
