/- The walk of ExpoTermErrors. Arguments that came in, opened to what the walks ask. A fraction that came in as an argument, opened to what the walks ask. -/
import Derived.Test.YtnmomigaedfdoaaExX
import Derived.Test.YtnmomigaedfdoaaExN
import Derived.Test.YtnmomigaedfdoaaRows
import Derived.Test.YtnmomigaedfdoaaBase
import Derived.ProofKit
import Derived.OpenShut
import Derived.ShutString
import Derived.ChangeOld
import Derived.Below
import Derived.Test.YtnmomigaedfdoaaFrx
import Derived.Lib.SmallJoins
namespace Go.Proofs.Ytnmomigaedfdoaa
set_option maxRecDepth 100000
open Go.RowKit

theorem elong_any (w : World) (x : Fx) (hx : x.ok w) (h1 : x.xs.length ≤ 9223372036854775807) (h2 : x.ys.length ≤ 9223372036854775807) : Calls Try.prog 23 #[x.val] w fun e w' => e = .returned (.bool (decide (8 < x.xs.length ∨ 8 < x.ys.length))) ∧ Below w.heap.size w w' := by
  go_enter Try.func23, Try.ntmps23
  go_upto_region 1 with fail
  have a2 := (fa_alloc hx).1
  have bw := (fa_alloc hx).2
  clear hx
  generalize (w.alloc (.cells #[.bool x.b, .slice x.A x.xs.length x.c, .slice x.D x.ys.length x.d] 26)) = w1 at a2 bw ⊢
  obtain ⟨g, hg⟩ : ∃ g, w.heap.size = g := ⟨_, rfl⟩
  rw [hg] at a2 ⊢
  have ci0 := a2.c0
  have ci1 := a2.c1
  have ci2 := a2.c2
  by_cases k1 : 8 < x.xs.length
  · have e1 : decide ((8 : Int) < (x.xs.length : Int)) = true := decide_eq_true (by omega)
    have e2 : decide (8 < x.xs.length) = true := decide_eq_true k1
    have HV : Hid (true = decide (8 < x.xs.length ∨ 8 < x.ys.length)) := Lib.hid (decide_eq_true (Or.inl k1)).symm
    go_wp2_with fail
    go_ret
    exact ⟨by rw [← HV.out]; rfl, bw⟩
  · have e1 : decide ((8 : Int) < (x.xs.length : Int)) = false := decide_eq_false (by omega)
    have e2 : decide (8 < x.xs.length) = false := decide_eq_false k1
    have HV : Hid (decide (8 < x.ys.length) = decide (8 < x.xs.length ∨ 8 < x.ys.length)) := Lib.hid (decide_eq_decide.2 ⟨Or.inr, fun h => h.resolve_left k1⟩)
    by_cases k2 : 8 < x.ys.length
    · have e3 : decide ((8 : Int) < (x.ys.length : Int)) = true := decide_eq_true (by omega)
      have e4 : decide (8 < x.ys.length) = true := decide_eq_true k2
      go_wp2_with fail
      go_ret
      exact ⟨by rw [← HV.out, e4]; rfl, bw⟩
    · have e3 : decide ((8 : Int) < (x.ys.length : Int)) = false := decide_eq_false (by omega)
      have e4 : decide (8 < x.ys.length) = false := decide_eq_false k2
      go_wp2_with fail
      go_ret
      exact ⟨by rw [← HV.out, e4]; rfl, bw⟩
set_option maxHeartbeats 1600000 in
theorem terr_walk (w : World) (x : Fx) (bits : Int) (hx : x.ok w) (h1 : x.xs.length ≤ 9223372036854775807) (h2 : x.ys.length ≤ 9223372036854775807) : Calls Try.prog 11 #[x.val, .int .i64 bits] w fun e w' => e = .returned (.bool true) ∧ Below w.heap.size w w' := by
  go_enter Try.func11, Try.ntmps11
  go_upto_region 1 with fail
  have a2 := (fa_alloc hx).1
  have bw := (fa_alloc hx).2
  clear hx
  generalize (w.alloc (.cells #[.bool x.b, .slice x.A x.xs.length x.c, .slice x.D x.ys.length x.d] 26)) = w1 at a2 bw ⊢
  generalize w.heap.size = g2 at a2 ⊢
  have ci0 := a2.c0
  have ci1 := a2.c1
  have ci2 := a2.c2
  go_wp2_with fail
  clear ci0 ci1 ci2
  refine (elong_any w1 x a2.ok h1 h2).mono ?_
  rintro _ w2 ⟨rfl, bb⟩
  replace a2 := a2.below bb
  replace bw := below_on bw bb bw.size
  clear bb
  by_cases hlong : 8 < x.xs.length ∨ 8 < x.ys.length
  · rw [decide_eq_true hlong]
    clear hlong
    go_wp2_with fail
    refine (xawake_any w2).mono ?_
    rintro _ w7 ⟨rfl, bb⟩
    replace bw := below_on bw bb bw.size
    go_wp2_with fail
    go_ret
    exact ⟨rfl, bw⟩
  · rw [decide_eq_false hlong]
    have L1 : Hid (x.xs.length ≤ 10000) := Lib.hid (by omega)
    have L2 : Hid (x.ys.length ≤ 10000) := Lib.hid (by omega)
    clear hlong h1 h2
    obtain ⟨E, hE⟩ : ∃ E, chkE x bits 0 = E := ⟨_, rfl⟩
    have HE := Lib.hid hE
    clear hE
    have ci0 := a2.c0
    have ci1 := a2.c1
    have ci2 := a2.c2
    go_wp2_with fail
    clear ci0 ci1 ci2
    refine (xterms_any w2 x bits E a2.ok L1.out L2.out HE.out).mono ?_
    rintro _ w3 ⟨r, rfl, _, _, bb⟩
    replace a2 := a2.below bb
    replace bw := below_on bw bb bw.size
    clear bb
    have ci0 := a2.c0
    have ci1 := a2.c1
    have ci2 := a2.c2
    go_wp2_with fail
    clear ci0 ci1 ci2
    refine (eexp_any w3 x bits E a2.ok L1.out L2.out HE.out).mono ?_
    rintro _ w4 ⟨i, rfl, oki, bb⟩
    replace bw := below_on bw bb bw.size
    clear bb a2
    go_upto_region 5 with fail
    have bb := (ia_alloc oki).2
    clear oki
    generalize (w4.alloc (.cells i.cells 35)) = w5 at bb ⊢
    replace bw := below_on bw bb bw.size
    clear bb
    have e1 : (E == E) = true := by simp
    go_wp2_with fail
    refine (xawake_any w5).mono ?_
    rintro _ w7 ⟨rfl, bb⟩
    replace bw := below_on bw bb bw.size
    go_wp2_with fail
    go_ret
    exact ⟨rfl, bw⟩
theorem terr_law (w : World) (x : Fx) (bits : Int) (hx : x.ok w) (_ : (Lit.int .i64 bits).wf = true) :
    Calls Try.prog 11 #[x.val, .int .i64 bits] w fun e w' => e = .returned (.bool true) ∧ Below w.heap.size w w' :=
  terr_walk w x bits hx (by have := hx.num.cap; have := hx.num.max; omega) (by have := hx.den.cap; have := hx.den.max; omega)
end Go.Proofs.Ytnmomigaedfdoaa
namespace Go.Proofs.Ytnmomigaedfdoaa
set_option maxRecDepth 100000
open Go.ChangeShapes Go.WideShapes Go.ChangeAt Go.RowKit

theorem own_knob : ownKnob Try.prog.godebug = none := by kernel_rfl
theorem laid_out : laidOutB Try.prog = true := by kernel_rfl
theorem lt_of_cell {w : World} {a : Addr} {v : Value} (h : w.cell? a = some v) : a.block < w.heap.size := by
  rcases Nat.lt_or_ge a.block w.heap.size with h1 | h1
  · exact h1
  · simp [World.cell?, Array.getElem?_eq_none h1] at h
/-- a slice of 32-bit numbers that came in reads as limbs -/
theorem nt_of_ints {H : Type} {enc : TypeId × Value → H} {W : World} {base : Nat} {spare : Nat → Bool} {held : Bool} {t : TypeId} {a : Option Addr} {len cap : Nat} {d : DataW H} {p : List MemPlace}
    (ht : Try.prog.underlying t = some (.slice 82)) (h : DataW.Trod enc Try.prog W base spare held t (.slice a len cap) d p) : ∃ xs : List Nat, xs.length = len ∧ Nt W a cap xs := by
  obtain ⟨fuel, hf⟩ := h
  rcases open_ints ht Try.underlying82 (by kernel_rfl) hf with ⟨hcs, _⟩ | ⟨x, l, c, zs, hcs, _, hl, hm, hz, _, hcell, hwz⟩
  · simp [Value.cells] at hcs
    obtain ⟨rfl, rfl, rfl⟩ := hcs
    exact ⟨[], rfl, Nt.nil _ _ _ (by omega)⟩
  · simp [Value.cells] at hcs
    obtain ⟨rfl, rfl, rfl⟩ := hcs
    unfold maxLen at hm
    have hzl : len ≤ zs.length := by
      rw [hz]; split <;> omega
    have hnum : ∀ k (hk : k < zs.length), 0 ≤ zs[k] ∧ zs[k] < 4294967296 := by
      intro k hk
      have := hwz _ (List.getElem_mem hk)
      simp [Lit.wf, IntKind.min, IntKind.max, IntKind.signed, IntKind.bits] at this
      omega
    have hlen : ((zs.take len).map Int.toNat).length = len := by simp; omega
    refine ⟨(zs.take len).map Int.toNat, hlen, ⟨by rw [hlen]; exact hl, hm, ?_, ?_⟩⟩
    · intro y hy
      obtain ⟨z, hz1, rfl⟩ := List.mem_map.1 hy
      obtain ⟨k, hk, rfl⟩ := List.getElem_of_mem (List.mem_of_mem_take hz1)
      have := hnum k hk
      omega
    · intro hn
      rw [hlen] at hn
      have h0 := hcell 0 (by omega)
      refine ⟨x, rfl, ?_, fun k hk => ?_⟩
      · have := lt_of_cell h0
        rwa [block_of_add] at this
      · rw [hlen] at hk
        rw [hcell k (by omega)]
        have h1 := hnum k (by omega)
        simp only [List.getElem_map, List.getElem_take]
        rw [List.getD_eq_getElem?_getD, List.getElem?_eq_getElem (by omega), Option.getD_some]
        simp only [lmv]
        congr 2
        omega
end Go.Proofs.Ytnmomigaedfdoaa
namespace Go.Proofs.Ytnmomigaedfdoaa
set_option maxRecDepth 100000
open Go.Joins Go.ChangeShapes Go.WideShapes Go.ChangeAt Go.RowKit

theorem nat_of_trod {H : Type} {enc : TypeId × Value → H} {W : World} {base : Nat} {spare : Nat → Bool} {held : Bool} {t : TypeId} {v : Value} {n : Nat} {y : DataW H × List MemPlace}
    (ht : Try.prog.underlying t = some (.slice 82)) (h : DataW.trod enc Try.prog W base spare held n t [v] = some y) : ∃ (A : Option Addr) (c : Nat) (xs : List Nat), v = .slice A xs.length c ∧ Nt W A c xs := by
  have hcs : ∃ A len c, v = .slice A len c := by
    rcases open_ints ht Try.underlying82 (by kernel_rfl) h with ⟨hcs, _⟩ | ⟨x, l, c, zs, hcs, _⟩
    · simp only [List.cons.injEq, and_true] at hcs; exact ⟨_, _, _, hcs⟩
    · simp only [List.cons.injEq, and_true] at hcs; exact ⟨_, _, _, hcs⟩
  obtain ⟨A, len, c, rfl⟩ := hcs
  obtain ⟨y1, y2⟩ := y
  have h2 : DataW.Trod enc Try.prog W base spare held t (.slice A len c) y1 y2 := ⟨n, by simpa [Value.cells] using h⟩
  obtain ⟨xs, rfl, hx⟩ := nt_of_ints ht h2
  exact ⟨A, c, xs, rfl, hx⟩
theorem fx_of_frac {H : Type} {enc : TypeId × Value → H} {W : World} {base b0 : Nat} {r : Reach} {spare : Nat → Bool} {held : Bool} {v : Value} {d : DataW H} {p : List MemPlace}
    (hv : Value.okWide Try.prog W r b0 26 v) (h : DataW.Trod enc Try.prog W base spare held 26 v d p) : ∃ x : Fx, v = x.val ∧ x.ok W := by
  obtain ⟨c0, c1, c2, y0, y1, y2, m, rfl, rfl, rfl, hy0, hy1, hy2⟩ := open_agg3 Try.underlying26 (by kernel_rfl) (by kernel_rfl) hv h
  have hb : ∃ b, c0 = .bool b := by
    obtain ⟨b, hb, _⟩ := DataW.trod_bool Try.underlying4 hy0
    simp only [List.cons.injEq, and_true] at hb
    exact ⟨b, hb⟩
  obtain ⟨b, rfl⟩ := hb
  obtain ⟨A, c, xs, rfl, hA⟩ := nat_of_trod Try.underlying24 hy1
  obtain ⟨D, e, ys, rfl, hD⟩ := nat_of_trod Try.underlying24 hy2
  exact ⟨⟨b, A, c, xs, D, e, ys⟩, rfl, hA, hD⟩
end Go.Proofs.Ytnmomigaedfdoaa
