/- NaturalLong, the walk: Parse refuses a text of more than MaxDigits bytes and a number of more than MaxLimbs limbs, as the reference does. -/
import Derived.Test.YtcenpboflecbcaaRefC
import Derived.Test.YtcenpboflecbcaaLawA
namespace Go.Proofs.Ytcenpboflecbcaa
open Go.RowKit

theorem bstr_size (l : List Nat) : (bstr l).size = l.length := by
  show (l.map UInt8.ofNat).toArray.size = l.length
  simp
theorem bl_bstr {l : List Nat} (h : ∀ b ∈ l, b < 256) : bl (bstr l) = l := by
  show ((l.map UInt8.ofNat).toArray.toList).map UInt8.toNat = l
  simp only [List.map_map]
  rw [List.map_congr_left (g := id) (fun b hb => by simp [UInt8.toNat_ofNat']; exact h b hb)]
  simp

set_option maxRecDepth 100000 in
set_option maxHeartbeats 2000000 in
theorem long_walk (w : World) (a b c : Int) (ha : (Lit.int .u8 a).wf = true) (hb : (Lit.int .u8 b).wf = true) (hc : (Lit.int .u16 c).wf = true) :
    Calls Try.prog 3 #[.int .u8 a, .int .u8 b, .int .u16 c] w fun e w' => e = .returned (.bool true) ∧ Below w.heap.size w w' := by
  have ha2 : 0 ≤ a ∧ a ≤ 255 := by simp [Lit.wf, IntKind.min, IntKind.max, IntKind.signed, IntKind.bits] at ha; omega
  have hb2 : 0 ≤ b ∧ b ≤ 255 := by simp [Lit.wf, IntKind.min, IntKind.max, IntKind.signed, IntKind.bits] at hb; omega
  have hc2 : 0 ≤ c ∧ c ≤ 65535 := by simp [Lit.wf, IntKind.min, IntKind.max, IntKind.signed, IntKind.bits] at hc; omega
  clear ha hb hc
  obtain ⟨ha0, ha1⟩ := ha2
  obtain ⟨hb0, hb1'⟩ := hb2
  obtain ⟨hc0, hc1⟩ := hc2
  obtain ⟨L, hL⟩ : ∃ L : Nat, (L : Int) = 5000 + a % 3 := ⟨(5000 + a % 3).toNat, by omega⟩
  have hL1 : 5000 ≤ L ∧ L ≤ 5002 := by omega
  obtain ⟨D, hD⟩ : ∃ D : Nat, (D : Int) = 4920 + c % 30 := ⟨(4920 + c % 30).toNat, by omega⟩
  have hD1 : 4920 ≤ D ∧ D ≤ 4949 := by omega
  have HL := Lib.hid hL
  have HD := Lib.hid hD
  obtain ⟨hL1, hL2⟩ := hL1
  obtain ⟨hD1, hD2⟩ := hD1
  clear hL hD
  obtain ⟨i0, hi, hz0, hz1, hz2⟩ := info_parts u8_info
  go_enter Try.func3, Try.ntmps3
  go_wp2_with (refine wpList_make_rd w (mk := u8v) 0 rfl _ _ 23 rfl 5 i0 1 Try.underlying23 hi hz0 hz1 hz2 rfl .i64 .i64 _ _ L rfl rfl HL.out.symm HL.out.symm (by omega) (by simp only [maxLen]; omega) ?_; intro w1 hg1 hb1 hs1)
  go_loopw [8] (fun i wr => ∃ (k : Nat) (O : List Nat), k ≤ L ∧ i = .int .i64 k ∧ O = List.replicate k 48 ∧ Gr u8v 5 wr (w).heap.size (some ⟨(w).heap.size, 0, none⟩) L (O ++ List.replicate (L - k) 0) ∧ Below (w).heap.size w wr) (fun i _ => L - (intOf i).toNat)
  case atStart => exact ⟨0, [], by omega, rfl, rfl, by simpa using hg1, hb1⟩
  case round =>
    obtain ⟨k, O, hk, rfl, hO, hgr, hbr⟩ := hrel
    have HO := Lib.hid hO
    have hOl : O.length = k := by rw [hO]; simp
    have HOL := Lib.hid hOl
    clear hO hg1 hb1 hs1
    by_cases hlt : k < L
    · have hfree := hgr.free k
      have hcell := hgr.cell k (by rw [List.length_append, List.length_replicate]; omega)
      have HG := Lib.hid hgr
      have HB := Lib.hid hbr
      clear hgr hbr
      go_wp2_with fail
      go_roundw
      case rel => exact ⟨k + 1, O ++ [48], by omega, by go_num, by rw [HO.out, List.replicate_succ'], HG.out.push HOL.out hlt 48, HB.out.setCell (Nat.le_refl _) _⟩
      case measure => simp [intOf]; omega
    · obtain rfl : L = k := by omega
      rw [Nat.sub_self, List.replicate_zero, List.append_nil] at hgr
      have hOO := HO.out
      clear hOl HO HOL
      subst hOO
      obtain ⟨v, hv⟩ : ∃ v : Nat, (v : Int) = 48 + b % 12 := ⟨(48 + b % 12).toNat, by omega⟩
      have hv2 : v < 256 := by omega
      have HV := Lib.hid hv
      clear hv
      have hfree2 := hgr.free (L - 1)
      have hcell2 := hgr.cell (L - 1) (by rw [List.length_replicate]; omega)
      have hb3 : Below w.heap.size w (wr.setCell ⟨w.heap.size, L - 1, none⟩ (.int .u8 (48 + b % 12))) := hbr.setCell (Nat.le_refl _) _
      have hg3 : Gr u8v 5 (wr.setCell ⟨w.heap.size, L - 1, none⟩ (.int .u8 (48 + b % 12))) w.heap.size (some ⟨w.heap.size, 0, none⟩) L ((List.replicate L 48).set (L - 1) v) := by
        rw [← HV.out]; exact hgr.store (L - 1) v
      obtain ⟨l1, hl1⟩ : ∃ l1, l1 = (List.replicate L 48).set (L - 1) v := ⟨_, rfl⟩
      rw [← hl1] at hg3
      have hlen1 : l1.length = L := by rw [hl1]; simp
      have hsm1 : ∀ x ∈ l1, x < 256 := by
        intro x hx
        rw [hl1] at hx
        rcases List.mem_or_eq_of_mem_set hx with hx | rfl
        · have := List.eq_of_mem_replicate hx; omega
        · exact hv2
      have hconv := run_bytes_text (c := L) hg3.rd
      rw [hlen1] at hconv
      have HL1 := Lib.hid hlen1
      have HS1 := Lib.hid hsm1
      clear hl1 hlen1 hsm1 hgr hbr
      go_wp2_with fail
      clear hconv
      revert hb3 hg3
      generalize (wr.setCell ⟨w.heap.size, L - 1, none⟩ (.int .u8 (48 + b % 12))) = w3
      intro hb3 hg3
      obtain ⟨⟨R1, E1⟩, hR1⟩ : ∃ p, parseS (bl (bstr l1)) = p := ⟨_, rfl⟩
      have HR1 := Lib.hid hR1
      have hsz1 : (bstr l1).size ≤ 9223372036854775807 := by rw [bstr_size, HL1.out]; omega
      clear hR1
      refine (parse_any w3 (bstr l1) R1 E1 hsz1 HR1.out).mono ?_
      rintro e w4 ⟨A4, c4, rfl, n4, b4⟩
      have hconv := run_bytes_text (c := L) (hg3.below b4).rd
      rw [HL1.out] at hconv
      have bw := below_on hb3 b4 hb3.size
      clear n4 b4 hg3 hb3
      go_wp2_with fail
      clear hconv
      refine (rparse_any w4 (bstr l1) R1 E1 hsz1 HR1.out).mono ?_
      rintro e w5 ⟨A5, c5, rfl, n5, b5⟩
      have bw5 := below_on bw b5 bw.size
      clear n5 b5 bw hsz1
      go_wp2_with (refine wpList_make_rd w5 (mk := u8v) 0 rfl _ _ 23 rfl 5 i0 1 Try.underlying23 hi hz0 hz1 hz2 rfl .i64 .i64 _ _ D rfl rfl HD.out.symm HD.out.symm (by omega) (by simp only [maxLen]; omega) ?_; intro w1 hg1 hb1 hs1)
      go_loopw [14] (fun i wr => ∃ (k : Nat) (O : List Nat), k ≤ D ∧ i = .int .i64 k ∧ O = List.replicate k 57 ∧ Gr u8v 5 wr (w5).heap.size (some ⟨(w5).heap.size, 0, none⟩) D (O ++ List.replicate (D - k) 0) ∧ Below (w5).heap.size w5 wr) (fun i _ => D - (intOf i).toNat)
      case atStart => exact ⟨0, [], by omega, rfl, rfl, by simpa using hg1, hb1⟩
      case round =>
        obtain ⟨k, O, hk, rfl, hO, hgr, hbr⟩ := hrel
        have HO := Lib.hid hO
        have hOl : O.length = k := by rw [hO]; simp
        have HOL := Lib.hid hOl
        clear hO hg1 hb1 hs1
        by_cases hlt : k < D
        · have hfree := hgr.free k
          have hcell := hgr.cell k (by rw [List.length_append, List.length_replicate]; omega)
          have HG := Lib.hid hgr
          have HB := Lib.hid hbr
          clear hgr hbr
          go_wp2_with fail
          go_roundw
          case rel => exact ⟨k + 1, O ++ [57], by omega, by go_num, by rw [HO.out, List.replicate_succ'], HG.out.push HOL.out hlt 57, HB.out.setCell (Nat.le_refl _) _⟩
          case measure => simp [intOf]; omega
        · obtain rfl : D = k := by omega
          rw [Nat.sub_self, List.replicate_zero, List.append_nil] at hgr
          have hOO := HO.out
          clear hOl HO HOL
          subst hOO
          obtain ⟨l2, hl2⟩ : ∃ l2, l2 = List.replicate D 57 := ⟨_, rfl⟩
          rw [← hl2] at hgr
          have hlen2 : l2.length = D := by rw [hl2]; simp
          have hconv := run_bytes_text (c := D) hgr.rd
          rw [hlen2] at hconv
          have HL2 := Lib.hid hlen2
          have bw6 := below_on bw5 hbr bw5.size
          clear hl2 hlen2 hbr bw5
          go_wp2_with fail
          clear hconv
          obtain ⟨⟨R2, E2⟩, hR2⟩ : ∃ p, parseS (bl (bstr l2)) = p := ⟨_, rfl⟩
          have HR2 := Lib.hid hR2
          have hsz2 : (bstr l2).size ≤ 9223372036854775807 := by rw [bstr_size, HL2.out]; omega
          clear hR2
          refine (parse_any wr (bstr l2) R2 E2 hsz2 HR2.out).mono ?_
          rintro e w7 ⟨A7, c7, rfl, n7, b7⟩
          have hconv := run_bytes_text (c := D) (hgr.below b7).rd
          rw [HL2.out] at hconv
          have bw7 := below_on bw6 b7 bw6.size
          clear b7 hgr bw6
          go_wp2_with fail
          clear hconv
          refine (rparse_any w7 (bstr l2) R2 E2 hsz2 HR2.out).mono ?_
          rintro e w8 ⟨A8, c8, rfl, n8, b8⟩
          have bw := below_on bw7 b8 bw7.size
          have n7' := n7.below b8
          clear n7 b8 bw7
          go_wp2_with fail
          refine (same_any w8 A7 A8 c7 c8 _ _ R2 R2 true n7' n8 rfl rfl (decide_eq_true rfl)).mono ?_
          rintro e w9 ⟨rfl, qq⟩
          replace bw := below_on bw qq.keep bw.size
          clear qq n7' n8
          go_wp2_with fail
          refine (awake_any _).mono ?_
          rintro e wn ⟨rfl, bb⟩
          replace bw := below_on bw bb bw.size
          go_wp2_with fail
          go_ret
          exact ⟨rfl, bw⟩
end Go.Proofs.Ytcenpboflecbcaa
