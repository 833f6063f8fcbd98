/- The walks of natural.subtract and natural.restore. -/
import Derived.Test.YtnmomigaedfdoaaNatD
namespace Go.Proofs.Ytnmomigaedfdoaa
set_option maxRecDepth 100000
open Go.RowKit

theorem set_mid {P S T : List Nat} {i x : Nat} (h : i < S.length) : (P ++ S ++ T).set (P.length + i) x = P ++ S.set i x ++ T := by
  rw [List.append_assoc, List.set_append_right _ _ (by omega), Nat.add_sub_cancel_left, List.set_append_left _ _ h, List.append_assoc]
theorem get_mid {P S T : List Nat} {i : Nat} (h : i < S.length) (h2 : P.length + i < (P ++ S ++ T).length) : (P ++ S ++ T)[P.length + i] = S[i] := by
  rw [List.getElem_append_left (by simp; omega), List.getElem_append_right (by omega)]
  simp
theorem and_low (C : Nat) (h : C < 18446744073709551616) : bits .and .u64 (C : Int) 4294967295 = ((C % 4294967296 : Nat) : Int) := by
  have h1 := u64_and_nat C 4294967295 h (by omega)
  have h2 : C &&& 4294967295 = C % 4294967296 := Nat.and_two_pow_sub_one_eq_mod C 32
  rw [h2] at h1
  exact h1
theorem SbInv.last {S V O : List Nat} {f n C B : Nat} (h : SbInv S V f n C B O) (hn : n = V.length) (hS : S.length = n + 1) (hnO : n < O.length) (x B' : Nat) (hx : x < 4294967296) (hs : x + C + B = O[n] + 4294967296 * B') :
    (O.set n x).length = n + 1 ∧ U32 (O.set n x) ∧ nv (O.set n x) + f * nv V = nv S + pw (n + 1) * B' := by
  obtain ⟨h1, h2, h3, h4, h5, h6⟩ := h
  subst hn
  have e := h5 V.length hnO (by omega) (Nat.le_refl _)
  rw [List.take_length] at h6
  refine ⟨by simp; omega, h2.set _ hx, ?_⟩
  have e1 := nv_at (O.set V.length x) V.length (by simpa using hnO)
  have e2 := nv_at S V.length (by omega)
  rw [List.drop_eq_nil_of_le (by simp; omega), nv_nil, Nat.mul_zero, Nat.add_zero, List.take_set_of_le (Nat.le_refl _), List.getElem_set_self] at e1
  rw [List.drop_eq_nil_of_le (by omega), nv_nil, Nat.mul_zero, Nat.add_zero, ← e] at e2
  rw [e1, e2, pw_succ]
  grind
theorem RsInv.last {S V O : List Nat} {n C : Nat} (h : RsInv S V n C O) (hn : n = V.length) (hS : S.length = n + 1) (hnO : n < O.length) :
    (O.set n ((O[n] + C) % 4294967296)).length = n + 1 ∧ U32 (O.set n ((O[n] + C) % 4294967296)) ∧ ∃ k, nv (O.set n ((O[n] + C) % 4294967296)) + pw (n + 1) * k = nv S + nv V := by
  obtain ⟨h1, h2, h3, h5, h6⟩ := h
  subst hn
  have e := h5 V.length hnO (by omega) (Nat.le_refl _)
  rw [List.take_length] at h6
  refine ⟨by simp; omega, h2.set _ (by omega), (O[V.length] + C) / 4294967296, ?_⟩
  have e1 := nv_at (O.set V.length ((O[V.length] + C) % 4294967296)) V.length (by simpa using hnO)
  have e2 := nv_at S V.length (by omega)
  rw [List.drop_eq_nil_of_le (by simp; omega), nv_nil, Nat.mul_zero, Nat.add_zero, List.take_set_of_le (Nat.le_refl _), List.getElem_set_self] at e1
  rw [List.drop_eq_nil_of_le (by omega), nv_nil, Nat.mul_zero, Nat.add_zero, ← e] at e2
  have hd := Nat.div_add_mod (O[V.length] + C) 4294967296
  rw [e1, e2, pw_succ]
  grind

/-- what a call leaves that writes into block g alone -/
theorem grownBy_setCell {w w' : World} {g : Nat} (h : w.grownBy w' (some g)) (i : Nat) (v : Value) : w.grownBy (w'.setCell ⟨g, i, none⟩ v) (some g) :=
  ⟨h.os, h.tape, h.output, by simpa [World.setCell] using h.size, fun k hk hne => (Below.heap_setCell _ _ _ _ (fun e => hne (by rw [e]))).trans (h.block k hk hne)⟩

theorem sub2b_div {x c b : Nat} (hx : x < 4294967296) (hc : c < 4294967296) (hb : b ≤ 1) : IntKind.u64.wrap (IntKind.u64.wrap ((x : Int) - c) - b) / 9223372036854775808 = ((bor x c b : Nat) : Int) := by
  rw [IntKind.wrap_u64, IntKind.wrap_u64]; unfold bor; split <;> omega
theorem sub2b_mod {x c b : Nat} (hx : x < 4294967296) (hc : c < 4294967296) (hb : b ≤ 1) : IntKind.u64.wrap (IntKind.u64.wrap ((x : Int) - c) - b) % 4294967296 = ((dig x c b : Nat) : Int) := by
  rw [IntKind.wrap_u64, IntKind.wrap_u64]; unfold dig bor; split <;> omega

theorem castpar (v o p : Nat) : ((v : Int) + (o : Int) * p) = ((v + o * p : Nat) : Int) := by rw [Int.natCast_add, Int.natCast_mul]
theorem castpar_div (v o p : Nat) : ((v : Int) + (o : Int) * p) / 4294967296 = (((v + o * p) / 4294967296 : Nat) : Int) := by rw [castpar, cast_div]
theorem cast_add3_div (a b c : Nat) : ((a : Int) + ((b : Int) + c)) / 4294967296 = (((a + (b + c)) / 4294967296 : Nat) : Int) := by omega
theorem cast_add3_mod (a b c : Nat) : ((a : Int) + ((b : Int) + c)) % 4294967296 = (((a + (b + c)) % 4294967296 : Nat) : Int) := by omega

set_option maxHeartbeats 1000000 in
theorem subtract_any (w : World) (B g j cap cc n f d : Nat) (D : Option Addr) (P S T V : List Nat) (hg : Gr lmv 82 w B (some ⟨g, 0, none⟩) cap (P ++ S ++ T)) (hu : U32 (P ++ S ++ T)) (hv : Nt w D d V) (hne : ∀ ad, D = some ad → ad.block ≠ g)
    (hP : P.length = j) (hS : S.length = n + 1) (hV : V.length = n) (hf : f < 4294967296) (hn : n ≤ 1000000) :
    Calls Try.prog 113 #[.slice (some ⟨g, j, none⟩) (n + 1) cc, .slice D n d, .int .u64 (f : Int)] w fun e w' => ∃ (S' : List Nat) (neg : Nat), e = .returned (.bool (decide (neg = 1))) ∧ neg ≤ 1 ∧ S'.length = n + 1 ∧ U32 S' ∧
      nv S' + f * nv V = nv S + pw (n + 1) * neg ∧ Gr lmv 82 w' B (some ⟨g, 0, none⟩) cap (P ++ S' ++ T) ∧ w.grownBy w' (some g) := by
  have HP := Lib.hid hP
  have HS := Lib.hid hS
  have HV := Lib.hid hV
  have hSu : U32 S := fun x hx => hu x (List.mem_append.2 (.inl (List.mem_append.2 (.inr hx))))
  clear hu hP hS hV
  go_enter Try.func113, Try.ntmps113
  go_wp2_with fail
  go_loopw [7, 8, 15] (fun cy bo iv wr => ∃ (i C b : Nat) (O : List Nat), i ≤ n ∧ iv = .int .i64 i ∧ cy = .int .u64 C ∧ bo = .int .u64 b ∧ SbInv S V f i C b O ∧ Gr lmv 82 wr B (some ⟨g, 0, none⟩) cap (P ++ O ++ T) ∧ w.grownBy wr (some g)) (fun _ _ iv _ => n - (intOf iv).toNat)
  case atStart => exact ⟨0, 0, 0, S, by omega, rfl, rfl, rfl, SbInv.start V f hSu, hg, World.grownBy.refl _ _⟩
  case round =>
    obtain ⟨i, C, b, O, hi, rfl, rfl, rfl, hinv, hgr, hgb⟩ := hrel
    have HI := Lib.hid hinv
    have hC : C < 4294967296 := hinv.2.2.1
    have hb : b ≤ 1 := hinv.2.2.2.1
    have hOu := hinv.2.1
    have HOL := Lib.hid hinv.1
    clear hinv
    have HG := Lib.hid hgr
    have HB := Lib.hid hgb
    by_cases hlt : i < n
    · have hiV : i < V.length := by have := HV.out; omega
      have hiO : i < O.length := by have := HOL.out; have := HS.out; omega
      obtain ⟨adV, hadV, hbV, hcV, hvV⟩ := (hv.grown hgb (fun _ ad e e2 => hne ad e (by injection e2))).at i hiV
      subst hadV
      have hcell0 := hgr.cell (P.length + i) (by simp; omega)
      rw [get_mid hiO] at hcell0
      rw [HP.out] at hcell0
      have hfree := hgr.free (j + i)
      have hxO := hOu.at i hiO
      have hbd := sb_bound hf hvV hC
      obtain ⟨hbd1, hbd2⟩ := hbd
      clear hgr hgb hOu
      go_wp2_with fail
      have hand : bits .and .u64 ((C : Int) + (f : Int) * V[i]) 4294967295 = (((C + f * V[i]) % 4294967296 : Nat) : Int) := by
        rw [castpar]; exact and_low _ hbd1
      have hm : (C + f * V[i]) % 4294967296 < 4294967296 := Nat.mod_lt _ (by omega)
      have hbg := bor_dig hxO hm hb
      go_roundw
      case rel => exact ⟨i + 1, _, _, _, by omega, by go_num, by rw [castpar_div], by rw [hand, sub2b_div hxO hm hb], HI.out.step hf hv.u hiV hiO _ _ hbg.1 hbg.2.1 (by rw [← hbg.2.2]; omega),
        by rw [hand, sub2b_mod hxO hm hb, ← set_mid hiO, HP.out]; exact HG.out.store _ _, grownBy_setCell HB.out _ _⟩
      case measure => simp [intOf]; omega
    · obtain rfl : i = n := by omega
      have hiO : i < O.length := by have := HOL.out; have := HS.out; omega
      have hcell0 := hgr.cell (P.length + i) (by simp; omega)
      rw [get_mid hiO] at hcell0
      rw [HP.out] at hcell0
      have hfree := hgr.free (j + i)
      have hxO := hOu.at i hiO
      clear hgr hgb hOu
      go_wp2_with fail
      go_ret
      have hbg := bor_dig hxO hC hb
      have hlast := HI.out.last HV.out.symm HS.out hiO _ _ hbg.1 (by rw [← hbg.2.2]; omega)
      refine ⟨_, bor O[i] C b, ?_, hbg.2.1, hlast.1, hlast.2.1, hlast.2.2, ?_, grownBy_setCell HB.out _ _⟩
      · apply ret_bool
        show (_ == _) = _
        rw [sub2b_div hxO hC hb]
        rcases Nat.lt_or_ge (bor O[i] C b) 1 with h1 | h1
        · have : bor O[i] C b = 0 := by omega
          rw [this]; rfl
        · have : bor O[i] C b = 1 := by omega
          rw [this]; rfl
      · rw [sub2b_mod hxO hC hb, ← set_mid hiO, HP.out]; exact HG.out.store _ _

set_option maxHeartbeats 1000000 in
theorem restore_any (w : World) (B g j cap cc n d : Nat) (D : Option Addr) (P S T V : List Nat) (hg : Gr lmv 82 w B (some ⟨g, 0, none⟩) cap (P ++ S ++ T)) (hu : U32 (P ++ S ++ T)) (hv : Nt w D d V) (hne : ∀ ad, D = some ad → ad.block ≠ g)
    (hP : P.length = j) (hS : S.length = n + 1) (hV : V.length = n) (hn : n ≤ 1000000) :
    Calls Try.prog 114 #[.slice (some ⟨g, j, none⟩) (n + 1) cc, .slice D n d] w fun e w' => ∃ S' : List Nat, e = .returned (.tuple #[]) ∧ S'.length = n + 1 ∧ U32 S' ∧
      (∃ k, nv S' + pw (n + 1) * k = nv S + nv V) ∧ Gr lmv 82 w' B (some ⟨g, 0, none⟩) cap (P ++ S' ++ T) ∧ w.grownBy w' (some g) := by
  have HP := Lib.hid hP
  have HS := Lib.hid hS
  have HV := Lib.hid hV
  have hSu : U32 S := fun x hx => hu x (List.mem_append.2 (.inl (List.mem_append.2 (.inr hx))))
  clear hu hP hS hV
  go_enter Try.func114, Try.ntmps114
  go_wp2_with fail
  go_loopw [4, 9] (fun cy iv wr => ∃ (i C : Nat) (O : List Nat), i ≤ n ∧ iv = .int .i64 i ∧ cy = .int .u64 C ∧ RsInv S V i C O ∧ Gr lmv 82 wr B (some ⟨g, 0, none⟩) cap (P ++ O ++ T) ∧ w.grownBy wr (some g)) (fun _ iv _ => n - (intOf iv).toNat)
  case atStart => exact ⟨0, 0, S, by omega, rfl, rfl, RsInv.start V hSu, hg, World.grownBy.refl _ _⟩
  case round =>
    obtain ⟨i, C, O, hi, rfl, rfl, hinv, hgr, hgb⟩ := hrel
    have HI := Lib.hid hinv
    have hC : C ≤ 1 := hinv.2.2.1
    have hOu := hinv.2.1
    have HOL := Lib.hid hinv.1
    clear hinv
    have HG := Lib.hid hgr
    have HB := Lib.hid hgb
    have hiO : i < O.length := by have := HOL.out; have := HS.out; omega
    have hcell0 := hgr.cell (P.length + i) (by simp; omega)
    rw [get_mid hiO] at hcell0
    rw [HP.out] at hcell0
    have hfree := hgr.free (j + i)
    have hxO := hOu.at i hiO
    by_cases hlt : i < n
    · have hiV : i < V.length := by have := HV.out; omega
      obtain ⟨adV, hadV, hbV, hcV, hvV⟩ := (hv.grown hgb (fun _ ad e e2 => hne ad e (by injection e2))).at i hiV
      subst hadV
      clear hgr hgb hOu
      go_wp2_with fail
      go_roundw
      case rel => exact ⟨i + 1, _, _, by omega, by go_num, by rw [cast_add3_div], HI.out.step hv.u hiV hiO,
        by rw [cast_add3_mod, ← set_mid hiO, HP.out]; exact HG.out.store _ _, grownBy_setCell HB.out _ _⟩
      case measure => simp [intOf]; omega
    · obtain rfl : i = n := by omega
      clear hgr hgb hOu
      go_wp2_with fail
      go_end0
      have hlast := HI.out.last HV.out.symm HS.out hiO
      exact ⟨_, rfl, hlast.1, hlast.2.1, hlast.2.2, by rw [cast_sum2_mod, ← set_mid hiO, HP.out]; exact HG.out.store _ _, grownBy_setCell HB.out _ _⟩
end Go.Proofs.Ytnmomigaedfdoaa
