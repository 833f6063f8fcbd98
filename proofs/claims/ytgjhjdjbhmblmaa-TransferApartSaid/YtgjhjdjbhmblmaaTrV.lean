/- The walks of transfer.Valid, Step. -/
import Derived.Test.YtgjhjdjbhmblmaaTrT
import Derived.Test.YtgjhjdjbhmblmaaFsS
namespace Go.Proofs.Ytgjhjdjbhmblmaa
open Go.RowKit

set_option maxRecDepth 100000 in
set_option maxHeartbeats 1600000 in
theorem tvalid_any (w : World) (A : Option Addr) (n c : Nat) (caps : List Int) (D : Option Addr) (m d : Nat) (ts : List Tm) (b : Bool) (hA : Is w A c caps) (hD : Ts w D d ts) (hn : n = caps.length) (hm : m = ts.length) (h60 : ts.length ≤ 60) (hb : decide (validTr caps (ts.map Tm.tr)) = b) :
    Calls Try.prog 12 #[.slice A n c, .slice D m d] w fun e w' => e = .returned (.bool b) ∧ Below w.heap.size w w' := by
  have HB := Lib.hid hb; clear hb
  have HA := Lib.hid hA; clear hA
  have HD := Lib.hid hD; clear hD
  subst hn hm
  go_enter Try.func12, Try.ntmps12
  go_wp2_with fail
  go_loopw [9] (fun i wr => ∃ k : Nat, k ≤ ts.length ∧ i = .int .i64 k ∧ (∀ t ∈ (ts.map Tm.tr).take k, trOk t) ∧ Below w.heap.size w wr) (fun i _ => ts.length - (intOf i).toNat)
  case atStart => exact ⟨0, by omega, rfl, by intro f hf; simp at hf, Below.refl _ _⟩
  case round =>
    obtain ⟨k, hk, rfl, hF, bw⟩ := hrel
    have HF := Lib.hid hF
    clear hF
    by_cases hlt : k < ts.length
    · have hW := HD.out.below bw
      obtain ⟨ad, rfl, hc0, hc1, hc2, hok⟩ := hW.at k hlt
      have HFE : Hid (ts[k].tr ∈ ts.map Tm.tr) := Lib.hid (List.mem_map_of_mem (List.getElem_mem hlt))
      have HTK : Hid ((ts.map Tm.tr).take (k + 1) = (ts.map Tm.tr).take k ++ [ts[k].tr]) := Lib.hid (by rw [List.take_succ_eq_append_getElem (by simpa using hlt)]; simp)
      obtain ⟨x, hx⟩ : ∃ x, ts[k] = x := ⟨_, rfl⟩
      rw [hx] at hc0 hc1 hc2 HFE HTK
      clear hok hx hW
      go_upto_region 4 with fail
      have tb := (tb_alloc wr x 26).1
      have bb := (tb_alloc wr x 26).2
      clear hc0 hc1 hc2
      generalize (wr.alloc (.cells #[.slice x.A x.ls.length x.c, .int .i64 x.b, .int .i64 x.s] 26)) = wm at tb bb ⊢
      replace bw := below_on bw bb bw.size
      have tc1 := tb.c1
      have tc2 := tb.c2
      clear bb
      have HBAD : Hid (¬ trOk x.tr → b = false) := Lib.hid (by
        intro h
        rw [← HB.out]
        exact decide_eq_false (fun h' => h (h'.1 _ HFE.out)))
      by_cases c1 : 0 ≤ x.b
      · by_cases c2 : x.b ≤ 4096
        · have c2' : decide (4096 < x.b) = false := decide_eq_false (by omega)
          by_cases c3 : 0 ≤ x.s
          · have c3' : decide (x.s < 0) = false := decide_eq_false (by omega)
            by_cases c4 : x.s ≤ 4096
            · have c4' : decide (4096 < x.s) = false := decide_eq_false (by omega)
              have HNX : Hid (∀ t ∈ (ts.map Tm.tr).take (k + 1), trOk t) := Lib.hid (by
                rw [HTK.out]
                intro f hf
                rw [List.mem_append, List.mem_singleton] at hf
                rcases hf with hf | rfl
                · exact HF.out f hf
                · exact ⟨c1, c2, c3, c4⟩)
              clear HBAD HF
              go_wp2_with fail
              go_roundw
              case rel => exact ⟨k + 1, by omega, by go_num, HNX.out, bw⟩
              case measure => simp [intOf]; omega
            · have HBB := Lib.hid (HBAD.out (fun h => c4 h.2.2.2))
              have c4' : decide (4096 < x.s) = true := decide_eq_true (by omega)
              clear HBAD HF
              go_wp2_with fail
              go_ret
              exact ⟨ret_bool HBB.out.symm, bw⟩
          · have HBB := Lib.hid (HBAD.out (fun h => c3 h.2.2.1))
            have c3' : decide (x.s < 0) = true := decide_eq_true (by omega)
            clear HBAD HF
            go_wp2_with fail
            go_ret
            exact ⟨ret_bool HBB.out.symm, bw⟩
        · have HBB := Lib.hid (HBAD.out (fun h => c2 h.2.1))
          have c2' : decide (4096 < x.b) = true := decide_eq_true (by omega)
          clear HBAD HF
          go_wp2_with fail
          go_ret
          exact ⟨ret_bool HBB.out.symm, bw⟩
      · have HBB := Lib.hid (HBAD.out (fun h => c1 h.1))
        have c1' : decide (x.b < 0) = true := decide_eq_true (by omega)
        clear HBAD HF
        go_wp2_with fail
        go_ret
        exact ⟨ret_bool HBB.out.symm, bw⟩
    · have HALL : Hid (∀ t ∈ ts.map Tm.tr, trOk t) := Lib.hid (fun t ht => HF.out t (by rw [List.take_of_length_le (by simp; omega)]; exact ht))
      clear HF
      go_wp2_with fail
      refine (flows0_any _ D _ d ts (HD.out.below bw) rfl h60).mono ?_
      rintro e wn ⟨A', c', rfl, hfw, bb⟩
      have hws := hfw.ws (flowsTo_ok (fun x hx => ((HD.out.below bw).below bb).ok x hx) (fun j _ => by omega))
      replace bw := below_on bw bb bw.size
      have HW := Lib.hid hws
      clear hws hfw bb
      go_wp2_with fail
      refine (fvalid_any _ A _ c caps A' _ c' (flowsTo ts (fun _ => 0) ts.length) b (HA.out.below bw) HW.out rfl (flowsTo_len _ _ _).symm ?_).mono ?_
      · rw [← HB.out, flowsTo_flT]
        apply decide_eq_decide.2
        exact ⟨fun h => ⟨HALL.out, h⟩, fun h => h.2⟩
      rintro e wn' ⟨rfl, bb⟩
      go_wp2_with fail
      go_ret
      exact ⟨rfl, below_on bw bb bw.size⟩
end Go.Proofs.Ytgjhjdjbhmblmaa
