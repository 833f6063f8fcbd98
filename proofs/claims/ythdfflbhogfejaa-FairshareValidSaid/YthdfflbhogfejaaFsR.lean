/- The walk of the reference's Valid of flows. -/
import Derived.Test.YthdfflbhogfejaaFsV
namespace Go.Proofs.Ythdfflbhogfejaa
open Go.RowKit

set_option maxRecDepth 100000 in
set_option maxHeartbeats 1600000 in
theorem rvalid_any (w : World) (A : Option Addr) (n c : Nat) (caps : List Int) (D : Option Addr) (m d : Nat) (fs : List Fm) (b : Bool) (hA : Is w A c caps) (hD : Ws w D d fs) (hn : n = caps.length) (hm : m = fs.length) (hb : decide (validFl caps (fs.map Fm.fl)) = b) :
    Calls Try.prog 16 #[.slice A n c, .slice D m d] w fun e w' => e = .returned (.bool b) ∧ w = w' := by
  have HB := Lib.hid hb; clear hb
  have HA := Lib.hid hA; clear hA
  have HD := Lib.hid hD; clear hD
  subst hn hm
  by_cases hl1 : caps.length ≤ 64
  · by_cases hl2 : fs.length ≤ 48
    · go_enter Try.func16, Try.ntmps16
      go_wp2_with fail
      go_loop [5] (fun i => ∃ k : Nat, k ≤ caps.length ∧ i = .int .i64 k ∧ capsOk (caps.take k)) (fun i => caps.length - (intOf i).toNat)
      case atStart => exact ⟨0, by omega, rfl, by intro c hc; simp at hc⟩
      case round =>
        obtain ⟨k, hk, rfl, ha⟩ := hrel
        have HC := Lib.hid ha
        clear ha
        by_cases hlt : k < caps.length
        · obtain ⟨ad, rfl, _, hcc⟩ := HA.out.at k hlt
          have HBAD : Hid (¬ (0 ≤ caps[k] ∧ caps[k] ≤ 4096) → b = false) := Lib.hid (by
            intro h
            rw [← HB.out]
            exact decide_eq_false (fun h' => h (h'.2.2.1 _ (List.getElem_mem hlt))))
          by_cases c1 : 0 ≤ caps[k]
          · by_cases c2 : caps[k] ≤ 4096
            · have HNX : Hid (capsOk (caps.take (k + 1))) := Lib.hid (by
                intro c hc
                rw [List.take_succ_eq_append_getElem hlt, List.mem_append] at hc
                rcases hc with hc | hc
                · exact HC.out c hc
                · rw [List.mem_singleton] at hc; rw [hc]; exact ⟨c1, c2⟩)
              have c2' : decide (4096 < caps[k]) = false := decide_eq_false (by omega)
              clear HC HBAD
              go_wp2_with fail
              go_round
              case rel => exact ⟨k + 1, by omega, by go_num, HNX.out⟩
              case measure => simp [intOf]; omega
            · have HBB := Lib.hid (HBAD.out (fun h => c2 h.2))
              have c2' : decide (4096 < caps[k]) = true := decide_eq_true (by omega)
              clear HC HBAD
              go_wp2_with fail
              go_ret
              exact ⟨ret_bool HBB.out.symm, rfl⟩
          · have HBB := Lib.hid (HBAD.out (fun h => c1 h.1))
            have c1' : decide (caps[k] < 0) = true := decide_eq_true (by omega)
            clear HC HBAD
            go_wp2_with fail
            go_ret
            exact ⟨ret_bool HBB.out.symm, rfl⟩
        · have HCA : Hid (capsOk caps) := Lib.hid (by have := HC.out; rwa [List.take_of_length_le (by omega)] at this)
          clear HC
          go_wp2_with fail
          go_loop [6] (fun i => ∃ k : Nat, k ≤ fs.length ∧ i = .int .i64 k ∧ (∀ f ∈ (fs.map Fm.fl).take k, flOk caps.length f)) (fun i => fs.length - (intOf i).toNat)
          case atStart => exact ⟨0, by omega, rfl, by intro f hf; simp at hf⟩
          case round =>
            obtain ⟨k, hk, rfl, hF⟩ := hrel
            have HF := Lib.hid hF
            clear hF
            by_cases hlt : k < fs.length
            · obtain ⟨ad, rfl, _, hcc⟩ := HD.out.rd (by omega)
              obtain ⟨hc0, hc1⟩ := hcc k hlt
              have hok := HD.out.ok _ (List.getElem_mem hlt)
              have HFE : Hid (fs[k].fl ∈ fs.map Fm.fl) := Lib.hid (List.mem_map_of_mem (List.getElem_mem hlt))
              have HTK : Hid ((fs.map Fm.fl).take (k + 1) = (fs.map Fm.fl).take k ++ [fs[k].fl]) := Lib.hid (by rw [List.take_succ_eq_append_getElem (by simpa using hlt)]; simp)
              obtain ⟨x, hx⟩ : ∃ x, fs[k] = x := ⟨_, rfl⟩
              rw [hx] at hc0 hc1 hok HFE HTK
              have HOK := Lib.hid hok
              clear hcc hx hok
              have HBADM : Hid (¬ (0 ≤ x.m ∧ x.m ≤ 4096) → b = false) := Lib.hid (by
                intro h
                rw [← HB.out]
                exact decide_eq_false (fun h' => h ⟨(h'.2.2.2 _ HFE.out).1, (h'.2.2.2 _ HFE.out).2.1⟩))
              by_cases m1 : 0 ≤ x.m
              · by_cases m2 : x.m ≤ 4096
                · have HCM : Hid (0 ≤ x.m ∧ x.m ≤ 4096) := Lib.hid ⟨m1, m2⟩
                  have m2' : decide (4096 < x.m) = false := decide_eq_false (by omega)
                  clear HBADM
                  go_wp2_with fail
                  go_loop [7] (fun i => ∃ k : Nat, k ≤ x.ls.length ∧ i = .int .i64 k ∧ LinksTo caps.length x.ls k) (fun i => x.ls.length - (intOf i).toNat)
                  case atStart => exact ⟨0, by omega, rfl, by intro i _ h0; omega⟩
                  case round =>
                    obtain ⟨j, hj, rfl, hL⟩ := hrel
                    have HL := Lib.hid hL
                    clear hL
                    by_cases hjt : j < x.ls.length
                    · obtain ⟨ae, hae, _, hce⟩ := HOK.out.is.at j hjt
                      have hjm := HOK.out.is.len
                      have HBAD : Hid (¬ (0 ≤ x.ls[j] ∧ x.ls[j] < caps.length ∧ (∀ h0 : 0 < j, x.ls[j - 1] < x.ls[j])) → b = false) := Lib.hid (by
                        intro h
                        rw [← HB.out]
                        exact decide_eq_false (fun h' => not_links hjt h (h'.2.2.2 _ HFE.out).2.2))
                      by_cases c1 : 0 ≤ x.ls[j]
                      · by_cases c2 : x.ls[j] < caps.length
                        · have c2' : decide ((caps.length : Int) ≤ x.ls[j]) = false := decide_eq_false (by omega)
                          rcases j with _ | j
                          · rw [add_at0] at hce
                            have HNX : Hid (LinksTo caps.length x.ls (0 + 1)) := Lib.hid (HL.out.step hjt c1 c2 (fun h0 => by omega))
                            clear HBAD HL
                            go_wp2_with fail
                            go_round
                            case rel => exact ⟨0 + 1, by omega, by go_num, HNX.out⟩
                            case measure => simp [intOf]; omega
                          · rw [add_at1] at hce
                            obtain ⟨af, haf, _, hcf⟩ := HOK.out.is.at j (by omega)
                            rw [hae] at haf
                            injection haf with haf
                            subst haf
                            by_cases c4 : x.ls[j] < x.ls[j + 1]
                            · have HNX : Hid (LinksTo caps.length x.ls (j + 1 + 1)) := Lib.hid (HL.out.step hjt c1 c2 (fun h0 => c4))
                              have c4' : decide (x.ls[j + 1] ≤ x.ls[j]) = false := decide_eq_false (by omega)
                              clear HBAD HL
                              go_wp2_with fail
                              go_round
                              case rel => exact ⟨j + 1 + 1, by omega, by go_num, HNX.out⟩
                              case measure => simp [intOf]; omega
                            · have HBB := Lib.hid (HBAD.out (fun h => c4 (h.2.2 (by omega))))
                              have c4' : decide (x.ls[j + 1] ≤ x.ls[j]) = true := decide_eq_true (by omega)
                              clear HBAD HL
                              go_wp2_with fail
                              go_ret
                              exact ⟨ret_bool HBB.out.symm, rfl⟩
                        · have HBB := Lib.hid (HBAD.out (fun h => c2 h.2.1))
                          have c2' : decide ((caps.length : Int) ≤ x.ls[j]) = true := decide_eq_true (by omega)
                          clear HBAD HL
                          rcases j with _ | j
                          · rw [add_at0] at hce
                            go_wp2_with fail
                            go_ret
                            exact ⟨ret_bool HBB.out.symm, rfl⟩
                          · rw [add_at1] at hce
                            go_wp2_with fail
                            go_ret
                            exact ⟨ret_bool HBB.out.symm, rfl⟩
                      · have HBB := Lib.hid (HBAD.out (fun h => c1 h.1))
                        have c1' : decide (x.ls[j] < 0) = true := decide_eq_true (by omega)
                        clear HBAD HL
                        rcases j with _ | j
                        · rw [add_at0] at hce
                          go_wp2_with fail
                          go_ret
                          exact ⟨ret_bool HBB.out.symm, rfl⟩
                        · rw [add_at1] at hce
                          go_wp2_with fail
                          go_ret
                          exact ⟨ret_bool HBB.out.symm, rfl⟩
                    · have HNX : Hid (∀ f ∈ (fs.map Fm.fl).take (k + 1), flOk caps.length f) := Lib.hid (by
                        rw [HTK.out]
                        intro f hf
                        rw [List.mem_append, List.mem_singleton] at hf
                        rcases hf with hf | rfl
                        · exact HF.out f hf
                        · exact ⟨HCM.out.1, HCM.out.2, fun i hi => HL.out i hi (by show i < j; have : x.fl.1.length = x.ls.length := rfl; omega)⟩)
                      clear HL
                      go_wp2_with fail
                      go_round
                      case rel => exact ⟨k + 1, by omega, by go_num, HNX.out⟩
                      case measure => simp [intOf]; omega
                · have HBB := Lib.hid (HBADM.out (fun h => m2 h.2))
                  have m2' : decide (4096 < x.m) = true := decide_eq_true (by omega)
                  clear HBADM
                  go_wp2_with fail
                  go_ret
                  exact ⟨ret_bool HBB.out.symm, rfl⟩
              · have HBB := Lib.hid (HBADM.out (fun h => m1 h.1))
                have m1' : decide (x.m < 0) = true := decide_eq_true (by omega)
                clear HBADM
                go_wp2_with fail
                go_ret
                exact ⟨ret_bool HBB.out.symm, rfl⟩
            · have HBB : Hid (b = true) := Lib.hid (by
                rw [← HB.out]
                refine decide_eq_true ⟨hl1, by simpa using hl2, HCA.out, fun f hf => ?_⟩
                have := HF.out f (by rw [List.take_of_length_le (by simp; omega)]; exact hf)
                exact this)
              go_wp2_with fail
              go_ret
              exact ⟨ret_bool HBB.out.symm, rfl⟩
    · have h2 : decide (48 < fs.length) = true := decide_eq_true (by omega)
      have HBB : Hid (b = false) := Lib.hid (by rw [← HB.out]; exact decide_eq_false (fun h => hl2 (by simpa using h.2.1)))
      go_enter Try.func16, Try.ntmps16
      go_wp2_with fail
      go_ret
      exact ⟨ret_bool HBB.out.symm, rfl⟩
  · have h2 : decide (64 < caps.length) = true := decide_eq_true (by omega)
    have HBB : Hid (b = false) := Lib.hid (by rw [← HB.out]; exact decide_eq_false (fun h => hl1 h.1))
    go_enter Try.func16, Try.ntmps16
    go_wp2_with fail
    go_ret
    exact ⟨ret_bool HBB.out.symm, rfl⟩
end Go.Proofs.Ythdfflbhogfejaa
