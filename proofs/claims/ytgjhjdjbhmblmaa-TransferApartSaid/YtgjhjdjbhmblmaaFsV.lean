/- The walks of fairshare.capacity, fairshare.Valid and the reference's Valid. -/
import Derived.Test.YtgjhjdjbhmblmaaFsB
import Derived.Deep.RegionHeld3
namespace Go.Proofs.Ytgjhjdjbhmblmaa
open Go.RowKit

theorem capacity_any (w : World) (n : Int) (b : Bool) (hb : decide (0 ≤ n ∧ n ≤ 4096) = b) : Calls Try.prog 38 #[.int .i64 n] w fun e w' => e = .returned (.bool b) ∧ w = w' := by
  have HB := Lib.hid hb
  clear hb
  by_cases h0 : 0 ≤ n
  · by_cases h1 : n ≤ 4096
    · go_enter Try.func38, Try.ntmps38
      go_wp2_with fail
      go_ret
      exact ⟨ret_bool (by rw [← HB.out]; simp [h0, h1]), rfl⟩
    · have h1' : decide (n ≤ 4096) = false := decide_eq_false h1
      go_enter Try.func38, Try.ntmps38
      go_wp2_with fail
      go_ret
      exact ⟨ret_bool (by rw [← HB.out]; simp [h1]), rfl⟩
  · have h0' : decide (0 ≤ n) = false := decide_eq_false h0
    go_enter Try.func38, Try.ntmps38
    go_wp2_with fail
    go_ret
    exact ⟨ret_bool (by rw [← HB.out]; simp; omega), rfl⟩

def capsOk (caps : List Int) : Prop := ∀ c ∈ caps, 0 ≤ c ∧ c ≤ 4096
def flOk (n : Nat) (f : Fl) : Prop := 0 ≤ f.2 ∧ f.2 ≤ 4096 ∧ LinksOk n f.1
def LinksTo (n : Nat) (ls : List Int) (k : Nat) : Prop := ∀ i (h : i < ls.length), i < k → 0 ≤ ls[i] ∧ ls[i] < n ∧ (∀ h0 : 0 < i, ls[i - 1] < ls[i])
theorem LinksTo.step {n : Nat} {ls : List Int} {k : Nat} (h : LinksTo n ls k) (hk : k < ls.length) (h1 : 0 ≤ ls[k]) (h2 : ls[k] < n) (h3 : ∀ h0 : 0 < k, ls[k - 1] < ls[k]) : LinksTo n ls (k + 1) := by
  intro i hi hik
  rcases Nat.lt_or_ge i k with h4 | h4
  · exact h i hi h4
  · have : i = k := by omega
    subst this
    exact ⟨h1, h2, h3⟩
theorem not_links {n : Nat} {ls : List Int} {k : Nat} (hk : k < ls.length) (h : ¬ (0 ≤ ls[k] ∧ ls[k] < n ∧ (∀ h0 : 0 < k, ls[k - 1] < ls[k]))) : ¬ LinksOk n ls := fun h' => h (h' k hk)

set_option maxRecDepth 100000 in
set_option maxHeartbeats 1600000 in
theorem fvalid_any (w : World) (A : Option Addr) (n c : Nat) (caps : List Int) (D : Option Addr) (m d : Nat) (fs : List Fm) (b : Bool) (hA : Is w A c caps) (hD : Ws w D d fs) (hn : n = caps.length) (hm : m = fs.length) (hb : decide (validFl caps (fs.map Fm.fl)) = b) :
    Calls Try.prog 25 #[.slice A n c, .slice D m d] w fun e w' => e = .returned (.bool b) ∧ Below w.heap.size w w' := by
  have HB := Lib.hid hb; clear hb
  have HA := Lib.hid hA; clear hA
  have HD := Lib.hid hD; clear hD
  subst hn hm
  by_cases hl1 : caps.length ≤ 64
  · by_cases hl2 : fs.length ≤ 48
    · go_enter Try.func25, Try.ntmps25
      go_wp2_with fail
      go_loop [21] (fun i => ∃ k : Nat, k ≤ caps.length ∧ i = .int .i64 k ∧ capsOk (caps.take k)) (fun i => caps.length - (intOf i).toNat)
      case atStart => exact ⟨0, by omega, rfl, by intro c hc; simp at hc⟩
      case round =>
        obtain ⟨k, hk, rfl, ha⟩ := hrel
        have HC := Lib.hid ha
        clear ha
        by_cases hlt : k < caps.length
        · obtain ⟨ad, rfl, _, hcc⟩ := HA.out.at k hlt
          by_cases hok : 0 ≤ caps[k] ∧ caps[k] ≤ 4096
          · have HOK := Lib.hid hok
            clear hok
            go_wp2_with fail
            refine (capacity_any w _ true (decide_eq_true HOK.out)).mono ?_
            rintro e wn ⟨rfl, rfl⟩
            go_wp2_with fail
            go_round
            case rel => exact ⟨k + 1, by omega, by go_num, by
              have h1 := HC.out; have h2 := HOK.out
              intro c hc
              rw [List.take_succ_eq_append_getElem hlt, List.mem_append] at hc
              rcases hc with hc | hc
              · exact h1 c hc
              · rw [List.mem_singleton] at hc; rw [hc]; exact h2⟩
            case measure => simp [intOf]; omega
          · have HOK : Hid (¬ (0 ≤ caps[k] ∧ caps[k] ≤ 4096)) := hok
            clear hok
            go_wp2_with fail
            refine (capacity_any w _ false (decide_eq_false HOK.out)).mono ?_
            rintro e wn ⟨rfl, rfl⟩
            go_wp2_with fail
            go_ret
            exact ⟨ret_bool (by rw [← HB.out]; symm; exact decide_eq_false (fun h => HOK.out (h.2.2.1 _ (List.getElem_mem hlt)))), Below.refl _ _⟩
        · have HCA : Hid (capsOk caps) := Lib.hid (by have := HC.out; rwa [List.take_of_length_le (by omega)] at this)
          clear HC
          go_wp2_with fail
          go_loopw [31] (fun i wr => ∃ k : Nat, k ≤ fs.length ∧ i = .int .i64 k ∧ (∀ f ∈ (fs.map Fm.fl).take k, flOk caps.length f) ∧ Below w.heap.size w wr) (fun i _ => fs.length - (intOf i).toNat)
          case atStart => exact ⟨0, by omega, rfl, by intro f hf; simp at hf, Below.refl _ _⟩
          case round =>
            obtain ⟨k, hk, rfl, hF, bw⟩ := hrel
            have HF := Lib.hid hF
            clear hF
            by_cases hlt : k < fs.length
            · have hW := HD.out.below bw
              obtain ⟨ad, rfl, _, hcc⟩ := hW.rd (by omega)
              obtain ⟨hc0, hc1⟩ := hcc k hlt
              have hok := hW.ok _ (List.getElem_mem hlt)
              have HFE : Hid (fs[k].fl ∈ fs.map Fm.fl) := Lib.hid (List.mem_map_of_mem (List.getElem_mem hlt))
              have HTK : Hid ((fs.map Fm.fl).take (k + 1) = (fs.map Fm.fl).take k ++ [fs[k].fl]) := Lib.hid (by rw [List.take_succ_eq_append_getElem (by simpa using hlt)]; simp)
              obtain ⟨x, hx⟩ : ∃ x, fs[k] = x := ⟨_, rfl⟩
              rw [hx] at hc0 hc1 hok HFE HTK
              clear hcc hx hW
              go_upto_region 12 with fail
              have fb := (fb_alloc wr x 54).1
              have bb := (fb_alloc wr x 54).2
              have HOK := Lib.hid (hok.below bb)
              clear hok hc0 hc1
              generalize (wr.alloc (.cells #[.slice x.A x.ls.length x.c, .int .i64 x.m] 54)) = wm at fb bb HOK ⊢
              replace bw := below_on bw bb bw.size
              have fc0 := fb.c0
              have fc1 := fb.c1
              clear bb
              by_cases hcm : 0 ≤ x.m ∧ x.m ≤ 4096
              · have HCM := Lib.hid hcm
                clear hcm
                go_wp2_with fail
                refine (capacity_any wm _ true (decide_eq_true HCM.out)).mono ?_
                rintro e wn ⟨rfl, rfl⟩
                go_wp2_with fail
                go_loop [42] (fun i => ∃ k : Nat, k ≤ x.ls.length ∧ i = .int .i64 k ∧ LinksTo caps.length x.ls k) (fun i => x.ls.length - (intOf i).toNat)
                case atStart => exact ⟨0, by omega, rfl, by intro i _ h0; omega⟩
                case round =>
                  obtain ⟨j, hj, rfl, hL⟩ := hrel
                  have HL := Lib.hid hL
                  clear hL
                  by_cases hjt : j < x.ls.length
                  · obtain ⟨ae, hae, _, hce⟩ := HOK.out.is.at j hjt
                    have hjm := HOK.out.is.len
                    have HBAD : Hid (¬ (0 ≤ x.ls[j] ∧ x.ls[j] < caps.length ∧ (∀ h0 : 0 < j, x.ls[j - 1] < x.ls[j])) → b = false) := Lib.hid (by
                      intro h
                      rw [← HB.out]
                      exact decide_eq_false (fun h' => not_links hjt h (h'.2.2.2 _ HFE.out).2.2))
                    by_cases c1 : 0 ≤ x.ls[j]
                    · by_cases c2 : x.ls[j] < caps.length
                      · have c2' : decide ((caps.length : Int) ≤ x.ls[j]) = false := decide_eq_false (by omega)
                        rcases j with _ | j
                        · rw [add_at0] at hce
                          have HNX : Hid (LinksTo caps.length x.ls (0 + 1)) := Lib.hid (HL.out.step hjt c1 c2 (fun h0 => by omega))
                          clear HBAD HL
                          go_wp2_with fail
                          go_round
                          case rel => exact ⟨_, _, _, _, ⟨0 + 1, by omega, by go_num, HNX.out⟩, rfl, rfl, rfl, rfl⟩
                          case measure => simp [intOf]; omega
                        · rw [add_at1] at hce
                          obtain ⟨af, haf, _, hcf⟩ := HOK.out.is.at j (by omega)
                          rw [hae] at haf
                          injection haf with haf
                          subst haf
                          by_cases c4 : x.ls[j] < x.ls[j + 1]
                          · have HNX : Hid (LinksTo caps.length x.ls (j + 1 + 1)) := Lib.hid (HL.out.step hjt c1 c2 (fun h0 => c4))
                            have c4' : decide (x.ls[j + 1] ≤ x.ls[j]) = false := decide_eq_false (by omega)
                            clear HBAD HL
                            go_wp2_with fail
                            go_round
                            case rel => exact ⟨_, _, _, _, ⟨j + 1 + 1, by omega, by go_num, HNX.out⟩, rfl, rfl, rfl, rfl⟩
                            case measure => simp [intOf]; omega
                          · have HBB := Lib.hid (HBAD.out (fun h => c4 (h.2.2 (by omega))))
                            have c4' : decide (x.ls[j + 1] ≤ x.ls[j]) = true := decide_eq_true (by omega)
                            clear HBAD HL
                            go_wp2_with fail
                            go_ret
                            exact ⟨ret_bool HBB.out.symm, bw⟩
                      · have HBB := Lib.hid (HBAD.out (fun h => c2 h.2.1))
                        have c2' : decide ((caps.length : Int) ≤ x.ls[j]) = true := decide_eq_true (by omega)
                        clear HBAD HL
                        rcases j with _ | j
                        · rw [add_at0] at hce
                          go_wp2_with fail
                          go_ret
                          exact ⟨ret_bool HBB.out.symm, bw⟩
                        · rw [add_at1] at hce
                          go_wp2_with fail
                          go_ret
                          exact ⟨ret_bool HBB.out.symm, bw⟩
                    · have HBB := Lib.hid (HBAD.out (fun h => c1 h.1))
                      have c1' : decide (x.ls[j] < 0) = true := decide_eq_true (by omega)
                      clear HBAD HL
                      rcases j with _ | j
                      · rw [add_at0] at hce
                        go_wp2_with fail
                        go_ret
                        exact ⟨ret_bool HBB.out.symm, bw⟩
                      · rw [add_at1] at hce
                        go_wp2_with fail
                        go_ret
                        exact ⟨ret_bool HBB.out.symm, bw⟩
                  · have HNX : Hid (∀ f ∈ (fs.map Fm.fl).take (k + 1), flOk caps.length f) := Lib.hid (by
                      rw [HTK.out]
                      intro f hf
                      rw [List.mem_append, List.mem_singleton] at hf
                      rcases hf with hf | rfl
                      · exact HF.out f hf
                      · exact ⟨HCM.out.1, HCM.out.2, fun i hi => HL.out i hi (by show i < j; have : x.fl.1.length = x.ls.length := rfl; omega)⟩)
                    clear HL
                    go_wp2_with fail
                    go_roundw
                    case rel => exact ⟨k + 1, by omega, by go_num, HNX.out, bw⟩
                    case measure => simp [intOf]; omega
              · have HBB : Hid (b = false) := Lib.hid (by
                  rw [← HB.out]
                  exact decide_eq_false (fun h' => hcm ⟨(h'.2.2.2 _ HFE.out).1, (h'.2.2.2 _ HFE.out).2.1⟩))
                have HCM : Hid (¬ (0 ≤ x.m ∧ x.m ≤ 4096)) := hcm
                clear hcm
                go_wp2_with fail
                refine (capacity_any wm _ false (decide_eq_false HCM.out)).mono ?_
                rintro e wn ⟨rfl, rfl⟩
                go_wp2_with fail
                go_ret
                exact ⟨ret_bool HBB.out.symm, bw⟩
            · have HBB : Hid (b = true) := Lib.hid (by
                rw [← HB.out]
                refine decide_eq_true ⟨hl1, by simpa using hl2, HCA.out, fun f hf => ?_⟩
                have := HF.out f (by rw [List.take_of_length_le (by simp; omega)]; exact hf)
                exact this)
              go_wp2_with fail
              go_ret
              exact ⟨ret_bool HBB.out.symm, bw⟩
    · have h2 : decide (48 < fs.length) = true := decide_eq_true (by omega)
      have HBB : Hid (b = false) := Lib.hid (by rw [← HB.out]; exact decide_eq_false (fun h => hl2 (by simpa using h.2.1)))
      go_enter Try.func25, Try.ntmps25
      go_wp2_with fail
      go_ret
      exact ⟨ret_bool HBB.out.symm, Below.refl _ _⟩
  · have h2 : decide (64 < caps.length) = true := decide_eq_true (by omega)
    have HBB : Hid (b = false) := Lib.hid (by rw [← HB.out]; exact decide_eq_false (fun h => hl1 h.1))
    go_enter Try.func25, Try.ntmps25
    go_wp2_with fail
    go_ret
    exact ⟨ret_bool HBB.out.symm, Below.refl _ _⟩
end Go.Proofs.Ytgjhjdjbhmblmaa
