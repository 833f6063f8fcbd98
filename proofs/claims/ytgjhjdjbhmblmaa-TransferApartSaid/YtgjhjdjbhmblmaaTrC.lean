/- The walks of transfer.check, up, uses. -/
import Derived.Test.YtgjhjdjbhmblmaaTrS
namespace Go.Proofs.Ytgjhjdjbhmblmaa
open Go.RowKit

def stuckT (caps : List Int) (t : Tr) : Prop := 0 < t.2.1 ∧ ∃ e ∈ t.1, caps.getD e.toNat 0 = 0
instance (caps : List Int) (t : Tr) : Decidable (stuckT caps t) := inferInstanceAs (Decidable (_ ∧ _))
/-- the error of Run -/
def checkM (caps : List Int) (l : List Tr) : Int := if validTr caps l then (if ∃ t ∈ l, stuckT caps t then 113 else 0) else 1
theorem checkM_bad {caps : List Int} {l : List Tr} (h : ¬ validTr caps l) : checkM caps l = 1 := by rw [checkM, if_neg h]
theorem checkM_stuck {caps : List Int} {l : List Tr} (h : validTr caps l) {t : Tr} (ht : t ∈ l) (hs : stuckT caps t) : checkM caps l = 113 := by rw [checkM, if_pos h, if_pos ⟨t, ht, hs⟩]
theorem checkM_ok {caps : List Int} {l : List Tr} (h : validTr caps l) (hs : ∀ t ∈ l, ¬ stuckT caps t) : checkM caps l = 0 := by rw [checkM, if_pos h, if_neg (fun ⟨t, ht, h'⟩ => hs t ht h')]
theorem validTr.links {caps : List Int} {l : List Tr} (h : validTr caps l) {t : Tr} (ht : t ∈ l) : LinksOk caps.length t.1 := by
  obtain ⟨i, hi, rfl⟩ := List.getElem_of_mem ht
  have := h.2.2.2.2 _ (List.getElem_mem (l := flT l fun _ => 0) (n := i) (by rw [flT_len]; exact hi))
  rw [flT_get hi] at this
  exact this.2.2
set_option maxRecDepth 100000 in
set_option maxHeartbeats 1600000 in
theorem tcheck_any (w : World) (A : Option Addr) (n c : Nat) (caps : List Int) (D : Option Addr) (m d : Nat) (ts : List Tm) (hA : Is w A c caps) (hD : Ts w D d ts) (hn : n = caps.length) (hm : m = ts.length) (h60 : ts.length ≤ 60) :
    Calls Try.prog 28 #[.slice A n c, .slice D m d] w fun e w' => e = .returned (.int .i64 (checkM caps (ts.map Tm.tr))) ∧ Below w.heap.size w w' := by
  have HA := Lib.hid hA; clear hA
  have HD := Lib.hid hD; clear hD
  subst hn hm
  by_cases hv : validTr caps (ts.map Tm.tr)
  · have HV := Lib.hid hv
    clear hv
    go_enter Try.func28, Try.ntmps28
    go_wp2_with fail
    refine (tvalid_any w A _ c caps D _ d ts true HA.out HD.out rfl rfl h60 (decide_eq_true HV.out)).mono ?_
    rintro e wn ⟨rfl, bw0⟩
    go_wp2_with fail
    go_loopw [15] (fun i wr => ∃ k : Nat, k ≤ ts.length ∧ i = .int .i64 k ∧ (∀ t ∈ (ts.map Tm.tr).take k, ¬ stuckT caps t) ∧ Below w.heap.size w wr) (fun i _ => ts.length - (intOf i).toNat)
    case atStart => exact ⟨0, by omega, rfl, by intro f hf; simp at hf, bw0⟩
    case round =>
      clear bw0
      obtain ⟨k, hk, rfl, hF, bw⟩ := hrel
      have HF := Lib.hid hF
      clear hF
      by_cases hlt : k < ts.length
      · have hW := HD.out.below bw
        obtain ⟨ad, rfl, hc0, hc1, hc2, hok⟩ := hW.at k hlt
        have HFE : Hid (ts[k].tr ∈ ts.map Tm.tr) := Lib.hid (List.mem_map_of_mem (List.getElem_mem hlt))
        have HTK : Hid ((ts.map Tm.tr).take (k + 1) = (ts.map Tm.tr).take k ++ [ts[k].tr]) := Lib.hid (by rw [List.take_succ_eq_append_getElem (by simpa using hlt)]; simp)
        obtain ⟨x, hx⟩ : ∃ x, ts[k] = x := ⟨_, rfl⟩
        rw [hx] at hc0 hc1 hc2 HFE HTK hok
        clear hx hW
        go_upto_region 6 with fail
        have tb := (tb_alloc wr x 26).1
        have bb := (tb_alloc wr x 26).2
        have HX := Lib.hid (hok.below bb)
        clear hc0 hc1 hc2 hok
        generalize (wr.alloc (.cells #[.slice x.A x.ls.length x.c, .int .i64 x.b, .int .i64 x.s] 26)) = wm at tb bb HX ⊢
        replace bw := below_on bw bb bw.size
        have tc0 := tb.c0
        have tc1 := tb.c1
        have hxl := HX.out.is.len
        clear bb
        go_wp2_with fail
        go_loop [22] (fun i => ∃ j : Nat, j ≤ x.ls.length ∧ i = .int .i64 j ∧ (∀ e ∈ x.ls.take j, ¬ (0 < x.b ∧ caps.getD e.toNat 0 = 0))) (fun i => x.ls.length - (intOf i).toNat)
        case atStart => exact ⟨0, by omega, rfl, by intro e he; simp at he⟩
        case round =>
          obtain ⟨j, hj, rfl, hP⟩ := hrel
          have HP := Lib.hid hP
          clear hP
          by_cases hjt : j < x.ls.length
          · obtain ⟨ae, hae, _, hce⟩ := HX.out.is.at j hjt
            have hlk := (HV.out.links HFE.out).mem (List.getElem_mem hjt)
            obtain ⟨t, ht⟩ : ∃ t : Nat, x.ls[j] = (t : Int) := ⟨(x.ls[j]).toNat, by have : x.tr.1 = x.ls := rfl; omega⟩
            have htn : t < caps.length := by have : x.tr.1 = x.ls := rfl; omega
            obtain ⟨ac, hac, _, hcc⟩ := (HA.out.below bw).at t htn
            have HE : Hid (caps.getD (x.ls[j]).toNat 0 = caps[t]) := Lib.hid (by rw [ht, Int.toNat_natCast, getD_lt _ _ _ htn])
            have HM : Hid (x.ls[j] ∈ x.ls) := Lib.hid (List.getElem_mem hjt)
            rw [ht] at hce
            rw [hae] at tc0
            have hacap := HA.out.cap
            have hamax := HA.out.max
            have HT := Lib.hid ht
            subst hac
            clear hlk ht
            by_cases c1 : 0 < x.b
            · by_cases c2 : caps[t] = 0
              · have c2' : (caps[t] == 0) = true := by simp [c2]
                have HBB : Hid (checkM caps (ts.map Tm.tr) = 113) := Lib.hid (checkM_stuck HV.out HFE.out ⟨c1, x.ls[j], HM.out, by rw [HE.out]; exact c2⟩)
                clear c2
                go_wp2_with fail
                go_ret
                exact ⟨ret_int HBB.out.symm, bw⟩
              · have c2' : (caps[t] == 0) = false := beq_eq_false_iff_ne.2 c2
                have HNX : Hid (∀ e ∈ x.ls.take (j + 1), ¬ (0 < x.b ∧ caps.getD e.toNat 0 = 0)) := Lib.hid (by
                  intro e he
                  rw [List.take_succ_eq_append_getElem hjt, List.mem_append, List.mem_singleton] at he
                  rcases he with he | he
                  · exact HP.out e he
                  · rw [he, HE.out]; exact fun h => c2 h.2)
                clear c2 HP
                go_wp2_with fail
                go_round
                case rel => exact ⟨j + 1, by omega, by go_num, HNX.out⟩
                case measure => simp [intOf]; omega
            · have c1' : decide (0 < x.b) = false := decide_eq_false c1
              have HNX : Hid (∀ e ∈ x.ls.take (j + 1), ¬ (0 < x.b ∧ caps.getD e.toNat 0 = 0)) := Lib.hid (fun e _ h => c1 h.1)
              clear c1 HP
              go_wp2_with fail
              go_round
              case rel => exact ⟨j + 1, by omega, by go_num, HNX.out⟩
              case measure => simp [intOf]; omega
          · have HNX : Hid (∀ t ∈ (ts.map Tm.tr).take (k + 1), ¬ stuckT caps t) := Lib.hid (by
              rw [HTK.out]
              intro f hf
              rw [List.mem_append, List.mem_singleton] at hf
              rcases hf with hf | rfl
              · exact HF.out f hf
              · rintro ⟨h1, e, he, h2⟩
                exact HP.out e (by rw [List.take_of_length_le (by omega)]; exact he) ⟨h1, h2⟩)
            clear HP HF
            go_wp2_with fail
            go_roundw
            case rel => exact ⟨k + 1, by omega, by go_num, HNX.out, bw⟩
            case measure => simp [intOf]; omega
      · have HBB : Hid (checkM caps (ts.map Tm.tr) = 0) := Lib.hid (checkM_ok HV.out (fun t ht => HF.out t (by rw [List.take_of_length_le (by simp; omega)]; exact ht)))
        clear HF
        go_wp2_with fail
        go_ret
        exact ⟨ret_int HBB.out.symm, bw⟩
  · have HV : Hid (¬ validTr caps (ts.map Tm.tr)) := hv
    have HBB : Hid (checkM caps (ts.map Tm.tr) = 1) := Lib.hid (checkM_bad hv)
    clear hv
    go_enter Try.func28, Try.ntmps28
    go_wp2_with fail
    refine (tvalid_any w A _ c caps D _ d ts false HA.out HD.out rfl rfl h60 (decide_eq_false HV.out)).mono ?_
    rintro e wn ⟨rfl, bw⟩
    go_wp2_with fail
    go_ret
    exact ⟨ret_int HBB.out.symm, bw⟩

def upM (a b : Int) : Int := (a + b - 1) / b
theorem up_any (w : World) (a b : Int) (ha : 0 ≤ a) (hb : 0 < b) (ha2 : a ≤ 1000000000) (hb2 : b ≤ 4096) : Calls Try.prog 30 #[.int .i64 a, .int .i64 b] w fun e w' => e = .returned (.int .i64 (upM a b)) ∧ w = w' := by
  have h0 : ¬ b = 0 := by omega
  go_enter Try.func30, Try.ntmps30
  go_wp2_with fail
  go_ret
  exact ⟨ret_int rfl, rfl⟩
theorem uses_any (w : World) (x : Tm) (e : Int) (b : Bool) (hx : x.ok w) (hb : decide (e ∈ x.ls) = b) :
    Calls Try.prog 29 #[x.val, .int .i64 e] w fun e w' => e = .returned (.bool b) ∧ Below w.heap.size w w' := by
  have HB := Lib.hid hb; clear hb
  go_enter Try.func29, Try.ntmps29
  go_upto_region 1 with fail
  have tb := (tb_alloc w x 26).1
  have bb := (tb_alloc w x 26).2
  have HX := Lib.hid (hx.below bb)
  clear hx
  generalize (w.alloc (.cells #[.slice x.A x.ls.length x.c, .int .i64 x.b, .int .i64 x.s] 26)) = wm at tb bb HX ⊢
  have tc0 := tb.c0
  have hxl := HX.out.is.len
  go_wp2_with fail
  go_loop [10] (fun i => ∃ j : Nat, j ≤ x.ls.length ∧ i = .int .i64 j ∧ e ∉ x.ls.take j) (fun i => x.ls.length - (intOf i).toNat)
  case atStart => exact ⟨0, by omega, rfl, by simp⟩
  case round =>
    obtain ⟨j, hj, rfl, hP⟩ := hrel
    have HP := Lib.hid hP
    clear hP
    by_cases hjt : j < x.ls.length
    · obtain ⟨ae, hae, _, hce⟩ := HX.out.is.at j hjt
      rw [hae] at tc0
      have HM : Hid (x.ls[j] ∈ x.ls) := Lib.hid (List.getElem_mem hjt)
      by_cases c2 : x.ls[j] = e
      · have c2' : (x.ls[j] == e) = true := by simp [c2]
        have HBB : Hid (b = true) := Lib.hid (by rw [← HB.out, ← c2]; exact decide_eq_true HM.out)
        clear c2
        go_wp2_with fail
        go_ret
        exact ⟨ret_bool HBB.out.symm, bb⟩
      · have c2' : (x.ls[j] == e) = false := beq_eq_false_iff_ne.2 c2
        have HNX : Hid (e ∉ x.ls.take (j + 1)) := Lib.hid (by
          rw [List.take_succ_eq_append_getElem hjt, List.mem_append, List.mem_singleton]
          rintro (h | h)
          · exact HP.out h
          · exact c2 h.symm)
        clear c2 HP
        go_wp2_with fail
        go_round
        case rel => exact ⟨j + 1, by omega, by go_num, HNX.out⟩
        case measure => simp [intOf]; omega
    · have HBB : Hid (b = false) := Lib.hid (by rw [← HB.out]; exact decide_eq_false (by have := HP.out; rwa [List.take_of_length_le (by omega)] at this))
      clear HP
      go_wp2_with fail
      go_ret
      exact ⟨ret_bool HBB.out.symm, bb⟩
end Go.Proofs.Ytgjhjdjbhmblmaa
