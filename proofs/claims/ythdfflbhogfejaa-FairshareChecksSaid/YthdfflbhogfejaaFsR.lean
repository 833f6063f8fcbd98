/- What the reference's Rates holds in memory and what its stores keep. The walk of the reference's Valid of flows. -/
import Derived.Test.YthdfflbhogfejaaRaR
import Derived.Test.YthdfflbhogfejaaFsV
import Derived.Laws.OwnMore
import Derived.BigRegion
namespace Go.Proofs.Ythdfflbhogfejaa
set_option maxRecDepth 100000
open Go.RowKit

/-- the first flows that rise are given the level -/
def upP (R : List Rat) (st : List Bool) (p : Rat) : Nat → List Rat
  | 0 => R
  | t + 1 => if st.getD t false = false then (upP R st p t).set t p else upP R st p t
theorem upP_at (R : List Rat) (st : List Bool) (p : Rat) (i : Nat) (hi : i < R.length) : ∀ t, (upP R st p t).length = R.length ∧ (upP R st p t).getD i 0 = if i < t ∧ st.getD i false = false then p else R.getD i 0 := by
  intro t
  induction t with
  | zero => exact ⟨rfl, by rw [if_neg (by omega)]; rfl⟩
  | succ t ih =>
    obtain ⟨h1, h2⟩ := ih
    rw [upP]
    by_cases hs : st.getD t false = false
    · rw [if_pos hs]
      refine ⟨by rw [List.length_set]; exact h1, ?_⟩
      rw [getD_set]
      by_cases e : t = i
      · subst e
        rw [if_pos ⟨rfl, by omega⟩, if_pos ⟨by omega, hs⟩]
      · rw [if_neg (fun h => e h.1), h2]
        by_cases h3 : i < t ∧ st.getD i false = false
        · rw [if_pos h3, if_pos ⟨by omega, h3.2⟩]
        · rw [if_neg h3, if_neg (fun h => h3 ⟨by omega, h.2⟩)]
    · rw [if_neg hs]
      refine ⟨h1, ?_⟩
      rw [h2]
      by_cases h3 : i < t ∧ st.getD i false = false
      · rw [if_pos h3, if_pos ⟨by omega, h3.2⟩]
      · rw [if_neg h3, if_neg (fun h => ?_)]
        rcases Nat.lt_or_ge i t with h4 | h4
        · exact h3 ⟨h4, h.2⟩
        · obtain rfl : i = t := by omega
          exact hs h.2
theorem upP_end {l : List Fl} {s : Rt} {R : List Rat} {st : List Bool} {p : Rat} (h : Agr l s R st) : upP R st p l.length = upR l s p := by
  rcases Nat.eq_zero_or_pos l.length with h0 | h0
  · have hR : R = [] := List.eq_nil_of_length_eq_zero (by rw [h.lr, h0])
    rw [h0, upR, h0, hR]; rfl
  have hlen := (upP_at R st p 0 (by rw [h.lr]; exact h0) l.length).1
  apply List.ext_getElem (by rw [hlen, upR_len, h.lr])
  intro i h1 h2
  have hi : i < l.length := by rw [upR_len] at h2; exact h2
  rw [← getD_lt _ _ 0, ← getD_lt _ _ 0, (upP_at R st p i (by rw [h.lr]; exact hi) l.length).2, upR_at s p hi, h.st, getD_map_not _ (by rw [h.la]; exact hi)]
  cases ha : s.a.getD i false with
  | false => rw [if_neg (fun h => by cases h.2), if_neg (by simp), h.at_ i hi ha]
  | true => rw [if_pos ⟨hi, rfl⟩, if_pos rfl]
/-- has flow t stopped, its first links looked at -/
def stV (cp : Int → Int) (l : List Fl) (R : List Rat) (was : List Bool) (t u : Nat) : Bool := was.getD t false || decide ((lmA l t : Rat) ≤ R.getD t 0) || ((lkA l t).take u).any (fun k => decide ((cp k : Rat) ≤ ldq l R k))
theorem stV_zero (cp : Int → Int) (l : List Fl) (R : List Rat) (was : List Bool) (t : Nat) : stV cp l R was t 0 = (was.getD t false || decide ((lmA l t : Rat) ≤ R.getD t 0)) := by simp [stV]
theorem stV_next (cp : Int → Int) (l : List Fl) (R : List Rat) (was : List Bool) (t : Nat) {u : Nat} (hu : u < (lkA l t).length) : stV cp l R was t (u + 1) = (stV cp l R was t u || decide ((cp (lkA l t)[u] : Rat) ≤ ldq l R (lkA l t)[u])) := by
  rw [stV, stV, List.take_succ_eq_append_getElem hu, List.any_append, Bool.or_assoc, Bool.or_assoc]
  simp [Bool.or_assoc]
theorem stV_all (cp : Int → Int) (l : List Fl) (R : List Rat) (was : List Bool) (t : Nat) : stV cp l R was t (lkA l t).length = stN cp l R was t := by rw [stV, stN, List.take_length]
def stP (cp : Int → Int) (l : List Fl) (R : List Rat) (was : List Bool) (N t : Nat) : List Bool := (List.range N).map (fun i => if i < t then stN cp l R was i else was.getD i false)
theorem stP_len (cp : Int → Int) (l : List Fl) (R : List Rat) (was : List Bool) (N t : Nat) : (stP cp l R was N t).length = N := by simp [stP]
theorem stP_zero (cp : Int → Int) (l : List Fl) (R : List Rat) {was : List Bool} {N : Nat} (h : was.length = N) : stP cp l R was N 0 = was := by
  apply List.ext_getElem (by rw [stP_len, h])
  intro i h1 h2
  simp only [stP, List.getElem_map, List.getElem_range, if_neg (Nat.not_lt_zero i)]
  exact getD_lt _ _ _ h2
theorem stP_next (cp : Int → Int) (l : List Fl) (R : List Rat) (was : List Bool) (N t : Nat) : (stP cp l R was N t).set t (stN cp l R was t) = stP cp l R was N (t + 1) := by
  apply List.ext_getElem (by rw [List.length_set, stP_len, stP_len])
  intro i h1 h2
  rw [List.getElem_set]
  simp only [stP, List.getElem_map, List.getElem_range]
  by_cases e : t = i
  · subst e; rw [if_pos rfl, if_pos (by omega)]
  · rw [if_neg e]
    by_cases h3 : i < t
    · rw [if_pos h3, if_pos (by omega)]
    · rw [if_neg h3, if_neg (by omega)]
theorem stP_end (cp : Int → Int) (l : List Fl) (R : List Rat) (was : List Bool) (N : Nat) : stP cp l R was N N = (List.range N).map (stN cp l R was) := by
  apply List.ext_getElem (by simp [stP])
  intro i h1 h2
  rw [stP_len] at h1
  simp [stP, h1]
/-- what the reference's Rates holds: the rates, in lowest terms, and who has stopped -/
structure RN (N : Nat) (w wr : World) (g6 g7 : Nat) (l : List Fl) (R : List Rat) (st : List Bool) (vs : List Fx) : Prop where
  W : RW w.heap.size N w wr g6 g7 l ⟨R, st⟩ vs st
  rp : ∀ i (h : i < vs.length), Rp vs[i] (R.getD i 0)
section
variable {N g6 g7 g : Nat} {w wr wn : World} {l : List Fl} {R : List Rat} {st : List Bool} {vs : List Fx}
theorem RN.below (h : RN N w wr g6 g7 l R st vs) (hb : Below wr.heap.size wr wn) : RN N w wn g6 g7 l R st vs := ⟨h.W.below hb h.W.bw.size, h.rp⟩
theorem RN.putR (h : RN N w wr g6 g7 l R st vs) (h67 : g6 ≠ g7) (i : Nat) {x : Fx} {q : Rat} (hx : x.ok wr) (hq : Vq x q) (hr : Rp x q) :
    RN N w (((wr.setCell ⟨g6, i * 3, none⟩ (.bool x.b)).setCell ⟨g6, i * 3 + 1, none⟩ (.slice x.A x.xs.length x.c)).setCell ⟨g6, i * 3 + 2, none⟩ (.slice x.D x.ys.length x.d)) g6 g7 l (R.set i q) st (vs.set i x) := by
  have H := h.W
  have hlt6 := H.q.lt
  have hlr : R.length = l.length := H.lr
  refine ⟨⟨H.q.put i hx, H.b.far3 (off_row h67.symm), by show (R.set i q).length = _; rw [List.length_set]; exact hlr, H.lN, by rw [List.length_set]; exact H.lv, H.lb, fun m hm => ?_, rfl, q3_below H.bw hlt6.1⟩, fun m hm => ?_⟩
  · show Vq (vs.set i x)[m] ((R.set i q).getD m 0)
    rw [List.getElem_set, getD_set]
    rw [List.length_set] at hm
    by_cases e : i = m
    · subst e
      rw [if_pos rfl, if_pos ⟨rfl, by rw [hlr, H.lN, ← H.lv]; exact hm⟩]; exact hq
    · rw [if_neg e, if_neg (fun h => e h.1)]; exact H.at_ m hm
  · rw [List.getElem_set, getD_set]
    rw [List.length_set] at hm
    by_cases e : i = m
    · subst e
      rw [if_pos rfl, if_pos ⟨rfl, by rw [hlr, H.lN, ← H.lv]; exact hm⟩]; exact hr
    · rw [if_neg e, if_neg (fun h => e h.1)]; exact h.rp m hm
theorem RN.putS (h : RN N w wr g6 g7 l R st vs) (h67 : g6 ≠ g7) (i : Nat) (b : Bool) : RN N w (wr.setCell ⟨g7, i, none⟩ (.bool b)) g6 g7 l R (st.set i b) vs := by
  have H := h.W
  have k7 := bool_blk H.b H.lb.symm
  have hB7 : w.heap.size ≤ g7 := (H.b.form.2.2 _ rfl).1
  exact ⟨⟨H.q.far1 k7 (off_row h67), H.b.store i b, H.lr, H.lN, H.lv, by rw [List.length_set]; exact H.lb, H.at_, rfl, H.bw.setCell (p := ⟨g7, i, none⟩) hB7 _⟩, h.rp⟩
theorem RN.okf (h : RN N w wr g6 g7 l R st vs) : OkF wr vs := fun v hv => by
  obtain ⟨i, hi, rfl⟩ := List.getElem_of_mem hv
  exact ⟨h.W.q.ok _ (List.getElem_mem hi), (h.W.at_ i hi).l, (h.W.at_ i hi).m⟩
theorem RN.vv (h : RN N w wr g6 g7 l R st vs) : ∀ v ∈ vs, v.v := fun v hv => by
  obtain ⟨i, hi, rfl⟩ := List.getElem_of_mem hv
  exact (h.W.at_ i hi).v
theorem RN.q (h : RN N w wr g6 g7 l R st vs) (i : Nat) (hi : i < vs.length) : vs[i].q = R.getD i 0 := (h.W.at_ i hi).q
theorem RN.map (h : RN N w wr g6 g7 l R st vs) : vs.map Fx.q = R := by
  have hlr : R.length = l.length := h.W.lr
  apply List.ext_getElem (by rw [List.length_map, hlr, h.W.lN, h.W.lv])
  intro i h1 h2
  rw [List.getElem_map, ← getD_lt R _ 0]
  exact h.q i (by simpa using h1)
end
theorem run_make_fracs (N : Nat) (hN : N ≤ 1000) (w : World) : (Instr.makeSlice 29 (.int .i64 (N : Int)) (.int .i64 (N : Int))).run Try.prog w = .ok (.slice (some ⟨w.heap.size, 0, none⟩) N N) (w.alloc (.cells (madeCells Fx.nil.val.cells (N * 3)) 41)) := by
  obtain ⟨i1, hi, hi0, hi1, hi2⟩ := info_parts frac_info3
  have h := run_makeSlice (P := Try.prog) (w := w) 29 41 i1 Fx.nil.val Try.underlying29 hi hi0 .i64 .i64 (N : Int) (N : Int) (by omega) (Int.le_refl _) (by rw [hi1, Int.toNat_natCast]; omega) (by rw [hi2]; omega) (by omega)
  rw [hi1] at h
  simpa only [Int.toNat_natCast] using h
theorem gr_mk0 {α : Type} {mk : α → Value} (w : World) (e : TypeId) (x0 : α) (n : Nat) (hn : n ≤ maxLen) : Gr mk e (w.alloc (.cells (madeCells #[mk x0] n) e)) w.heap.size (some ⟨w.heap.size, 0, none⟩) n (List.replicate n x0) := by
  unfold Gr
  rw [List.length_replicate, List.map_replicate]
  exact ⟨by simp, .inr ⟨w.heap.size, n, _, rfl, Nat.le_refl _, heap_alloc_new w _, Nat.le_refl _, hn, by rw [size_madeCells, Nat.mul_one], by rw [toList_madeCells_one, Nat.mul_one, List.take_of_length_le (by simp)]⟩⟩
theorem qr_make (w : World) (N B : Nat) (hN : N ≤ 1000) (hB : B ≤ w.heap.size) : Qr (w.alloc (.cells (madeCells Fx.nil.val.cells (N * 3)) 41)) B (some ⟨w.heap.size, 0, none⟩) (List.replicate N Fx.nil) := by
  refine ⟨?_, fun v hv => by rw [List.eq_of_mem_replicate hv]; exact Fx.nil_ok _⟩
  unfold Fr
  rw [List.length_replicate, ← make3_cells]
  exact World.ownsRow_lit w _ N hB (by simp only [maxLen]; omega) (size_madeCells _ _)
end Go.Proofs.Ythdfflbhogfejaa
namespace Go.Proofs.Ythdfflbhogfejaa
set_option maxRecDepth 100000
open Go.RowKit

set_option maxHeartbeats 1600000 in
theorem rvalid_any (w : World) (A : Option Addr) (n c : Nat) (caps : List Int) (D : Option Addr) (m d : Nat) (fs : List Fm) (b : Bool) (hA : Is w A c caps) (hD : Ws w D d fs) (hn : n = caps.length) (hm : m = fs.length) (hb : decide (validFl caps (fs.map Fm.fl)) = b) :
    Calls Try.prog 16 #[.slice A n c, .slice D m d] w fun e w' => e = .returned (.bool b) ∧ w = w' := by
  have HB := Lib.hid hb; clear hb
  have HA := Lib.hid hA; clear hA
  have HD := Lib.hid hD; clear hD
  subst hn hm
  by_cases hl1 : caps.length ≤ 64
  · by_cases hl2 : fs.length ≤ 48
    · go_enter Try.func16, Try.ntmps16
      go_wp2_with fail
      go_loop [5] (fun i => ∃ k : Nat, k ≤ caps.length ∧ i = .int .i64 k ∧ capsOk (caps.take k)) (fun i => caps.length - (intOf i).toNat)
      case atStart => exact ⟨0, by omega, rfl, by intro c hc; simp at hc⟩
      case round =>
        obtain ⟨k, hk, rfl, ha⟩ := hrel
        have HC := Lib.hid ha
        clear ha
        by_cases hlt : k < caps.length
        · obtain ⟨ad, rfl, _, hcc⟩ := HA.out.at k hlt
          have HBAD : Hid (¬ (0 ≤ caps[k] ∧ caps[k] ≤ 4096) → b = false) := Lib.hid (by
            intro h
            rw [← HB.out]
            exact decide_eq_false (fun h' => h (h'.2.2.1 _ (List.getElem_mem hlt))))
          by_cases c1 : 0 ≤ caps[k]
          · by_cases c2 : caps[k] ≤ 4096
            · have HNX : Hid (capsOk (caps.take (k + 1))) := Lib.hid (by
                intro c hc
                rw [List.take_succ_eq_append_getElem hlt, List.mem_append] at hc
                rcases hc with hc | hc
                · exact HC.out c hc
                · rw [List.mem_singleton] at hc; rw [hc]; exact ⟨c1, c2⟩)
              have c2' : decide (4096 < caps[k]) = false := decide_eq_false (by omega)
              clear HC HBAD
              go_wp2_with fail
              go_round
              case rel => exact ⟨k + 1, by omega, by go_num, HNX.out⟩
              case measure => simp [intOf]; omega
            · have HBB := Lib.hid (HBAD.out (fun h => c2 h.2))
              have c2' : decide (4096 < caps[k]) = true := decide_eq_true (by omega)
              clear HC HBAD
              go_wp2_with fail
              go_ret
              exact ⟨ret_bool HBB.out.symm, rfl⟩
          · have HBB := Lib.hid (HBAD.out (fun h => c1 h.1))
            have c1' : decide (caps[k] < 0) = true := decide_eq_true (by omega)
            clear HC HBAD
            go_wp2_with fail
            go_ret
            exact ⟨ret_bool HBB.out.symm, rfl⟩
        · have HCA : Hid (capsOk caps) := Lib.hid (by have := HC.out; rwa [List.take_of_length_le (by omega)] at this)
          clear HC
          go_wp2_with fail
          go_loop [6] (fun i => ∃ k : Nat, k ≤ fs.length ∧ i = .int .i64 k ∧ (∀ f ∈ (fs.map Fm.fl).take k, flOk caps.length f)) (fun i => fs.length - (intOf i).toNat)
          case atStart => exact ⟨0, by omega, rfl, by intro f hf; simp at hf⟩
          case round =>
            obtain ⟨k, hk, rfl, hF⟩ := hrel
            have HF := Lib.hid hF
            clear hF
            by_cases hlt : k < fs.length
            · obtain ⟨ad, rfl, _, hcc⟩ := HD.out.rd (by omega)
              obtain ⟨hc0, hc1⟩ := hcc k hlt
              have hok := HD.out.ok _ (List.getElem_mem hlt)
              have HFE : Hid (fs[k].fl ∈ fs.map Fm.fl) := Lib.hid (List.mem_map_of_mem (List.getElem_mem hlt))
              have HTK : Hid ((fs.map Fm.fl).take (k + 1) = (fs.map Fm.fl).take k ++ [fs[k].fl]) := Lib.hid (by rw [List.take_succ_eq_append_getElem (by simpa using hlt)]; simp)
              obtain ⟨x, hx⟩ : ∃ x, fs[k] = x := ⟨_, rfl⟩
              rw [hx] at hc0 hc1 hok HFE HTK
              have HOK := Lib.hid hok
              clear hcc hx hok
              have HBADM : Hid (¬ (0 ≤ x.m ∧ x.m ≤ 4096) → b = false) := Lib.hid (by
                intro h
                rw [← HB.out]
                exact decide_eq_false (fun h' => h ⟨(h'.2.2.2 _ HFE.out).1, (h'.2.2.2 _ HFE.out).2.1⟩))
              by_cases m1 : 0 ≤ x.m
              · by_cases m2 : x.m ≤ 4096
                · have HCM : Hid (0 ≤ x.m ∧ x.m ≤ 4096) := Lib.hid ⟨m1, m2⟩
                  have m2' : decide (4096 < x.m) = false := decide_eq_false (by omega)
                  clear HBADM
                  go_wp2_with fail
                  go_loop [7] (fun i => ∃ k : Nat, k ≤ x.ls.length ∧ i = .int .i64 k ∧ LinksTo caps.length x.ls k) (fun i => x.ls.length - (intOf i).toNat)
                  case atStart => exact ⟨0, by omega, rfl, by intro i _ h0; omega⟩
                  case round =>
                    obtain ⟨j, hj, rfl, hL⟩ := hrel
                    have HL := Lib.hid hL
                    clear hL
                    by_cases hjt : j < x.ls.length
                    · obtain ⟨ae, hae, _, hce⟩ := HOK.out.is.at j hjt
                      have hjm := HOK.out.is.len
                      have HBAD : Hid (¬ (0 ≤ x.ls[j] ∧ x.ls[j] < caps.length ∧ (∀ h0 : 0 < j, x.ls[j - 1] < x.ls[j])) → b = false) := Lib.hid (by
                        intro h
                        rw [← HB.out]
                        exact decide_eq_false (fun h' => not_links hjt h (h'.2.2.2 _ HFE.out).2.2))
                      by_cases c1 : 0 ≤ x.ls[j]
                      · by_cases c2 : x.ls[j] < caps.length
                        · have c2' : decide ((caps.length : Int) ≤ x.ls[j]) = false := decide_eq_false (by omega)
                          rcases j with _ | j
                          · rw [add_at0] at hce
                            have HNX : Hid (LinksTo caps.length x.ls (0 + 1)) := Lib.hid (HL.out.step hjt c1 c2 (fun h0 => by omega))
                            clear HBAD HL
                            go_wp2_with fail
                            go_round
                            case rel => exact ⟨0 + 1, by omega, by go_num, HNX.out⟩
                            case measure => simp [intOf]; omega
                          · rw [add_at1] at hce
                            obtain ⟨af, haf, _, hcf⟩ := HOK.out.is.at j (by omega)
                            rw [hae] at haf
                            injection haf with haf
                            subst haf
                            by_cases c4 : x.ls[j] < x.ls[j + 1]
                            · have HNX : Hid (LinksTo caps.length x.ls (j + 1 + 1)) := Lib.hid (HL.out.step hjt c1 c2 (fun h0 => c4))
                              have c4' : decide (x.ls[j + 1] ≤ x.ls[j]) = false := decide_eq_false (by omega)
                              clear HBAD HL
                              go_wp2_with fail
                              go_round
                              case rel => exact ⟨j + 1 + 1, by omega, by go_num, HNX.out⟩
                              case measure => simp [intOf]; omega
                            · have HBB := Lib.hid (HBAD.out (fun h => c4 (h.2.2 (by omega))))
                              have c4' : decide (x.ls[j + 1] ≤ x.ls[j]) = true := decide_eq_true (by omega)
                              clear HBAD HL
                              go_wp2_with fail
                              go_ret
                              exact ⟨ret_bool HBB.out.symm, rfl⟩
                        · have HBB := Lib.hid (HBAD.out (fun h => c2 h.2.1))
                          have c2' : decide ((caps.length : Int) ≤ x.ls[j]) = true := decide_eq_true (by omega)
                          clear HBAD HL
                          rcases j with _ | j
                          · rw [add_at0] at hce
                            go_wp2_with fail
                            go_ret
                            exact ⟨ret_bool HBB.out.symm, rfl⟩
                          · rw [add_at1] at hce
                            go_wp2_with fail
                            go_ret
                            exact ⟨ret_bool HBB.out.symm, rfl⟩
                      · have HBB := Lib.hid (HBAD.out (fun h => c1 h.1))
                        have c1' : decide (x.ls[j] < 0) = true := decide_eq_true (by omega)
                        clear HBAD HL
                        rcases j with _ | j
                        · rw [add_at0] at hce
                          go_wp2_with fail
                          go_ret
                          exact ⟨ret_bool HBB.out.symm, rfl⟩
                        · rw [add_at1] at hce
                          go_wp2_with fail
                          go_ret
                          exact ⟨ret_bool HBB.out.symm, rfl⟩
                    · have HNX : Hid (∀ f ∈ (fs.map Fm.fl).take (k + 1), flOk caps.length f) := Lib.hid (by
                        rw [HTK.out]
                        intro f hf
                        rw [List.mem_append, List.mem_singleton] at hf
                        rcases hf with hf | rfl
                        · exact HF.out f hf
                        · exact ⟨HCM.out.1, HCM.out.2, fun i hi => HL.out i hi (by show i < j; have : x.fl.1.length = x.ls.length := rfl; omega)⟩)
                      clear HL
                      go_wp2_with fail
                      go_round
                      case rel => exact ⟨k + 1, by omega, by go_num, HNX.out⟩
                      case measure => simp [intOf]; omega
                · have HBB := Lib.hid (HBADM.out (fun h => m2 h.2))
                  have m2' : decide (4096 < x.m) = true := decide_eq_true (by omega)
                  clear HBADM
                  go_wp2_with fail
                  go_ret
                  exact ⟨ret_bool HBB.out.symm, rfl⟩
              · have HBB := Lib.hid (HBADM.out (fun h => m1 h.1))
                have m1' : decide (x.m < 0) = true := decide_eq_true (by omega)
                clear HBADM
                go_wp2_with fail
                go_ret
                exact ⟨ret_bool HBB.out.symm, rfl⟩
            · have HBB : Hid (b = true) := Lib.hid (by
                rw [← HB.out]
                refine decide_eq_true ⟨hl1, by simpa using hl2, HCA.out, fun f hf => ?_⟩
                have := HF.out f (by rw [List.take_of_length_le (by simp; omega)]; exact hf)
                exact this)
              go_wp2_with fail
              go_ret
              exact ⟨ret_bool HBB.out.symm, rfl⟩
    · have h2 : decide (48 < fs.length) = true := decide_eq_true (by omega)
      have HBB : Hid (b = false) := Lib.hid (by rw [← HB.out]; exact decide_eq_false (fun h => hl2 (by simpa using h.2.1)))
      go_enter Try.func16, Try.ntmps16
      go_wp2_with fail
      go_ret
      exact ⟨ret_bool HBB.out.symm, rfl⟩
  · have h2 : decide (64 < caps.length) = true := decide_eq_true (by omega)
    have HBB : Hid (b = false) := Lib.hid (by rw [← HB.out]; exact decide_eq_false (fun h => hl1 h.1))
    go_enter Try.func16, Try.ntmps16
    go_wp2_with fail
    go_ret
    exact ⟨ret_bool HBB.out.symm, rfl⟩
end Go.Proofs.Ythdfflbhogfejaa
