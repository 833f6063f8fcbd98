/- The walk of Transfers. -/
import Derived.Test.YtgjhjdjbhmblmaaTrG
namespace Go.Proofs.Ytgjhjdjbhmblmaa
open Go.RowKit

def startM (xs : List Int) (j : Nat) : Int := if 14 + j < xs.length then withinM (xs.getD (14 + j) 0) 12 else 0
/-- the transfers that a law makes -/
def transM (xs : List Int) (n : Nat) : List Tr := (List.range (min 6 (cntF xs))).map fun j => ((flowM xs n j).1, (flowM xs n j).2, startM xs j)
def tmOf (fs : List Fm) (xs : List Int) (j : Nat) : Tm := ⟨(fs.getD j Fm.nil).A, (fs.getD j Fm.nil).c, (fs.getD j Fm.nil).ls, (fs.getD j Fm.nil).m, startM xs j⟩
theorem startM_bd (xs : List Int) (j : Nat) : 0 ≤ startM xs j ∧ startM xs j ≤ 11 := by
  unfold startM
  split
  · have := withinM_bd (xs.getD (14 + j) 0) (show (1 : Int) ≤ 12 by omega); omega
  · omega
theorem tmOf_tr {fs : List Fm} {xs : List Int} {n j : Nat} (h : fs.map Fm.fl = flowsM xs n) (hj : j < fs.length) : (tmOf fs xs j).tr = ((flowM xs n j).1, (flowM xs n j).2, startM xs j) := by
  have hl : fs.length = cntF xs := by have := congrArg List.length h; simpa [flowsM] using this
  have e : (fs.map Fm.fl)[j]'(by rw [List.length_map]; exact hj) = flowM xs n j := by
    simp only [h, flowsM, List.getElem_map, List.getElem_range]
  rw [List.getElem_map] at e
  rw [← e, tmOf, getD_lt _ _ _ hj]
theorem add_pos (a : Addr) {k : Nat} (h : 0 < k) : a.add k = ⟨a.block, a.off + k, none⟩ := by
  obtain ⟨j, rfl⟩ : ∃ j, k = j + 1 := ⟨k - 1, by omega⟩
  exact add_at1 a j
theorem trans_fin {fs : List Fm} {xs : List Int} {L j : Nat} (h : fs.map Fm.fl = flowsM xs L) (hj : j ≤ fs.length) (he : j = min 6 (cntF xs)) : ((List.range j).map (tmOf fs xs)).map Tm.tr = transM xs L := by
  rw [List.map_map, transM, ← he]
  apply List.map_congr_left
  intro i hi
  exact tmOf_tr h (by have := List.mem_range.1 hi; omega)
theorem tms_ok {fs : List Fm} {xs : List Int} {j : Nat} {w : World} (h : ∀ x ∈ fs, x.ok w) (hj : j ≤ fs.length) : ∀ x ∈ (List.range j).map (tmOf fs xs), x.ok w := by
  intro x hx
  obtain ⟨i, hi, rfl⟩ := List.mem_map.1 hx
  have hi' : i < fs.length := by have := List.mem_range.1 hi; omega
  have ho := h _ (List.getElem_mem hi')
  have hb := startM_bd xs i
  have e : tmOf fs xs i = ⟨fs[i].A, fs[i].c, fs[i].ls, fs[i].m, startM xs i⟩ := by simp only [tmOf, getD_lt _ _ _ hi']
  rw [e]
  exact ⟨ho.is, ho.wf, by show -9223372036854775808 ≤ startM xs i ∧ startM xs i ≤ _; omega⟩
theorem Tw.far {w : World} {B c : Nat} {A : Option Addr} {vs : List Tm} (h : Tw w B A c vs) {p : Addr} (hp : ∀ ad, A = some ad → ad.block ≠ p.block) (u : Value) : Tw (w.setCell p u) B A c vs :=
  World.ownsRow.kept h (w' := w.setCell p u) (row := some p.block)
    ⟨rfl, rfl, rfl, by simp [World.setCell], fun k _ hne => Below.heap_setCell _ _ _ _ (fun e => hne (by rw [e]))⟩ (by
      cases A with
      | none => exact .inl rfl
      | some ad => exact .inr (by simp [Value.ownBlock]; exact hp ad rfl))
set_option maxRecDepth 100000 in
set_option maxHeartbeats 4000000 in
theorem trans_any (w : World) (A : Option Addr) (n c : Nat) (xs : List Int) (L : Nat) (hA : Is w A c xs) (hn : n = xs.length) (hL : L ≤ 20) :
    Calls Try.prog 17 #[.slice A n c, .int .i64 L] w fun e w' => ∃ A' c' ts, e = .returned (.slice A' ts.length c') ∧ ts.map Tm.tr = transM xs L ∧ Ts w' A' c' ts ∧ Below w.heap.size w w' := by
  have HA := Lib.hid hA; clear hA
  subst hn
  have hla := HA.out.len
  have hla2 := HA.out.cap
  have hla3 := HA.out.max
  go_enter Try.func17, Try.ntmps17
  go_wp2_with fail
  refine (flowsL_walk w A _ c xs L HA.out rfl hL).mono ?_
  rintro e w1 ⟨AF, cF, fs, rfl, hfm, hW, b1⟩
  have HFM := Lib.hid hfm
  have HW := Lib.hid hW
  have hfl : fs.length = cntF xs := by have := congrArg List.length hfm; simpa [flowsM] using this
  have hf7 : fs.length ≤ 7 := by rw [hfl]; unfold cntF; omega
  have HFL := Lib.hid hfl
  have HB1 := Lib.hid b1
  clear hfm hW hfl b1
  go_wp2_with fail
  go_loopw [5, 7] (fun s i wr => ∃ (j : Nat) (A' : Option Addr) (c' : Nat), j ≤ fs.length ∧ j ≤ 6 ∧ i = .int .i64 (j : Int) ∧ s = .slice A' ((List.range j).map (tmOf fs xs)).length c' ∧ Tw wr w1.heap.size A' c' ((List.range j).map (tmOf fs xs)) ∧ Below w1.heap.size w1 wr) (fun _ i _ => fs.length - (intOf i).toNat)
  case atStart => exact ⟨0, none, 0, by omega, by omega, rfl, rfl, Tw.nil _ _, Below.refl _ _⟩
  case round =>
    obtain ⟨j, A', c', hj, hj6, rfl, rfl, hT, bw⟩ := hrel
    have HT := Lib.hid hT
    clear hT
    have hjl : ((List.range j).map (tmOf fs xs)).length = j := by simp
    have HJL := Lib.hid hjl.symm
    rw [hjl]
    clear hjl
    by_cases hlt : j < fs.length
    · by_cases h6 : j < 6
      · obtain ⟨ad, rfl, _, hcc⟩ := (HW.out.below bw).rd (by omega)
        obtain ⟨hc0, hc1⟩ := hcc j hlt
        have hcap := HW.out.cap
        have hTM : ∀ s, (⟨fs[j].A, fs[j].c, fs[j].ls, fs[j].m, s⟩ : Tm) = { tmOf fs xs j with s := s } := fun s => by simp only [tmOf, getD_lt _ _ _ hlt]
        have HTM := Lib.hid hTM
        obtain ⟨x, hx⟩ : ∃ x, fs[j] = x := ⟨_, rfl⟩
        rw [hx] at hc0 hc1 HTM
        have hwr := bw.size
        clear hcc hx hTM
        go_upto_region 6 with fail
        go_region_held3 (fun w' => w'.cell? (ad.add (j * 2)) = some (.slice x.A x.ls.length x.c) ∧ w'.cell? ⟨(ad.add (j * 2)).block, (ad.add (j * 2)).off + 1, none⟩ = some (.int .i64 x.m))
          (first | exact ⟨hc0, hc1⟩ | go_keep)
          (first | fail)
        obtain ⟨tb, bb⟩ := tb_alloc wr ⟨x.A, x.c, x.ls, x.m, 0⟩ 26
        have ff2 : (wr.alloc (.cells #[.slice x.A x.ls.length x.c, .int .i64 x.m, .int .i64 0] 26)).frozen? ⟨wr.heap.size, 2, none⟩ = false := by
          have hn := heap_alloc_new wr (.cells #[.slice x.A x.ls.length x.c, .int .i64 x.m, .int .i64 0] 26)
          exact frozen_of_row _ _ 2 _ _ hn
        have bwm := (below_on bw bb bw.size).drew
        have tb' : Tb (wr.alloc (.cells #[.slice x.A x.ls.length x.c, .int .i64 x.m, .int .i64 0] 26)).drew wr.heap.size ⟨x.A, x.c, x.ls, x.m, 0⟩ := ⟨tb.c0, tb.c1, tb.c2, tb.lt⟩
        have ff2' : (wr.alloc (.cells #[.slice x.A x.ls.length x.c, .int .i64 x.m, .int .i64 0] 26)).drew.frozen? ⟨wr.heap.size, 2, none⟩ = false := ff2
        have HT2 := Lib.hid ((HT.out.below bb).below (below_drew (Below.refl _ _)))
        have hgT : w1.heap.size ≤ wr.heap.size := hwr
        have hgX : ∀ a, A' = some a → a.block < wr.heap.size := fun a e => (HT.out.form.2.2 a e).2
        clear tb ff2 bb bw HT hc0 hc1 hwr
        generalize (wr.alloc (.cells #[.slice x.A x.ls.length x.c, .int .i64 x.m, .int .i64 0] 26)).drew = wm at tb' ff2' bwm HT2 ⊢
        generalize wr.heap.size = gT at *
        have tc0 := tb'.c0
        have tc1 := tb'.c1
        have tc2 := tb'.c2
        have hbw : Below w.heap.size w wm := below_on HB1.out bwm HB1.out.size
        by_cases h14 : 14 + j < xs.length
        · have h14' : decide ((14 : Int) + (j : Int) < (xs.length : Int)) = true := decide_eq_true (by omega)
          obtain ⟨aa, rfl, _, hac⟩ := (HA.out.below hbw).at (14 + j) h14
          have hwf := Lib.hid (HA.out.wf _ (List.getElem_mem h14))
          have HS : Hid (startM xs j = withinM xs[14 + j] 12) := Lib.hid (by rw [startM, if_pos h14, getD_lt _ _ _ h14])
          go_wp2_with fail
          refine (within_any wm _ 12 hwf.out (by omega)).mono ?_
          rintro e wn ⟨rfl, rfl⟩
          go_upto_region 9 with fail
          have hsb := startM_bd xs j
          rw [HS.out] at hsb
          have lz := tb'.lt
          have HTz := Lib.hid (HT2.out.far (p := ⟨gT, 2, none⟩) (fun a e => Nat.ne_of_lt (hgX a e)) (.int .i64 (withinM xs[14 + j] 12)))
          have bwz := bwm.setCell (p := ⟨gT, 2, none⟩) hgT (.int .i64 (withinM xs[14 + j] 12))
          have z0 : (wm.setCell ⟨gT, 2, none⟩ (.int .i64 (withinM xs[14 + j] 12))).cell? ⟨gT, 0, none⟩ = some (.slice x.A x.ls.length x.c) := by go_simp
          have z1 : (wm.setCell ⟨gT, 2, none⟩ (.int .i64 (withinM xs[14 + j] 12))).cell? ⟨gT, 1, none⟩ = some (.int .i64 x.m) := by go_simp
          have z2 : (wm.setCell ⟨gT, 2, none⟩ (.int .i64 (withinM xs[14 + j] 12))).cell? ⟨gT, 2, none⟩ = some (.int .i64 (withinM xs[14 + j] 12)) := by go_simp
          clear tc0 tc1 tc2 tb' ff2' hac HT2 bwm hbw
          generalize (wm.setCell ⟨gT, 2, none⟩ (.int .i64 (withinM xs[14 + j] 12))) = wz9 at HTz bwz z0 z1 z2 ⊢
          skip
          have HY : Hid ((⟨x.A, x.c, x.ls, x.m, withinM xs[14 + j] 12⟩ : Tm) = tmOf fs xs j) := Lib.hid (by rw [HTM.out]; simp only [tmOf, HS.out])
          have hrow := rdt_one wz9 ⟨x.A, x.c, x.ls, x.m, withinM xs[14 + j] 12⟩
          have bl := (Below.refl (wz9).heap.size wz9).alloc (Nat.le_refl _) (.cells #[.slice x.A x.ls.length x.c, .int .i64 x.m, .int .i64 (withinM xs[14 + j] 12)] 26)
          have hf2 := HTz.out.below bl
          have bw2 := below_on bwz bl bwz.size
          go_wp2_with (at_builtin; refine wpList_append_t _ rfl _ _ rfl rfl (B := w1.heap.size) rfl HJL.out hf2 ⟨(wz9).heap.size, 0, none⟩ _ ⟨x.A, x.c, x.ls, x.m, withinM xs[14 + j] 12⟩ rfl hrow (by omega) bw2.size ?_; intro A2 c2 wz hfz hbz _ _)
          go_roundw
          case rel =>
            rw [HY.out] at hfz
            have e : (List.range j).map (tmOf fs xs) ++ [tmOf fs xs j] = (List.range (j + 1)).map (tmOf fs xs) := by rw [List.range_succ, List.map_append]; rfl
            rw [e] at hfz
            exact ⟨j + 1, A2, c2, by omega, by omega, by go_num, by simp, hfz, bw2.trans hbz⟩
          case measure => simp [intOf]; omega
        · have h14' : decide ((14 : Int) + (j : Int) < (xs.length : Int)) = false := decide_eq_false (by omega)
          have HS : Hid (startM xs j = 0) := Lib.hid (by rw [startM, if_neg h14])
          go_upto_region 9 with fail
          have bwz := bwm
          have HTz := HT2
          have lz := tb'.lt
          skip
          have HY : Hid ((⟨x.A, x.c, x.ls, x.m, 0⟩ : Tm) = tmOf fs xs j) := Lib.hid (by rw [HTM.out]; simp only [tmOf, HS.out])
          have hrow := rdt_one wm ⟨x.A, x.c, x.ls, x.m, 0⟩
          have bl := (Below.refl (wm).heap.size wm).alloc (Nat.le_refl _) (.cells #[.slice x.A x.ls.length x.c, .int .i64 x.m, .int .i64 (0)] 26)
          have hf2 := HTz.out.below bl
          have bw2 := below_on bwz bl bwz.size
          go_wp2_with (at_builtin; refine wpList_append_t _ rfl _ _ rfl rfl (B := w1.heap.size) rfl HJL.out hf2 ⟨(wm).heap.size, 0, none⟩ _ ⟨x.A, x.c, x.ls, x.m, 0⟩ rfl hrow (by omega) bw2.size ?_; intro A2 c2 wz hfz hbz _ _)
          go_roundw
          case rel =>
            rw [HY.out] at hfz
            have e : (List.range j).map (tmOf fs xs) ++ [tmOf fs xs j] = (List.range (j + 1)).map (tmOf fs xs) := by rw [List.range_succ, List.map_append]; rfl
            rw [e] at hfz
            exact ⟨j + 1, A2, c2, by omega, by omega, by go_num, by simp, hfz, bw2.trans hbz⟩
          case measure => simp [intOf]; omega
      · have h6' : decide ((j : Int) < 6) = false := decide_eq_false (by omega)
        have HF := Lib.hid (trans_fin HFM.out hj (j := j) (by have := HFL.out; unfold cntF at *; omega))
        have HOK := Lib.hid (tms_ok (xs := xs) (j := j) (fun x hx => ((HW.out.below bw).ok x hx)) hj)
        go_wp2_with fail
        go_ret
        exact ⟨A', c', _, by rw [← HJL.out]; rfl, HF.out, HT.out.ts HOK.out, below_on HB1.out bw HB1.out.size⟩
    · have HF := Lib.hid (trans_fin HFM.out hj (j := j) (by have := HFL.out; unfold cntF at *; omega))
      have HOK := Lib.hid (tms_ok (xs := xs) (j := j) (fun x hx => ((HW.out.below bw).ok x hx)) hj)
      go_wp2_with fail
      go_ret
      exact ⟨A', c', _, by rw [← HJL.out]; rfl, HF.out, HT.out.ts HOK.out, below_on HB1.out bw HB1.out.size⟩
end Go.Proofs.Ytgjhjdjbhmblmaa
