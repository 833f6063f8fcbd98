/- The walks of transfer.flows (with the two function values). -/
import Derived.Test.YtgjhjdjbhmblmaaTrB
import Derived.BigQuiet
import Derived.Deep.QuietTactic
import Derived.Deep.RegionHeld3
namespace Go.Proofs.Ytgjhjdjbhmblmaa
open Go.RowKit

theorem zero_any (w : World) (i : Int) : Calls Try.prog 27 #[.int .i64 i] w fun e w' => e = .returned (.int .i64 0) ∧ w = w' := by
  go_enter Try.func27, Try.ntmps27
  go_wp2_with fail
  go_ret
  exact ⟨rfl, rfl⟩
theorem make2_cells (n : Nat) : (madeCells Fm.nil.val.cells (n * 2)).toList = wcells (List.replicate n Fm.nil) := by
  apply List.ext_getElem?
  intro i
  rw [Array.getElem?_toList]
  simp only [madeCells, Array.getElem?_map]
  rcases Nat.lt_or_ge i (n * 2) with h | h
  · have hk : i / 2 < (List.replicate n Fm.nil).length := by simp; omega
    obtain ⟨h0, h1⟩ := wcells_get (List.replicate n Fm.nil) (i / 2) hk
    rcases (show i % 2 = 0 ∨ i % 2 = 1 by omega) with e | e
    · have ei : i = i / 2 * 2 := by omega
      rw [← ei] at h0
      rw [h0]
      simp [h, Value.cells, e]
    · have ei : i = i / 2 * 2 + 1 := by omega
      rw [← ei] at h1
      rw [h1]
      simp [h, Value.cells, e]
  · rw [List.getElem?_eq_none (by rw [wcells_len]; simp; omega)]
    simp [h]
/-- the flows of the first i transfers -/
def flowsTo (ts : List Tm) (f : Nat → Int) (i : Nat) : List Fm := (List.range ts.length).map fun j => if j < i then ⟨(ts.getD j ⟨none, 0, [], 0, 0⟩).A, (ts.getD j ⟨none, 0, [], 0, 0⟩).c, (ts.getD j ⟨none, 0, [], 0, 0⟩).ls, f j⟩ else Fm.nil
theorem flowsTo_len (ts : List Tm) (f : Nat → Int) (i : Nat) : (flowsTo ts f i).length = ts.length := by simp [flowsTo]
theorem flowsTo_zero (ts : List Tm) (f : Nat → Int) : flowsTo ts f 0 = List.replicate ts.length Fm.nil := by
  apply List.ext_getElem
  · simp [flowsTo]
  · intro i h1 h2; simp [flowsTo]
theorem flowsTo_step (ts : List Tm) (f : Nat → Int) (i : Nat) (h : i < ts.length) : (flowsTo ts f i).set i (ts[i].fm (f i)) = flowsTo ts f (i + 1) := by
  apply List.ext_getElem
  · simp [flowsTo]
  · intro j h1 h2
    rw [List.getElem_set]
    have hj : j < ts.length := by simpa [flowsTo] using h2
    simp only [flowsTo, List.getElem_map, List.getElem_range]
    by_cases e : i = j
    · subst e; simp [List.getD_eq_getElem?_getD, h]
    · rw [if_neg e]
      by_cases e2 : j < i
      · rw [if_pos e2, if_pos (by omega)]
      · rw [if_neg e2, if_neg (by omega)]
theorem flowsTo_fl (ts : List Tm) (f : Nat → Int) : (flowsTo ts f ts.length).map Fm.fl = (List.range ts.length).map fun j => ((ts.getD j ⟨none, 0, [], 0, 0⟩).ls, f j) := by
  simp only [flowsTo, List.map_map]
  apply List.map_congr_left
  intro j hj
  simp only [List.mem_range] at hj
  simp [hj]
theorem flowsTo_ok {ts : List Tm} {f : Nat → Int} {w : World} (h : ∀ x ∈ ts, x.ok w) (hf : ∀ j, j < ts.length → -9223372036854775808 ≤ f j ∧ f j ≤ 9223372036854775807) : ∀ x ∈ flowsTo ts f ts.length, x.ok w := by
  intro x hx
  obtain ⟨j, hj, rfl⟩ := List.mem_map.1 hx
  simp only [List.mem_range] at hj
  rw [if_pos hj]
  have := h _ (List.getElem_mem hj)
  rw [List.getD_eq_getElem?_getD, List.getElem?_eq_getElem hj, Option.getD_some]
  exact ⟨this.is, hf j hj⟩
theorem cell_far3 {w : World} {g gT k k' j n : Nat} {a b v : Value} (h : w.cell? ⟨gT, j, none⟩ = some v) (hne : g ≠ gT) : (((w.drewN n).setCell ⟨g, k, none⟩ a).setCell ⟨g, k', none⟩ b).cell? ⟨gT, j, none⟩ = some v := by
  rw [World.cell?_setCell_far _ _ _ _ hne, World.cell?_setCell_far _ _ _ _ hne]; exact h
theorem cell_far2 {w : World} {g gT k k' j : Nat} {a b v : Value} (h : w.cell? ⟨gT, j, none⟩ = some v) (hne : g ≠ gT) : ((w.setCell ⟨g, k, none⟩ a).setCell ⟨g, k', none⟩ b).drew.cell? ⟨gT, j, none⟩ = some v := by
  show ((w.setCell ⟨g, k, none⟩ a).setCell ⟨g, k', none⟩ b).cell? ⟨gT, j, none⟩ = some v
  rw [World.cell?_setCell_far _ _ _ _ hne, World.cell?_setCell_far _ _ _ _ hne]; exact h
set_option maxRecDepth 100000 in
set_option maxHeartbeats 1600000 in
theorem flows0_any (w : World) (A : Option Addr) (n c : Nat) (ts : List Tm) (hA : Ts w A c ts) (hn : n = ts.length) (hm : ts.length ≤ 60) :
    Calls Try.prog 26 #[.slice A n c, .func (.func 27) #[] #[]] w fun e w' => ∃ A' c', e = .returned (.slice A' ts.length c') ∧ Fw w' w.heap.size A' c' (flowsTo ts (fun _ => 0) ts.length) ∧ Below w.heap.size w w' := by
  have HA := Lib.hid hA; clear hA
  subst hn
  obtain ⟨i0, hi, hi0, hi1, hi2⟩ := info_parts flow_info
  go_enter Try.func26, Try.ntmps26
  go_upto_region 2 with (refine wpList_make_full w rfl _ _ 45 rfl w.heap.size 54 i0 Fm.nil.val 2 Try.underlying45 hi hi0 hi1 .i64 .i64 _ _ ts.length rfl rfl (by omega) (by omega) (by rw [hi2]; omega) (by simp only [maxLen]; omega) (Nat.le_refl _) ?_; intro w1 hg1 hb1)
  have F0 : Fw w1 w.heap.size (some ⟨w.heap.size, 0, none⟩) ts.length (flowsTo ts (fun _ => 0) 0) := by
    unfold Fw
    rw [flowsTo_len, flowsTo_zero, ← make2_cells]
    exact hg1
  have b1 : Below w.heap.size w w1 := (Below.refl _ _).grown hb1 (Nat.le_refl _) (by intro k hk; cases hk)
  have hs1 : w.heap.size < w1.heap.size := (F0.form.2.2 _ rfl).2
  clear hg1 hb1
  obtain ⟨gr, hgr⟩ : ∃ g, w.heap.size = g := ⟨_, rfl⟩
  have HGR := Lib.hid hgr
  rw [hgr] at F0 b1 hs1 ⊢
  clear hgr
  go_wp2_with fail
  go_loopw [13] (fun i wr => ∃ k : Nat, k ≤ ts.length ∧ i = .int .i64 k ∧ Fw wr gr (some ⟨gr, 0, none⟩) ts.length (flowsTo ts (fun _ => 0) k) ∧ Below gr w wr) (fun i _ => ts.length - (intOf i).toNat)
  case atStart => exact ⟨0, by omega, rfl, F0, b1⟩
  case round =>
    clear F0 b1
    obtain ⟨k, hk, rfl, hF, bw⟩ := hrel
    have HF := Lib.hid hF
    clear hF
    have hwr := HF.out.form.2.2 _ rfl
    by_cases hlt : k < ts.length
    · have hW := HA.out.below (by rw [HGR.out]; exact bw)
      obtain ⟨ad, rfl, hc0, hc1, hc2, hok⟩ := hW.at k hlt
      have HST := Lib.hid (flowsTo_step ts (fun _ => 0) k hlt)
      obtain ⟨x, hx⟩ : ∃ x, ts[k] = x := ⟨_, rfl⟩
      rw [hx] at hc0 hc1 hc2 hok HST
      clear hx hW
      go_upto_region 5 with fail
      have tb := (tb_alloc wr x 26).1
      have bb := (tb_alloc wr x 26).2
      have HF2 := Lib.hid (HF.out.below bb)
      replace bw := below_on bw bb (Nat.le_of_lt hwr.2)
      clear hc0 hc1 hc2 hok HF
      generalize (wr.alloc (.cells #[.slice x.A x.ls.length x.c, .int .i64 x.b, .int .i64 x.s] 26)) = wm at tb bb HF2 bw ⊢
      clear bb
      have dgT : gr < wr.heap.size := hwr.2
      clear hwr
      generalize wr.heap.size = gT at *
      have tc0 := tb.c0
      have fr0 := HF2.out.free (k * 2)
      have fr1 := HF2.out.free (k * 2 + 1)
      obtain ⟨h0, h1⟩ := wcells_get (flowsTo ts (fun _ => 0) k) k (by rw [flowsTo_len]; exact hlt)
      have hq0 := (World.ownsRow.cellAt HF2.out (k * 2) (by rw [flowsTo_len]; omega)).trans h0
      have hq1 := (World.ownsRow.cellAt HF2.out (k * 2 + 1) (by rw [flowsTo_len]; omega)).trans h1
      clear h0 h1
      go_region_held3 (fun w' => w'.cell? ⟨gT, 0, none⟩ = some (.slice x.A x.ls.length x.c))
        (first | exact tc0 | with_reducible exact cell_far2 tc0 (by omega) | go_keep)
        (first | (go_at_call 27
                  with_reducible refine (zero_any _ _).mono ?_
                  rintro e wn ⟨rfl, rfl⟩))
      go_wp2_with fail
      go_roundw
      case rel =>
        have hp := HF2.out.put k (x.fm (0))
        rw [HST.out] at hp
        refine ⟨k + 1, by omega, by go_num, ?_, ?_⟩
        · have hd := hp.below (below_drew (Below.refl _ _))
          exact hd
        · exact ((bw.setCell (p := ⟨gr, k * 2, none⟩) (Nat.le_refl _) _).setCell (p := ⟨gr, k * 2 + 1, none⟩) (Nat.le_refl _) _).drew
      case measure => simp [intOf]; omega
    · obtain rfl : k = ts.length := by omega
      go_wp2_with fail
      go_ret
      rw [HGR.out]
      refine ⟨some ⟨gr, 0, none⟩, ts.length, by first | rfl | (rw [flowsTo_len]; rfl), HF.out, bw⟩

/-- the function value of Step: what a transfer may still send -/
theorem limit_any (w : World) (i : Nat) (G5 G6 G7 : Addr) (A B : Option Addr) (n c m d : Nat) (ts : List Tm) (left : List Int) (tick : Int) (h5 : w.cell? G5 = some (.slice A n c)) (h6 : w.cell? G6 = some (.slice B m d)) (h7 : w.cell? G7 = some (.int .i64 tick)) (hA : Ts w A c ts) (hB : Is w B d left) (hn : n = ts.length) (hm : m = left.length) (hi : i < ts.length) (hl : ts.length = left.length) :
    Calls Try.prog 32 #[.int .i64 i, .pointer (some G5), .pointer (some G7), .pointer (some G6)] w fun e w' => e = .returned (.int .i64 (if tick < ts[i].s then 0 else left[i])) ∧ ∃ q, w' = w.drewN q := by
  obtain ⟨ad, rfl, hc0, hc1, hc2, _⟩ := hA.at i hi
  obtain ⟨bd, rfl, _, hcl⟩ := hB.at i (by omega)
  have hmx := hA.cap
  have hmx2 := hA.max
  have hbx := hB.cap
  subst hn hm
  clear hA hB
  by_cases hlt : tick < ts[i].s
  · have h1 : decide (tick < ts[i].s) = true := decide_eq_true hlt
    rw [if_pos hlt]
    clear hlt
    go_enter Try.func32, Try.ntmps32
    go_wp2_with fail
    go_quiet (fail)
    go_wp2_with fail
    go_ret
    exact ⟨rfl, _, rfl⟩
  · have h1 : decide (tick < ts[i].s) = false := decide_eq_false hlt
    rw [if_neg hlt]
    clear hlt
    go_enter Try.func32, Try.ntmps32
    go_wp2_with fail
    go_quiet (fail)
    go_wp2_with fail
    go_ret
    exact ⟨rfl, _, rfl⟩
/-- what each transfer may still send in a tick -/
def limF (ts : List Tm) (left : List Int) (tick : Int) (k : Nat) : Int := if tick < (ts.getD k ⟨none, 0, [], 0, 0⟩).s then 0 else left.getD k 0
set_option maxRecDepth 100000 in
set_option maxHeartbeats 1600000 in
theorem flowsL_any (w : World) (A : Option Addr) (n c : Nat) (ts : List Tm) (G5 G6 G7 : Addr) (B : Option Addr) (m d : Nat) (left : List Int) (tick : Int) (h5 : w.cell? G5 = some (.slice A n c)) (h6 : w.cell? G6 = some (.slice B m d)) (h7 : w.cell? G7 = some (.int .i64 tick)) (l5 : G5.block < w.heap.size) (l6 : G6.block < w.heap.size) (l7 : G7.block < w.heap.size) (hA : Ts w A c ts) (hB : Is w B d left) (hn : n = ts.length) (hmm : m = left.length) (hl : ts.length = left.length) (hm : ts.length ≤ 60) :
    Calls Try.prog 26 #[.slice A n c, .func (.func 32) #[] #[.pointer (some G5), .pointer (some G7), .pointer (some G6)]] w fun e w' => ∃ A' c', e = .returned (.slice A' ts.length c') ∧ Fw w' w.heap.size A' c' (flowsTo ts (limF ts left tick) ts.length) ∧ Below w.heap.size w w' := by
  have HA := Lib.hid hA; clear hA
  have HB := Lib.hid hB; clear hB
  subst hn hmm
  have H5 := Lib.hid h5; clear h5
  have H6 := Lib.hid h6; clear h6
  have H7 := Lib.hid h7; clear h7
  have L5 := Lib.hid l5; clear l5
  have L6 := Lib.hid l6; clear l6
  have L7 := Lib.hid l7; clear l7
  have HL := Lib.hid hl; clear hl
  obtain ⟨i0, hi, hi0, hi1, hi2⟩ := info_parts flow_info
  go_enter Try.func26, Try.ntmps26
  go_upto_region 2 with (refine wpList_make_full w rfl _ _ 45 rfl w.heap.size 54 i0 Fm.nil.val 2 Try.underlying45 hi hi0 hi1 .i64 .i64 _ _ ts.length rfl rfl (by omega) (by omega) (by rw [hi2]; omega) (by simp only [maxLen]; omega) (Nat.le_refl _) ?_; intro w1 hg1 hb1)
  have F0 : Fw w1 w.heap.size (some ⟨w.heap.size, 0, none⟩) ts.length (flowsTo ts (limF ts left tick) 0) := by
    unfold Fw
    rw [flowsTo_len, flowsTo_zero, ← make2_cells]
    exact hg1
  have b1 : Below w.heap.size w w1 := (Below.refl _ _).grown hb1 (Nat.le_refl _) (by intro k hk; cases hk)
  have hs1 : w.heap.size < w1.heap.size := (F0.form.2.2 _ rfl).2
  clear hg1 hb1
  obtain ⟨gr, hgr⟩ : ∃ g, w.heap.size = g := ⟨_, rfl⟩
  have HGR := Lib.hid hgr
  rw [hgr] at F0 b1 hs1 ⊢
  clear hgr
  go_wp2_with fail
  go_loopw [13] (fun i wr => ∃ k : Nat, k ≤ ts.length ∧ i = .int .i64 k ∧ Fw wr gr (some ⟨gr, 0, none⟩) ts.length (flowsTo ts (limF ts left tick) k) ∧ Below gr w wr) (fun i _ => ts.length - (intOf i).toNat)
  case atStart => exact ⟨0, by omega, rfl, F0, b1⟩
  case round =>
    clear F0 b1
    obtain ⟨k, hk, rfl, hF, bw⟩ := hrel
    have HF := Lib.hid hF
    clear hF
    have hwr := HF.out.form.2.2 _ rfl
    by_cases hlt : k < ts.length
    · have hW := HA.out.below (by rw [HGR.out]; exact bw)
      obtain ⟨ad, rfl, hc0, hc1, hc2, hok⟩ := hW.at k hlt
      have HST := Lib.hid (flowsTo_step ts (limF ts left tick) k hlt)
      have HLIM : Hid (limF ts left tick k = if tick < ts[k].s then 0 else left[k]'(by have := HL.out; omega)) := Lib.hid (by rw [limF, getD_lt _ _ _ hlt, getD_lt _ _ _ (by have := HL.out; omega)])
      obtain ⟨x, hx⟩ : ∃ x, ts[k] = x := ⟨_, rfl⟩
      rw [hx] at hc0 hc1 hc2 hok HST
      clear hx hW
      go_upto_region 5 with fail
      have tb := (tb_alloc wr x 26).1
      have bb := (tb_alloc wr x 26).2
      have HF2 := Lib.hid (HF.out.below bb)
      replace bw := below_on bw bb (Nat.le_of_lt hwr.2)
      clear hc0 hc1 hc2 hok HF
      generalize (wr.alloc (.cells #[.slice x.A x.ls.length x.c, .int .i64 x.b, .int .i64 x.s] 26)) = wm at tb bb HF2 bw ⊢
      clear bb
      have dgT : gr < wr.heap.size := hwr.2
      clear hwr
      generalize wr.heap.size = gT at *
      have tc0 := tb.c0
      have fr0 := HF2.out.free (k * 2)
      have fr1 := HF2.out.free (k * 2 + 1)
      obtain ⟨h0, h1⟩ := wcells_get (flowsTo ts (limF ts left tick) k) k (by rw [flowsTo_len]; exact hlt)
      have hq0 := (World.ownsRow.cellAt HF2.out (k * 2) (by rw [flowsTo_len]; omega)).trans h0
      have hq1 := (World.ownsRow.cellAt HF2.out (k * 2 + 1) (by rw [flowsTo_len]; omega)).trans h1
      clear h0 h1
      have HQ : Hid (∀ wz, Below gr w wz → Calls Try.prog 32 #[.int .i64 k, .pointer (some G5), .pointer (some G7), .pointer (some G6)] wz fun e w' => e = .returned (.int .i64 (limF ts left tick k)) ∧ ∃ q, w' = wz.drewN q) := Lib.hid (fun wz hb => by
        have hb' : Below w.heap.size w wz := by rw [HGR.out]; exact hb
        have e5 := (hb'.cell (p := G5) L5.out).trans H5.out
        have e6 := (hb'.cell (p := G6) L6.out).trans H6.out
        have e7 := (hb'.cell (p := G7) L7.out).trans H7.out
        have := limit_any wz k G5 G6 G7 _ B _ c _ d ts left tick e5 e6 e7 (HA.out.below hb') (HB.out.below hb') rfl rfl hlt HL.out
        rw [HLIM.out]
        exact this)
      go_region_held3 (fun w' => w'.cell? ⟨gT, 0, none⟩ = some (.slice x.A x.ls.length x.c))
        (first | exact tc0 | with_reducible exact cell_far3 tc0 (by omega) | go_keep)
        (first | (go_at_call 32
                  with_reducible refine (HQ.out _ (below_drew bw)).mono ?_
                  rintro e wn ⟨rfl, q, rfl⟩))
      go_wp2_with fail
      go_roundw
      case rel =>
        have hp := (HF2.out.below (below_drewN (Below.refl _ _) (1 + q))).put k (x.fm (limF ts left tick k))
        rw [HST.out] at hp
        refine ⟨k + 1, by omega, by go_num, ?_, ?_⟩
        · exact hp
        · exact ((below_drewN bw (1 + q)).setCell (p := ⟨gr, k * 2, none⟩) (Nat.le_refl _) _).setCell (p := ⟨gr, k * 2 + 1, none⟩) (Nat.le_refl _) _
      case measure => simp [intOf]; omega
    · obtain rfl : k = ts.length := by omega
      go_wp2_with fail
      go_ret
      rw [HGR.out]
      refine ⟨some ⟨gr, 0, none⟩, ts.length, by first | rfl | (rw [flowsTo_len]; rfl), HF.out, bw⟩

end Go.Proofs.Ytgjhjdjbhmblmaa
