/- The walks of the reference's room and Units. -/
import Derived.Test.YthdfflbhogfejaaFsR
import Derived.Test.YthdfflbhogfejaaFsU
import Derived.Deep.OwnRows
namespace Go.Proofs.Ythdfflbhogfejaa
open Go.RowKit

set_option maxRecDepth 100000 in
theorem room_any (w : World) (L : List Int) (AL : Option Addr) (nL cL B : Nat) (e0 : TypeId) (x : Fm) (b : Bool) (hg : Gr iv e0 w B AL cL L) (hnL : nL = L.length) (hB : x.ok w) (hr : ∀ e ∈ x.ls, 0 ≤ e ∧ e < (L.length : Int)) (h0 : ∀ e ∈ x.ls, 0 ≤ L.getD e.toNat 0) (hb : decide (∃ e ∈ x.ls, L.getD e.toNat 0 = 0) = b) :
    Calls Try.prog 47 #[.slice AL nL cL, x.val] w fun e w' => e = .returned (.bool (!b)) ∧ Below w.heap.size w w' := by
  have HB := Lib.hid hb; clear hb
  have HR := Lib.hid hr; clear hr
  have H0 := Lib.hid h0; clear h0
  subst hnL
  have hlen := hB.is.len
  go_enter Try.func47, Try.ntmps47
  go_upto_region 1 with fail
  have bb := (fb_alloc w x 48).2
  have fb := (fb_alloc w x 48).1
  have HG := Lib.hid (hg.below bb)
  have HA := Lib.hid (hB.is.below bb)
  clear hg hB
  generalize (w.alloc (.cells #[.slice x.A x.ls.length x.c, .int .i64 x.m] 48)) = wm at fb bb HG HA ⊢
  have fc0 := fb.c0
  go_wp2_with fail
  go_loop [5] (fun i => ∃ k : Nat, k ≤ x.ls.length ∧ i = .int .i64 k ∧ ∀ e ∈ x.ls.take k, L.getD e.toNat 0 ≠ 0) (fun i => x.ls.length - (intOf i).toNat)
  case atStart => exact ⟨0, by omega, rfl, by intro e he; simp at he⟩
  case round =>
    obtain ⟨k, hk, rfl, hP⟩ := hrel
    have HP := Lib.hid hP
    clear hP
    by_cases hlt : k < x.ls.length
    · obtain ⟨ad, hae, _, hc⟩ := HA.out.at k hlt
      obtain ⟨h0, h64⟩ := HR.out _ (List.getElem_mem hlt)
      obtain ⟨t, ht⟩ : ∃ t : Nat, x.ls[k] = (t : Int) := ⟨x.ls[k].toNat, by omega⟩
      have htl : t < L.length := by omega
      obtain ⟨g, rfl⟩ := HG.out.some_ (by omega)
      have hgc := HG.out.cell t htl
      have HE : Hid (L.getD (x.ls[k]).toNat 0 = L[t]) := Lib.hid (by rw [ht, Int.toNat_natCast, getD_lt _ _ _ htl])
      have HM : Hid (x.ls[k] ∈ x.ls) := Lib.hid (List.getElem_mem hlt)
      have hz0 := H0.out _ HM.out
      rw [HE.out] at hz0
      have hml := HG.out.form.1
      have hml2 := HG.out.form.2.1
      unfold maxLen at hml2
      rw [ht] at hc h0 h64
      have HT := Lib.hid ht
      clear ht
      rw [hae] at fc0
      by_cases hz : L[t] = 0
      · have hz' : decide (L[t] < 1) = true := decide_eq_true (by omega)
        have HZ := Lib.hid hz
        clear hz
        go_wp2_with fail
        go_ret
        exact ⟨ret_bool (by rw [← HB.out]; symm; rw [decide_eq_true ⟨x.ls[k], HM.out, by rw [HE.out]; exact HZ.out⟩]; rfl), bb⟩
      · have hz' : decide (L[t] < 1) = false := decide_eq_false (by omega)
        have HZ : Hid (¬ L[t] = 0) := hz
        clear hz
        go_wp2_with fail
        go_round
        case rel => exact ⟨k + 1, by omega, by go_num, by
          intro e he
          rw [List.take_succ_eq_append_getElem hlt, List.mem_append, List.mem_singleton] at he
          rcases he with he | he
          · exact HP.out e he
          · rw [he, HE.out]; exact HZ.out⟩
        case measure => simp [intOf]; omega
    · go_wp2_with fail
      go_ret
      exact ⟨ret_bool (by
        rw [← HB.out]; symm
        rw [decide_eq_false (fun ⟨e, he, hz⟩ => HP.out e (by rw [List.take_of_length_le (by omega)]; exact he) hz)]; rfl), bb⟩
set_option maxRecDepth 100000 in
theorem gr_make {α : Type} {mk : α → Value} (w : World) (e : TypeId) (x0 : α) (n : Nat) (hn : n ≤ maxLen) : Gr mk e (w.alloc (.cells (madeCells #[mk x0] n) e)) w.heap.size (some ⟨w.heap.size, 0, none⟩) n (List.replicate n x0) := by
  unfold Gr
  rw [List.length_replicate, List.map_replicate]
  exact ⟨by simp, .inr ⟨w.heap.size, n, _, rfl, Nat.le_refl _, heap_alloc_new w _, Nat.le_refl _, hn, by rw [size_madeCells, Nat.mul_one], by rw [toList_madeCells_one, Nat.mul_one, List.take_of_length_le (by simp)]⟩⟩
set_option maxRecDepth 100000 in
theorem count_set {fin : List Bool} {i : Nat} (hi : i < fin.length) (h : fin[i] = false) : (fin.set i true).count true = fin.count true + 1 := by
  induction fin generalizing i with
  | nil => simp at hi
  | cons f fin ih =>
    cases i with
    | zero => simp only [List.getElem_cons_zero] at h; subst h; simp
    | succ i =>
      have := ih (i := i) (by simpa using hi) (by simpa using h)
      simp only [List.set_cons_succ, List.count_cons, this]; omega
set_option maxRecDepth 100000 in
theorem count_all {fin : List Bool} (h : fin.length ≤ fin.count true) (j : Nat) (hj : j < fin.length) : fin.getD j true = true := by
  have h1 : fin.count true = fin.length := Nat.le_antisymm (List.count_le_length) h
  have h2 := List.count_eq_length.1 h1
  rw [getD_lt _ _ _ hj]
  exact (h2 _ (List.getElem_mem hj)).symm
set_option maxRecDepth 100000 in
set_option maxHeartbeats 1600000 in
theorem runits_ok (w : World) (A : Option Addr) (n c : Nat) (caps : List Int) (D : Option Addr) (m d : Nat) (fs : List Fm) (hA : Is w A c caps) (hD : Ws w D d fs) (hn : n = caps.length) (hm : m = fs.length) (hv : validFl caps (fs.map Fm.fl)) :
    Calls Try.prog 24 #[.slice A n c, .slice D m d] w fun e w' => ∃ A' c', e = .returned (.tuple #[.slice A' (unitsM (cpF caps) (fs.map Fm.fl)).length c', .int .i64 0]) ∧ Gr iv 3 w' w.heap.size A' c' (unitsM (cpF caps) (fs.map Fm.fl)) ∧ Below w.heap.size w w' := by
  have HA := Lib.hid hA; clear hA
  have HD := Lib.hid hD; clear hD
  have HV := Lib.hid hv; clear hv
  obtain ⟨l, hl⟩ : ∃ l, fs.map Fm.fl = l := ⟨_, rfl⟩
  obtain ⟨cp, hcp⟩ : ∃ cp, cpF caps = cp := ⟨_, rfl⟩
  have hok : okFl cp l := by rw [← hl, ← hcp]; exact HV.out.ok
  have HOK := Lib.hid hok
  have hlen : l.length = fs.length := by rw [← hl, List.length_map]
  have hfl : fs.length ≤ 48 := by have := HV.out.2.1; rwa [List.length_map] at this
  have hcl : caps.length ≤ 64 := HV.out.1
  rw [hl, hcp]
  have HL := Lib.hid hl
  have HCP := Lib.hid hcp
  have HLEN := Lib.hid hlen
  clear hl hcp hlen hok
  subst hn hm
  obtain ⟨i1, hi, hi0, hi1, hi2⟩ := info_parts int_info
  go_enter Try.func24, Try.ntmps24
  go_wp2_with fail
  refine (rvalid_any w A _ c caps D _ d fs true HA.out HD.out rfl rfl (decide_eq_true HV.out)).mono ?_
  rintro e w1 ⟨rfl, rfl⟩
  go_upto_region 4 with (at_builtin; refine wpList_append_rd _ (mk := iv) (fun _ => rfl) rfl _ _ 22 rfl 3 i1 (iv 0) 8 Try.underlying22 hi hi0 hi1 hi2 rfl (B := w.heap.size) (xs := []) rfl rfl (Gr.nil _ _) A _ _ caps rfl rfl HA.out.rd (by simp only [maxLen]; omega) (by omega) (Nat.le_refl _) ?_; intro AL cL w2 hgA _ hbA _)
  have l0 : l.length = fs.length := HLEN.out
  rw [List.nil_append] at hgA
  have HGA := Lib.hid hgA
  have HBA := Lib.hid hbA
  have hw2 := hbA.size
  clear hgA hbA
  go_cut [7, 8] (fun s7 s8 w' => ∃ go gf : Nat, s7 = .slice (some ⟨go, 0, none⟩) fs.length fs.length ∧ s8 = .slice (some ⟨gf, 0, none⟩) fs.length fs.length ∧ go ≠ gf ∧ w2.heap.size ≤ go ∧ w2.heap.size ≤ gf ∧ Gr iv 3 w' w.heap.size (some ⟨go, 0, none⟩) fs.length (List.replicate fs.length 0) ∧ Gr Value.bool 4 w' w.heap.size (some ⟨gf, 0, none⟩) fs.length (List.replicate fs.length false) ∧ Below w2.heap.size w2 w')
  case first =>
    have hmk1 := fun w => run_make_row' (P := Try.prog) 22 3 (.int .i64 0) 8 Try.underlying22 int_info rfl .i64 .i64 fs.length (by omega) (by omega) w
    have hmk2 := fun w => run_make_row' (P := Try.prog) 56 4 (.bool false) 1 Try.underlying56 bool_info rfl .i64 .i64 fs.length (by omega) (by omega) w
    go_region
    · go_wp2_with fail
      go_meet
      case rel =>
        have g1 := gr_make (mk := iv) w2.drew 3 0 fs.length (by simp only [maxLen]; omega)
        have b1 := (below_drew (Below.refl w2.heap.size w2)).alloc (Nat.le_refl _) (.cells (madeCells #[iv 0] fs.length) 3)
        have z1 := size_alloc w2.drew (.cells (madeCells #[iv 0] fs.length) 3)
        have g2 := gr_make (mk := Value.bool) (w2.drew.alloc (.cells (madeCells #[iv 0] fs.length) 3)) 4 false fs.length (by simp only [maxLen]; omega)
        have b2 := (Below.refl (w2.drew.alloc (.cells (madeCells #[iv 0] fs.length) 3)).heap.size (w2.drew.alloc (.cells (madeCells #[iv 0] fs.length) 3))).alloc (Nat.le_refl _) (.cells (madeCells #[Value.bool false] fs.length) 4)
        have e0 : w2.drew.heap.size = w2.heap.size := rfl
        refine ⟨w2.heap.size, w2.heap.size + 1, rfl, rfl, by omega, Nat.le_refl _, by omega, ?_, ?_, below_on b1 b2 b1.size⟩
        · exact (g1.more (fun ad e => by injection e with e; subst e; exact hw2)).below b2
        · rw [z1, e0] at g2
          exact g2.more (fun ad e => by injection e with e; subst e; show w.heap.size ≤ w2.heap.size + 1; omega)
    · go_wp2_with fail
      go_meet
      case rel =>
        have g1 := gr_make (mk := Value.bool) w2.drew 4 false fs.length (by simp only [maxLen]; omega)
        have b1 := (below_drew (Below.refl w2.heap.size w2)).alloc (Nat.le_refl _) (.cells (madeCells #[Value.bool false] fs.length) 4)
        have z1 := size_alloc w2.drew (.cells (madeCells #[Value.bool false] fs.length) 4)
        have g2 := gr_make (mk := iv) (w2.drew.alloc (.cells (madeCells #[Value.bool false] fs.length) 4)) 3 0 fs.length (by simp only [maxLen]; omega)
        have b2 := (Below.refl (w2.drew.alloc (.cells (madeCells #[Value.bool false] fs.length) 4)).heap.size (w2.drew.alloc (.cells (madeCells #[Value.bool false] fs.length) 4))).alloc (Nat.le_refl _) (.cells (madeCells #[iv 0] fs.length) 3)
        have e0 : w2.drew.heap.size = w2.heap.size := rfl
        refine ⟨w2.heap.size + 1, w2.heap.size, rfl, rfl, by omega, by omega, Nat.le_refl _, ?_, ?_, below_on b1 b2 b1.size⟩
        · rw [z1, e0] at g2
          exact g2.more (fun ad e => by injection e with e; subst e; show w.heap.size ≤ w2.heap.size + 1; omega)
        · exact (g1.more (fun ad e => by injection e with e; subst e; exact hw2)).below b2
  case rest =>
    obtain ⟨go, gf, rfl, rfl, dgf, dg1, dg2, hgo, hgf, bc⟩ := hcut
    have dA : ∀ ad, AL = some ad → ad.block < w2.heap.size := fun ad e => (HGA.out.form.2.2 ad e).2
    have U0 : UW cp l w wc 3 AL cL caps.length caps.length (some ⟨go, 0, none⟩) (some ⟨gf, 0, none⟩) fs.length fs.length (itU cp l 0) (fun _ => 0) := by
      refine ⟨⟨caps, rfl, HGA.out.below bc, fun e he => ?_⟩, ?_, ?_, below_on HBA.out bc HBA.out.size⟩
      · rw [show ld l (itU cp l 0).out (e : Int) = 0 from ld_rep _ _ _, ← HCP.out, cpF, Int.toNat_natCast]; omega
      · show Gr iv _ _ _ _ _ (List.replicate l.length 0)
        rw [l0]; exact hgo
      · show Gr _ _ _ _ _ _ (List.replicate l.length false)
        rw [l0]; exact hgf
    clear hgo hgf bc HGA HBA
    go_wp2_with fail
    go_loopg [9] 4098 (fun kn nv wr => ∃ (k : Nat), kn + k = 4098 ∧ k ≤ 4097 ∧ nv = .int .i64 ((itU cp l k).fin.count true : Nat) ∧ UW cp l w wr 3 AL cL caps.length caps.length (some ⟨go, 0, none⟩) (some ⟨gf, 0, none⟩) fs.length fs.length (itU cp l k) (fun _ => 0))
    case atStart => exact ⟨0, by omega, by omega, by simp [itU, List.count_replicate], U0⟩
    case round =>
      clear U0
      obtain ⟨k, hk, hk2, rfl, hU⟩ := hrel
      have HU := Lib.hid hU
      have hfl0 := (itU_len cp l k).2
      have hcnt := List.count_le_length (a := true) (l := (itU cp l k).fin)
      obtain ⟨N, hN⟩ : ∃ N, (itU cp l k).fin.count true = N := ⟨_, rfl⟩
      rw [hN, hfl0, l0] at hcnt
      have HN := Lib.hid hN
      clear hU
      rw [hN]
      clear hN hfl0
      by_cases hNl : N < fs.length
      · have hk3 : k ≤ 4096 := by
          rcases Nat.lt_or_ge k 4097 with h2 | h2
          · omega
          · exfalso
            have h3 := itU_all HOK.out k h2
            have h4 : (itU cp l k).fin.count true = (itU cp l k).fin.length := List.count_eq_length.2 (fun b hb => by
              obtain ⟨q, hq, rfl⟩ := List.getElem_of_mem hb
              have := h3 q hq
              rw [getD_lt _ _ _ hq] at this; exact this.symm)
            rw [HN.out, (itU_len cp l k).2, l0] at h4
            omega
        go_wp2_with fail
        go_loopw [9, 10] (fun nv i wr => ∃ (i' N' : Nat), i' ≤ fs.length ∧ N' ≤ fs.length ∧ i = .int .i64 i' ∧ nv = .int .i64 N' ∧ (partU cp l (itU cp l k) i').fin.count true = N' ∧ UW cp l w wr 3 AL cL caps.length caps.length (some ⟨go, 0, none⟩) (some ⟨gf, 0, none⟩) fs.length fs.length (partU cp l (itU cp l k) i') (fun _ => 0)) (fun _ i _ => fs.length - (intOf i).toNat)
        case atStart => exact ⟨0, N, by omega, hcnt, rfl, rfl, HN.out, HU.out⟩
        case round =>
          clear HU HN hNl hcnt
          obtain ⟨i', N, hi', hNl, rfl, rfl, hN, hU⟩ := hrel
          have HN := Lib.hid hN
          obtain ⟨s, hs⟩ : ∃ s, partU cp l (itU cp l k) i' = s := ⟨_, rfl⟩
          have HS := Lib.hid hs
          have hI := UInv.part HOK.out.1 (UInv.it HOK.out k) i' (by rw [l0]; exact hi')
          rw [hs] at hU hI HN
          have HI := Lib.hid hI
          have HU := Lib.hid hU
          clear hs hU hI hN
          have hwr := HU.out.bw.size
          by_cases hlt : i' < fs.length
          · have hW := HD.out.below HU.out.bw
            obtain ⟨ad, rfl, _, hcc⟩ := hW.rd (by omega)
            obtain ⟨hc0, hc1⟩ := hcc i' hlt
            have hxw := HD.out.ok _ (List.getElem_mem hlt)
            have HX : Hid (fs[i'].fl = (lkA l i', lmA l i')) := Lib.hid (by
              have e1 : i' < (fs.map Fm.fl).length := by rw [List.length_map]; exact hlt
              have h1 : l.getD i' ([], 0) = fs[i'].fl := by rw [← HL.out, getD_lt _ _ _ e1, List.getElem_map]
              rw [← h1]; rfl)
            have HLK : Hid (flOk caps.length fs[i'].fl) := Lib.hid (HV.out.2.2.2 _ (List.mem_map_of_mem (List.getElem_mem hlt)))
            obtain ⟨x, hx⟩ : ∃ x, fs[i'] = x := ⟨_, rfl⟩
            rw [hx] at hc0 hc1 HX HLK hxw
            have HXW := Lib.hid hxw
            have HCC : Hid (∀ wz, Below w.heap.size w wz → wz.cell? (ad.add (i' * 2)) = some (.slice x.A x.ls.length x.c) ∧ wz.cell? ⟨(ad.add (i' * 2)).block, (ad.add (i' * 2)).off + 1, none⟩ = some (.int .i64 x.m)) := Lib.hid (fun wz hb => by
              obtain ⟨ad', e', _, h'⟩ := (HD.out.below hb).rd (by omega)
              injection e' with e'
              subst e'
              have := h' i' hlt
              rwa [hx] at this)
            clear hcc hx hW hxw
            have hil : i' < s.fin.length := by rw [HI.out.lf, l0]; exact hlt
            have hol : i' < s.out.length := by rw [HI.out.lo, l0]; exact hlt
            have hfc := HU.out.fi.cell i' hil
            have hff := HU.out.fi.free i'
            by_cases hfin : s.fin[i'] = true
            · rw [hfin] at hfc
              have HFIN := Lib.hid hfin
              clear hfin
              have HNX : Hid (partU cp l (itU cp l k) (i' + 1) = s) := Lib.hid (by rw [partU, HS.out, stepU_done (by rw [getD_lt _ _ _ hil]; exact HFIN.out)])
              go_wp2_with fail
              go_roundw
              case rel => exact ⟨i' + 1, N, by omega, hNl, by go_num, rfl, by rw [HNX.out]; exact HN.out, by rw [HNX.out]; exact HU.out⟩
              case measure => simp [intOf]; omega
            · have hfin' : s.fin[i'] = false := by simpa using hfin
              rw [hfin'] at hfc
              have HFIN := Lib.hid hfin'
              have HNF : Hid (¬ s.fin.getD i' true = true) := Lib.hid (by rw [getD_lt _ _ _ hil]; exact hfin)
              have hNl2 : N + 1 ≤ fs.length := by
                have h1 := count_set hil hfin'
                have h2 := List.count_le_length (a := true) (l := s.fin.set i' true)
                rw [h1, List.length_set, HI.out.lf, l0, HN.out] at h2
                exact h2
              have HN2 : Hid ((s.fin.set i' true).count true = N + 1) := Lib.hid (by rw [count_set hil hfin', HN.out])
              clear hfin hfin'
              have hxm : x.m = lmA l i' := congrArg Prod.snd HX.out
              have hxl : x.ls = lkA l i' := congrArg Prod.fst HX.out
              have hoc := HU.out.ou.cell i' hol
              have hof := HU.out.ou.free i'
              have HXM := Lib.hid hxm
              have HXL := Lib.hid hxl
              clear hxm hxl
              go_upto_region 11 with fail
              by_cases c1 : x.m ≤ s.out[i']
              · have HC1 := Lib.hid c1
                have c1' : decide (x.m ≤ s.out[i']) = true := decide_eq_true c1
                clear c1
                have hNX : partU cp l (itU cp l k) (i' + 1) = ⟨s.out, s.fin.set i' true⟩ := by
                  rw [partU, HS.out, stepU_stop HNF.out (.inl (by rw [getD_lt _ _ _ hol, ← HXM.out]; exact HC1.out))]
                have HNX := Lib.hid hNX
                clear hNX
                go_quiet (fail)
                have hqb := (below_drewN (Below.refl wr.heap.size wr) nq)
                have HU3 := Lib.hid (HU.out.below hqb)
                have hfq := HU3.out.fi.cell i' hil
                have hfr := HU3.out.fi.free i'
                clear HU hqb
                go_wp2_with fail
                go_roundw
                case rel =>
                  have hd := HU3.out.setFin i' (fun ad e => by have := dA ad e; omega) (by omega)
                  exact ⟨i' + 1, N + 1, by omega, hNl2, by go_num, by go_num, by rw [HNX.out]; exact HN2.out, by rw [HNX.out]; exact hd⟩
                case measure => simp [intOf]; omega
              · have HC1 : Hid (¬ x.m ≤ s.out[i']) := c1
                have c1' : decide (x.m ≤ s.out[i']) = false := decide_eq_false c1
                clear c1
                obtain ⟨L, hL1, hL2, hL3⟩ := HU.out.lf
                have hlk : ∀ e ∈ lkA l i', 0 ≤ e ∧ e < caps.length := fun e he => by rw [← HXL.out] at he; exact HLK.out.2.2.mem he
                have hffc : ∀ e ∈ x.ls, 0 ≤ e ∧ e < (L.length : Int) := fun e he => by have := HLK.out.2.2.mem he; omega
                have hisf := UW.is_full hL3 hlk
                have HL1 := Lib.hid hL1
                have HL2 := Lib.hid hL2
                have HRC := Lib.hid hffc
                have HISF := Lib.hid hisf
                have HL0 : Hid (∀ e ∈ x.ls, 0 ≤ L.getD e.toNat 0) := Lib.hid (fun e he => by
                  have h1 := HLK.out.2.2.mem he
                  obtain ⟨t, rfl⟩ : ∃ t : Nat, e = (t : Int) := ⟨e.toNat, by omega⟩
                  rw [Int.toNat_natCast, hL3 t (by omega)]
                  have := HI.out.cap i' (by rw [l0]; exact hlt) (t : Int) (by rw [← HXL.out]; exact he)
                  omega)
                clear hL1 hL2 hL3 hlk hffc hisf
                by_cases c2 : fullU cp l s.out i'
                · have HC2 := Lib.hid c2
                  clear c2
                  go_region_held3 (fun w' => w'.cell? ⟨go, i', none⟩ = some (.int .i64 s.out[i']) ∧ w'.cell? (ad.add (i' * 2)) = some (.slice x.A x.ls.length x.c) ∧ w'.cell? ⟨(ad.add (i' * 2)).block, (ad.add (i' * 2)).off + 1, none⟩ = some (.int .i64 x.m))
                    (first | exact ⟨hoc, hc0, hc1⟩ | exact ⟨g2, g0, g1⟩ | go_keep)
                    (first | (go_at_call 47
                              with_reducible refine (room_any _ L AL _ cL w.heap.size 3 x true (HL2.out.below (below_drew (Below.refl _ _))) HL1.out.symm (HXW.out.below (below_drew HU.out.bw)) HRC.out HL0.out (decide_eq_true (by rw [HXL.out]; exact HISF.out.2 HC2.out))).mono ?_
                              rintro e wn ⟨rfl, bb⟩
                              have hb9 := undrew bb
                              have HU9 := Lib.hid (HU.out.below hb9)
                              obtain ⟨g0, g1⟩ := HCC.out _ HU9.out.bw
                              have g2 := HU9.out.ou.cell i' hol
                              clear bb hb9))
                  have HNX : Hid (partU cp l (itU cp l k) (i' + 1) = ⟨s.out, s.fin.set i' true⟩) := Lib.hid (by rw [partU, HS.out, stepU_stop HNF.out (.inr HC2.out)])
                  have hfq := HU9.out.fi.cell i' hil
                  have hfr := HU9.out.fi.free i'
                  clear g0 g1 g2 hoc hof hfc hff hc0 hc1
                  go_wp2_with fail
                  go_roundw
                  case rel =>
                    have hd := HU9.out.setFin i' (fun ad e => by have := dA ad e; omega) (by omega)
                    exact ⟨i' + 1, N + 1, by omega, hNl2, by go_num, by go_num, by rw [HNX.out]; exact HN2.out, by rw [HNX.out]; exact hd⟩
                  case measure => simp [intOf]; omega
                · have HC2 : Hid (¬ fullU cp l s.out i') := c2
                  clear c2
                  go_region_held3 (fun w' => w'.cell? ⟨go, i', none⟩ = some (.int .i64 s.out[i']) ∧ w'.cell? (ad.add (i' * 2)) = some (.slice x.A x.ls.length x.c) ∧ w'.cell? ⟨(ad.add (i' * 2)).block, (ad.add (i' * 2)).off + 1, none⟩ = some (.int .i64 x.m))
                    (first | exact ⟨hoc, hc0, hc1⟩ | exact ⟨g2, g0, g1⟩ | go_keep)
                    (first | (go_at_call 47
                              with_reducible refine (room_any _ L AL _ cL w.heap.size 3 x false (HL2.out.below (below_drew (Below.refl _ _))) HL1.out.symm (HXW.out.below (below_drew HU.out.bw)) HRC.out HL0.out (decide_eq_false (fun h => absurd (HISF.out.1 (by rw [← HXL.out]; exact h)) HC2.out))).mono ?_
                              rintro e wn ⟨rfl, bb⟩
                              have hb9 := undrew bb
                              have HU9 := Lib.hid (HU.out.below hb9)
                              obtain ⟨g0, g1⟩ := HCC.out _ HU9.out.bw
                              have g2 := HU9.out.ou.cell i' hol
                              clear bb hb9))
                  have HNX : Hid (partU cp l (itU cp l k) (i' + 1) = ⟨s.out.set i' (s.out.getD i' 0 + 1), s.fin⟩) := Lib.hid (by
                    rw [partU, HS.out, stepU_more HNF.out]
                    rintro (h | h)
                    · have h9 := HC1.out; rw [HXM.out] at h9; rw [getD_lt _ _ _ hol] at h; omega
                    · exact absurd h HC2.out)
                  have hof9 := HU9.out.ou.free i'
                  have hbd := HI.out.bd i' (by rw [l0]; exact hlt)
                  rw [getD_lt _ _ _ hol] at hbd
                  have hlm := (HOK.out.2 i' (by rw [l0]; exact hlt)).2.1
                  have o1 : 0 ≤ s.out[i'] := hbd.1
                  have o2 : s.out[i'] ≤ 4096 := by omega
                  have HO : Hid (s.out[i'] + 1 = s.out.getD i' 0 + 1) := Lib.hid (by rw [getD_lt _ _ _ hol])
                  have hlen := HXW.out.is.len
                  have HI2 : Hid (UInv cp l k (i' + 1) ⟨s.out.set i' (s.out.getD i' 0 + 1), s.fin⟩) := Lib.hid (by rw [← HNX.out]; exact UInv.part HOK.out.1 (UInv.it HOK.out k) (i' + 1) (by rw [l0]; omega))
                  clear hoc hof hc0 hc1 hfc hff hbd hlm c1' g0 g1
                  go_upto_region 15 with fail
                  have U1 := HU9.out.setOut i' hol (fun ad e => by have := dA ad e; omega) (by omega) (s.out[i'] + 1) HO.out x.ls HXL.out
                  clear g2 hof9 HU9
                  generalize (wn.setCell ⟨go, i', none⟩ (.int .i64 (s.out[i'] + 1))) = wz at U1 ⊢
                  go_wp2_with fail
                  go_loopw [11] (fun jv wr => ∃ j : Nat, j ≤ x.ls.length ∧ jv = .int .i64 j ∧ UW cp l w wr 3 AL cL caps.length caps.length (some ⟨go, 0, none⟩) (some ⟨gf, 0, none⟩) fs.length fs.length ⟨s.out.set i' (s.out.getD i' 0 + 1), s.fin⟩ (fun e => ((x.ls.drop j).count e : Int))) (fun jv _ => x.ls.length - (intOf jv).toNat)
                  case atStart => exact ⟨0, by omega, rfl, U1⟩
                  case round =>
                    clear U1
                    obtain ⟨j, hj, rfl, hU⟩ := hrel
                    have HU := Lib.hid hU
                    clear hU
                    obtain ⟨hc0, hc1⟩ := HCC.out _ HU.out.bw
                    by_cases hjt : j < x.ls.length
                    · obtain ⟨ae, hae, _, hce⟩ := (HXW.out.is.below HU.out.bw).at j hjt
                      obtain ⟨t1, t2⟩ := HLK.out.2.2.mem (List.getElem_mem hjt)
                      obtain ⟨t, ht⟩ : ∃ t : Nat, x.ls[j] = (t : Int) := ⟨(x.ls[j]).toNat, by have : x.fl.1 = x.ls := rfl; omega⟩
                      have htn : t < caps.length := by have : x.fl.1 = x.ls := rfl; omega
                      rw [ht] at hce
                      rw [hae] at hc0
                      obtain ⟨L', hM1, hM2, hM3⟩ := HU.out.lf
                      have htL : t < L'.length := by omega
                      obtain ⟨gl, rfl⟩ := hM2.some_ (by omega)
                      have hgl := dA _ rfl
                      have hlc := hM2.cell t htL
                      have hlf := hM2.free t
                      have hb := hM3 t htn
                      rw [getD_lt _ _ _ htL] at hb
                      have hcap := HI2.out.cap i' (by rw [l0]; exact hlt) (t : Int) (by rw [← HXL.out, ← ht]; exact List.getElem_mem hjt)
                      have hnn := ld_nonneg l (s.out.set i' (s.out.getD i' 0 + 1)) (t : Int) (fun q hq => (HI2.out.bd q hq).1)
                      have hcp : cp (t : Int) ≤ 4096 := by
                        rw [← HCP.out, cpF, Int.toNat_natCast, getD_lt _ _ _ htn]
                        exact (HV.out.2.2.1 _ (List.getElem_mem htn)).2
                      have hct : ((x.ls.drop j).count (t : Int) : Int) ≤ 1 := by
                        have h1 := HLK.out.2.2.count (t : Int)
                        have h2 : (x.ls.drop j).count (t : Int) ≤ x.ls.count (t : Int) := List.Sublist.count_le _ (List.drop_sublist j x.ls)
                        have : x.fl.1 = x.ls := rfl
                        rw [this] at h1
                        omega
                      have hb1 : L'[t] ≤ 4097 := by simp only at hcap hb; omega
                      have hb2 : 0 ≤ L'[t] := by simp only at hcap hb; omega
                      have hcL : caps.length ≤ cL := by have := hM2.form.1; omega
                      have HD2 := Lib.hid (HU.out.decr hjt ht htn (show go ≠ gl by simp only at hgl; omega) (show gf ≠ gl by simp only at hgl; omega) (L'[t] - 1) (fun L2 h1 h2 => by
                        have hcc := h2 t (by omega)
                        rw [hlc] at hcc
                        injection hcc with hcc
                        injection hcc with _ hcc
                        rw [hcc, getD_lt _ _ _ (by omega)]) (by omega))
                      clear hM1 hM2 hM3 hb hcap hnn hcp hct HU t1 t2
                      have HT := Lib.hid ht
                      clear ht
                      go_wp2_with fail
                      go_roundw
                      case rel => exact ⟨j + 1, by omega, by go_num, HD2.out⟩
                      case measure => simp [intOf]; omega
                    · have HUZ := Lib.hid (HU.out.congr (y := fun _ => 0) (fun e _ => by
                        show ((x.ls.drop j).count (e : Int) : Int) = 0
                        rw [List.drop_of_length_le (by omega)]; rfl))
                      clear HU
                      go_wp2_with fail
                      go_roundw
                      case rel =>
                        exact ⟨i' + 1, N, by omega, hNl, by go_num, rfl, by rw [HNX.out]; exact HN.out, by rw [HNX.out]; exact HUZ.out⟩
                      case measure => simp [intOf]; omega
          · have HUZ := HU
            have hie : i' = l.length := by omega
            have HN3 : Hid (s = itU cp l (k + 1)) := Lib.hid (by rw [← HS.out, hie]; rfl)
            clear HU
            go_wp2_with fail
            go_roundg (4098 - (k + 1))
            case rel =>
              refine ⟨k + 1, by omega, by omega, ?_, by rw [← HN3.out]; exact HUZ.out⟩
              rw [← HN3.out, HN.out]
            case measure => omega
      · have HF : Hid (allFin (itU cp l k)) := Lib.hid (fun j hj => count_all (by rw [(itU_len cp l k).2, HN.out]; omega) j hj)
        go_wp2_with fail
        go_ret2
        have hu := unitsM_of HOK.out HF.out
        have ho := HU.out.ou
        have hlo := (itU_len cp l k).1
        rw [hu] at ho hlo
        refine ⟨some ⟨go, 0, none⟩, fs.length, ?_, ho, HU.out.bw⟩
        rw [hlo, l0]
        rfl
end Go.Proofs.Ythdfflbhogfejaa
