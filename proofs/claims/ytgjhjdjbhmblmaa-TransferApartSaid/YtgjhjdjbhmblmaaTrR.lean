/- The walks of the reference's flows, Valid, Step, able of transfers. -/
import Derived.Test.YtgjhjdjbhmblmaaTrA
import Derived.Test.YtgjhjdjbhmblmaaTrC
namespace Go.Proofs.Ytgjhjdjbhmblmaa
open Go.RowKit

theorem Fw.far {w : World} {B c : Nat} {A : Option Addr} {vs : List Fm} (h : Fw w B A c vs) {p : Addr} (hp : ∀ ad, A = some ad → ad.block ≠ p.block) (u : Value) : Fw (w.setCell p u) B A c vs :=
  World.ownsRow.kept h (w' := w.setCell p u) (row := some p.block)
    ⟨rfl, rfl, rfl, by simp [World.setCell], fun k _ hne => Below.heap_setCell _ _ _ _ (fun e => hne (by rw [e]))⟩ (by
      cases A with
      | none => exact .inl rfl
      | some ad => exact .inr (by simp [Value.ownBlock]; exact hp ad rfl))
theorem Fb.put1 {w : World} {G : Nat} {x : Fm} (h : Fb w G x) (v : Int) : Fb (w.setCell ⟨G, 1, none⟩ (.int .i64 v)) G { x with m := v } := by
  have h0 := h.c0
  have h1 := h.c1
  have f0 := h.f0
  have f1 := h.f1
  have hl := h.lt
  exact ⟨by go_simp, by go_simp, by go_simp, by go_simp, by simpa [World.setCell] using hl⟩
theorem flowsTake (ts : List Tm) (f : Nat → Int) (k : Nat) (h : k < ts.length) : (flowsTo ts f ts.length).take (k + 1) = (flowsTo ts f ts.length).take k ++ [ts[k].fm (f k)] := by
  rw [List.take_succ_eq_append_getElem (by rw [flowsTo_len]; exact h)]
  congr 2
  simp only [flowsTo, List.getElem_map, List.getElem_range]
  rw [if_pos h]
  simp [List.getD_eq_getElem?_getD, h]
set_option maxRecDepth 100000 in
set_option maxHeartbeats 1600000 in
theorem rflows_any (w : World) (A : Option Addr) (n c : Nat) (ts : List Tm) (B : Option Addr) (m d : Nat) (left : List Int) (tick : Int) (hA : Ts w A c ts) (hB : Is w B d left) (hn : n = ts.length) (hmm : m = left.length) (hl : ts.length = left.length) (h60 : ts.length ≤ 60) :
    Calls Try.prog 24 #[.slice A n c, .slice B m d, .int .i64 tick] w fun e w' => ∃ A' c', e = .returned (.slice A' ts.length c') ∧ Fw w' w.heap.size A' c' (flowsTo ts (limF ts left tick) ts.length) ∧ Below w.heap.size w w' := by
  have HA := Lib.hid hA; clear hA
  have HB := Lib.hid hB; clear hB
  have HL := Lib.hid hl; clear hl
  subst hn hmm
  go_enter Try.func24, Try.ntmps24
  go_wp2_with fail
  go_loopw [7, 8] (fun s i wr => ∃ (k : Nat) (A' : Option Addr) (c' : Nat), k ≤ ts.length ∧ i = .int .i64 k ∧ s = .slice A' ((flowsTo ts (limF ts left tick) ts.length).take k).length c' ∧ Fw wr w.heap.size A' c' ((flowsTo ts (limF ts left tick) ts.length).take k) ∧ Below w.heap.size w wr) (fun _ i _ => ts.length - (intOf i).toNat)
  case atStart => exact ⟨0, none, 0, by omega, rfl, rfl, ⟨rfl, .inl ⟨rfl, rfl⟩⟩, Below.refl _ _⟩
  case round =>
    obtain ⟨k, A', c', hk, rfl, rfl, hF, bw⟩ := hrel
    have HF := Lib.hid hF
    clear hF
    by_cases hlt : k < ts.length
    · obtain ⟨ad, rfl, hc0, hc1, hc2, hok⟩ := (HA.out.below bw).at k hlt
      obtain ⟨bd, rfl, _, hbc⟩ := (HB.out.below bw).at k (by have := HL.out; omega)
      have hkl : k < left.length := by have := HL.out; omega
      have hbx := HB.out.cap
      have HLIM : Hid (limF ts left tick k = if tick < ts[k].s then 0 else left[k]) := Lib.hid (by rw [limF, getD_lt _ _ _ hlt, getD_lt _ _ _ hkl])
      obtain ⟨x, hx⟩ : ∃ x, ts[k] = x := ⟨_, rfl⟩
      rw [hx] at hc0 hc1 hc2 HLIM
      have HXX := Lib.hid hx
      clear hx hok
      go_upto_region 6 with fail
      have fb := (fb_alloc wr ⟨x.A, x.c, x.ls, 0⟩ 54).1
      have bb := (fb_alloc wr ⟨x.A, x.c, x.ls, 0⟩ 54).2
      have HF2 := Lib.hid (HF.out.below bb)
      have hne : ∀ a, A' = some a → a.block < wr.heap.size := fun a e => (HF.out.form.2.2 a e).2
      have hwr := bw.size
      have hcc : ∀ j v, wr.cell? ⟨(ad.add (k * 3)).block, (ad.add (k * 3)).off + j, none⟩ = some v → (wr.alloc (.cells #[.slice x.A x.ls.length x.c, .int .i64 0] 54)).cell? ⟨(ad.add (k * 3)).block, (ad.add (k * 3)).off + j, none⟩ = some v := fun j v h =>
        (bb.cell (p := ⟨(ad.add (k * 3)).block, (ad.add (k * 3)).off + j, none⟩) (World.block_lt_of_cell? wr _ h)).trans h
      have hd2 := hcc 2 _ hc2
      have hbd := (bb.cell (p := bd.add k) (World.block_lt_of_cell? wr _ hbc)).trans hbc
      have bw' := below_on bw bb bw.size
      clear hc0 hc1 hc2 hcc hbc bb HF bw
      generalize (wr.alloc (.cells #[.slice x.A x.ls.length x.c, .int .i64 0] 54)) = wm at fb HF2 hd2 hbd bw' ⊢
      generalize wr.heap.size = gF at *
      by_cases hlt2 : tick < x.s
      · have h1 : decide (x.s ≤ tick) = false := decide_eq_false (by omega)
        rw [if_pos hlt2] at HLIM
        have bw := bw'
        clear hlt2 hbd
        go_upto_region 8 with fail
        have dgF : gF < wm.heap.size := fb.lt
        have fc0 := fb.c0
        have fc1 := fb.c1
        have HX2 : Hid ((flowsTo ts (limF ts left tick) ts.length).take k ++ [⟨x.A, x.c, x.ls, 0⟩] = (flowsTo ts (limF ts left tick) ts.length).take (k + 1)) := Lib.hid (by rw [flowsTake ts _ k hlt, HXX.out, HLIM.out])
        have hrow := rdw_one wm ⟨x.A, x.c, x.ls, 0⟩
        have bl := (Below.refl wm.heap.size wm).alloc (Nat.le_refl _) (.cells #[.slice x.A x.ls.length x.c, .int .i64 (0)] 54)
        have hf2 := HF2.out.below bl
        have bl2 := below_on bw bl bw.size
        clear HF2 bl
        go_wp2_with (at_builtin; refine wpList_append_w _ rfl _ _ rfl rfl (B := w.heap.size) (xs := (flowsTo ts (limF ts left tick) ts.length).take k) rfl rfl hf2 ⟨wm.heap.size, 0, none⟩ _ ⟨x.A, x.c, x.ls, 0⟩ rfl hrow (by rw [List.length_take, flowsTo_len]; omega) bl2.size ?_; intro A2 c2 wz hfz hbz)
        go_roundw
        case rel =>
          rw [HX2.out] at hfz
          refine ⟨k + 1, A2, c2, by omega, by go_num, ?_, hfz, bl2.trans hbz⟩
          simp only [List.length_take, flowsTo_len, Nat.min_eq_left hk, Nat.min_eq_left (show k + 1 ≤ ts.length by omega)]
        case measure => simp [intOf]; omega
      · have h1 : decide (x.s ≤ tick) = true := decide_eq_true (by omega)
        rw [if_neg hlt2] at HLIM
        clear hlt2
        have ff1 := fb.f1
        have fk1 := fb.c1
        go_upto_region 8 with fail
        have fb := fb.put1 left[k]
        have HF2 := Lib.hid (HF2.out.far (p := ⟨gF, 1, none⟩) (fun a e => Nat.ne_of_lt (hne a e)) (.int .i64 left[k]))
        have bw := bw'.setCell (p := ⟨gF, 1, none⟩) hwr (.int .i64 left[k])
        clear hbd bw' ff1 fk1 hd2
        generalize (wm.setCell ⟨gF, 1, none⟩ (.int .i64 left[k])) = wm at fb HF2 bw ⊢
        have dgF : gF < wm.heap.size := fb.lt
        have fc0 := fb.c0
        have fc1 := fb.c1
        have HX2 : Hid ((flowsTo ts (limF ts left tick) ts.length).take k ++ [⟨x.A, x.c, x.ls, left[k]⟩] = (flowsTo ts (limF ts left tick) ts.length).take (k + 1)) := Lib.hid (by rw [flowsTake ts _ k hlt, HXX.out, HLIM.out])
        have hrow := rdw_one wm ⟨x.A, x.c, x.ls, left[k]⟩
        have bl := (Below.refl wm.heap.size wm).alloc (Nat.le_refl _) (.cells #[.slice x.A x.ls.length x.c, .int .i64 (left[k])] 54)
        have hf2 := HF2.out.below bl
        have bl2 := below_on bw bl bw.size
        clear HF2 bl
        go_wp2_with (at_builtin; refine wpList_append_w _ rfl _ _ rfl rfl (B := w.heap.size) (xs := (flowsTo ts (limF ts left tick) ts.length).take k) rfl rfl hf2 ⟨wm.heap.size, 0, none⟩ _ ⟨x.A, x.c, x.ls, left[k]⟩ rfl hrow (by rw [List.length_take, flowsTo_len]; omega) bl2.size ?_; intro A2 c2 wz hfz hbz)
        go_roundw
        case rel =>
          rw [HX2.out] at hfz
          refine ⟨k + 1, A2, c2, by omega, by go_num, ?_, hfz, bl2.trans hbz⟩
          simp only [List.length_take, flowsTo_len, Nat.min_eq_left hk, Nat.min_eq_left (show k + 1 ≤ ts.length by omega)]
        case measure => simp [intOf]; omega
    · obtain rfl : k = ts.length := by omega
      have hfl := HF.out
      rw [List.take_of_length_le (by rw [flowsTo_len]; exact Nat.le_refl _)] at hfl
      have HFL := Lib.hid hfl
      have hlen : ((flowsTo ts (limF ts left tick) ts.length).take ts.length).length = ts.length := by rw [List.length_take, flowsTo_len, Nat.min_self]
      rw [hlen]
      clear hfl hlen
      go_wp2_with fail
      go_ret
      exact ⟨A', c', rfl, HFL.out, bw⟩
set_option maxRecDepth 100000 in
set_option maxHeartbeats 1600000 in
theorem trvalid_any (w : World) (A : Option Addr) (n c : Nat) (caps : List Int) (D : Option Addr) (m d : Nat) (ts : List Tm) (b : Bool) (hA : Is w A c caps) (hD : Ts w D d ts) (hn : n = caps.length) (hm : m = ts.length) (h60 : ts.length ≤ 60) (hb : decide (validTr caps (ts.map Tm.tr)) = b) :
    Calls Try.prog 11 #[.slice A n c, .slice D m d] w fun e w' => e = .returned (.bool b) ∧ Below w.heap.size w w' := by
  have HB := Lib.hid hb; clear hb
  have HA := Lib.hid hA; clear hA
  have HD := Lib.hid hD; clear hD
  subst hn hm
  obtain ⟨i1, hi, hi0, hi1, hi2⟩ := info_parts int_info
  go_enter Try.func11, Try.ntmps11
  go_wp2_with fail
  go_loop [5] (fun i => ∃ k : Nat, k ≤ ts.length ∧ i = .int .i64 k ∧ (∀ t ∈ (ts.map Tm.tr).take k, trOk t)) (fun i => ts.length - (intOf i).toNat)
  case atStart => exact ⟨0, by omega, rfl, by intro f hf; simp at hf⟩
  case round =>
    obtain ⟨k, hk, rfl, hF⟩ := hrel
    have HF := Lib.hid hF
    clear hF
    by_cases hlt : k < ts.length
    · obtain ⟨ad, rfl, hc0, tc1, tc2, hok⟩ := HD.out.at k hlt
      have HFE : Hid (ts[k].tr ∈ ts.map Tm.tr) := Lib.hid (List.mem_map_of_mem (List.getElem_mem hlt))
      have HTK : Hid ((ts.map Tm.tr).take (k + 1) = (ts.map Tm.tr).take k ++ [ts[k].tr]) := Lib.hid (by rw [List.take_succ_eq_append_getElem (by simpa using hlt)]; simp)
      obtain ⟨x, hx⟩ : ∃ x, ts[k] = x := ⟨_, rfl⟩
      rw [hx] at tc1 tc2 HFE HTK
      clear hok hx hc0
      have HBAD : Hid (¬ trOk x.tr → b = false) := Lib.hid (by
        intro h
        rw [← HB.out]
        exact decide_eq_false (fun h' => h (h'.1 _ HFE.out)))
      by_cases c1 : 0 ≤ x.b
      · by_cases c2 : x.b ≤ 4096
        · have c2' : decide (4096 < x.b) = false := decide_eq_false (by omega)
          by_cases c3 : 0 ≤ x.s
          · have c3' : decide (x.s < 0) = false := decide_eq_false (by omega)
            by_cases c4 : x.s ≤ 4096
            · have c4' : decide (4096 < x.s) = false := decide_eq_false (by omega)
              have HNX : Hid (∀ t ∈ (ts.map Tm.tr).take (k + 1), trOk t) := Lib.hid (by
                rw [HTK.out]
                intro f hf
                rw [List.mem_append, List.mem_singleton] at hf
                rcases hf with hf | rfl
                · exact HF.out f hf
                · exact ⟨c1, c2, c3, c4⟩)
              clear HBAD HF
              go_wp2_with fail
              go_round
              case rel => exact ⟨k + 1, by omega, by go_num, HNX.out⟩
              case measure => simp [intOf]; omega
            · have HBB := Lib.hid (HBAD.out (fun h => c4 h.2.2.2))
              have c4' : decide (4096 < x.s) = true := decide_eq_true (by omega)
              clear HBAD HF
              go_wp2_with fail
              go_ret
              exact ⟨ret_bool HBB.out.symm, Below.refl _ _⟩
          · have HBB := Lib.hid (HBAD.out (fun h => c3 h.2.2.1))
            have c3' : decide (x.s < 0) = true := decide_eq_true (by omega)
            clear HBAD HF
            go_wp2_with fail
            go_ret
            exact ⟨ret_bool HBB.out.symm, Below.refl _ _⟩
        · have HBB := Lib.hid (HBAD.out (fun h => c2 h.2.1))
          have c2' : decide (4096 < x.b) = true := decide_eq_true (by omega)
          clear HBAD HF
          go_wp2_with fail
          go_ret
          exact ⟨ret_bool HBB.out.symm, Below.refl _ _⟩
      · have HBB := Lib.hid (HBAD.out (fun h => c1 h.1))
        have c1' : decide (x.b < 0) = true := decide_eq_true (by omega)
        clear HBAD HF
        go_wp2_with fail
        go_ret
        exact ⟨ret_bool HBB.out.symm, Below.refl _ _⟩
    · have HALL : Hid (∀ t ∈ ts.map Tm.tr, trOk t) := Lib.hid (fun t ht => HF.out t (by rw [List.take_of_length_le (by simp; omega)]; exact ht))
      clear HF
      go_wp2_with (refine wpList_make_rd w (mk := iv) 0 rfl _ _ 22 rfl 3 i1 8 Try.underlying22 hi hi0 hi1 hi2 rfl .i64 .i64 _ _ (ts.length) rfl rfl (by omega) (by omega) (by omega) (by simp only [maxLen]; omega) ?_; intro w1 hg1 bw hs1)
      have hz := hg1.is (by intro x hx; rw [List.eq_of_mem_replicate hx]; omega)
      refine (rflows_any w1 D _ d ts _ _ _ (List.replicate ts.length 0) (-1) (HD.out.below bw) hz rfl (by simp) (by simp) h60).mono ?_
      rintro e wn ⟨A', c', rfl, hfw, bb⟩
      have hlm : limF ts (List.replicate ts.length 0) (-1) = fun _ => 0 := by
        funext k
        unfold limF
        split
        · rfl
        · rw [List.getD_eq_getElem?_getD, List.getElem?_replicate]; split <;> rfl
      rw [hlm] at hfw
      have hws := hfw.ws (flowsTo_ok (fun x hx => ((HD.out.below bw).below bb).ok x hx) (fun j _ => by omega))
      replace bw := below_on bw bb bw.size
      have HW := Lib.hid hws
      clear hws hfw bb hg1 hs1 hz hlm
      go_wp2_with fail
      refine (rvalid_any _ A _ c caps A' _ c' (flowsTo ts (fun _ => 0) ts.length) b (HA.out.below bw) HW.out rfl (flowsTo_len _ _ _).symm ?_).mono ?_
      · rw [← HB.out, flowsTo_flT]
        apply decide_eq_decide.2
        exact ⟨fun h => ⟨HALL.out, h⟩, fun h => h.2⟩
      rintro e wn' ⟨rfl, rfl⟩
      go_wp2_with fail
      go_ret
      exact ⟨rfl, bw⟩
set_option maxRecDepth 100000 in
set_option maxHeartbeats 1600000 in
theorem trstep_any (w : World) (A : Option Addr) (n c : Nat) (caps : List Int) (D : Option Addr) (m d : Nat) (ts : List Tm) (E : Option Addr) (p q : Nat) (left : List Int) (tick : Int) (hA : Is w A c caps) (hD : Ts w D d ts) (hE : Is w E q left) (hn : n = caps.length) (hm : m = ts.length) (hp : p = left.length) (h60 : ts.length ≤ 60) :
    Calls Try.prog 19 #[.slice A n c, .slice D m d, .slice E p q, .int .i64 tick] w (StepRes caps (ts.map Tm.tr) left tick w) := by
  have HA := Lib.hid hA; clear hA
  have HD := Lib.hid hD; clear hD
  have HE := Lib.hid hE; clear hE
  subst hn hm hp
  have hlen := HE.out.len
  have HLT : Hid ((ts.map Tm.tr).length = ts.length) := Lib.hid (by simp)
  go_enter Try.func19, Try.ntmps19
  by_cases hv : validTr caps (ts.map Tm.tr)
  · have HV := Lib.hid hv
    clear hv
    by_cases hl : left.length = ts.length
    · have hl' : ((left.length : Int) == (ts.length : Int)) = true := by simp [hl]
      have hl2 : ((left.length : Int) != (ts.length : Int)) = false := by simp [hl]
      have HL := Lib.hid hl
      clear hl
      by_cases ht : 0 ≤ tick
      · have ht' : decide (tick < 0) = false := decide_eq_false (by omega)
        go_wp2_with fail
        refine (trvalid_any w A _ c caps D _ d ts true HA.out HD.out rfl rfl h60 (decide_eq_true HV.out)).mono ?_
        rintro e wn ⟨rfl, bw2⟩
        go_wp2_with fail
        go_loopw [10] (fun i wr => ∃ k : Nat, k ≤ ts.length ∧ i = .int .i64 k ∧ leftTo (ts.map Tm.tr) left k ∧ Below w.heap.size w wr) (fun i _ => ts.length - (intOf i).toNat)
        case atStart => exact ⟨0, by omega, rfl, by intro i _ h0; omega, bw2⟩
        case round =>
          clear bw2
          obtain ⟨k, hk, rfl, hP, bw2⟩ := hrel
          have HP := Lib.hid hP
          clear hP
          by_cases hlt' : k < ts.length
          · have hlt : k < left.length := by have := HL.out; omega
            obtain ⟨ae, hae, _, hce⟩ := (HE.out.below bw2).at k hlt
            obtain ⟨ad, had, hc0, hc1, hc2, _⟩ := (HD.out.below bw2).at k hlt'
            have HGD : Hid (((ts.map Tm.tr).getD k ([], 0, 0)).2.1 = (ts[k]'hlt').b) := Lib.hid (by rw [getD_tr, getD_lt _ _ _ hlt'])
            clear hc0 hc2
            subst had
            subst hae
            have HBAD : Hid (¬ (0 ≤ left[k] ∧ left[k] ≤ (ts[k]'hlt').b) → ¬ stepOk caps (ts.map Tm.tr) left tick) := Lib.hid (by
              intro h h'
              have := h'.2.2.2 k hlt
              rw [HGD.out] at this
              exact h this)
            go_upto_region 6 with fail
            by_cases c1 : 0 ≤ left[k]
            · have c1' : decide (left[k] < 0) = false := decide_eq_false (by omega)
              by_cases c2 : left[k] ≤ (ts[k]'hlt').b
              · have c2' : decide ((ts[k]'hlt').b < left[k]) = false := decide_eq_false (by omega)
                have HNX : Hid (leftTo (ts.map Tm.tr) left (k + 1)) := Lib.hid (by
                  intro i hi hik
                  rcases Nat.lt_or_ge i k with h4 | h4
                  · exact HP.out i hi h4
                  · have : i = k := by omega
                    subst this
                    rw [HGD.out]; exact ⟨c1, c2⟩)
                clear HBAD HP
                go_quiet (fail)
                go_wp2_with fail
                go_roundw
                case rel => exact ⟨k + 1, by omega, by go_num, HNX.out, below_drewN bw2 nq⟩
                case measure => simp [intOf]; omega
              · have c2' : decide ((ts[k]'hlt').b < left[k]) = true := decide_eq_true (by omega)
                have HBB := Lib.hid (HBAD.out (fun h => c2 h.2))
                clear HBAD HP
                go_quiet (fail)
                go_wp2_with fail
                go_ret2
                exact StepRes.bad HBB.out rfl (below_drewN bw2 nq)
            · have c1' : decide (left[k] < 0) = true := decide_eq_true (by omega)
              have HBB := Lib.hid (HBAD.out (fun h => c1 h.1))
              clear HBAD HP
              go_quiet (fail)
              go_wp2_with fail
              go_ret2
              exact StepRes.bad HBB.out rfl (below_drewN bw2 nq)
          · have HOK : Hid (stepOk caps (ts.map Tm.tr) left tick) := Lib.hid ⟨HV.out, by rw [HL.out, HLT.out], ht, fun i hi => HP.out i hi (by have := HL.out; omega)⟩
            clear HP
            go_wp2_with fail
            refine (rflows_any _ D _ d ts E _ q left tick (HD.out.below bw2) (HE.out.below bw2) rfl rfl HL.out.symm h60).mono ?_
            rintro e wf ⟨A', c', rfl, hfw, bb⟩
            have hws := hfw.ws (flowsTo_ok (fun x hx => ((HD.out.below bw2).below bb).ok x hx) (fun j hj => by
              rw [limF_T]
              have := limT_bd HOK.out j (by rw [HLT.out]; exact hj)
              omega))
            have bw3 := below_on bw2 bb bw2.size
            have HW := Lib.hid hws
            have hfl : (flowsTo ts (limF ts left tick) ts.length).map Fm.fl = flT (ts.map Tm.tr) (limT (ts.map Tm.tr) left tick) := by
              rw [flowsTo_flT]
              have : limF ts left tick = limT (ts.map Tm.tr) left tick := funext (fun k => limF_T ts left tick k)
              rw [this]
            have HFL := Lib.hid hfl
            clear hws hfw bb hfl
            go_wp2_with fail
            refine (runits_ok _ A _ c caps A' _ c' (flowsTo ts (limF ts left tick) ts.length) (HA.out.below bw3) HW.out rfl (flowsTo_len _ _ _).symm (by rw [HFL.out]; exact HOK.out.fl)).mono ?_
            rintro e wu ⟨A2, c2, rfl, hgr, bb⟩
            rw [HFL.out] at hgr ⊢
            go_wp2_with fail
            go_ret2
            rw [StepRes, if_pos HOK.out]
            exact ⟨A2, c2, rfl, hgr.more (fun ad e => Nat.le_trans bw3.size (hgr.form.2.2 ad e).1), below_on bw3 bb bw3.size⟩
      · have ht' : decide (tick < 0) = true := decide_eq_true (by omega)
        have HBB : Hid (¬ stepOk caps (ts.map Tm.tr) left tick) := Lib.hid (fun h => ht h.2.2.1)
        go_wp2_with fail
        refine (trvalid_any w A _ c caps D _ d ts true HA.out HD.out rfl rfl h60 (decide_eq_true HV.out)).mono ?_
        rintro e wn ⟨rfl, bw2⟩
        go_wp2_with fail
        go_ret2
        exact StepRes.bad HBB.out rfl bw2
    · have hl' : ((left.length : Int) == (ts.length : Int)) = false := beq_eq_false_iff_ne.2 (by omega)
      have hl2 : ((left.length : Int) != (ts.length : Int)) = true := by simp; omega
      have HBB : Hid (¬ stepOk caps (ts.map Tm.tr) left tick) := Lib.hid (fun h => hl (by rw [← HLT.out]; exact h.2.1))
      clear hl
      go_wp2_with fail
      refine (trvalid_any w A _ c caps D _ d ts true HA.out HD.out rfl rfl h60 (decide_eq_true HV.out)).mono ?_
      rintro e wn ⟨rfl, bw2⟩
      go_wp2_with fail
      go_ret2
      exact StepRes.bad HBB.out rfl bw2
  · have HBB : Hid (¬ stepOk caps (ts.map Tm.tr) left tick) := Lib.hid (fun h => hv h.1)
    have HV : Hid (¬ validTr caps (ts.map Tm.tr)) := hv
    clear hv
    go_wp2_with fail
    refine (trvalid_any w A _ c caps D _ d ts false HA.out HD.out rfl rfl h60 (decide_eq_false HV.out)).mono ?_
    rintro e wn ⟨rfl, bw2⟩
    go_wp2_with fail
    go_ret2
    exact StepRes.bad HBB.out rfl bw2
end Go.Proofs.Ytgjhjdjbhmblmaa
