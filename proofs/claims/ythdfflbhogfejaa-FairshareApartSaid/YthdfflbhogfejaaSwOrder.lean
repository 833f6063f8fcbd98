/- The walk of FairshareOrder. -/
import Derived.Test.YthdfflbhogfejaaApW
import Derived.Test.YthdfflbhogfejaaSwProves
import Derived.Test.YthdfflbhogfejaaRaY
import Derived.Test.YthdfflbhogfejaaFhJ
namespace Go.Proofs.Ythdfflbhogfejaa
open Go.RowKit

/-- fractions in lowest terms with these values -/
def RpL (vs : List Fx) (R : List Rat) : Prop := vs.length = R.length ∧ ∀ i (h : i < vs.length), Rp vs[i] (R.getD i 0)
set_option maxRecDepth 100000 in
theorem RpL.append {a b : List Fx} {R T : List Rat} (h1 : RpL a R) (h2 : RpL b T) : RpL (a ++ b) (R ++ T) := by
  have l1 := h1.1
  have l2 := h2.1
  refine ⟨by simp [l1, l2], fun i hi => ?_⟩
  rw [List.length_append] at hi
  rcases Nat.lt_or_ge i a.length with h | h
  · rw [List.getElem_append_left h, getD_app _ _ _ _ (by omega)]; exact h1.2 i h
  · obtain ⟨k, rfl⟩ : ∃ k, i = a.length + k := ⟨i - a.length, by omega⟩
    have hk : k < b.length := by omega
    have e1 : (a ++ b)[a.length + k]'(by rw [List.length_append]; omega) = b[k] := by rw [List.getElem_append_right (by omega)]; congr 1; omega
    rw [e1, l1, getD_right]
    exact h2.2 k hk
set_option maxRecDepth 100000 in
theorem RpL.take {a : List Fx} {R : List Rat} (h : RpL a R) (m : Nat) : RpL (a.take m) (R.take m) := by
  have l1 := h.1
  refine ⟨by simp [l1], fun i hi => ?_⟩
  simp at hi
  rw [List.getElem_take, getD_lt _ _ _ (by simp; omega), List.getElem_take, ← getD_lt R _ 0 (by omega)]
  exact h.2 i (by omega)
set_option maxRecDepth 100000 in
theorem RpL.drop {a : List Fx} {R : List Rat} (h : RpL a R) (m : Nat) : RpL (a.drop m) (R.drop m) := by
  have l1 := h.1
  refine ⟨by simp [l1], fun i hi => ?_⟩
  simp at hi
  rw [List.getElem_drop, getD_lt _ _ _ (by simp; omega), List.getElem_drop, ← getD_lt R _ 0 (by omega)]
  exact h.2 (m + i) (by omega)
set_option maxRecDepth 100000 in
theorem Rs.rpl {w : World} {B : Nat} {caps : List Int} {l : List Fl} {A : Option Addr} {vs : List Fx} (h : Rs w B caps l A vs) (hv : validFl caps l) : RpL vs (ratesM (cpF caps) l caps.length) := ⟨by rw [h.lv, ratesM_len hv.okR], h.rp⟩
set_option maxRecDepth 100000 in
theorem valid_turn {caps : List Int} {l : List Fl} (hv : validFl caps l) (m : Nat) : validFl caps (l.drop m ++ l.take m) := by
  refine ⟨hv.1, ?_, hv.2.2.1, fun f hf => hv.2.2.2 f ?_⟩
  · have := hv.2.1; simp; omega
  · rcases List.mem_append.1 hf with h | h
    · exact List.mem_of_mem_drop h
    · exact List.mem_of_mem_take h
set_option maxRecDepth 100000 in
theorem rates_turn {caps : List Int} {l : List Fl} (hv : validFl caps l) {m : Nat} (hm : m ≤ l.length) :
    ratesM (cpF caps) (l.drop m ++ l.take m) caps.length = (ratesM (cpF caps) l caps.length).drop m ++ (ratesM (cpF caps) l caps.length).take m := by
  have hc := ratesM_cert hv.okR
  have hlen := ratesM_len hv.okR
  have h2 := ratesM_cert (valid_turn hv m).okR
  refine (Cert.unique (valid_turn hv m).okR.lk ?_ h2).symm
  refine Cert.turn (a := l.take m) (b := l.drop m) (by simp [hlen]) (by simp [hlen]) ?_
  rw [List.take_append_drop, List.take_append_drop]
  exact hc
set_option maxRecDepth 100000 in
theorem slice_rdw {w : World} {A : Option Addr} {c m : Nat} {vs : List Fm} (h : RdW w A vs) (hc : vs.length ≤ c) : RdW w (if c = m then A else Option.map (fun x => x.add (m * 2)) A) (vs.drop m) := by
  split
  · rename_i hcm
    intro hn; rw [List.length_drop] at hn; omega
  · cases A with
    | none =>
      intro hn
      obtain ⟨ad, e, _⟩ := h (by rw [List.length_drop] at hn; omega)
      cases e
    | some ad => exact h.drop m
set_option maxRecDepth 100000 in
theorem slice_rdf {w : World} {A : Option Addr} {c m : Nat} {vs : List Fx} (h : RdF w A vs) (hc : vs.length ≤ c) : RdF w (if c = m then A else Option.map (fun x => x.add (m * 3)) A) (vs.drop m) := by
  split
  · rename_i hcm
    intro hn; rw [List.length_drop] at hn; omega
  · cases A with
    | none =>
      intro hn
      obtain ⟨ad, e, _⟩ := h (by rw [List.length_drop] at hn; omega)
      cases e
    | some ad => exact h.drop m
set_option maxRecDepth 100000 in
theorem Fw.nil (w : World) (B : Nat) : Fw w B none 0 [] := ⟨rfl, .inl ⟨rfl, rfl⟩⟩
set_option maxRecDepth 100000 in
set_option maxHeartbeats 4000000 in
theorem order_walk (w : World) (A : Option Addr) (c : Nat) (cs : List Int) (D : Option Addr) (d : Nat) (xs : List Int) (b0 : Int) (hA : Is w A c cs) (hB : Is w D d xs) (h1 : (Lit.int .i64 b0).wf = true) :
    Calls Try.prog 13 #[.slice A cs.length c, .slice D xs.length d, .int .i64 b0] w fun e w' => e = .returned (.bool true) ∧ Below w.heap.size w w' := by
  have H1 := Lib.hid (wf_i64 h1)
  clear h1
  have HA := Lib.hid hA; clear hA
  have HB := Lib.hid hB; clear hB
  have bw := Below.refl w.heap.size w
  go_enter Try.func13, Try.ntmps13
  go_wp2_with fail
  refine (caps_any w A _ c cs HA.out rfl).mono ?_
  rintro e wn ⟨A', c', rfl, hI, bb⟩
  have HI := Lib.hid hI
  replace bw := below_on bw bb bw.size
  clear bb hI
  go_wp2_with fail
  refine (flowsL_walk wn D _ d xs (capsM cs).length (HB.out.below bw) rfl (by have := (capsM_len cs).2; omega)).mono ?_
  rintro e wt ⟨D', d', fs, rfl, hfm, hT, bb⟩
  have HFM := Lib.hid hfm
  have HT := Lib.hid hT
  have HI := Lib.hid (HI.out.below bb)
  replace bw := below_on bw bb bw.size
  have h7 : fs.length ≤ 7 := by
    have h1 := congrArg List.length hfm
    rw [List.length_map] at h1
    have h2 := flowsM_len xs (capsM cs).length
    omega
  have hc5 := (capsM_len cs).2
  have HV := Lib.hid (flowsM_valid cs xs)
  rw [← hfm] at HV
  clear bb hT hfm
  obtain ⟨caps, hcaps⟩ : ∃ caps, capsM cs = caps := ⟨_, rfl⟩
  have HCAPS := Lib.hid hcaps
  rw [hcaps] at HI HV HFM hc5 ⊢
  clear hcaps
  by_cases h0 : fs.length = 0
  · have t2 : ((fs.length : Int) == 0) = true := by simp [h0]
    clear h0
    go_wp2_with fail
    refine (awakes_any _).mono ?_
    rintro e wn ⟨rfl, bb⟩
    replace bw := below_on bw bb bw.size
    go_wp2_with fail
    go_ret
    exact ⟨rfl, bw⟩
  · have t2 : ((fs.length : Int) == 0) = false := beq_eq_false_iff_ne.2 (by omega)
    have HN0 : Hid (0 < fs.length) := Lib.hid (by omega)
    clear h0
    go_wp2_with fail
    refine (within_any wt b0 (fs.length : Int) H1.out (by have := HN0.out; omega)).mono ?_
    rintro e w5 ⟨rfl, rfl⟩
    have hkb := withinM_bd b0 (n := (fs.length : Int)) (by have := HN0.out; omega)
    obtain ⟨m, hm⟩ : ∃ m : Nat, withinM b0 (fs.length : Int) = (m : Int) := ⟨(withinM b0 (fs.length : Int)).toNat, by omega⟩
    rw [hm] at hkb ⊢
    have hml : m ≤ fs.length := by omega
    clear hkb hm
    have hmc : m ≤ d' := by have := HT.out.cap; omega
    have hfd : fs.length ≤ d' := HT.out.cap
    have hdm := HT.out.max
    obtain ⟨D2, hD⟩ : ∃ D2, (if d' = m then D' else Option.map (fun x => x.add (m * 2)) D') = D2 := ⟨_, rfl⟩
    have HRDD := Lib.hid (slice_rdw (m := m) HT.out.rd HT.out.cap)
    rw [hD] at HRDD
    have HRDT := Lib.hid (HT.out.rd.take m)
    have LD : Hid (fs.length - m = (fs.drop m).length) := Lib.hid (by rw [List.length_drop])
    have LT : Hid (m = (fs.take m).length) := Lib.hid (by rw [List.length_take]; omega)
    have HOK : Hid (∀ x ∈ fs.drop m ++ fs.take m, x.ok wt) := Lib.hid (fun v hv => HT.out.ok v (by
      rcases List.mem_append.1 hv with h | h
      · exact List.mem_of_mem_drop h
      · exact List.mem_of_mem_take h))
    have HBW := Lib.hid bw
    clear bw
    go_upto_region 6 with fail
    generalize wt = wm at *
    go_cut [9] (fun s9 w' => ∃ (A9 : Option Addr) (c9 : Nat), s9 = .slice A9 fs.length c9 ∧ Ws w' A9 c9 (fs.drop m ++ fs.take m) ∧ Below wm.heap.size wm w')
    case first =>
      --REG{
      refine wp_region_held_drew (S := fun _ => True) (by kernel_rfl) trivial (fun hHeld => ?_)
      have bz := (Below.refl wm.heap.size wm).drew
      generalize wm.drew = wd at *
      refine wpAnyH_take (i := 0) (v := .slice D' fs.length d') rfl (by kernel_rfl) (by kernel_rfl) (by kernel_rfl) (fun _ _ _ h => h) (Or.inl ⟨by rfl, ?_⟩) (by assumption) ?_
      · intro w hSw
        try dsimp only at hSw
        go_simp
        try with_reducible rfl
      try simp only [Act.put, List.getElem_toArray, List.getElem_cons_zero, List.setIfInBounds_toArray, List.set_cons_zero, List.set_cons_succ]
      refine wpAnyH_take (i := 1) (v := .int .i64 (m : Int)) rfl (by kernel_rfl) (by kernel_rfl) (by kernel_rfl) (fun _ _ _ h => h) (Or.inl ⟨by rfl, ?_⟩) (by assumption) ?_
      · intro w hSw
        try dsimp only at hSw
        go_simp
        try with_reducible rfl
      try simp only [Act.put, List.getElem_toArray, List.getElem_cons_zero, List.getElem_cons_succ, List.setIfInBounds_toArray, List.set_cons_zero, List.set_cons_succ]
      refine wpAnyH_take (i := 2) (v := .slice D2 (fs.length - m) (d' - m)) rfl (by kernel_rfl) (by kernel_rfl) (by kernel_rfl) (fun _ _ _ h => h) (Or.inl ⟨by rfl, ?_⟩) (by assumption) ?_
      · intro w hSw
        try dsimp only at hSw
        go_simp
        try first | with_reducible rfl | exact congrArg (fun z => Value.slice z (fs.length - m) (d' - m)) hD
      try simp only [Act.put, List.getElem_toArray, List.getElem_cons_zero, List.getElem_cons_succ, List.setIfInBounds_toArray, List.set_cons_zero, List.set_cons_succ]
      refine wpAnyH_take (i := 4) (v := .slice D' fs.length d') rfl (by kernel_rfl) (by kernel_rfl) (by kernel_rfl) (fun _ _ _ h => h) (Or.inl ⟨by rfl, ?_⟩) (by assumption) ?_
      · intro w hSw
        try dsimp only at hSw
        go_simp
        try with_reducible rfl
      try simp only [Act.put, List.getElem_toArray, List.getElem_cons_zero, List.getElem_cons_succ, List.setIfInBounds_toArray, List.set_cons_zero, List.set_cons_succ]
      refine wpAnyH_take (i := 5) (v := .int .i64 (m : Int)) rfl (by kernel_rfl) (by kernel_rfl) (by kernel_rfl) (fun _ _ _ h => h) (Or.inl ⟨by rfl, ?_⟩) (by assumption) ?_
      · intro w hSw
        try dsimp only at hSw
        go_simp
        try with_reducible rfl
      try simp only [Act.put, List.getElem_toArray, List.getElem_cons_zero, List.getElem_cons_succ, List.setIfInBounds_toArray, List.set_cons_zero, List.set_cons_succ]
      refine wpAnyH_take (i := 6) (v := .slice D' m d') rfl (by kernel_rfl) (by kernel_rfl) (by kernel_rfl) (fun _ _ _ h => h) (Or.inl ⟨by rfl, ?_⟩) (by assumption) ?_
      · intro w hSw
        try dsimp only at hSw
        go_simp
        try with_reducible rfl
      try simp only [Act.put, List.getElem_toArray, List.getElem_cons_zero, List.getElem_cons_succ, List.setIfInBounds_toArray, List.set_cons_zero, List.set_cons_succ]
      refine wpAnyH_ready (rs := [3]) (by kernel_rfl) (by simp) ?_
      refine AllReadyH.cons rfl (fun K hK => ?_) ?_
      · refine step_append_ws wd rfl _ _ rfl rfl (B := wm.heap.size) (A := none) (c := 0) (n := 0) (xs := []) rfl rfl (Fw.nil _ _) D2 _ (fs.drop m) rfl LD.out (HRDD.out.below bz) (by omega) bz.size ?_
        intro A1 c1 we fr1 bb1 gr1 at1
        replace bz := bz.trans bb1
        rw [List.nil_append] at fr1
        clear bb1 gr1 at1
        generalize we = wd at *
        refine hK.out _ _ trivial (fun hHeld => ?_)
        clear hK K
        try simp only [Act.put]
        try simp only [List.setIfInBounds_toArray]
        refine wpAnyH_ready (rs := [7]) (by kernel_rfl) (by simp) ?_
        refine AllReadyH.cons rfl (fun K hK => ?_) ?_
        · refine step_append_ws wd rfl _ _ rfl rfl (B := wm.heap.size) (A := A1) (c := c1) (n := (0 + (fs.length - m))) (xs := fs.drop m) rfl (by rw [Nat.zero_add]; exact LD.out) fr1 D' _ (fs.take m) rfl LT.out (HRDT.out.below bz) (by omega) bz.size ?_
          intro A2 c2 we fr2 bb1 gr1 at1
          replace bz := bz.trans bb1
          clear bb1 gr1 at1 fr1
          generalize we = wd at *
          refine hK.out _ _ trivial (fun hHeld => ?_)
          clear hK K
          try simp only [Act.put]
          try simp only [List.setIfInBounds_toArray, List.set_cons_zero, List.set_cons_succ]
          refine wpAnyH_ready (rs := [8]) (by kernel_rfl) (by simp) ?_
          refine AllReadyH.cons rfl (fun K hK => ?_) ?_
          · go_simp
            refine hK.out _ _ trivial (fun hHeld => ?_)
            clear hK K
            try simp only [Act.put]
            try simp only [List.setIfInBounds_toArray, List.set_cons_zero, List.set_cons_succ]
            refine wpAnyH_done (by kernel_rfl) ?_ _
            go_wp2_with fail
            go_meet
            case rel => exact ⟨A2, c2, by first | rfl | rw [show 0 + (fs.length - m) + m = fs.length by omega], fr2.old rfl bz HOK.out, bz⟩
          exact AllReadyH.nil
        exact AllReadyH.nil
      exact AllReadyH.nil
      --REG}
    case rest =>
      obtain ⟨A9, c9, rfl, h9, bb⟩ := hcut
      have HT9 := Lib.hid h9
      replace HI := Lib.hid (HI.out.below bb)
      replace HT := Lib.hid (HT.out.below bb)
      replace HBW := Lib.hid (below_on HBW.out bb HBW.out.size)
      obtain ⟨ft, hft⟩ : ∃ ft, fs.drop m ++ fs.take m = ft := ⟨_, rfl⟩
      have hftl : ft.length = fs.length := by rw [← hft]; simp; omega
      have hfm : ft.map Fm.fl = (fs.map Fm.fl).drop m ++ (fs.map Fm.fl).take m := by rw [← hft]; simp
      have HV2 : Hid (validFl caps (ft.map Fm.fl)) := Lib.hid (by rw [hfm]; exact valid_turn HV.out m)
      have HRT : Hid (ratesM (cpF caps) (ft.map Fm.fl) caps.length = (ratesM (cpF caps) (fs.map Fm.fl) caps.length).drop m ++ (ratesM (cpF caps) (fs.map Fm.fl) caps.length).take m) := Lib.hid (by rw [hfm]; exact rates_turn HV.out (by rw [List.length_map]; exact hml))
      have HFTL := Lib.hid hftl
      rw [hft] at HT9
      clear h9 bb hft hfm HOK HRDD HRDT LD LT hD
      go_wp2_with fail
      refine (rates_any wc A' _ c' caps D' _ d' fs HI.out HT.out rfl rfl HV.out (by omega)).mono ?_
      rintro e w2 ⟨AR, vs, rfl, hrs, hvl, bb⟩
      replace HI := Lib.hid (HI.out.below bb)
      replace HT9 := Lib.hid (HT9.out.below bb)
      have HRS := Lib.hid hrs
      have HVL := Lib.hid hvl
      replace HBW := Lib.hid (below_on HBW.out bb HBW.out.size)
      clear bb hrs HT hvl
      go_wp2_with fail
      refine (rates_any w2 A' _ c' caps A9 _ c9 ft HI.out HT9.out rfl HFTL.out.symm HV2.out (by have := HFTL.out; omega)).mono ?_
      rintro e w3 ⟨AB, us, rfl, hrs, hul, bb⟩
      replace HRS := Lib.hid (HRS.out.below bb)
      have HUS := Lib.hid hrs
      have HUL := Lib.hid hul
      replace HBW := Lib.hid (below_on HBW.out bb HBW.out.size)
      clear bb hrs hul HI HT9
      have t1 : ((fs.length : Int) != (fs.length : Int)) = false := by simp
      have HRP := Lib.hid ((((HRS.out.rpl HV.out).drop m)).append ((HRS.out.rpl HV.out).take m))
      rw [← HRT.out] at HRP
      obtain ⟨D3, hD⟩ : ∃ D3, (if fs.length = m then AR else Option.map (fun x => x.add (m * 3)) AR) = D3 := ⟨_, rfl⟩
      have HRDD := Lib.hid (slice_rdf (m := m) HRS.out.q.fr.rd (by rw [HVL.out]; exact Nat.le_refl _ : vs.length ≤ fs.length))
      rw [hD] at HRDD
      have HRDT := Lib.hid (HRS.out.q.fr.rd.take m)
      have LD : Hid (fs.length - m = (vs.drop m).length) := Lib.hid (by rw [List.length_drop, HVL.out])
      have LT : Hid (m = (vs.take m).length) := Lib.hid (by rw [List.length_take, HVL.out]; omega)
      have HOK : Hid (∀ x ∈ vs.drop m ++ vs.take m, x.ok w3) := Lib.hid (fun v hv => HRS.out.q.ok v (by
        rcases List.mem_append.1 hv with h | h
        · exact List.mem_of_mem_drop h
        · exact List.mem_of_mem_take h))
      have HLEN : Hid (0 + (fs.length - m) + m = (vs.drop m ++ vs.take m).length) := Lib.hid (by rw [List.length_append, List.length_drop, List.length_take, HVL.out]; omega)
      go_upto_region 11 with fail
      generalize w3 = wm at *
      --REG{
      refine wp_region_held_drew (S := fun _ => True) (by kernel_rfl) trivial (fun hHeld => ?_)
      have bz := (Below.refl wm.heap.size wm).drew
      generalize wm.drew = wd at *
      refine wpAnyH_ready (rs := [0]) (by kernel_rfl) (by simp) ?_
      refine AllReadyH.cons rfl (fun K hK => ?_) ?_
      · go_simp
        go_at_call 15
        refine (awakes_any wd).mono ?_
        rintro e wd ⟨rfl, bb⟩
        replace bz := below_on bz bb bz.size
        clear bb
        refine hK.out _ _ trivial (fun hHeld => ?_)
        clear hK K
        try simp only [Act.put]
        try simp only [List.setIfInBounds_toArray, List.set_cons_zero, List.set_cons_succ]
        refine wpAnyH_take (i := 1) (v := .bool true) rfl (by kernel_rfl) (by kernel_rfl) (by kernel_rfl) (fun _ _ _ h => h) (Or.inl ⟨by rfl, ?_⟩) (by assumption) ?_
        · intro w hSw
          try dsimp only at hSw
          go_simp
          try with_reducible rfl
        try simp only [Act.put, List.getElem_toArray, List.getElem_cons_zero, List.getElem_cons_succ, List.setIfInBounds_toArray, List.set_cons_zero, List.set_cons_succ]
        refine wpAnyH_take (i := 2) (v := .slice AB ft.length ft.length) rfl (by kernel_rfl) (by kernel_rfl) (by kernel_rfl) (fun _ _ _ h => h) (Or.inl ⟨by kernel_rfl, ?_⟩) (by assumption) ?_
        · intro w hSw
          try dsimp only at hSw
          go_simp
          try with_reducible rfl
        try simp only [Act.put, List.getElem_toArray, List.getElem_cons_zero, List.getElem_cons_succ, List.setIfInBounds_toArray, List.set_cons_zero, List.set_cons_succ]
        refine wpAnyH_take (i := 3) (v := .slice AR fs.length fs.length) rfl (by kernel_rfl) (by kernel_rfl) (by kernel_rfl) (fun _ _ _ h => h) (Or.inl ⟨by kernel_rfl, ?_⟩) (by assumption) ?_
        · intro w hSw
          try dsimp only at hSw
          go_simp
          try with_reducible rfl
        try simp only [Act.put, List.getElem_toArray, List.getElem_cons_zero, List.getElem_cons_succ, List.setIfInBounds_toArray, List.set_cons_zero, List.set_cons_succ]
        refine wpAnyH_take (i := 4) (v := .int .i64 (m : Int)) rfl (by kernel_rfl) (by kernel_rfl) (by kernel_rfl) (fun _ _ _ h => h) (Or.inl ⟨by kernel_rfl, ?_⟩) (by assumption) ?_
        · intro w hSw
          try dsimp only at hSw
          go_simp
          try with_reducible rfl
        try simp only [Act.put, List.getElem_toArray, List.getElem_cons_zero, List.getElem_cons_succ, List.setIfInBounds_toArray, List.set_cons_zero, List.set_cons_succ]
        refine wpAnyH_take (i := 5) (v := .slice D3 (fs.length - m) (fs.length - m)) rfl (by kernel_rfl) (by kernel_rfl) (by kernel_rfl) (fun _ _ _ h => h) (Or.inl ⟨by kernel_rfl, ?_⟩) (by assumption) ?_
        · intro w hSw
          try dsimp only at hSw
          go_simp
          try first | with_reducible rfl | exact congrArg (fun z => Value.slice z (fs.length - m) (fs.length - m)) hD
        try simp only [Act.put, List.getElem_toArray, List.getElem_cons_zero, List.getElem_cons_succ, List.setIfInBounds_toArray, List.set_cons_zero, List.set_cons_succ]
        refine wpAnyH_take (i := 7) (v := .slice AR fs.length fs.length) rfl (by kernel_rfl) (by kernel_rfl) (by kernel_rfl) (fun _ _ _ h => h) (Or.inl ⟨by kernel_rfl, ?_⟩) (by assumption) ?_
        · intro w hSw
          try dsimp only at hSw
          go_simp
          try with_reducible rfl
        try simp only [Act.put, List.getElem_toArray, List.getElem_cons_zero, List.getElem_cons_succ, List.setIfInBounds_toArray, List.set_cons_zero, List.set_cons_succ]
        refine wpAnyH_take (i := 8) (v := .int .i64 (m : Int)) rfl (by kernel_rfl) (by kernel_rfl) (by kernel_rfl) (fun _ _ _ h => h) (Or.inl ⟨by kernel_rfl, ?_⟩) (by assumption) ?_
        · intro w hSw
          try dsimp only at hSw
          go_simp
          try with_reducible rfl
        try simp only [Act.put, List.getElem_toArray, List.getElem_cons_zero, List.getElem_cons_succ, List.setIfInBounds_toArray, List.set_cons_zero, List.set_cons_succ]
        refine wpAnyH_take (i := 9) (v := .slice AR m fs.length) rfl (by kernel_rfl) (by kernel_rfl) (by kernel_rfl) (fun _ _ _ h => h) (Or.inl ⟨by kernel_rfl, ?_⟩) (by assumption) ?_
        · intro w hSw
          try dsimp only at hSw
          go_simp
          try with_reducible rfl
        try simp only [Act.put, List.getElem_toArray, List.getElem_cons_zero, List.getElem_cons_succ, List.setIfInBounds_toArray, List.set_cons_zero, List.set_cons_succ]
        refine wpAnyH_ready (rs := [6]) (by kernel_rfl) (by simp) ?_
        refine AllReadyH.cons rfl (fun K hK => ?_) ?_
        · refine step_append_frg wd rfl _ _ rfl rfl (B := wm.heap.size) (A := none) (c := 0) (n := 0) (xs := []) rfl rfl (fr_nil _ _) D3 _ (vs.drop m) rfl LD.out (HRDD.out.below bz) (by omega) bz.size ?_
          intro A1 c1 we fr1 bb1 gr1 at1
          replace bz := bz.trans bb1
          rw [List.nil_append] at fr1
          clear bb1 gr1 at1
          generalize we = wd at *
          refine hK.out _ _ trivial (fun hHeld => ?_)
          clear hK K
          try simp only [Act.put]
          try simp only [List.setIfInBounds_toArray]
          refine wpAnyH_ready (rs := [10]) (by kernel_rfl) (by simp) ?_
          refine AllReadyH.cons rfl (fun K hK => ?_) ?_
          · refine step_append_frg wd rfl _ _ rfl rfl (B := wm.heap.size) (A := A1) (c := c1) (n := (0 + (fs.length - m))) (xs := vs.drop m) rfl (by rw [Nat.zero_add]; exact LD.out) fr1 AR _ (vs.take m) rfl LT.out (HRDT.out.below bz) (by omega) bz.size ?_
            intro A2 c2 we fr2 bb1 gr1 at1
            replace bz := bz.trans bb1
            clear bb1 gr1 at1 fr1
            generalize we = wd at *
            refine hK.out _ _ trivial (fun hHeld => ?_)
            clear hK K
            try simp only [Act.put]
            try simp only [List.setIfInBounds_toArray, List.set_cons_zero, List.set_cons_succ]
            refine wpAnyH_ready (rs := [11]) (by kernel_rfl) (by simp) ?_
            refine AllReadyH.cons rfl (fun K hK => ?_) ?_
            · go_simp
              go_at_call 27
              refine (samerates_any wd AB _ _ us A2 _ c2 (vs.drop m ++ vs.take m) (ratesM (cpF caps) (ft.map Fm.fl) caps.length) (HUS.out.q.fr.rd.below bz) fr2.rd (fun v hv => (HUS.out.q.ok v hv).below bz) (fun v hv => (HOK.out v hv).below bz) (by rw [HUL.out, HFTL.out]) (by rw [List.length_append, List.length_drop, List.length_take, HVL.out]; omega) (by rw [HUL.out, ← HLEN.out, HFTL.out]; omega) (by rw [HUL.out, HFTL.out]; omega) HUS.out.rp HRP.out.2).mono ?_
              rintro e wd ⟨rfl, bb⟩
              clear fr2
              replace bz := below_on bz bb bz.size
              clear bb
              refine hK.out _ _ trivial (fun hHeld => ?_)
              clear hK K
              try simp only [Act.put]
              try simp only [List.setIfInBounds_toArray, List.set_cons_zero, List.set_cons_succ]
              refine wpAnyH_take (i := 12) (v := .bool true) rfl (by kernel_rfl) (by kernel_rfl) (by kernel_rfl) (fun _ _ _ h => h) (Or.inl ⟨by rfl, ?_⟩) (by assumption) ?_
              · intro w hSw
                try dsimp only at hSw
                go_simp
                try with_reducible rfl
              try simp only [Act.put, List.getElem_toArray, List.getElem_cons_zero, List.getElem_cons_succ, List.setIfInBounds_toArray, List.set_cons_zero, List.set_cons_succ]
              refine wpAnyH_ready (rs := [13]) (by kernel_rfl) (by simp) ?_
              refine AllReadyH.cons rfl (fun K hK => ?_) ?_
              · go_simp
                refine hK.out _ _ trivial (fun hHeld => ?_)
                clear hK K
                try simp only [Act.put]
                try simp only [List.setIfInBounds_toArray, List.set_cons_zero, List.set_cons_succ]
                refine wpAnyH_done (by kernel_rfl) ?_ _
                go_wp2_with fail
                go_ret
                exact ⟨rfl, below_on HBW.out bz HBW.out.size⟩
              exact AllReadyH.nil
            exact AllReadyH.nil
          exact AllReadyH.nil
        exact AllReadyH.nil
      exact AllReadyH.nil
      --REG}
end Go.Proofs.Ythdfflbhogfejaa
