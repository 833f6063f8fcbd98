/- The walk of TransferOneLink. -/
import Derived.Test.YtgjhjdjbhmblmaaTwOneP
import Derived.Test.YtgjhjdjbhmblmaaTrH
namespace Go.Proofs.Ytgjhjdjbhmblmaa
open Go.RowKit

theorem run_append_t (w : World) {B c : Nat} {A : Option Addr} {xs : List Tm} (hown : Tw w B A c xs) (ad : Addr) (c2 : Nat) (y : Tm) (hr : RdT w (some ad) [y]) (hmax : xs.length ≤ 1000) (hbase : B ≤ w.heap.size) :
    ∃ A' c' w', (Builtin.append_ #[23, 23] 23 #[.slice A xs.length c, .slice (some ad) 1 c2]).run Try.prog w = .ok (.slice A' (xs.length + 1) c') w' ∧ Tw w' B A' c' (xs ++ [y]) ∧ Below B w w' ∧ w.grownBy w' (A.map (·.block)) ∧ (A'.map (·.block) = A.map (·.block) ∨ A'.map (·.block) = some w.heap.size) := by
  obtain ⟨i, hi, hz, hsize, hby⟩ := info_parts tran_info
  have hAb : ∀ k, A.map (·.block) = some k → B ≤ k := by
    intro k hk
    cases A with
    | none => cases hk
    | some ad => simp at hk; subst hk; exact (hown.form.2.2 ad rfl).1
  have hob : (Value.slice A xs.length c).ownBlock = A.map (·.block) := by cases A <;> rfl
  have hnews : ∀ j u, (tcells [y])[j]? = some u → w.cell? (ad.add j) = some u := by
    intro j u hu
    obtain ⟨k, hk, hcase⟩ := tcells_at [y] j u hu
    obtain ⟨ad', e', _, hc⟩ := hr (by simp)
    injection e' with e'
    subst e'
    obtain ⟨h0, h1, h2⟩ := hc k hk
    have hk0 : k = 0 := by simpa using hk
    subst hk0
    rcases hcase with ⟨rfl, rfl⟩ | ⟨rfl, rfl⟩ | ⟨rfl, rfl⟩
    · exact h0
    · rw [show ad.add (0 * 3 + 1) = ⟨(ad.add (0 * 3)).block, (ad.add (0 * 3)).off + 1, none⟩ from by rw [Nat.zero_mul, add_at1, add_at0]]
      exact h1
    · rw [show ad.add (0 * 3 + 2) = ⟨(ad.add (0 * 3)).block, (ad.add (0 * 3)).off + 2, none⟩ from by rw [Nat.zero_mul, add_at1, add_at0]]
      exact h2
  obtain ⟨v', w', hrun, hown', hg, _, hat⟩ := run_append_own_at (P := Try.prog) w B 23 23 26 i _ 3 40 Try.underlying23 hi hz hsize hby rfl (by omega) (.slice A xs.length c) xs.length (tcells xs) hown ad 1 c2 (tcells [y]) rfl hnews
    (tcells_one [y]) (by simp only [maxLen]; omega) (by omega) hbase
  have hform : ∃ A' c', v' = .slice A' (xs.length + 1) c' := by
    rcases hown'.2 with ⟨rfl, hn⟩ | ⟨g, cap, cur, rfl, _⟩
    · omega
    · exact ⟨_, _, rfl⟩
  obtain ⟨A', c', rfl⟩ := hform
  have hob' : (Value.slice A' (xs.length + 1) c').ownBlock = A'.map (·.block) := by cases A' <;> rfl
  rw [hob, hob'] at hat
  rw [hob] at hg
  have h1 : Tw w' B A' c' (xs ++ [y]) := by
    unfold Tw
    rw [List.length_append, tcells_append]
    exact hown'
  exact ⟨A', c', w', hrun, h1, (Below.refl _ _).grown hg hbase hAb, hg, hat⟩
theorem step_append_t (w : World) {ops : Array Oper} {o : Oper} {a : Act} {K : Act → World → Prop} {Q : Exit → Act → World → Prop} {X : Prop} (hgd : o.guard = none) (s x : Operand)
    (ho : o.op = .call { callee := .builtin .append, args := #[s, x], argTypes := #[23, 23] }) (hty : o.type = 23)
    {B c n : Nat} {A : Option Addr} {xs : List Tm} (hs : a.eval s = .slice A n c) (hn : n = xs.length) (hown : Tw w B A c xs)
    (ad : Addr) (c2 : Nat) (y : Tm) (hx : a.eval x = .slice (some ad) 1 c2) (hr : RdT w (some ad) [y]) (hmax : n ≤ 1000) (hbase : B ≤ w.heap.size)
    (h : ∀ A' c' w', Tw w' B A' c' (xs ++ [y]) → Below B w w' → w.grownBy w' (A.map (·.block)) → (A'.map (·.block) = A.map (·.block) ∨ A'.map (·.block) = some w.heap.size) → K (a.put o.dst (.slice A' (n + 1) c')) w') :
    if Region.wanted o (yielded ops a.tmps) = true then Oper.wp Try.prog o a w K Q else X := by
  have hw : Region.wanted o (yielded ops a.tmps) = true := by simp [Region.wanted, hgd]
  rw [if_pos hw]
  subst hn
  obtain ⟨A', c', w', hrun, h1, h3, h4, h5⟩ := run_append_t w hown ad c2 y hr hmax hbase
  unfold Oper.wp execOp
  simp only [ho, hty, resolve, invoke, builtin, Sem.run_bind, Sem.run_pure, Result.andThen_ok, List.map_toArray, List.map_cons, List.map_nil, hs, hx, hrun]
  exact h A' c' w' h1 h3 h4 h5
theorem below_alloc' {w v : World} (h : Below w.heap.size w v) (o : Obj) : Below w.heap.size w (v.alloc o) := h.alloc h.size o

theorem rdt_at {v : World} {g : Nat} (x : Tm) (hg : g = v.heap.size) : RdT (v.alloc (.cells x.cells 26)) (some ⟨g, 0, none⟩) [x] := by subst hg; exact rdt_one v x
theorem rdt_drew {v : World} {A : Option Addr} {xs : List Tm} (h : RdT v A xs) : RdT v.drew A xs := h
theorem is_zero {v : World} {g : Nat} (hg : g = v.heap.size) (e : TypeId) : Is (v.alloc (.cells #[.int .i64 0] e)) (some ⟨g, 0, none⟩) 1 [0] := by subst hg; exact (is_lit v 0 (by omega) e).1
def apartT (A : Option Addr) (vs : List Tm) : Prop := ∀ x ∈ vs, apart2 x.A A
def ltT (w : World) (vs : List Tm) : Prop := ∀ x ∈ vs, ∀ b, x.A = some b → b.block < w.heap.size
theorem one_round {wr X wz : World} {A' A2 : Option Addr} {vs : List Tm} {x : Tm} (hok : ∀ y ∈ vs, y.ok wr) (hap : apartT A' vs) (hlt : ltT wr vs) (hA' : ∀ a, A' = some a → a.block < wr.heap.size) (hX : Below wr.heap.size wr X)
    (hxa : x.A = some ⟨wr.heap.size, 0, none⟩) (hxok : x.ok X) (hXs : X.heap.size = wr.heap.size + 2) (hg : X.grownBy wz (A'.map (·.block))) (hat : A2.map (·.block) = A'.map (·.block) ∨ A2.map (·.block) = some X.heap.size) :
    (∀ y ∈ vs ++ [x], y.ok wz) ∧ apartT A2 (vs ++ [x]) ∧ ltT wz (vs ++ [x]) := by
  have hsz := hg.size
  refine ⟨fun y hy => ?_, fun y hy => ?_, fun y hy b e => ?_⟩
  · rcases List.mem_append.1 hy with hy | hy
    · have ho := (hok y hy).below hX
      exact ⟨ho.is.grown hg (fun _ => (hap y hy).row), ho.wb, ho.ws⟩
    · rw [List.mem_singleton] at hy
      subst hy
      refine ⟨hxok.is.grown hg (fun _ a e => ?_), hxok.wb, hxok.ws⟩
      rw [hxa] at e
      injection e with e
      subst e
      cases hA2 : A' with
      | none => simp
      | some b => have h1 := hA' b hA2; simp; omega
  · rcases List.mem_append.1 hy with hy | hy
    · exact ((hap y hy).symm.app (fun b e => by have := hlt y hy b e; omega) hat).symm
    · rw [List.mem_singleton] at hy
      subst hy
      have hp : apart2 A' y.A := fun a b e1 e2 => by
        have h1 := hA' a e1
        rw [hxa] at e2
        injection e2 with e2
        subst e2
        show a.block ≠ wr.heap.size
        omega
      exact (hp.app (fun b e => by rw [hxa] at e; injection e with e; subst e; show wr.heap.size < _; omega) hat).symm
  · rcases List.mem_append.1 hy with hy | hy
    · have := hlt y hy b e; omega
    · rw [List.mem_singleton] at hy
      subst hy
      rw [hxa] at e
      injection e with e
      subst e
      show wr.heap.size < _
      omega
set_option maxRecDepth 100000 in
set_option maxHeartbeats 1600000 in
theorem one_walk (w : World) (n : Int) (A : Option Addr) (c : Nat) (xs : List Int) (hn0 : (Lit.int .i64 n).wf = true) (hA : Is w A c xs) :
    Calls Try.prog 8 #[.int .i64 n, .slice A xs.length c] w fun e w' => e = .returned (.bool true) ∧ Below w.heap.size w w' := by
  have HA := Lib.hid hA; clear hA
  have hn : -9223372036854775808 ≤ n ∧ n ≤ 9223372036854775807 := by
    simp [Lit.wf, IntKind.min, IntKind.max, IntKind.signed, IntKind.bits] at hn0
    omega
  have HN := Lib.hid hn; clear hn hn0
  have hla := HA.out.len
  have hla2 := HA.out.cap
  have hla3 := HA.out.max
  have bw := Below.refl w.heap.size w
  go_enter Try.func8, Try.ntmps8
  by_cases h24 : 24 < xs.length
  · have h24' : decide ((24 : Int) < (xs.length : Int)) = true := decide_eq_true (by omega)
    go_wp2_with fail
    refine (awake_any _).mono ?_
    rintro e w3 ⟨rfl, bb⟩
    go_wp2_with fail
    go_ret
    exact ⟨rfl, bb⟩
  · have h24' : decide ((24 : Int) < (xs.length : Int)) = false := decide_eq_false (by omega)
    have H24 : Hid (¬ 24 < xs.length) := h24
    clear h24
    go_wp2_with fail
    refine (within_any _ _ _ HN.out (by omega)).mono ?_
    rintro e wn ⟨rfl, rfl⟩
    have hwb := withinM_bd n (show (1 : Int) ≤ 40 by omega)
    obtain ⟨cp, hcp⟩ : ∃ cp, 1 + withinM n 40 = cp := ⟨_, rfl⟩
    have hcpb : 1 ≤ cp ∧ cp ≤ 40 := by omega
    have hw1 : IntKind.i64.wrap (1 + withinM n 40) = 1 + withinM n 40 := IntWalk.i64_in _ (by omega)
    have HCP := Lib.hid hcpb
    go_upto_region 4 with fail
    clear hw1 hcpb hwb
    obtain ⟨i0, b0, z0⟩ := is_lit w cp (by have := HCP.out; omega) 3
    generalize (w.alloc (.cells #[.int .i64 cp] 3)) = w0 at i0 b0 z0 ⊢
    have HI := Lib.hid i0
    have hb0 := b0
    clear i0 hcp
    go_wp2_with fail
    go_loopw [6, 7] (fun s i wr => ∃ (j q : Nat) (A' : Option Addr) (c' : Nat) (vs : List Tm), q = 2 * j ∧ q ≤ xs.length ∧ i = .int .i64 (q : Int) ∧ s = .slice A' vs.length c' ∧ vs.map Tm.tr = oneM xs j ∧ Tw wr w0.heap.size A' c' vs ∧ (∀ x ∈ vs, x.ok wr) ∧ apartT A' vs ∧ ltT wr vs ∧ Below w0.heap.size w0 wr) (fun _ i _ => xs.length - (intOf i).toNat)
    case atStart => exact ⟨0, 0, none, 0, [], rfl, by omega, rfl, rfl, rfl, Tw.nil _ _, fun x hx => by simp at hx, fun x hx => by simp at hx, fun x hx => by simp at hx, Below.refl _ _⟩
    case round =>
      clear bw
      obtain ⟨j, q, A', c', vs, hq, hqx, rfl, rfl, hvs, hT, hok, hap, hltT, bw⟩ := hrel
      have HAP := Lib.hid hap
      have HLT := Lib.hid hltT
      clear hap hltT
      have HQ := Lib.hid hq
      have HVS := Lib.hid hvs
      have HT := Lib.hid hT
      have HOK := Lib.hid hok
      have hvl : vs.length = j := by have := congrArg List.length hvs; rwa [List.length_map, oneM_len] at this
      have HVL := Lib.hid hvl
      have bww : Below w.heap.size w wr := below_on hb0 bw hb0.size
      clear hq hvs hT hok
      have hq3 : IntKind.i64.wrap ((q : Int) + 1) = (q : Int) + 1 := IntWalk.i64_in _ (by have := H24.out; omega)
      by_cases hlt : q + 1 < xs.length
      · have hlt' : decide ((q : Int) + 1 < (xs.length : Int)) = true := decide_eq_true (by omega)
        obtain ⟨aa, rfl, _, hc0⟩ := (HA.out.below bww).at q (by omega)
        obtain ⟨aa', haa, _, hc1⟩ := (HA.out.below bww).at (q + 1) hlt
        injection haa with haa
        subst haa
        obtain ⟨aa', haa, hab, _⟩ := HA.out.at q (by omega)
        injection haa with haa
        subst haa
        have hab0 : (aa.add q).block < w0.heap.size := by rw [block_of_add]; omega
        have hab1 : (⟨aa.block, aa.off + (q + 1), none⟩ : Addr).block < w0.heap.size := by show aa.block < _; omega
        have W0 := Lib.hid (HA.out.wf _ (List.getElem_mem (show q < xs.length by omega)))
        have W1 := Lib.hid (HA.out.wf _ (List.getElem_mem hlt))
        obtain ⟨x0, hx0⟩ : ∃ x0, xs[q] = x0 := ⟨_, rfl⟩
        obtain ⟨x1, hx1⟩ : ∃ x1, xs[q + 1] = x1 := ⟨_, rfl⟩
        rw [hx0] at hc0 W0
        rw [hx1] at hc1 W1
        have HX0 := Lib.hid hx0
        have HX1 := Lib.hid hx1
        have hq1 : q < xs.length := by omega
        have hq2 : (q : Int) + 1 < (xs.length : Int) := by omega
        have hq4 : (0 : Int) ≤ (q : Int) + 1 := by omega
        have hq5 : (q : Int) < (xs.length : Int) := by omega
        clear hx0 hx1
        rw [add_at1] at hc1
        go_upto_region 8 with fail
        have hCX : ∀ wz, Calls Try.prog 18 #[.int .i64 x0, .int .i64 60] wz fun e w' => e = .returned (.int .i64 (withinM x0 60)) ∧ wz = w' := fun wz => within_any wz x0 60 W0.out (by omega)
        have hCY : ∀ wz, Calls Try.prog 18 #[.int .i64 x1, .int .i64 20] wz fun e w' => e = .returned (.int .i64 (withinM x1 20)) ∧ wz = w' := fun wz => within_any wz x1 20 W1.out (by omega)
        have CX := Lib.hid hCX
        have CY := Lib.hid hCY
        clear hCX hCY
        have brf := Below.refl wr.heap.size wr
        have hjm : j ≤ 1000 := by have := H24.out; have := HQ.out; omega
        have hA9 : ∀ a, A' = some a → a.block < wr.heap.size := fun a e => (HT.out.form.2.2 a e).2
        have hb0x : -9223372036854775808 ≤ withinM x0 60 ∧ withinM x0 60 ≤ 9223372036854775807 := by have := withinM_bd x0 (show (1 : Int) ≤ 60 by omega); omega
        have hb1x : -9223372036854775808 ≤ withinM x1 20 ∧ withinM x1 20 ≤ 9223372036854775807 := by have := withinM_bd x1 (show (1 : Int) ≤ 20 by omega); omega
        have hwsz := bw.size
        go_region_held3 (fun w' => w'.cell? (aa.add q) = some (.int .i64 x0) ∧ w'.cell? ⟨aa.block, aa.off + (q + 1), none⟩ = some (.int .i64 x1))
          (first | exact ⟨hc0, hc1⟩ | exact ⟨by assumption, by assumption⟩ | go_keep)
          (first
            | (go_at_call 18
               with_reducible refine (CX.out _).mono ?_
               rintro e wn ⟨rfl, rfl⟩)
            | (go_at_call 18
               with_reducible refine (CY.out _).mono ?_
               rintro e wn ⟨rfl, rfl⟩)
            | (refine step_append_t _ rfl _ _ rfl rfl (B := w0.heap.size) (xs := vs) rfl HVL.out.symm (HT.out.below (by repeat (first | with_reducible exact Below.refl _ _ | with_reducible refine Below.drew ?_ | with_reducible refine below_alloc' ?_ _))) ⟨_, 0, none⟩ _ ⟨some ⟨wr.heap.size, 0, none⟩, 1, [0], withinM x0 60, withinM x1 20⟩ rfl ?_ hjm ?_ ?_
               · first
                 | exact rdt_at _ (by simp)
                 | exact rdt_drew (rdt_at _ (by simp))
                 | (trace_state; fail)
               · exact Nat.le_trans bw.size (Below.size (by repeat (first | with_reducible exact Below.refl _ _ | with_reducible refine Below.drew ?_ | with_reducible refine below_alloc' ?_ _) : Below wr.heap.size wr _))
               intro A2 c2 wz hfz hbz hgz hatz
               have HR := Lib.hid (one_round (x := ⟨some ⟨wr.heap.size, 0, none⟩, 1, [0], withinM x0 60, withinM x1 20⟩) HOK.out HAP.out HLT.out hA9 (by repeat (first | with_reducible exact Below.refl _ _ | with_reducible refine Below.drew ?_ | with_reducible refine below_alloc' ?_ _)) rfl
                 ⟨by
                   first
                   | exact (is_zero (v := wr) rfl _).below (by repeat (first | with_reducible exact Below.refl _ _ | with_reducible refine Below.drew ?_ | with_reducible refine below_alloc' ?_ _))
                   | exact (is_zero (v := wr.drew) rfl _).below (by repeat (first | with_reducible exact Below.refl _ _ | with_reducible refine Below.drew ?_ | with_reducible refine below_alloc' ?_ _))
                   | (trace_state; fail), hb0x, hb1x⟩ (by simp) hgz hatz)
               have HBZ := Lib.hid ((below_on bw (by repeat (first | with_reducible exact Below.refl _ _ | with_reducible refine Below.drew ?_ | with_reducible refine below_alloc' ?_ _)) bw.size).trans hbz)
               have HFZ := Lib.hid hfz
               have hz0 : wz.cell? (aa.add q) = some (.int .i64 x0) := ((HBZ.out.cell hab0).trans (bw.cell hab0).symm).trans hc0
               have hz1 : wz.cell? ⟨aa.block, aa.off + (q + 1), none⟩ = some (.int .i64 x1) := ((Below.cell (p := ⟨aa.block, aa.off + (q + 1), none⟩) HBZ.out hab1).trans (Below.cell (p := ⟨aa.block, aa.off + (q + 1), none⟩) bw hab1).symm).trans hc1
               clear hfz hbz hgz hatz))
        all_goals
          go_wp2_with fail
          go_roundw
          case rel =>
            refine ⟨j + 1, q + 2, A2, c2, vs ++ [⟨some ⟨wr.heap.size, 0, none⟩, 1, [0], withinM x0 60, withinM x1 20⟩], by have := HQ.out; omega, by omega, by go_num, by simp [HVL.out], ?_, HFZ.out, HR.out.1, HR.out.2.1, HR.out.2.2, HBZ.out⟩
            rw [List.map_append, HVS.out, oneM_succ, ← HQ.out, getD_lt _ _ _ hq1, getD_lt _ _ _ hlt, HX0.out, HX1.out]
            rfl
          case measure => simp [intOf]; omega
      · have hlt' : decide ((q : Int) + 1 < (xs.length : Int)) = false := decide_eq_false (by omega)
        have hj12 : j ≤ 12 := by have := H24.out; have := HQ.out; omega
        replace HI := Lib.hid (HI.out.below bw)
        replace HT := Lib.hid (HT.out.ts HOK.out)
        have h60 : vs.length ≤ 60 := by omega
        have hone := one_run HCP.out xs j hj12
        have hchk := one_check HCP.out xs j hj12
        rw [← HVS.out] at hone hchk
        have HONE := Lib.hid hone
        have HCHK := Lib.hid hchk
        clear hone hchk HOK bw
        have bw := bww
        clear bww
        obtain ⟨S, hS⟩ : ∃ S, runS [cp] (vs.map Tm.tr) = S := ⟨_, rfl⟩
        have HS := Lib.hid hS
        rw [hS] at HONE
        clear hS
        go_wp2_with fail
        refine (trun_any wr _ 1 _ [cp] _ j _ vs HI.out HT.out rfl HVL.out.symm h60).mono ?_
        rw [HS.out, HCHK.out]
        rintro e w3 ⟨AF, cF, rfl, hf1, bb⟩
        have HF1 := Lib.hid hf1
        replace HI := Lib.hid (HI.out.below bb)
        replace HT := Lib.hid (HT.out.below bb)
        replace bw := below_on bw bb bw.size
        clear bb hf1
        skip
        go_upto_region 10 with fail
        obtain ⟨bk1, bb, _⟩ := bk2_alloc w3 (.slice AF S.fn.length cF) (.int .i64 S.tk) 29
        have HB9 := Lib.hid bk1
        clear bk1
        replace HI := Lib.hid (HI.out.below bb)
        replace HT := Lib.hid (HT.out.below bb)
        try replace bk1 := bk1.below bb
        try replace bk2 := bk2.below bb
        try replace bk3 := bk3.below bb
        try replace HF1 := Lib.hid (HF1.out.below bb)
        try replace HF2 := Lib.hid (HF2.out.below bb)
        try replace HF3 := Lib.hid (HF3.out.below bb)
        replace bw := below_on bw bb bw.size
        clear bb
        have bk1 := HB9.out
        clear HB9
        generalize (w3.alloc (.cells #[.slice AF S.fn.length cF, .int .i64 S.tk] 29)) = wm at *
        generalize w3.heap.size = g1 at bk1 ⊢
        go_wp2_with fail
        refine (tbound_any wm _ 1 _ [cp] _ j _ vs HI.out HT.out rfl HVL.out.symm h60).mono ?_
        rw [HCHK.out, if_pos rfl, HONE.out]
        rintro e w4 ⟨rfl, bb⟩
        skip
        replace HI := Lib.hid (HI.out.below bb)
        replace HT := Lib.hid (HT.out.below bb)
        try replace bk1 := bk1.below bb
        try replace bk2 := bk2.below bb
        try replace bk3 := bk3.below bb
        try replace HF1 := Lib.hid (HF1.out.below bb)
        try replace HF2 := Lib.hid (HF2.out.below bb)
        try replace HF3 := Lib.hid (HF3.out.below bb)
        replace bw := below_on bw bb bw.size
        clear bb
        go_wp2_with fail
        refine (awake_any _).mono ?_
        rintro e w5 ⟨rfl, bb⟩
        skip
        replace HI := Lib.hid (HI.out.below bb)
        replace HT := Lib.hid (HT.out.below bb)
        try replace bk1 := bk1.below bb
        try replace bk2 := bk2.below bb
        try replace bk3 := bk3.below bb
        try replace HF1 := Lib.hid (HF1.out.below bb)
        try replace HF2 := Lib.hid (HF2.out.below bb)
        try replace HF3 := Lib.hid (HF3.out.below bb)
        replace bw := below_on bw bb bw.size
        clear bb
        have k0 := bk1.c0
        have k1 := bk1.c1
        have e1 : (S.tk == S.tk) = true := beq_self_eq_true _
        go_wp2_with fail
        go_ret
        exact ⟨rfl, bw⟩
end Go.Proofs.Ytgjhjdjbhmblmaa
