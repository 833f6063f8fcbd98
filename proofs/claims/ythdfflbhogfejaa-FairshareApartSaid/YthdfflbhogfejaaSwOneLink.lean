/- The walk of FairshareOneLink. -/
import Derived.Test.YthdfflbhogfejaaSwProves
import Derived.Test.YthdfflbhogfejaaRaX
import Derived.Test.YthdfflbhogfejaaFhJ
namespace Go.Proofs.Ythdfflbhogfejaa
open Go.RowKit

set_option maxRecDepth 100000 in
theorem units_any (w : World) (A : Option Addr) (n c : Nat) (caps : List Int) (D : Option Addr) (m d : Nat) (fs : List Fm) (hA : Is w A c caps) (hD : Ws w D d fs) (hn : n = caps.length) (hm : m = fs.length) (hv : validFl caps (fs.map Fm.fl)) :
    Calls Try.prog 18 #[.slice A n c, .slice D m d] w fun e w' => ∃ (A' : Option Addr) (c' : Nat) (us : List Int), e = .returned (.tuple #[.slice A' fs.length c', .int .i64 0]) ∧ us = unitsM (cpF caps) (fs.map Fm.fl) ∧ us.length = fs.length ∧ Gr iv 3 w' w.heap.size A' c' us ∧ Below w.heap.size w w' := by
  refine (funits_ok w A n c caps D m d fs hA hD hn hm hv).mono ?_
  rintro e w' ⟨A', c', rfl, hG, bb⟩
  have hl : (unitsM (cpF caps) (fs.map Fm.fl)).length = fs.length := by rw [unitsM_len, List.length_map]
  exact ⟨A', c', _, by rw [hl], rfl, hl, hG, bb⟩
set_option maxRecDepth 100000 in
theorem gr_addr {w : World} {B c : Nat} {A : Option Addr} {xs : List Int} (h : Gr iv 3 w B A c xs) (h0 : 0 < xs.length) : ∃ g, A = some ⟨g, 0, none⟩ := h.some_ h0
/-- flows over one link -/
def oneFl (xs : List Int) (j : Nat) : List Fl := (xs.take j).map fun v => ([0], withinM v 60)
set_option maxRecDepth 100000 in
theorem oneFl_len {xs : List Int} {j : Nat} (h : j ≤ xs.length) : (oneFl xs j).length = j := by simp [oneFl]; omega
set_option maxRecDepth 100000 in
theorem oneFl_succ {xs : List Int} {j : Nat} (h : j < xs.length) : oneFl xs (j + 1) = oneFl xs j ++ [([0], withinM xs[j] 60)] := by
  rw [oneFl, List.take_succ_eq_append_getElem h, List.map_append]; rfl
set_option maxRecDepth 100000 in
theorem oneFl_valid {cp : Int} (hc : 0 ≤ cp ∧ cp < 200) {xs : List Int} {j : Nat} (hj : j ≤ 12) : validFl [cp] (oneFl xs j) := by
  refine ⟨by simp, by simp [oneFl]; omega, fun c hc => ?_, fun f hf => ?_⟩
  · rw [List.mem_singleton] at hc; subst hc; omega
  · obtain ⟨v, _, rfl⟩ := List.mem_map.1 hf
    have h1 := withinM_bd v (show (1 : Int) ≤ 60 by omega)
    refine ⟨h1.1, by show withinM v 60 ≤ 4096; omega, fun i hi => ?_⟩
    have hi' : i = 0 := by simp at hi; exact hi
    subst hi'
    exact ⟨by simp, by simp, fun h0 => by omega⟩
set_option maxRecDepth 100000 in
theorem oneFl_lk {xs : List Int} {j : Nat} (i : Nat) (hi : i < (oneFl xs j).length) : lkA (oneFl xs j) i = [0] := by
  rw [lkA_get hi]; simp [oneFl]
set_option maxRecDepth 100000 in
theorem oneFl_close {cp : Int} (hc : 0 ≤ cp ∧ cp < 200) {xs : List Int} {j : Nat} (hj : j ≤ 12) {i : Nat} (hi : i < (oneFl xs j).length) :
    ((((unitsM (cpF [cp]) (oneFl xs j)).getD i 0 - 1 : Int) : Rat) < (ratesM (cpF [cp]) (oneFl xs j) 1).getD i 0) ∧ (ratesM (cpF [cp]) (oneFl xs j) 1).getD i 0 < (((unitsM (cpF [cp]) (oneFl xs j)).getD i 0 + 1 : Int) : Rat) :=
  one_close (oneFl_valid hc hj).okR (oneFl_valid hc hj).ok oneFl_lk hi
set_option maxRecDepth 100000 in
theorem one_roundF {wr X wz : World} {A' A2 : Option Addr} {vs : List Fm} {x : Fm} (hok : ∀ y ∈ vs, y.ok wr) (hap : apartW A' vs) (hlt : ∀ y ∈ vs, ∀ b, y.A = some b → b.block < wr.heap.size) (hA' : ∀ a, A' = some a → a.block < wr.heap.size) (hX : Below wr.heap.size wr X)
    (hxa : x.A = some ⟨wr.heap.size, 0, none⟩) (hxok : x.ok X) (hXs : X.heap.size = wr.heap.size + 2) (hg : X.grownBy wz (A'.map (·.block))) (hat : A2.map (·.block) = A'.map (·.block) ∨ A2.map (·.block) = some X.heap.size) :
    (∀ y ∈ vs ++ [x], y.ok wz) ∧ apartW A2 (vs ++ [x]) ∧ (∀ y ∈ vs ++ [x], ∀ b, y.A = some b → b.block < wz.heap.size) := by
  have hsz := hg.size
  refine ⟨fun y hy => ?_, fun y hy => ?_, fun y hy b e => ?_⟩
  · rcases List.mem_append.1 hy with hy | hy
    · have ho := (hok y hy).below hX
      exact ⟨ho.is.grown hg (fun _ => (hap y hy).row), ho.wf⟩
    · rw [List.mem_singleton] at hy
      subst hy
      refine ⟨hxok.is.grown hg (fun _ a e => ?_), hxok.wf⟩
      rw [hxa] at e
      injection e with e
      subst e
      cases hA2 : A' with
      | none => simp
      | some b => have h1 := hA' b hA2; simp; omega
  · rcases List.mem_append.1 hy with hy | hy
    · exact ((hap y hy).symm.app (fun b e => by have := hlt y hy b e; omega) hat).symm
    · rw [List.mem_singleton] at hy
      subst hy
      have hp : apart2 A' y.A := fun a b e1 e2 => by
        have h1 := hA' a e1
        rw [hxa] at e2
        injection e2 with e2
        subst e2
        show a.block ≠ wr.heap.size
        omega
      exact (hp.app (fun b e => by rw [hxa] at e; injection e with e; subst e; show wr.heap.size < _; omega) hat).symm
  · rcases List.mem_append.1 hy with hy | hy
    · have := hlt y hy b e; omega
    · rw [List.mem_singleton] at hy
      subst hy
      rw [hxa] at e
      injection e with e
      subst e
      show wr.heap.size < _
      omega
set_option maxRecDepth 100000 in
set_option maxHeartbeats 4000000 in
theorem onelink_walk (w : World) (n : Int) (A : Option Addr) (c : Nat) (xs : List Int) (hn0 : (Lit.int .i64 n).wf = true) (hA : Is w A c xs) :
    Calls Try.prog 10 #[.int .i64 n, .slice A xs.length c] w fun e w' => e = .returned (.bool true) ∧ Below w.heap.size w w' := by
  have HA := Lib.hid hA; clear hA
  have HN := Lib.hid (wf_i64 hn0)
  clear hn0
  have hla := HA.out.len
  have hla2 := HA.out.cap
  have hla3 := HA.out.max
  have bw := Below.refl w.heap.size w
  go_enter Try.func10, Try.ntmps10
  by_cases h12 : 12 < xs.length
  · have h12' : decide ((12 : Int) < (xs.length : Int)) = true := decide_eq_true (by omega)
    skip
    go_wp2_with fail
    refine (awakes_any _).mono ?_
    rintro e wn ⟨rfl, bb⟩
    replace bw := below_on bw bb bw.size
    go_wp2_with fail
    go_ret
    exact ⟨rfl, bw⟩
  · have h12' : decide ((12 : Int) < (xs.length : Int)) = false := decide_eq_false (by omega)
    have H12 : Hid (xs.length ≤ 12) := Lib.hid (by omega)
    clear h12
    go_wp2_with fail
    refine (within_any _ _ _ HN.out (by omega)).mono ?_
    rintro e wn ⟨rfl, rfl⟩
    have hwb := withinM_bd n (show (1 : Int) ≤ 200 by omega)
    obtain ⟨cp, hcp⟩ : ∃ cp, withinM n 200 = cp := ⟨_, rfl⟩
    rw [hcp] at hwb ⊢
    have HCP := Lib.hid hwb
    clear hwb hcp
    go_upto_region 4 with fail
    obtain ⟨i0, b0, z0⟩ := is_lit w cp (by have := HCP.out; omega) 3
    generalize (w.alloc (.cells #[.int .i64 cp] 3)) = w0 at i0 b0 z0 ⊢
    have HI := Lib.hid i0
    have HB0 := Lib.hid b0
    clear i0 b0 bw h12'
    go_wp2_with fail
    go_loopw [6, 7] (fun s i wr => ∃ (j : Nat) (A' : Option Addr) (c' : Nat) (fs : List Fm), j ≤ xs.length ∧ i = .int .i64 (j : Int) ∧ s = .slice A' fs.length c' ∧ fs.length = j ∧ fs.map Fm.fl = oneFl xs j ∧ Fw wr w0.heap.size A' c' fs ∧ (∀ x ∈ fs, x.ok wr) ∧ apartW A' fs ∧ (∀ x ∈ fs, ∀ b, x.A = some b → b.block < wr.heap.size) ∧ Below w0.heap.size w0 wr) (fun _ i _ => xs.length - (intOf i).toNat)
    case atStart => exact ⟨0, none, 0, [], by omega, rfl, rfl, rfl, by simp [oneFl], ⟨rfl, .inl ⟨rfl, rfl⟩⟩, by simp, (by intro x hx; cases hx), (by intro x hx; cases hx), Below.refl _ _⟩
    case round =>
      obtain ⟨j, A', c', fs, hj, rfl, rfl, hfl, hfm, hF, hO, hap, hblt, bw⟩ := hrel
      have HF := Lib.hid hF
      have HO := Lib.hid hO
      have HAP := Lib.hid hap
      have HBLT := Lib.hid hblt
      have HFM := Lib.hid hfm
      have HFL := Lib.hid hfl
      have bww : Below w.heap.size w wr := below_on HB0.out bw HB0.out.size
      clear hF hO hap hfm hfl hblt
      by_cases hlt : j < xs.length
      · obtain ⟨ad, rfl, _, hc0⟩ := (HA.out.below bww).at j hlt
        have wf0 := Lib.hid (HA.out.wf _ (List.getElem_mem hlt))
        have HFM1 := Lib.hid (oneFl_succ hlt)
        obtain ⟨x0, hx0⟩ : ∃ x0, xs[j] = x0 := ⟨_, rfl⟩
        rw [hx0] at hc0 wf0 HFM1
        have hj1 : (j : Int) < (xs.length : Int) := by omega
        clear hx0
        go_upto_region 8 with fail
        obtain ⟨i1, b1, z1⟩ := is_lit wr 0 (by omega) 3
        have hc1 := (b1.cell (p := ad.add j) (World.block_lt_of_cell? wr _ hc0)).trans hc0
        have HX1 := Lib.hid i1
        have HB1 := Lib.hid b1
        clear i1 b1
        go_wp2_with fail
        obtain ⟨gW, hgW⟩ : ∃ gW, wr.heap.size = gW := ⟨_, rfl⟩
        have HGW := Lib.hid hgW
        rw [hgW] at z1 HX1 HB1 ⊢
        clear hc0 hgW
        generalize (wr.alloc (.cells #[.int .i64 0] 3)) = wa at hc1 HX1 HB1 z1 ⊢
        have HZ1 := Lib.hid z1
        clear z1
        refine (within_any wa _ _ wf0.out (by omega)).mono ?_
        rintro e wn ⟨rfl, rfl⟩
        have hlmb := withinM_bd x0 (show (1 : Int) ≤ 60 by omega)
        obtain ⟨lm, hlm⟩ : ∃ lm, withinM x0 60 = lm := ⟨_, rfl⟩
        rw [hlm] at hlmb HFM1 ⊢
        have HLB := Lib.hid hlmb
        clear hlm hlmb
        have bl := (Below.refl wa.heap.size wa).alloc (Nat.le_refl _) (.cells #[.slice (some ⟨gW, 0, none⟩) 1 1, .int .i64 lm] 48)
        have zl := size_alloc wa (.cells #[.slice (some ⟨gW, 0, none⟩) 1 1, .int .i64 lm] 48)
        have hrow := rdw_one wa ⟨some ⟨gW, 0, none⟩, 1, [0], lm⟩
        have hX : Below wr.heap.size wr (wa.alloc (.cells #[.slice (some ⟨gW, 0, none⟩) 1 1, .int .i64 lm] 48)) := by
          have h1 := HB1.out
          rw [← HGW.out] at h1
          exact below_on h1 bl h1.size
        have hf2 := HF.out.below hX
        have bw2 := below_on bw hX bw.size
        have hA9 : ∀ a, A' = some a → a.block < wr.heap.size := fun a e => (HF.out.form.2.2 a e).2
        have hfl9 : fs.length ≤ 1000 := by have := HFL.out; have := H12.out; omega
        go_wp2_with (at_builtin; refine wpList_append_w2 _ rfl _ _ rfl rfl (B := w0.heap.size) (xs := fs) rfl rfl hf2 ⟨wa.heap.size, 0, none⟩ _ ⟨some ⟨gW, 0, none⟩, 1, [0], lm⟩ rfl hrow hfl9 bw2.size ?_; intro A2 c2 wz hfz hbz hgz hatz)
        have HR := Lib.hid (one_roundF (x := ⟨some ⟨gW, 0, none⟩, 1, [0], lm⟩) HO.out HAP.out HBLT.out hA9 hX (by rw [HGW.out]) ⟨HX1.out.below bl, by have := HLB.out; show (-9223372036854775808 : Int) ≤ lm ∧ lm ≤ _; omega⟩ (by rw [zl, HZ1.out, HGW.out]) hgz hatz)
        go_roundw
        case rel =>
          refine ⟨j + 1, A2, c2, fs ++ [⟨some ⟨gW, 0, none⟩, 1, [0], lm⟩], by omega, by go_num, by simp, by simp [HFL.out], ?_, hfz, HR.out.1, HR.out.2.1, HR.out.2.2, bw2.trans hbz⟩
          rw [List.map_append, HFM.out, HFM1.out]
          rfl
        case measure => simp [intOf]; omega
      · have HV := Lib.hid (oneFl_valid HCP.out (xs := xs) (j := j) (by have := H12.out; omega))
        have HCL := Lib.hid (fun i hi => oneFl_close HCP.out (xs := xs) (j := j) (by have := H12.out; omega) (i := i) hi)
        rw [← HFM.out] at HV HCL
        have hf12 : fs.length ≤ 12 := by have := HFL.out; have := H12.out; omega
        replace HI := Lib.hid (HI.out.below bw)
        have HT := Lib.hid (HF.out.ws HO.out)
        have bw := bww
        clear bww HF HO HAP HBLT HB0 HFL HFM
        go_wp2_with fail
        refine (units_any wr _ 1 _ [cp] _ _ _ fs HI.out HT.out rfl rfl HV.out).mono ?_
        rintro e w2 ⟨AU, cU, us, rfl, hus, hul, hG, bb⟩
        replace HI := Lib.hid (HI.out.below bb)
        replace HT := Lib.hid (HT.out.below bb)
        have HG := Lib.hid hG
        have HUL := Lib.hid hul
        have HUS := Lib.hid hus
        replace bw := below_on bw bb bw.size
        clear bb hG hul hus
        go_wp2_with fail
        refine (rates_any w2 _ 1 _ [cp] _ _ _ fs HI.out HT.out rfl rfl HV.out (by omega)).mono ?_
        rintro e w3 ⟨AR, vs, rfl, hrs, hvl, bb⟩
        replace HG := Lib.hid (HG.out.below bb)
        have HRS := Lib.hid hrs
        have HVL := Lib.hid hvl
        replace bw := below_on bw bb bw.size
        clear bb hrs HI HT hvl
        have t1 : ((fs.length : Int) != (fs.length : Int)) = false := by simp
        have HBW := Lib.hid bw
        clear bw
        go_wp2_with fail
        go_loopw [12] (fun i wr => ∃ k : Nat, k ≤ fs.length ∧ i = .int .i64 (k : Int) ∧ Below w3.heap.size w3 wr) (fun i _ => fs.length - (intOf i).toNat)
        case atStart => exact ⟨0, by omega, rfl, Below.refl _ _⟩
        case round =>
          obtain ⟨k, hk, rfl, bz0⟩ := hrel
          have bw := below_on HBW.out bz0 HBW.out.size
          have HBZ := Lib.hid bz0
          by_cases hlt : k < fs.length
          · have hku : k < us.length := by rw [HUL.out]; exact hlt
            have hkv : k < vs.length := by rw [HVL.out]; exact hlt
            obtain ⟨gU, rfl⟩ := gr_addr HG.out (by omega)
            obtain ⟨gR, rfl⟩ := HRS.out.q.addr (by omega)
            have HGz := HG.out.below bz0
            have HRz := HRS.out.below bz0
            have hcu := HGz.cell k hku
            have hcx := HRz.q.cells k hkv
            have hcap := HGz.form.1
            have hub := unitsM_bd HV.out.ok k (by rw [List.length_map]; exact hlt)
            have hul := HV.out.lm k (by rw [List.length_map]; exact hlt)
            have hcl := HCL.out k (by rw [List.length_map]; exact hlt)
            have hnx := (HRz.vq k hkv).nm (HRz.q.ok _ (List.getElem_mem hkv))
            rw [← HUS.out, getD_lt _ _ _ hku] at hub hcl
            obtain ⟨uk, huk⟩ : ∃ uk, us[k] = uk := ⟨_, rfl⟩
            obtain ⟨x2, hx2⟩ : ∃ x2, vs[k] = x2 := ⟨_, rfl⟩
            obtain ⟨q, hq⟩ : ∃ q, (ratesM (cpF [cp]) (fs.map Fm.fl) 1).getD k 0 = q := ⟨_, rfl⟩
            rw [huk] at hcu hub hcl
            rw [hx2] at hcx hnx
            rw [hq] at hcl
            have hnx' : Nm wr x2 q := by rw [← hq]; exact hnx
            have HNX := Lib.hid hnx'
            have HL1 := Lib.hid (decide_eq_true hcl.1)
            have HL2 := Lib.hid (decide_eq_true hcl.2)
            have HCU : Hid (∀ w', Below wr.heap.size wr w' → w'.cell? ⟨gU, k, none⟩ = some (.int .i64 uk)) := Lib.hid (fun w' hb => (hb.cell (p := ⟨gU, k, none⟩) (HGz.form.2.2 _ rfl).2).trans hcu)
            have HCX : Hid (∀ w', Below wr.heap.size wr w' → w'.cell? ⟨gR, k * 3, none⟩ = some (.bool x2.b) ∧ w'.cell? ⟨gR, k * 3 + 1, none⟩ = some (.slice x2.A x2.xs.length x2.c) ∧ w'.cell? ⟨gR, k * 3 + 2, none⟩ = some (.slice x2.D x2.ys.length x2.d)) := Lib.hid (fun w' hb => by
              have hl : gR < wr.heap.size := HRz.q.lt.2
              exact ⟨(hb.cell (p := ⟨gR, k * 3, none⟩) hl).trans hcx.1, (hb.cell (p := ⟨gR, k * 3 + 1, none⟩) hl).trans hcx.2.1, (hb.cell (p := ⟨gR, k * 3 + 2, none⟩) hl).trans hcx.2.2⟩)
            have hw1 : IntKind.i64.wrap (uk - 1) = uk - 1 := IntWalk.i64_in _ (by omega)
            have hw2 : IntKind.i64.wrap (uk + 1) = uk + 1 := IntWalk.i64_in _ (by omega)
            have HUB : Hid (0 ≤ uk ∧ uk ≤ 4096) := Lib.hid (by omega)
            have HBW2 := Lib.hid bw
            have hvl := HVL.out
            have hul2 := HUL.out
            clear hcu hcx hub hul hcl hnx hnx' huk hx2 hq HGz HRz bz0 bw
            go_upto_region 16 with fail
            --REG{
            refine wp_region_held_drew (S := fun w' => w'.cell? ⟨gU, k, none⟩ = some (.int .i64 uk) ∧ w'.cell? ⟨gR, k * 3, none⟩ = some (.bool x2.b) ∧ w'.cell? ⟨gR, k * 3 + 1, none⟩ = some (.slice x2.A x2.xs.length x2.c) ∧ w'.cell? ⟨gR, k * 3 + 2, none⟩ = some (.slice x2.D x2.ys.length x2.d)) (by kernel_rfl) ⟨HCU.out _ ((Below.refl wr.heap.size wr).drew), HCX.out _ ((Below.refl wr.heap.size wr).drew)⟩ (fun hHeld => ?_)
            have bz := (Below.refl wr.heap.size wr).drew
            generalize wr.drew = wd at *
            refine wpAnyH_take (i := 0) (v := .slice (some ⟨gU, 0, none⟩) fs.length cU) rfl (by kernel_rfl) (by kernel_rfl) (by kernel_rfl) (fun _ _ _ h => h) (Or.inl ⟨by rfl, ?_⟩) (by assumption) ?_
            · intro w hSw
              try dsimp only at hSw
              go_simp
              try with_reducible rfl
            try simp only [Act.put, List.getElem_toArray, List.getElem_cons_zero, List.setIfInBounds_toArray, List.set_cons_zero, List.set_cons_succ]
            refine wpAnyH_take (i := 1) (v := .int .i64 (k : Int)) rfl (by kernel_rfl) (by kernel_rfl) (by kernel_rfl) (fun _ _ _ h => h) (Or.inl ⟨by rfl, ?_⟩) (by assumption) ?_
            · intro w hSw
              try dsimp only at hSw
              go_simp
              try with_reducible rfl
            try simp only [Act.put, List.getElem_toArray, List.getElem_cons_zero, List.getElem_cons_succ, List.setIfInBounds_toArray, List.set_cons_zero, List.set_cons_succ]
            refine wpAnyH_take (i := 2) (v := .pointer (some ⟨gU, k, none⟩)) rfl (by kernel_rfl) (by kernel_rfl) (by kernel_rfl) (fun _ _ _ h => h) (Or.inl ⟨by rfl, ?_⟩) (by assumption) ?_
            · intro w hSw
              try dsimp only at hSw
              go_simp
              try with_reducible rfl
            try simp only [Act.put, List.getElem_toArray, List.getElem_cons_zero, List.getElem_cons_succ, List.setIfInBounds_toArray, List.set_cons_zero, List.set_cons_succ]
            refine wpAnyH_take (i := 3) (v := .int .i64 uk) rfl (by kernel_rfl) (by kernel_rfl) (by kernel_rfl) (fun _ _ _ h => h) (Or.inl ⟨by rfl, ?_⟩) (by assumption) ?_
            · intro w hSw
              try dsimp only at hSw
              obtain ⟨s0, _⟩ := hSw
              go_simp
              try with_reducible rfl
            try simp only [Act.put, List.getElem_toArray, List.getElem_cons_zero, List.getElem_cons_succ, List.setIfInBounds_toArray, List.set_cons_zero, List.set_cons_succ]
            refine wpAnyH_take (i := 4) (v := .int .i64 (uk - 1)) rfl (by kernel_rfl) (by kernel_rfl) (by kernel_rfl) (fun _ _ _ h => h) (Or.inl ⟨by rfl, ?_⟩) (by assumption) ?_
            · intro w hSw
              try dsimp only at hSw
              go_simp
              try with_reducible rfl
            try simp only [Act.put, List.getElem_toArray, List.getElem_cons_zero, List.getElem_cons_succ, List.setIfInBounds_toArray, List.set_cons_zero, List.set_cons_succ]
            refine wpAnyH_take (i := 6) (v := .slice (some ⟨gR, 0, none⟩) fs.length fs.length) rfl (by kernel_rfl) (by kernel_rfl) (by kernel_rfl) (fun _ _ _ h => h) (Or.inl ⟨by rfl, ?_⟩) (by assumption) ?_
            · intro w hSw
              try dsimp only at hSw
              go_simp
              try with_reducible rfl
            try simp only [Act.put, List.getElem_toArray, List.getElem_cons_zero, List.getElem_cons_succ, List.setIfInBounds_toArray, List.set_cons_zero, List.set_cons_succ]
            refine wpAnyH_take (i := 7) (v := .int .i64 (k : Int)) rfl (by kernel_rfl) (by kernel_rfl) (by kernel_rfl) (fun _ _ _ h => h) (Or.inl ⟨by rfl, ?_⟩) (by assumption) ?_
            · intro w hSw
              try dsimp only at hSw
              go_simp
              try with_reducible rfl
            try simp only [Act.put, List.getElem_toArray, List.getElem_cons_zero, List.getElem_cons_succ, List.setIfInBounds_toArray, List.set_cons_zero, List.set_cons_succ]
            refine wpAnyH_take (i := 8) (v := .pointer (some ⟨gR, k * 3, none⟩)) rfl (by kernel_rfl) (by kernel_rfl) (by kernel_rfl) (fun _ _ _ h => h) (Or.inl ⟨by rfl, ?_⟩) (by assumption) ?_
            · intro w hSw
              try dsimp only at hSw
              go_simp
              try with_reducible rfl
            try simp only [Act.put, List.getElem_toArray, List.getElem_cons_zero, List.getElem_cons_succ, List.setIfInBounds_toArray, List.set_cons_zero, List.set_cons_succ]
            refine wpAnyH_take (i := 9) (v := x2.val) rfl (by kernel_rfl) (by kernel_rfl) (by kernel_rfl) (fun _ _ _ h => h) (Or.inl ⟨by rfl, ?_⟩) (by assumption) ?_
            · intro w hSw
              try dsimp only at hSw
              obtain ⟨_, s0, s1, s2⟩ := hSw
              go_simp
              try with_reducible rfl
            try simp only [Act.put, List.getElem_toArray, List.getElem_cons_zero, List.getElem_cons_succ, List.setIfInBounds_toArray, List.set_cons_zero, List.set_cons_succ]
            refine wpAnyH_ready (rs := [5]) (by kernel_rfl) (by simp) ?_
            refine AllReadyH.cons rfl (fun K hK => ?_) ?_
            · go_simp
              go_at_call 34
              refine (rwhole_any wd (uk - 1) (by have := HUB.out; omega) (by have := HUB.out; omega)).mono ?_
              rintro e wd ⟨y1, rfl, _, n4, bb⟩
              try replace n4 := n4.below bb
              replace bz := below_on bz bb bz.size
              clear bb
              refine hK.out _ _ ⟨HCU.out _ bz, HCX.out _ bz⟩ (fun hHeld => ?_)
              clear hK K
              try simp only [Act.put]
              try simp only [List.setIfInBounds_toArray, List.set_cons_zero, List.set_cons_succ]
              refine wpAnyH_ready (rs := [10]) (by kernel_rfl) (by simp) ?_
              refine AllReadyH.cons rfl (fun K hK => ?_) ?_
              · go_simp
                go_at_call 33
                refine (rless_any wd y1 x2 _ _ true n4 (HNX.out.below bz) HL1.out).mono ?_
                rintro e wd ⟨rfl, bb⟩
                clear n4
                try replace n4 := n4.below bb
                replace bz := below_on bz bb bz.size
                clear bb
                refine hK.out _ _ ⟨HCU.out _ bz, HCX.out _ bz⟩ (fun hHeld => ?_)
                clear hK K
                try simp only [Act.put]
                try simp only [List.setIfInBounds_toArray, List.set_cons_zero, List.set_cons_succ]
                refine wpAnyH_take (i := 11) (v := .bool false) rfl (by kernel_rfl) (by kernel_rfl) (by kernel_rfl) (fun _ _ _ h => h) (Or.inl ⟨by rfl, ?_⟩) (by assumption) ?_
                · intro w hSw
                  try dsimp only at hSw
                  go_simp
                  try with_reducible rfl
                try simp only [Act.put, List.getElem_toArray, List.getElem_cons_zero, List.getElem_cons_succ, List.setIfInBounds_toArray, List.set_cons_zero, List.set_cons_succ]
                refine wpAnyH_take (i := 12) (v := .bool false) rfl (by kernel_rfl) (by kernel_rfl) (by kernel_rfl) (fun _ _ _ h => h) (Or.inl ⟨by rfl, ?_⟩) (by assumption) ?_
                · intro w hSw
                  try dsimp only at hSw
                  go_simp
                  try with_reducible rfl
                try simp only [Act.put, List.getElem_toArray, List.getElem_cons_zero, List.getElem_cons_succ, List.setIfInBounds_toArray, List.set_cons_zero, List.set_cons_succ]
                refine wpAnyH_take (i := 13) (v := .slice (some ⟨gR, 0, none⟩) fs.length fs.length) rfl (by kernel_rfl) (by kernel_rfl) (by kernel_rfl) (fun _ _ _ h => h) (Or.inl ⟨by kernel_rfl, ?_⟩) (by assumption) ?_
                · intro w hSw
                  try dsimp only at hSw
                  go_simp
                  try with_reducible rfl
                try simp only [Act.put, List.getElem_toArray, List.getElem_cons_zero, List.getElem_cons_succ, List.setIfInBounds_toArray, List.set_cons_zero, List.set_cons_succ]
                refine wpAnyH_take (i := 14) (v := .int .i64 (k : Int)) rfl (by kernel_rfl) (by kernel_rfl) (by kernel_rfl) (fun _ _ _ h => h) (Or.inl ⟨by kernel_rfl, ?_⟩) (by assumption) ?_
                · intro w hSw
                  try dsimp only at hSw
                  go_simp
                  try with_reducible rfl
                try simp only [Act.put, List.getElem_toArray, List.getElem_cons_zero, List.getElem_cons_succ, List.setIfInBounds_toArray, List.set_cons_zero, List.set_cons_succ]
                refine wpAnyH_take (i := 15) (v := .pointer (some ⟨gR, k * 3, none⟩)) rfl (by kernel_rfl) (by kernel_rfl) (by kernel_rfl) (fun _ _ _ h => h) (Or.inl ⟨by kernel_rfl, ?_⟩) (by assumption) ?_
                · intro w hSw
                  try dsimp only at hSw
                  go_simp
                  try with_reducible rfl
                try simp only [Act.put, List.getElem_toArray, List.getElem_cons_zero, List.getElem_cons_succ, List.setIfInBounds_toArray, List.set_cons_zero, List.set_cons_succ]
                refine wpAnyH_take (i := 16) (v := x2.val) rfl (by kernel_rfl) (by kernel_rfl) (by kernel_rfl) (fun _ _ _ h => h) (Or.inl ⟨by kernel_rfl, ?_⟩) (by assumption) ?_
                · intro w hSw
                  try dsimp only at hSw
                  obtain ⟨_, s0, s1, s2⟩ := hSw
                  go_simp
                  try with_reducible rfl
                try simp only [Act.put, List.getElem_toArray, List.getElem_cons_zero, List.getElem_cons_succ, List.setIfInBounds_toArray, List.set_cons_zero, List.set_cons_succ]
                refine wpAnyH_take (i := 17) (v := .slice (some ⟨gU, 0, none⟩) fs.length cU) rfl (by kernel_rfl) (by kernel_rfl) (by kernel_rfl) (fun _ _ _ h => h) (Or.inl ⟨by kernel_rfl, ?_⟩) (by assumption) ?_
                · intro w hSw
                  try dsimp only at hSw
                  go_simp
                  try with_reducible rfl
                try simp only [Act.put, List.getElem_toArray, List.getElem_cons_zero, List.getElem_cons_succ, List.setIfInBounds_toArray, List.set_cons_zero, List.set_cons_succ]
                refine wpAnyH_take (i := 18) (v := .int .i64 (k : Int)) rfl (by kernel_rfl) (by kernel_rfl) (by kernel_rfl) (fun _ _ _ h => h) (Or.inl ⟨by kernel_rfl, ?_⟩) (by assumption) ?_
                · intro w hSw
                  try dsimp only at hSw
                  go_simp
                  try with_reducible rfl
                try simp only [Act.put, List.getElem_toArray, List.getElem_cons_zero, List.getElem_cons_succ, List.setIfInBounds_toArray, List.set_cons_zero, List.set_cons_succ]
                refine wpAnyH_take (i := 19) (v := .pointer (some ⟨gU, k, none⟩)) rfl (by kernel_rfl) (by kernel_rfl) (by kernel_rfl) (fun _ _ _ h => h) (Or.inl ⟨by kernel_rfl, ?_⟩) (by assumption) ?_
                · intro w hSw
                  try dsimp only at hSw
                  go_simp
                  try with_reducible rfl
                try simp only [Act.put, List.getElem_toArray, List.getElem_cons_zero, List.getElem_cons_succ, List.setIfInBounds_toArray, List.set_cons_zero, List.set_cons_succ]
                refine wpAnyH_take (i := 20) (v := .int .i64 uk) rfl (by kernel_rfl) (by kernel_rfl) (by kernel_rfl) (fun _ _ _ h => h) (Or.inl ⟨by kernel_rfl, ?_⟩) (by assumption) ?_
                · intro w hSw
                  try dsimp only at hSw
                  obtain ⟨s0, _⟩ := hSw
                  go_simp
                  try with_reducible rfl
                try simp only [Act.put, List.getElem_toArray, List.getElem_cons_zero, List.getElem_cons_succ, List.setIfInBounds_toArray, List.set_cons_zero, List.set_cons_succ]
                refine wpAnyH_take (i := 21) (v := .int .i64 (uk + 1)) rfl (by kernel_rfl) (by kernel_rfl) (by kernel_rfl) (fun _ _ _ h => h) (Or.inl ⟨by kernel_rfl, ?_⟩) (by assumption) ?_
                · intro w hSw
                  try dsimp only at hSw
                  go_simp
                  try with_reducible rfl
                try simp only [Act.put, List.getElem_toArray, List.getElem_cons_zero, List.getElem_cons_succ, List.setIfInBounds_toArray, List.set_cons_zero, List.set_cons_succ]
                refine wpAnyH_ready (rs := [22]) (by kernel_rfl) (by simp) ?_
                refine AllReadyH.cons rfl (fun K hK => ?_) ?_
                · go_simp
                  go_at_call 34
                  refine (rwhole_any wd (uk + 1) (by have := HUB.out; omega) (by have := HUB.out; omega)).mono ?_
                  rintro e wd ⟨y2, rfl, _, n4, bb⟩
                  try replace n4 := n4.below bb
                  replace bz := below_on bz bb bz.size
                  clear bb
                  refine hK.out _ _ ⟨HCU.out _ bz, HCX.out _ bz⟩ (fun hHeld => ?_)
                  clear hK K
                  try simp only [Act.put]
                  try simp only [List.setIfInBounds_toArray, List.set_cons_zero, List.set_cons_succ]
                  refine wpAnyH_ready (rs := [23]) (by kernel_rfl) (by simp) ?_
                  refine AllReadyH.cons rfl (fun K hK => ?_) ?_
                  · go_simp
                    go_at_call 33
                    refine (rless_any wd x2 y2 _ _ true (HNX.out.below bz) n4 HL2.out).mono ?_
                    rintro e wd ⟨rfl, bb⟩
                    clear n4
                    try replace n4 := n4.below bb
                    replace bz := below_on bz bb bz.size
                    clear bb
                    refine hK.out _ _ ⟨HCU.out _ bz, HCX.out _ bz⟩ (fun hHeld => ?_)
                    clear hK K
                    try simp only [Act.put]
                    try simp only [List.setIfInBounds_toArray, List.set_cons_zero, List.set_cons_succ]
                    refine wpAnyH_take (i := 24) (v := .bool false) rfl (by kernel_rfl) (by kernel_rfl) (by kernel_rfl) (fun _ _ _ h => h) (Or.inl ⟨by kernel_rfl, ?_⟩) (by assumption) ?_
                    · intro w hSw
                      try dsimp only at hSw
                      go_simp
                      try with_reducible rfl
                    try simp only [Act.put, List.getElem_toArray, List.getElem_cons_zero, List.getElem_cons_succ, List.setIfInBounds_toArray, List.set_cons_zero, List.set_cons_succ]
                    refine wpAnyH_take (i := 25) (v := .bool false) rfl (by kernel_rfl) (by kernel_rfl) (by kernel_rfl) (fun _ _ _ h => h) (Or.inl ⟨by rfl, ?_⟩) (by assumption) ?_
                    · intro w hSw
                      try dsimp only at hSw
                      go_simp
                      try with_reducible rfl
                    try simp only [Act.put, List.getElem_toArray, List.getElem_cons_zero, List.getElem_cons_succ, List.setIfInBounds_toArray, List.set_cons_zero, List.set_cons_succ]
                    refine wpAnyH_done (by kernel_rfl) ?_ _
                    go_wp2_with fail
                    go_roundw
                    case rel => exact ⟨k + 1, by omega, by go_num, below_on HBZ.out bz HBZ.out.size⟩
                    case measure => simp [intOf]; omega
                  exact AllReadyH.nil
                exact AllReadyH.nil
              exact AllReadyH.nil
            exact AllReadyH.nil
            --REG}
          · have bw2 := bw
            clear bz0
            skip
            go_wp2_with fail
            refine (awakes_any _).mono ?_
            rintro e wn ⟨rfl, bb⟩
            replace bw := below_on bw bb bw.size
            go_wp2_with fail
            go_ret
            exact ⟨rfl, bw⟩
end Go.Proofs.Ythdfflbhogfejaa
