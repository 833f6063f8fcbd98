/- The walk of FairshareScales. -/
import Derived.Test.YthdfflbhogfejaaApW
import Derived.Test.YthdfflbhogfejaaSwProves
import Derived.Test.YthdfflbhogfejaaRaY
import Derived.Test.YthdfflbhogfejaaFhJ
import Derived.Test.YthdfflbhogfejaaRfC
namespace Go.Proofs.Ythdfflbhogfejaa
open Go.RowKit

set_option maxRecDepth 100000 in
theorem rfmul_nm (w : World) (x y : Fx) (p q : Rat) (hx : Nm w x p) (hy : Nm w y q) (hz : Sz (p * q) 128 128) :
    Calls Try.prog 35 #[x.val, y.val] w fun e w' => ∃ z : Fx, e = .returned (.tuple #[z.val, .int .i64 0]) ∧ Rp z (p * q) ∧ z.ok w' ∧ Below w.heap.size w w' := by
  have h : mulF x y = okS (p * q) := by rw [mulF, if_pos ⟨hx.v, hy.v⟩, hx.q, hy.q]; exact frS_ok hz
  refine (rfmul_any w x y _ hx.ok hy.ok hx.l hx.m hy.l hy.m h).mono ?_
  rintro e w' ⟨z, rfl, hs, ok, bb⟩
  exact ⟨z, rfl, Rp.of hs, ok, bb⟩
set_option maxRecDepth 100000 in
theorem links_few {n : Nat} {ls : List Int} (h : LinksOk n ls) : ls.length ≤ n := by
  rcases Nat.eq_zero_or_pos ls.length with h0 | h0
  · omega
  · have key : ∀ i (hi : i < ls.length), (i : Int) ≤ ls[i] := by
      intro i
      induction i with
      | zero => intro hi; have := (h 0 hi).1; omega
      | succ i ih =>
        intro hi
        have h1 := ih (by omega)
        have h2 := h.lt (i + 1) i hi (by omega)
        omega
    have h1 := key (ls.length - 1) (by omega)
    have h2 := (h (ls.length - 1) (by omega)).2.1
    omega
/-- the first of the capacities are multiplied -/
def mulP (caps : List Int) (b : Int) (j : Nat) : List Int := (caps.take j).map (· * b) ++ caps.drop j
set_option maxRecDepth 100000 in
theorem mulP_len (caps : List Int) (b : Int) (j : Nat) : (mulP caps b j).length = caps.length := by simp [mulP]; omega
set_option maxRecDepth 100000 in
theorem mulP_get {caps : List Int} {b : Int} {j : Nat} (hj : j < caps.length) : (mulP caps b j)[j]'(by rw [mulP_len]; exact hj) = caps[j] := by
  unfold mulP
  rw [List.getElem_append_right (by simp; omega)]
  simp only [List.length_map, List.length_take, List.getElem_drop]
  congr 1; omega
set_option maxRecDepth 100000 in
theorem mulP_set {caps : List Int} {b : Int} {j : Nat} (hj : j < caps.length) : (mulP caps b j).set j (caps[j] * b) = mulP caps b (j + 1) := by
  unfold mulP
  rw [List.take_succ_eq_append_getElem hj, List.map_append, List.drop_eq_getElem_cons hj, List.set_append]
  rw [if_neg (by simp; omega)]
  have e : j - ((caps.take j).map (· * b)).length = 0 := by simp; omega
  rw [e, List.append_assoc]
  rfl
set_option maxRecDepth 100000 in
theorem mulP_all {caps : List Int} {b : Int} : mulP caps b caps.length = caps.map (· * b) := by simp [mulP]
set_option maxRecDepth 100000 in
theorem mulP_zero {caps : List Int} {b : Int} : mulP caps b 0 = caps := by simp [mulP]
/-- flows with greater limits -/
abbrev byF (b : Int) (f : Fl) : Fl := (f.1, b * f.2)
set_option maxRecDepth 100000 in
theorem scaled_valid (cs xs : List Int) {b : Int} (hb : 1 ≤ b ∧ b ≤ 9) : validFl ((capsM cs).map (· * b)) ((flowsM xs (capsM cs).length).map (byF b)) := by
  have hv := flowsM_valid cs xs
  refine ⟨by rw [List.length_map]; exact hv.1, by rw [List.length_map]; exact hv.2.1, fun c hc => ?_, fun f hf => ?_⟩
  · obtain ⟨c0, h0, rfl⟩ := List.mem_map.1 hc
    have h1 := capsM_bd cs c0 h0
    have h2 : 0 ≤ c0 * b := Int.mul_nonneg (by omega) (by omega)
    have h3 : c0 * b ≤ c0 * 9 := Int.mul_le_mul_of_nonneg_left (by omega) (by omega)
    omega
  · obtain ⟨f0, h0, rfl⟩ := List.mem_map.1 hf
    have h4 := hv.2.2.2 f0 h0
    obtain ⟨j, _, rfl⟩ := List.mem_map.1 h0
    have h1 := withinM_bd (xs.getD (2 * j + 1) 0) (show (1 : Int) ≤ 24 by omega)
    have h5 : (flowM xs (capsM cs).length j).2 < 24 := by simp only [flowM]; omega
    have h2 : 0 ≤ b * (flowM xs (capsM cs).length j).2 := Int.mul_nonneg (by omega) h4.1
    have h3 : b * (flowM xs (capsM cs).length j).2 ≤ 9 * (flowM xs (capsM cs).length j).2 := Int.mul_le_mul_of_nonneg_right (by omega) h4.1
    refine ⟨h2, by show b * (flowM xs (capsM cs).length j).2 ≤ 4096; omega, ?_⟩
    rw [List.length_map]; exact h4.2.2
set_option maxRecDepth 100000 in
theorem rates_scale {caps : List Int} {l : List Fl} {b : Int} (hb : 1 ≤ b) (hv : validFl caps l) (hv2 : validFl (caps.map (· * b)) (l.map (byF b))) :
    ratesM (cpF (caps.map (· * b))) (l.map (byF b)) caps.length = (ratesM (cpF caps) l caps.length).map (· * (b : Rat)) := by
  have hc := ratesM_cert hv.okR
  have h2 := ratesM_cert hv2.okR
  rw [List.length_map] at h2
  have hlk : ∀ i, i < l.length → lkA (l.map (byF b)) i = lkA l i ∧ lmA (l.map (byF b)) i = b * lmA l i := fun i hi => by
    rw [lkA_get (by simpa using hi), lmA_get (by simpa using hi), lkA_get hi, lmA_get hi]; simp
  have hs := Cert.scale (cp := cpF caps) (cp' := cpF (caps.map (· * b))) (l := l) (l' := l.map (byF b)) (n := caps.length) (r := ratesM (cpF caps) l caps.length) (b := b) (by omega) (by simp) (fun i hi => (hlk i hi).1) (fun i hi => (hlk i hi).2) (fun k h0 h1 => by
    obtain ⟨t, rfl⟩ : ∃ t : Nat, k = (t : Int) := ⟨k.toNat, by omega⟩
    have ht : t < caps.length := by omega
    rw [cpF, cpF, Int.toNat_natCast, getD_lt _ _ _ ht, getD_lt _ _ _ (by simpa using ht)]
    simp [Int.mul_comm]) hv.okR.lk hc
  have hlk2 := hv2.okR.lk
  have hcl9 : (caps.map (· * b)).length = caps.length := by simp
  rw [hcl9] at hlk2
  exact (Cert.unique hlk2 hs h2).symm
set_option maxRecDepth 100000 in
theorem one_roundG {wr X wz : World} {A' A2 : Option Addr} {vs : List Fm} {x : Fm} (hok : ∀ y ∈ vs, y.ok wr) (hap : apartW A' vs) (hlt : ∀ y ∈ vs, ∀ b, y.A = some b → b.block < wr.heap.size) (hA' : ∀ a, A' = some a → a.block < wr.heap.size) (hX : Below wr.heap.size wr X)
    (hxa : ∀ a, x.A = some a → wr.heap.size ≤ a.block ∧ a.block < X.heap.size) (hxok : x.ok X) (hg : X.grownBy wz (A'.map (·.block))) (hat : A2.map (·.block) = A'.map (·.block) ∨ A2.map (·.block) = some X.heap.size) :
    (∀ y ∈ vs ++ [x], y.ok wz) ∧ apartW A2 (vs ++ [x]) ∧ (∀ y ∈ vs ++ [x], ∀ b, y.A = some b → b.block < wz.heap.size) := by
  have hsz := hg.size
  have hsx := hX.size
  refine ⟨fun y hy => ?_, fun y hy => ?_, fun y hy b e => ?_⟩
  · rcases List.mem_append.1 hy with hy | hy
    · have ho := (hok y hy).below hX
      exact ⟨ho.is.grown hg (fun _ => (hap y hy).row), ho.wf⟩
    · rw [List.mem_singleton] at hy
      subst hy
      refine ⟨hxok.is.grown hg (fun _ a e => ?_), hxok.wf⟩
      have h2 := (hxa a e).1
      cases hA2 : A' with
      | none => simp
      | some b => have h1 := hA' b hA2; simp; omega
  · rcases List.mem_append.1 hy with hy | hy
    · exact ((hap y hy).symm.app (fun b e => by have := hlt y hy b e; omega) hat).symm
    · rw [List.mem_singleton] at hy
      subst hy
      have hp : apart2 A' y.A := fun a b e1 e2 => by
        have h1 := hA' a e1
        have h2 := (hxa b e2).1
        omega
      exact (hp.app (fun b e => (hxa b e).2) hat).symm
  · rcases List.mem_append.1 hy with hy | hy
    · have := hlt y hy b e; omega
    · rw [List.mem_singleton] at hy
      subst hy
      have := (hxa b e).2
      omega
set_option maxRecDepth 100000 in
set_option maxHeartbeats 4000000 in
theorem scales_walk (w : World) (A : Option Addr) (c : Nat) (cs : List Int) (D : Option Addr) (d : Nat) (xs : List Int) (b0 : Int) (hA : Is w A c cs) (hB : Is w D d xs) (h1 : (Lit.int .i64 b0).wf = true) :
    Calls Try.prog 11 #[.slice A cs.length c, .slice D xs.length d, .int .i64 b0] w fun e w' => e = .returned (.bool true) ∧ Below w.heap.size w w' := by
  have H1 := Lib.hid (wf_i64 h1)
  clear h1
  have HA := Lib.hid hA; clear hA
  have HB := Lib.hid hB; clear hB
  have bw := Below.refl w.heap.size w
  go_enter Try.func11, Try.ntmps11
  go_wp2_with fail
  refine (caps_any w A _ c cs HA.out rfl).mono ?_
  rintro e wn ⟨A', c', rfl, hI, bb⟩
  have HI := Lib.hid hI
  replace bw := below_on bw bb bw.size
  clear bb hI
  go_wp2_with fail
  refine (flowsL_walk wn D _ d xs (capsM cs).length (HB.out.below bw) rfl (by have := (capsM_len cs).2; omega)).mono ?_
  rintro e wt ⟨D', d', fs, rfl, hfm, hT, bb⟩
  have HFM := Lib.hid hfm
  have HT := Lib.hid hT
  have HI := Lib.hid (HI.out.below bb)
  replace bw := below_on bw bb bw.size
  have h7 : fs.length ≤ 7 := by
    have h1 := congrArg List.length hfm
    rw [List.length_map] at h1
    have h2 := flowsM_len xs (capsM cs).length
    omega
  have hc5 := (capsM_len cs).2
  have HV := Lib.hid (flowsM_valid cs xs)
  rw [← hfm] at HV
  clear bb hT hfm
  obtain ⟨caps, hcaps⟩ : ∃ caps, capsM cs = caps := ⟨_, rfl⟩
  have HCAPS := Lib.hid hcaps
  rw [hcaps] at HI HV HFM hc5 ⊢
  clear hcaps
  go_wp2_with fail
  refine (within_any wt b0 9 H1.out (by omega)).mono ?_
  rintro e w5 ⟨rfl, rfl⟩
  have hkb := withinM_bd b0 (n := 9) (by omega)
  obtain ⟨b, hb⟩ : ∃ b, 1 + withinM b0 9 = b := ⟨_, rfl⟩
  have hbb : 1 ≤ b ∧ b ≤ 9 := by omega
  have hwb : IntKind.i64.wrap (1 + withinM b0 9) = b := by rw [← hb]; exact IntWalk.i64_in _ (by omega)
  have HBB := Lib.hid hbb
  have HV2 : Hid (validFl (caps.map (· * b)) ((fs.map Fm.fl).map (byF b))) := Lib.hid (by rw [HFM.out, ← HCAPS.out]; exact scaled_valid cs xs hbb)
  have HRT := Lib.hid (rates_scale hbb.1 HV.out HV2.out)
  have HC5 := Lib.hid hc5
  have HCB : Hid (∀ c ∈ caps, 0 ≤ c ∧ c ≤ 20) := Lib.hid (fun c hc => by rw [← HCAPS.out] at hc; have := capsM_bd cs c hc; omega)
  have HLM : Hid (∀ i, ∀ h : i < fs.length, 0 ≤ fs[i].m ∧ fs[i].m ≤ 4096) := Lib.hid (fun i h => by
    have h1 := HV.out.2.2.2 fs[i].fl (List.mem_map_of_mem (List.getElem_mem h))
    exact ⟨h1.1, h1.2.1⟩)
  clear hkb hb hbb
  obtain ⟨i1, hi, hi0, hi1, hi2⟩ := info_parts int_info
  go_upto_region 5 with (at_builtin; refine wpList_append_rd _ (mk := iv) (fun _ => rfl) rfl _ _ 22 rfl 3 i1 (iv 0) 8 Try.underlying22 hi hi0 hi1 hi2 rfl (B := wt.heap.size) (A := none) (c := 0) (n := 0) (xs := []) rfl rfl (Gr.nil _ _) A' caps.length c' caps rfl rfl HI.out.rd (by simp only [maxLen]; omega) (by omega) (Nat.le_refl _) ?_; intro AM cM wq hgq hgrq hbq hatq)
  rw [List.nil_append] at hgq
  have HGM : Hid (Gr iv 3 wq wt.heap.size AM cM (mulP caps b 0)) := Lib.hid (by rw [mulP_zero]; exact hgq)
  have HBQ := Lib.hid hbq
  have HBW := Lib.hid bw
  clear hgq hgrq hbq hatq bw hwb
  go_wp2_with fail
  go_loopw [10] (fun iv' wz => ∃ j : Nat, j ≤ caps.length ∧ iv' = .int .i64 (j : Int) ∧ Gr iv 3 wz wt.heap.size AM cM (mulP caps b j) ∧ Below wt.heap.size wt wz) (fun iv' _ => caps.length - (intOf iv').toNat)
  case atStart => exact ⟨0, by omega, rfl, HGM.out, HBQ.out⟩
  case round =>
    clear HGM HBQ
    obtain ⟨j, hj, rfl, hG, bz⟩ := hrel
    have HG := Lib.hid hG
    have HBZ := Lib.hid bz
    clear hG bz
    by_cases hjl : j < caps.length
    · obtain ⟨gM, rfl⟩ := HG.out.some_ (by rw [mulP_len]; omega)
      have mc := HG.out.cell j (by rw [mulP_len]; exact hjl)
      rw [mulP_get hjl] at mc
      have mf := HG.out.free j
      have hcb := HCB.out _ (List.getElem_mem hjl)
      have hset := HG.out.store j (caps[j] * b)
      rw [mulP_set hjl] at hset
      have hbs := HBZ.out.setCell (p := ⟨gM, j, none⟩) (HG.out.form.2.2 _ rfl).1 (.int .i64 (caps[j] * b))
      have hcM : caps.length ≤ cM := by have := HG.out.form.1; rwa [mulP_len] at this
      obtain ⟨v, hv⟩ : ∃ v, caps[j] = v := ⟨_, rfl⟩
      rw [hv] at mc hcb hset hbs
      have hb1 := HBB.out
      have hv0 : 0 ≤ v * b := Int.mul_nonneg (by omega) (by omega)
      have hv1 : v * b ≤ v * 9 := Int.mul_le_mul_of_nonneg_left (by omega) (by omega)
      have hw1 : IntKind.i64.wrap (v * b) = v * b := IntWalk.i64_in _ (by omega)
      clear hv
      go_wp2_with fail
      go_roundw
      case rel => exact ⟨j + 1, by omega, by go_num, hset, hbs⟩
      case measure => simp [intOf]; omega
    · obtain rfl : j = caps.length := by omega
      have HGM : Hid (Gr iv 3 wr wt.heap.size AM cM (caps.map (· * b))) := Lib.hid (by have := HG.out; rwa [mulP_all] at this)
      have HIM : Hid (Is wr AM cM (caps.map (· * b))) := Lib.hid (HGM.out.is (fun x hx => by
        obtain ⟨c0, h0, rfl⟩ := List.mem_map.1 hx
        have h1 := HV2.out.2.2.1 _ hx
        omega))
      replace HI := Lib.hid (HI.out.below HBZ.out)
      replace HT := Lib.hid (HT.out.below HBZ.out)
      replace HBW := Lib.hid (below_on HBW.out HBZ.out HBW.out.size)
      clear HGM HG HBZ hj hjl
      generalize wr = w0 at *
      go_wp2_with fail
      go_loopw [11, 12] (fun s i wr => ∃ (j : Nat) (A2 : Option Addr) (c2 : Nat) (ms : List Fm), j ≤ fs.length ∧ i = .int .i64 (j : Int) ∧ s = .slice A2 ms.length c2 ∧ ms.length = j ∧ ms.map Fm.fl = ((fs.map Fm.fl).take j).map (byF b) ∧ Fw wr w0.heap.size A2 c2 ms ∧ (∀ x ∈ ms, x.ok wr) ∧ apartW A2 ms ∧ (∀ x ∈ ms, ∀ b, x.A = some b → b.block < wr.heap.size) ∧ Below w0.heap.size w0 wr) (fun _ i _ => fs.length - (intOf i).toNat)
      case atStart => exact ⟨0, none, 0, [], by omega, rfl, rfl, rfl, by simp, ⟨rfl, .inl ⟨rfl, rfl⟩⟩, by simp, (by intro x hx; cases hx), (by intro x hx; cases hx), Below.refl _ _⟩
      case round =>
        obtain ⟨j, A2, c2, ms, hj, rfl, rfl, hml, hmm, hF, hO, hap, hblt, bz⟩ := hrel
        have HF := Lib.hid hF
        have HO := Lib.hid hO
        have HAP := Lib.hid hap
        have HBLT := Lib.hid hblt
        have HMM := Lib.hid hmm
        have HML := Lib.hid hml
        have HBZ := Lib.hid bz
        clear hF hO hap hmm hml hblt bz
        by_cases hlt : j < fs.length
        · have hm1 : ((fs.map Fm.fl).take (j + 1)).map (byF b) = ((fs.map Fm.fl).take j).map (byF b) ++ [byF b fs[j].fl] := by
            rw [List.take_succ_eq_append_getElem (by simpa using hlt), List.map_append]; simp
          obtain ⟨ad, rfl, _, hcc⟩ := (HT.out.below HBZ.out).rd (by omega)
          obtain ⟨tc0, tc1⟩ := hcc j hlt
          have hok := (HT.out.ok _ (List.getElem_mem hlt)).below HBZ.out
          have hlm := HLM.out j hlt
          have hls := HV.out.2.2.2 fs[j].fl (List.mem_map_of_mem (List.getElem_mem hlt))
          have hlk : fs[j].ls.length ≤ 1000 := by
            have := links_few hls.2.2
            have := HC5.out
            show fs[j].fl.1.length ≤ 1000
            omega
          obtain ⟨x, hx⟩ : ∃ x, fs[j] = x := ⟨_, rfl⟩
          rw [hx] at tc0 tc1 hok hlm hm1 hlk
          have HM1 := Lib.hid hm1
          have HOKX := Lib.hid hok
          have hdm := HT.out.cap
          have hdm2 := HT.out.max
          have hb1 := HBB.out
          have hv0 : 0 ≤ b * x.m := Int.mul_nonneg (by omega) (by omega)
          have hv1 : b * x.m ≤ 9 * x.m := Int.mul_le_mul_of_nonneg_right (by omega) (by omega)
          have hw1 : IntKind.i64.wrap (b * x.m) = b * x.m := IntWalk.i64_in _ (by omega)
          have HBM : Hid (0 ≤ b * x.m ∧ b * x.m ≤ 36864) := Lib.hid (by omega)
          have HTC : Hid (∀ wz, Below w0.heap.size w0 wz → wz.cell? (ad.add (j * 2)) = some (.slice x.A x.ls.length x.c) ∧ wz.cell? ⟨(ad.add (j * 2)).block, (ad.add (j * 2)).off + 1, none⟩ = some (.int .i64 x.m)) := Lib.hid (fun wz hb => by
            obtain ⟨ad', e', _, h'⟩ := (HT.out.below hb).rd (by omega)
            injection e' with e'
            subst e'
            have := h' j hlt
            rwa [hx] at this)
          have hA9 : ∀ a, A2 = some a → a.block < wr.heap.size := fun a e => (HF.out.form.2.2 a e).2
          have HA9 := Lib.hid hA9
          have hmx : ms.length ≤ 1000 := by have := HML.out; omega
          clear hcc tc0 tc1 hm1 hok hx hA9 hls hlm
          go_upto_region 13 with fail
          --REG{
          refine wp_region_held_drew (S := fun w' => w'.cell? (ad.add (j * 2)) = some (.slice x.A x.ls.length x.c) ∧ w'.cell? ⟨(ad.add (j * 2)).block, (ad.add (j * 2)).off + 1, none⟩ = some (.int .i64 x.m)) (by kernel_rfl) (HTC.out _ (below_on HBZ.out ((Below.refl wr.heap.size wr).drew) HBZ.out.size)) (fun hHeld => ?_)
          have bz := (Below.refl wr.heap.size wr).drew
          generalize wr.drew = wd at *
          refine wpAnyH_take (i := 0) (v := .slice A2 ms.length c2) rfl (by kernel_rfl) (by kernel_rfl) (by kernel_rfl) (fun _ _ _ h => h) (Or.inl ⟨by rfl, ?_⟩) (by assumption) ?_
          · intro w hSw
            try dsimp only at hSw
            go_simp
            try with_reducible rfl
          try simp only [Act.put, List.getElem_toArray, List.getElem_cons_zero, List.setIfInBounds_toArray, List.set_cons_zero, List.set_cons_succ]
          refine wpAnyH_take (i := 1) (v := .slice (some ad) fs.length d') rfl (by kernel_rfl) (by kernel_rfl) (by kernel_rfl) (fun _ _ _ h => h) (Or.inl ⟨by rfl, ?_⟩) (by assumption) ?_
          · intro w hSw
            try dsimp only at hSw
            go_simp
            try with_reducible rfl
          try simp only [Act.put, List.getElem_toArray, List.getElem_cons_zero, List.getElem_cons_succ, List.setIfInBounds_toArray, List.set_cons_zero, List.set_cons_succ]
          refine wpAnyH_take (i := 2) (v := .int .i64 (j : Int)) rfl (by kernel_rfl) (by kernel_rfl) (by kernel_rfl) (fun _ _ _ h => h) (Or.inl ⟨by rfl, ?_⟩) (by assumption) ?_
          · intro w hSw
            try dsimp only at hSw
            go_simp
            try with_reducible rfl
          try simp only [Act.put, List.getElem_toArray, List.getElem_cons_zero, List.getElem_cons_succ, List.setIfInBounds_toArray, List.set_cons_zero, List.set_cons_succ]
          refine wpAnyH_take (i := 3) (v := .pointer (some (ad.add (j * 2)))) rfl (by kernel_rfl) (by kernel_rfl) (by kernel_rfl) (fun _ _ _ h => h) (Or.inl ⟨by rfl, ?_⟩) (by assumption) ?_
          · intro w hSw
            try dsimp only at hSw
            go_simp
            try with_reducible rfl
          try simp only [Act.put, List.getElem_toArray, List.getElem_cons_zero, List.getElem_cons_succ, List.setIfInBounds_toArray, List.set_cons_zero, List.set_cons_succ]
          refine wpAnyH_take (i := 4) (v := .pointer (some (ad.add (j * 2)))) rfl (by kernel_rfl) (by kernel_rfl) (by kernel_rfl) (fun _ _ _ h => h) (Or.inl ⟨by rfl, ?_⟩) (by assumption) ?_
          · intro w hSw
            try dsimp only at hSw
            go_simp
            try with_reducible rfl
          try simp only [Act.put, List.getElem_toArray, List.getElem_cons_zero, List.getElem_cons_succ, List.setIfInBounds_toArray, List.set_cons_zero, List.set_cons_succ]
          refine wpAnyH_take (i := 5) (v := .slice x.A x.ls.length x.c) rfl (by kernel_rfl) (by kernel_rfl) (by kernel_rfl) (fun _ _ _ h => h) (Or.inl ⟨by rfl, ?_⟩) (by assumption) ?_
          · intro w hSw
            try dsimp only at hSw
            obtain ⟨s0, _⟩ := hSw
            go_simp
            try with_reducible rfl
          try simp only [Act.put, List.getElem_toArray, List.getElem_cons_zero, List.getElem_cons_succ, List.setIfInBounds_toArray, List.set_cons_zero, List.set_cons_succ]
          refine wpAnyH_take (i := 7) (v := .int .i64 b) rfl (by kernel_rfl) (by kernel_rfl) (by kernel_rfl) (fun _ _ _ h => h) (Or.inl ⟨by rfl, ?_⟩) (by assumption) ?_
          · intro w hSw
            try dsimp only at hSw
            go_simp
            try with_reducible rfl
          try simp only [Act.put, List.getElem_toArray, List.getElem_cons_zero, List.getElem_cons_succ, List.setIfInBounds_toArray, List.set_cons_zero, List.set_cons_succ]
          refine wpAnyH_take (i := 8) (v := .slice (some ad) fs.length d') rfl (by kernel_rfl) (by kernel_rfl) (by kernel_rfl) (fun _ _ _ h => h) (Or.inl ⟨by rfl, ?_⟩) (by assumption) ?_
          · intro w hSw
            try dsimp only at hSw
            go_simp
            try with_reducible rfl
          try simp only [Act.put, List.getElem_toArray, List.getElem_cons_zero, List.getElem_cons_succ, List.setIfInBounds_toArray, List.set_cons_zero, List.set_cons_succ]
          refine wpAnyH_take (i := 9) (v := .int .i64 (j : Int)) rfl (by kernel_rfl) (by kernel_rfl) (by kernel_rfl) (fun _ _ _ h => h) (Or.inl ⟨by rfl, ?_⟩) (by assumption) ?_
          · intro w hSw
            try dsimp only at hSw
            go_simp
            try with_reducible rfl
          try simp only [Act.put, List.getElem_toArray, List.getElem_cons_zero, List.getElem_cons_succ, List.setIfInBounds_toArray, List.set_cons_zero, List.set_cons_succ]
          refine wpAnyH_take (i := 10) (v := .pointer (some (ad.add (j * 2)))) rfl (by kernel_rfl) (by kernel_rfl) (by kernel_rfl) (fun _ _ _ h => h) (Or.inl ⟨by rfl, ?_⟩) (by assumption) ?_
          · intro w hSw
            try dsimp only at hSw
            go_simp
            try with_reducible rfl
          try simp only [Act.put, List.getElem_toArray, List.getElem_cons_zero, List.getElem_cons_succ, List.setIfInBounds_toArray, List.set_cons_zero, List.set_cons_succ]
          refine wpAnyH_take (i := 11) (v := .pointer (some ⟨(ad.add (j * 2)).block, (ad.add (j * 2)).off + 1, none⟩)) rfl (by kernel_rfl) (by kernel_rfl) (by kernel_rfl) (fun _ _ _ h => h) (Or.inl ⟨by rfl, ?_⟩) (by assumption) ?_
          · intro w hSw
            try dsimp only at hSw
            go_simp
            try with_reducible rfl
          try simp only [Act.put, List.getElem_toArray, List.getElem_cons_zero, List.getElem_cons_succ, List.setIfInBounds_toArray, List.set_cons_zero, List.set_cons_succ]
          refine wpAnyH_take (i := 12) (v := .int .i64 x.m) rfl (by kernel_rfl) (by kernel_rfl) (by kernel_rfl) (fun _ _ _ h => h) (Or.inl ⟨by rfl, ?_⟩) (by assumption) ?_
          · intro w hSw
            try dsimp only at hSw
            obtain ⟨_, s0⟩ := hSw
            go_simp
            try with_reducible rfl
          try simp only [Act.put, List.getElem_toArray, List.getElem_cons_zero, List.getElem_cons_succ, List.setIfInBounds_toArray, List.set_cons_zero, List.set_cons_succ]
          refine wpAnyH_take (i := 13) (v := .int .i64 (b * x.m)) rfl (by kernel_rfl) (by kernel_rfl) (by kernel_rfl) (fun _ _ _ h => h) (Or.inl ⟨by rfl, ?_⟩) (by assumption) ?_
          · intro w hSw
            try dsimp only at hSw
            go_simp
            try with_reducible rfl
          try simp only [Act.put, List.getElem_toArray, List.getElem_cons_zero, List.getElem_cons_succ, List.setIfInBounds_toArray, List.set_cons_zero, List.set_cons_succ]
          refine wpAnyH_ready (rs := [6]) (by kernel_rfl) (by simp) ?_
          refine AllReadyH.cons rfl (fun K hK => ?_) ?_
          · refine step_append_ivg wd (mk := iv) (fun _ => rfl) rfl _ _ 22 rfl 3 i1 (iv 0) 8 Try.underlying22 hi hi0 hi1 hi2 rfl (B := wr.heap.size) (A := none) (c := 0) (n := 0) (xs := []) rfl rfl (Gr.nil _ _) x.A _ _ x.ls rfl rfl (HOKX.out.below bz).is.rd (by simp only [maxLen]; omega) (by omega) bz.size ?_
            intro AX cX we gx1 gr1 bb1 at1
            replace bz := bz.trans bb1
            rw [List.nil_append] at gx1
            clear bb1 gr1 at1
            generalize we = wd at *
            refine hK.out _ _ (HTC.out _ (by first | exact below_on HBZ.out bz HBZ.out.size | exact HBX2.out)) (fun hHeld => ?_)
            clear hK K
            try simp only [Act.put]
            try simp only [List.setIfInBounds_toArray]
            refine wpAnyH_take (i := 14) (v := .agg #[.slice AX x.ls.length cX, .int .i64 (b * x.m)]) rfl (by kernel_rfl) (by kernel_rfl) (by kernel_rfl) (fun _ _ _ h => h) (Or.inl ⟨by rfl, ?_⟩) (by assumption) ?_
            · intro w hSw
              try dsimp only at hSw
              go_simp
              try with_reducible rfl
            try simp only [Act.put, List.getElem_toArray, List.getElem_cons_zero, List.getElem_cons_succ, List.setIfInBounds_toArray, List.set_cons_zero, List.set_cons_succ]
            refine wpAnyH_ready (rs := [15]) (by kernel_rfl) (by simp) ?_
            refine AllReadyH.cons rfl (fun K hK => ?_) ?_
            · go_simp
              have hrow := rdw_one wd ⟨AX, cX, x.ls, b * x.m⟩
              have bb := (Below.refl wd.heap.size wd).alloc (Nat.le_refl _) (.cells #[.slice AX x.ls.length cX, .int .i64 (b * x.m)] 48)
              have gx2 := gx1.below bb
              replace bz := below_on bz bb bz.size
              clear bb gx1
              generalize hL : wd.heap.size = gL at hrow ⊢
              generalize (wd.alloc (.cells #[.slice AX x.ls.length cX, .int .i64 (b * x.m)] 48)) = we at *
              clear hL
              generalize we = wd at *
              refine hK.out _ _ (HTC.out _ (by first | exact below_on HBZ.out bz HBZ.out.size | exact HBX2.out)) (fun hHeld => ?_)
              clear hK K
              try simp only [Act.put]
              try simp only [List.setIfInBounds_toArray, List.set_cons_zero, List.set_cons_succ]
              refine wpAnyH_ready (rs := [16]) (by kernel_rfl) (by simp) ?_
              refine AllReadyH.cons rfl (fun K hK => ?_) ?_
              · refine step_append_ws wd rfl _ _ rfl rfl (B := w0.heap.size) (xs := ms) rfl rfl (HF.out.below bz) (some ⟨gL, 0, none⟩) _ [⟨AX, cX, x.ls, b * x.m⟩] rfl rfl hrow (by have := HML.out; omega) (Nat.le_trans HBZ.out.size bz.size) ?_
                intro A3 c3 we hfz hbz hgz hatz
                have HR := Lib.hid (one_roundG (x := ⟨AX, cX, x.ls, b * x.m⟩) HO.out HAP.out HBLT.out HA9.out bz (fun a e => gx2.form.2.2 a e) ⟨gx2.is (fun v hv => HOKX.out.is.wf v hv), by have := HBM.out; show (-9223372036854775808 : Int) ≤ b * x.m ∧ b * x.m ≤ _; omega⟩ hgz hatz)
                have HBX2 := Lib.hid ((below_on HBZ.out bz HBZ.out.size).trans hbz)
                have HFZ := Lib.hid hfz
                clear hfz hbz hgz hatz hrow gx2 bz
                generalize we = wd at *
                refine hK.out _ _ (HTC.out _ (by first | exact below_on HBZ.out bz HBZ.out.size | exact HBX2.out)) (fun hHeld => ?_)
                clear hK K
                try simp only [Act.put]
                try simp only [List.setIfInBounds_toArray]
                refine wpAnyH_ready (rs := [17]) (by kernel_rfl) (by simp) ?_
                refine AllReadyH.cons rfl (fun K hK => ?_) ?_
                · go_simp
                  refine hK.out _ _ (HTC.out _ (by first | exact below_on HBZ.out bz HBZ.out.size | exact HBX2.out)) (fun hHeld => ?_)
                  clear hK K
                  try simp only [Act.put]
                  try simp only [List.setIfInBounds_toArray, List.set_cons_zero, List.set_cons_succ]
                  refine wpAnyH_done (by kernel_rfl) ?_ _
                  go_wp2_with fail
                  go_roundw
                  case rel => exact ⟨j + 1, A3, c3, ms ++ [⟨AX, cX, x.ls, b * x.m⟩], by omega, by go_num, by simp, by simp [HML.out], (by rw [List.map_append, HMM.out, HM1.out]; rfl), HFZ.out, HR.out.1, HR.out.2.1, HR.out.2.2, HBX2.out⟩
                  case measure => simp [intOf]; omega
                exact AllReadyH.nil
              exact AllReadyH.nil
            exact AllReadyH.nil
          exact AllReadyH.nil
          --REG}
        · have hmm : ms.map Fm.fl = (fs.map Fm.fl).map (byF b) := by
            have := HMM.out
            rwa [List.take_of_length_le (by simp; omega)] at this
          have hmsl : ms.length = fs.length := by have := HML.out; omega
          have HMSL := Lib.hid hmsl
          have h14m : ms.length ≤ 14 := by omega
          rw [← hmm] at HV2 HRT
          have HTM := Lib.hid (HF.out.ws HO.out)
          replace HI := Lib.hid (HI.out.below HBZ.out)
          replace HIM := Lib.hid (HIM.out.below HBZ.out)
          replace HT := Lib.hid (HT.out.below HBZ.out)
          replace HBW := Lib.hid (below_on HBW.out HBZ.out HBW.out.size)
          clear HF HO HAP HBLT HMM HML HBZ hmm hmsl
          go_wp2_with fail
          refine (rates_any wr A' _ c' caps D' _ d' fs HI.out HT.out rfl rfl HV.out (by omega)).mono ?_
          rintro e w2 ⟨AR, vs, rfl, hrs, hvl, bb⟩
          replace HIM := Lib.hid (HIM.out.below bb)
          replace HTM := Lib.hid (HTM.out.below bb)
          have HRS := Lib.hid hrs
          have HVL := Lib.hid hvl
          replace HBW := Lib.hid (below_on HBW.out bb HBW.out.size)
          clear bb hrs HT HI hvl
          go_wp2_with fail
          refine (rates_any w2 AM _ cM (caps.map (· * b)) A2 _ c2 ms HIM.out HTM.out (by rw [List.length_map]) rfl HV2.out h14m).mono ?_
          rintro e w3 ⟨AB, us, rfl, hrs, hul, bb⟩
          replace HRS := Lib.hid (HRS.out.below bb)
          have HUS := Lib.hid hrs
          have HUL := Lib.hid hul
          replace HBW := Lib.hid (below_on HBW.out bb HBW.out.size)
          obtain ⟨D0, hD0⟩ := rates_sm HV2.out (by rw [List.length_map]; exact h14m)
          have HSM := Lib.hid hD0
          clear bb hrs hul HIM HTM hD0
          have t1 : ((fs.length : Int) != (fs.length : Int)) = false := by simp
          have t2 : ((ms.length : Int) != (fs.length : Int)) = false := by rw [HMSL.out]; exact t1
          go_wp2_with fail
          go_loopw [17] (fun iv' wz => ∃ k : Nat, k ≤ fs.length ∧ iv' = .int .i64 (k : Int) ∧ Below w3.heap.size w3 wz) (fun iv' _ => fs.length - (intOf iv').toNat)
          case atStart => exact ⟨0, by omega, rfl, Below.refl _ _⟩
          case round =>
            obtain ⟨k, hk, rfl, bz0⟩ := hrel
            have bw := below_on HBW.out bz0 HBW.out.size
            have HBZ := Lib.hid bz0
            by_cases hkf : k < fs.length
            · have hkv : k < vs.length := by rw [HVL.out]; exact hkf
              have hku : k < us.length := by rw [HUL.out, HMSL.out]; exact hkf
              obtain ⟨gR, rfl⟩ := HRS.out.q.addr (by omega)
              obtain ⟨gS, rfl⟩ := HUS.out.q.addr (by omega)
              have HRz := HRS.out.below bz0
              have HUz := HUS.out.below bz0
              have hcx := HRz.q.cells k hkv
              have hcy := HUz.q.cells k hku
              have hnx := (HRz.vq k hkv).nm (HRz.q.ok _ (List.getElem_mem hkv))
              have hry := HUz.rp k hku
              have hoy := HUz.q.ok _ (List.getElem_mem hku)
              have hrt : (ratesM (cpF (caps.map (· * b))) (ms.map Fm.fl) (caps.map (· * b)).length).getD k 0 = (ratesM (cpF caps) (fs.map Fm.fl) caps.length).getD k 0 * (b : Rat) := by
                have hcl9 : (caps.map (· * b)).length = caps.length := by simp
                rw [hcl9, HRT.out, getD_mul]
              have hsz : Sz ((ratesM (cpF (caps.map (· * b))) (ms.map Fm.fl) (caps.map (· * b)).length).getD k 0) 128 128 := (HSM.out.sz (HSM.out.qd k (by rw [List.length_map, HMSL.out]; exact hkf)) (by omega)).mono (by omega) (by omega)
              rw [hrt] at hry hsz
              obtain ⟨q, hq⟩ : ∃ q, (ratesM (cpF caps) (fs.map Fm.fl) caps.length).getD k 0 = q := ⟨_, rfl⟩
              obtain ⟨x1, hx1⟩ : ∃ x1, vs[k] = x1 := ⟨_, rfl⟩
              obtain ⟨x2, hx2⟩ : ∃ x2, us[k] = x2 := ⟨_, rfl⟩
              rw [hq] at hry hsz hnx
              rw [hx1] at hcx hnx
              rw [hx2] at hcy hry hoy
              have HNX := Lib.hid hnx
              have HRY := Lib.hid hry
              have HOY := Lib.hid hoy
              have HSZ := Lib.hid hsz
              have HCX : Hid (∀ w', Below wr.heap.size wr w' → w'.cell? ⟨gR, k * 3, none⟩ = some (.bool x1.b) ∧ w'.cell? ⟨gR, k * 3 + 1, none⟩ = some (.slice x1.A x1.xs.length x1.c) ∧ w'.cell? ⟨gR, k * 3 + 2, none⟩ = some (.slice x1.D x1.ys.length x1.d)) := Lib.hid (fun w' hb => by
                have hl : gR < wr.heap.size := HRz.q.lt.2
                exact ⟨(hb.cell (p := ⟨gR, k * 3, none⟩) hl).trans hcx.1, (hb.cell (p := ⟨gR, k * 3 + 1, none⟩) hl).trans hcx.2.1, (hb.cell (p := ⟨gR, k * 3 + 2, none⟩) hl).trans hcx.2.2⟩)
              have HCY : Hid (∀ w', Below wr.heap.size wr w' → w'.cell? ⟨gS, k * 3, none⟩ = some (.bool x2.b) ∧ w'.cell? ⟨gS, k * 3 + 1, none⟩ = some (.slice x2.A x2.xs.length x2.c) ∧ w'.cell? ⟨gS, k * 3 + 2, none⟩ = some (.slice x2.D x2.ys.length x2.d)) := Lib.hid (fun w' hb => by
                have hl : gS < wr.heap.size := HUz.q.lt.2
                exact ⟨(hb.cell (p := ⟨gS, k * 3, none⟩) hl).trans hcy.1, (hb.cell (p := ⟨gS, k * 3 + 1, none⟩) hl).trans hcy.2.1, (hb.cell (p := ⟨gS, k * 3 + 2, none⟩) hl).trans hcy.2.2⟩)
              have hb9 := HBB.out
              clear hcx hcy hnx hry hoy hrt hsz hq hx1 hx2 HRz HUz bz0 bw
              go_upto_region 21 with fail
              generalize wr = wm at *
              go_cut [18, 19] (fun s18 s19 w' => ∃ (g18 : Nat) (z : Fx), s18 = .pointer (some ⟨g18, 0, none⟩) ∧ s19 = .int .i64 0 ∧ Rp z (q * (b : Rat)) ∧ Fa w' g18 z ∧ Below wm.heap.size wm w')
              case first =>
                --REG{
                refine wp_region_held_drew (S := fun w' => w'.cell? ⟨gR, k * 3, none⟩ = some (.bool x1.b) ∧ w'.cell? ⟨gR, k * 3 + 1, none⟩ = some (.slice x1.A x1.xs.length x1.c) ∧ w'.cell? ⟨gR, k * 3 + 2, none⟩ = some (.slice x1.D x1.ys.length x1.d)) (by kernel_rfl) (HCX.out _ ((Below.refl wm.heap.size wm).drew)) (fun hHeld => ?_)
                have bz := (Below.refl wm.heap.size wm).drew
                generalize wm.drew = wd at *
                refine wpAnyH_take (i := 0) (v := .slice (some ⟨gR, 0, none⟩) fs.length fs.length) rfl (by kernel_rfl) (by kernel_rfl) (by kernel_rfl) (fun _ _ _ h => h) (Or.inl ⟨by rfl, ?_⟩) (by assumption) ?_
                · intro w hSw
                  try dsimp only at hSw
                  go_simp
                  try with_reducible rfl
                try simp only [Act.put, List.getElem_toArray, List.getElem_cons_zero, List.setIfInBounds_toArray, List.set_cons_zero, List.set_cons_succ]
                refine wpAnyH_take (i := 1) (v := .int .i64 (k : Int)) rfl (by kernel_rfl) (by kernel_rfl) (by kernel_rfl) (fun _ _ _ h => h) (Or.inl ⟨by rfl, ?_⟩) (by assumption) ?_
                · intro w hSw
                  try dsimp only at hSw
                  go_simp
                  try with_reducible rfl
                try simp only [Act.put, List.getElem_toArray, List.getElem_cons_zero, List.getElem_cons_succ, List.setIfInBounds_toArray, List.set_cons_zero, List.set_cons_succ]
                refine wpAnyH_take (i := 2) (v := .pointer (some ⟨gR, k * 3, none⟩)) rfl (by kernel_rfl) (by kernel_rfl) (by kernel_rfl) (fun _ _ _ h => h) (Or.inl ⟨by rfl, ?_⟩) (by assumption) ?_
                · intro w hSw
                  try dsimp only at hSw
                  go_simp
                  try with_reducible rfl
                try simp only [Act.put, List.getElem_toArray, List.getElem_cons_zero, List.getElem_cons_succ, List.setIfInBounds_toArray, List.set_cons_zero, List.set_cons_succ]
                refine wpAnyH_take (i := 3) (v := x1.val) rfl (by kernel_rfl) (by kernel_rfl) (by kernel_rfl) (fun _ _ _ h => h) (Or.inl ⟨by rfl, ?_⟩) (by assumption) ?_
                · intro w hSw
                  try dsimp only at hSw
                  obtain ⟨s0, s1, s2⟩ := hSw
                  go_simp
                  try with_reducible rfl
                try simp only [Act.put, List.getElem_toArray, List.getElem_cons_zero, List.getElem_cons_succ, List.setIfInBounds_toArray, List.set_cons_zero, List.set_cons_succ]
                refine wpAnyH_take (i := 4) (v := .int .i64 b) rfl (by kernel_rfl) (by kernel_rfl) (by kernel_rfl) (fun _ _ _ h => h) (Or.inl ⟨by rfl, ?_⟩) (by assumption) ?_
                · intro w hSw
                  try dsimp only at hSw
                  go_simp
                  try with_reducible rfl
                try simp only [Act.put, List.getElem_toArray, List.getElem_cons_zero, List.getElem_cons_succ, List.setIfInBounds_toArray, List.set_cons_zero, List.set_cons_succ]
                refine wpAnyH_ready (rs := [5, 10]) (by kernel_rfl) (by simp) ?_
                refine AllReadyH.cons rfl (fun K hK => ?_) ?_
                · go_simp
                  go_at_call 34
                  refine (rwhole_any wd b (by omega) (by omega)).mono ?_
                  rintro e wd ⟨y, rfl, _, n4, bb⟩
                  try replace k18 := k18.below bb
                  try replace ok3 := ok3.below bb
                  try replace n4 := n4.below bb
                  replace bz := below_on bz bb bz.size
                  clear bb
                  refine hK.out _ _ (HCX.out _ bz) (fun hHeld => ?_)
                  clear hK K
                  try simp only [Act.put]
                  try simp only [List.setIfInBounds_toArray, List.set_cons_zero, List.set_cons_succ]
                  refine wpAnyH_ready (rs := [6, 10]) (by kernel_rfl) (by simp) ?_
                  refine AllReadyH.cons rfl (fun K hK => ?_) ?_
                  · go_simp
                    go_at_call 35
                    refine (rfmul_nm wd x1 y _ _ (HNX.out.below bz) n4 HSZ.out).mono ?_
                    rintro e wd ⟨x3, rfl, HR3, ok3, bb⟩
                    clear n4
                    try replace k18 := k18.below bb
                    try replace ok3 := ok3.below bb
                    try replace n4 := n4.below bb
                    replace bz := below_on bz bb bz.size
                    clear bb
                    refine hK.out _ _ (HCX.out _ bz) (fun hHeld => ?_)
                    clear hK K
                    try simp only [Act.put]
                    try simp only [List.setIfInBounds_toArray, List.set_cons_zero, List.set_cons_succ]
                    refine wpAnyH_take (i := 7) (v := .tuple #[x3.val, .int .i64 0]) rfl (by kernel_rfl) (by kernel_rfl) (by kernel_rfl) (fun _ _ _ h => h) (Or.inl ⟨by rfl, ?_⟩) (by assumption) ?_
                    · intro w hSw
                      try dsimp only at hSw
                      go_simp
                      try with_reducible rfl
                    try simp only [Act.put, List.getElem_toArray, List.getElem_cons_zero, List.getElem_cons_succ, List.setIfInBounds_toArray, List.set_cons_zero, List.set_cons_succ]
                    refine wpAnyH_take (i := 8) (v := x3.val) rfl (by kernel_rfl) (by kernel_rfl) (by kernel_rfl) (fun _ _ _ h => h) (Or.inl ⟨by rfl, ?_⟩) (by assumption) ?_
                    · intro w hSw
                      try dsimp only at hSw
                      go_simp
                      try with_reducible rfl
                    try simp only [Act.put, List.getElem_toArray, List.getElem_cons_zero, List.getElem_cons_succ, List.setIfInBounds_toArray, List.set_cons_zero, List.set_cons_succ]
                    refine wpAnyH_take (i := 9) (v := .int .i64 0) rfl (by kernel_rfl) (by kernel_rfl) (by kernel_rfl) (fun _ _ _ h => h) (Or.inl ⟨by rfl, ?_⟩) (by assumption) ?_
                    · intro w hSw
                      try dsimp only at hSw
                      go_simp
                      try with_reducible rfl
                    try simp only [Act.put, List.getElem_toArray, List.getElem_cons_zero, List.getElem_cons_succ, List.setIfInBounds_toArray, List.set_cons_zero, List.set_cons_succ]
                    refine wpAnyH_ready (rs := [10]) (by kernel_rfl) (by simp) ?_
                    refine AllReadyH.cons rfl (fun K hK => ?_) ?_
                    · go_simp
                      have k18 := bk3_new wd
                      have bb := (Below.refl wd.heap.size wd).alloc (Nat.le_refl _) (.cells #[.bool false, .slice none 0 0, .slice none 0 0] 41)
                      have s18 := bz.size
                      generalize h18 : wd.heap.size = g18 at k18 s18 ⊢
                      try replace k18 := k18.below bb
                      try replace ok3 := ok3.below bb
                      try replace n4 := n4.below bb
                      replace bz := below_on bz bb bz.size
                      clear bb
                      generalize (wd.alloc (.cells #[.bool false, .slice none 0 0, .slice none 0 0] 41)) = we at *
                      clear h18
                      generalize we = wd at *
                      refine hK.out _ _ (HCX.out _ bz) (fun hHeld => ?_)
                      clear hK K
                      try simp only [Act.put]
                      try simp only [List.setIfInBounds_toArray, List.set_cons_zero, List.set_cons_succ]
                      refine wpAnyH_ready (rs := [11]) (by kernel_rfl) (by simp) ?_
                      refine AllReadyH.cons rfl (fun K hK => ?_) ?_
                      · have t := k18
                        obtain ⟨k0, k1, k2, kf0, kf1, kf2, _, _⟩ := t
                        go_simp
                        clear k0 k1 k2 kf0 kf1 kf2
                        have hk : Fa wd g18 Fx.nil := ⟨k18, Fx.nil_ok _⟩
                        have a3 := hk.put ok3
                        have b5 := set3g (G := g18) (a := (.bool x3.b)) (b := (.slice x3.A x3.xs.length x3.c)) (c := (.slice x3.D x3.ys.length x3.d)) bz s18
                        clear bz hk k18 ok3 hHeld
                        generalize (((wd.setCell ⟨g18, 0, none⟩ (.bool x3.b)).setCell ⟨g18, 1, none⟩ (.slice x3.A x3.xs.length x3.c)).setCell ⟨g18, 2, none⟩ (.slice x3.D x3.ys.length x3.d)) = we at *
                        have bz := b5
                        clear b5
                        generalize we = wd at *
                        refine hK.out _ _ (HCX.out _ bz) (fun hHeld => ?_)
                        clear hK K
                        try simp only [Act.put]
                        try simp only [List.setIfInBounds_toArray, List.set_cons_zero, List.set_cons_succ]
                        refine wpAnyH_ready (rs := [12]) (by kernel_rfl) (by simp) ?_
                        refine AllReadyH.cons rfl (fun K hK => ?_) ?_
                        · go_simp
                          refine hK.out _ _ (HCX.out _ bz) (fun hHeld => ?_)
                          clear hK K
                          try simp only [Act.put]
                          try simp only [List.setIfInBounds_toArray, List.set_cons_zero, List.set_cons_succ]
                          refine wpAnyH_done (by kernel_rfl) ?_ _
                          go_wp2_with fail
                          go_meet
                          case rel => exact ⟨g18, x3, rfl, rfl, HR3, a3, bz⟩
                        exact AllReadyH.nil
                      exact AllReadyH.nil
                    exact AllReadyH.nil
                  refine AllReadyH.cons rfl (fun K hK => ?_) ?_
                  · go_simp
                    have k18 := bk3_new wd
                    have bb := (Below.refl wd.heap.size wd).alloc (Nat.le_refl _) (.cells #[.bool false, .slice none 0 0, .slice none 0 0] 41)
                    have s18 := bz.size
                    generalize h18 : wd.heap.size = g18 at k18 s18 ⊢
                    try replace k18 := k18.below bb
                    try replace ok3 := ok3.below bb
                    try replace n4 := n4.below bb
                    replace bz := below_on bz bb bz.size
                    clear bb
                    generalize (wd.alloc (.cells #[.bool false, .slice none 0 0, .slice none 0 0] 41)) = we at *
                    clear h18
                    generalize we = wd at *
                    refine hK.out _ _ (HCX.out _ bz) (fun hHeld => ?_)
                    clear hK K
                    try simp only [Act.put]
                    try simp only [List.setIfInBounds_toArray, List.set_cons_zero, List.set_cons_succ]
                    refine wpAnyH_ready (rs := [6]) (by kernel_rfl) (by simp) ?_
                    refine AllReadyH.cons rfl (fun K hK => ?_) ?_
                    · go_simp
                      go_at_call 35
                      refine (rfmul_nm wd x1 y _ _ (HNX.out.below bz) n4 HSZ.out).mono ?_
                      rintro e wd ⟨x3, rfl, HR3, ok3, bb⟩
                      clear n4
                      try replace k18 := k18.below bb
                      try replace ok3 := ok3.below bb
                      try replace n4 := n4.below bb
                      replace bz := below_on bz bb bz.size
                      clear bb
                      refine hK.out _ _ (HCX.out _ bz) (fun hHeld => ?_)
                      clear hK K
                      try simp only [Act.put]
                      try simp only [List.setIfInBounds_toArray, List.set_cons_zero, List.set_cons_succ]
                      refine wpAnyH_take (i := 7) (v := .tuple #[x3.val, .int .i64 0]) rfl (by kernel_rfl) (by kernel_rfl) (by kernel_rfl) (fun _ _ _ h => h) (Or.inl ⟨by rfl, ?_⟩) (by assumption) ?_
                      · intro w hSw
                        try dsimp only at hSw
                        go_simp
                        try with_reducible rfl
                      try simp only [Act.put, List.getElem_toArray, List.getElem_cons_zero, List.getElem_cons_succ, List.setIfInBounds_toArray, List.set_cons_zero, List.set_cons_succ]
                      refine wpAnyH_take (i := 8) (v := x3.val) rfl (by kernel_rfl) (by kernel_rfl) (by kernel_rfl) (fun _ _ _ h => h) (Or.inl ⟨by rfl, ?_⟩) (by assumption) ?_
                      · intro w hSw
                        try dsimp only at hSw
                        go_simp
                        try with_reducible rfl
                      try simp only [Act.put, List.getElem_toArray, List.getElem_cons_zero, List.getElem_cons_succ, List.setIfInBounds_toArray, List.set_cons_zero, List.set_cons_succ]
                      refine wpAnyH_take (i := 9) (v := .int .i64 0) rfl (by kernel_rfl) (by kernel_rfl) (by kernel_rfl) (fun _ _ _ h => h) (Or.inl ⟨by rfl, ?_⟩) (by assumption) ?_
                      · intro w hSw
                        try dsimp only at hSw
                        go_simp
                        try with_reducible rfl
                      try simp only [Act.put, List.getElem_toArray, List.getElem_cons_zero, List.getElem_cons_succ, List.setIfInBounds_toArray, List.set_cons_zero, List.set_cons_succ]
                      refine wpAnyH_ready (rs := [11]) (by kernel_rfl) (by simp) ?_
                      refine AllReadyH.cons rfl (fun K hK => ?_) ?_
                      · have t := k18
                        obtain ⟨k0, k1, k2, kf0, kf1, kf2, _, _⟩ := t
                        go_simp
                        clear k0 k1 k2 kf0 kf1 kf2
                        have hk : Fa wd g18 Fx.nil := ⟨k18, Fx.nil_ok _⟩
                        have a3 := hk.put ok3
                        have b5 := set3g (G := g18) (a := (.bool x3.b)) (b := (.slice x3.A x3.xs.length x3.c)) (c := (.slice x3.D x3.ys.length x3.d)) bz s18
                        clear bz hk k18 ok3 hHeld
                        generalize (((wd.setCell ⟨g18, 0, none⟩ (.bool x3.b)).setCell ⟨g18, 1, none⟩ (.slice x3.A x3.xs.length x3.c)).setCell ⟨g18, 2, none⟩ (.slice x3.D x3.ys.length x3.d)) = we at *
                        have bz := b5
                        clear b5
                        generalize we = wd at *
                        refine hK.out _ _ (HCX.out _ bz) (fun hHeld => ?_)
                        clear hK K
                        try simp only [Act.put]
                        try simp only [List.setIfInBounds_toArray, List.set_cons_zero, List.set_cons_succ]
                        refine wpAnyH_ready (rs := [12]) (by kernel_rfl) (by simp) ?_
                        refine AllReadyH.cons rfl (fun K hK => ?_) ?_
                        · go_simp
                          refine hK.out _ _ (HCX.out _ bz) (fun hHeld => ?_)
                          clear hK K
                          try simp only [Act.put]
                          try simp only [List.setIfInBounds_toArray, List.set_cons_zero, List.set_cons_succ]
                          refine wpAnyH_done (by kernel_rfl) ?_ _
                          go_wp2_with fail
                          go_meet
                          case rel => exact ⟨g18, x3, rfl, rfl, HR3, a3, bz⟩
                        exact AllReadyH.nil
                      exact AllReadyH.nil
                    exact AllReadyH.nil
                  exact AllReadyH.nil
                refine AllReadyH.cons rfl (fun K hK => ?_) ?_
                · go_simp
                  have k18 := bk3_new wd
                  have bb := (Below.refl wd.heap.size wd).alloc (Nat.le_refl _) (.cells #[.bool false, .slice none 0 0, .slice none 0 0] 41)
                  have s18 := bz.size
                  generalize h18 : wd.heap.size = g18 at k18 s18 ⊢
                  try replace k18 := k18.below bb
                  try replace ok3 := ok3.below bb
                  try replace n4 := n4.below bb
                  replace bz := below_on bz bb bz.size
                  clear bb
                  generalize (wd.alloc (.cells #[.bool false, .slice none 0 0, .slice none 0 0] 41)) = we at *
                  clear h18
                  generalize we = wd at *
                  refine hK.out _ _ (HCX.out _ bz) (fun hHeld => ?_)
                  clear hK K
                  try simp only [Act.put]
                  try simp only [List.setIfInBounds_toArray, List.set_cons_zero, List.set_cons_succ]
                  refine wpAnyH_ready (rs := [5]) (by kernel_rfl) (by simp) ?_
                  refine AllReadyH.cons rfl (fun K hK => ?_) ?_
                  · go_simp
                    go_at_call 34
                    refine (rwhole_any wd b (by omega) (by omega)).mono ?_
                    rintro e wd ⟨y, rfl, _, n4, bb⟩
                    try replace k18 := k18.below bb
                    try replace ok3 := ok3.below bb
                    try replace n4 := n4.below bb
                    replace bz := below_on bz bb bz.size
                    clear bb
                    refine hK.out _ _ (HCX.out _ bz) (fun hHeld => ?_)
                    clear hK K
                    try simp only [Act.put]
                    try simp only [List.setIfInBounds_toArray, List.set_cons_zero, List.set_cons_succ]
                    refine wpAnyH_ready (rs := [6]) (by kernel_rfl) (by simp) ?_
                    refine AllReadyH.cons rfl (fun K hK => ?_) ?_
                    · go_simp
                      go_at_call 35
                      refine (rfmul_nm wd x1 y _ _ (HNX.out.below bz) n4 HSZ.out).mono ?_
                      rintro e wd ⟨x3, rfl, HR3, ok3, bb⟩
                      clear n4
                      try replace k18 := k18.below bb
                      try replace ok3 := ok3.below bb
                      try replace n4 := n4.below bb
                      replace bz := below_on bz bb bz.size
                      clear bb
                      refine hK.out _ _ (HCX.out _ bz) (fun hHeld => ?_)
                      clear hK K
                      try simp only [Act.put]
                      try simp only [List.setIfInBounds_toArray, List.set_cons_zero, List.set_cons_succ]
                      refine wpAnyH_take (i := 7) (v := .tuple #[x3.val, .int .i64 0]) rfl (by kernel_rfl) (by kernel_rfl) (by kernel_rfl) (fun _ _ _ h => h) (Or.inl ⟨by rfl, ?_⟩) (by assumption) ?_
                      · intro w hSw
                        try dsimp only at hSw
                        go_simp
                        try with_reducible rfl
                      try simp only [Act.put, List.getElem_toArray, List.getElem_cons_zero, List.getElem_cons_succ, List.setIfInBounds_toArray, List.set_cons_zero, List.set_cons_succ]
                      refine wpAnyH_take (i := 8) (v := x3.val) rfl (by kernel_rfl) (by kernel_rfl) (by kernel_rfl) (fun _ _ _ h => h) (Or.inl ⟨by rfl, ?_⟩) (by assumption) ?_
                      · intro w hSw
                        try dsimp only at hSw
                        go_simp
                        try with_reducible rfl
                      try simp only [Act.put, List.getElem_toArray, List.getElem_cons_zero, List.getElem_cons_succ, List.setIfInBounds_toArray, List.set_cons_zero, List.set_cons_succ]
                      refine wpAnyH_take (i := 9) (v := .int .i64 0) rfl (by kernel_rfl) (by kernel_rfl) (by kernel_rfl) (fun _ _ _ h => h) (Or.inl ⟨by rfl, ?_⟩) (by assumption) ?_
                      · intro w hSw
                        try dsimp only at hSw
                        go_simp
                        try with_reducible rfl
                      try simp only [Act.put, List.getElem_toArray, List.getElem_cons_zero, List.getElem_cons_succ, List.setIfInBounds_toArray, List.set_cons_zero, List.set_cons_succ]
                      refine wpAnyH_ready (rs := [11]) (by kernel_rfl) (by simp) ?_
                      refine AllReadyH.cons rfl (fun K hK => ?_) ?_
                      · have t := k18
                        obtain ⟨k0, k1, k2, kf0, kf1, kf2, _, _⟩ := t
                        go_simp
                        clear k0 k1 k2 kf0 kf1 kf2
                        have hk : Fa wd g18 Fx.nil := ⟨k18, Fx.nil_ok _⟩
                        have a3 := hk.put ok3
                        have b5 := set3g (G := g18) (a := (.bool x3.b)) (b := (.slice x3.A x3.xs.length x3.c)) (c := (.slice x3.D x3.ys.length x3.d)) bz s18
                        clear bz hk k18 ok3 hHeld
                        generalize (((wd.setCell ⟨g18, 0, none⟩ (.bool x3.b)).setCell ⟨g18, 1, none⟩ (.slice x3.A x3.xs.length x3.c)).setCell ⟨g18, 2, none⟩ (.slice x3.D x3.ys.length x3.d)) = we at *
                        have bz := b5
                        clear b5
                        generalize we = wd at *
                        refine hK.out _ _ (HCX.out _ bz) (fun hHeld => ?_)
                        clear hK K
                        try simp only [Act.put]
                        try simp only [List.setIfInBounds_toArray, List.set_cons_zero, List.set_cons_succ]
                        refine wpAnyH_ready (rs := [12]) (by kernel_rfl) (by simp) ?_
                        refine AllReadyH.cons rfl (fun K hK => ?_) ?_
                        · go_simp
                          refine hK.out _ _ (HCX.out _ bz) (fun hHeld => ?_)
                          clear hK K
                          try simp only [Act.put]
                          try simp only [List.setIfInBounds_toArray, List.set_cons_zero, List.set_cons_succ]
                          refine wpAnyH_done (by kernel_rfl) ?_ _
                          go_wp2_with fail
                          go_meet
                          case rel => exact ⟨g18, x3, rfl, rfl, HR3, a3, bz⟩
                        exact AllReadyH.nil
                      exact AllReadyH.nil
                    exact AllReadyH.nil
                  exact AllReadyH.nil
                exact AllReadyH.nil
                --REG}
              case rest =>
                obtain ⟨g18, z, rfl, rfl, hrz, haz, bb⟩ := hcut
                have HRZ := Lib.hid hrz
                have HAZ := Lib.hid haz
                have HBC := Lib.hid bb
                have hkm : k < ms.length := by rw [HMSL.out]; exact hkf
                clear hrz haz bb
                go_upto_region 22 with fail
                --REG{
                refine wp_region_held_drew (S := fun w' => (w'.cell? ⟨g18, 0, none⟩ = some (.bool z.b) ∧ w'.cell? ⟨g18, 1, none⟩ = some (.slice z.A z.xs.length z.c) ∧ w'.cell? ⟨g18, 2, none⟩ = some (.slice z.D z.ys.length z.d)) ∧ (w'.cell? ⟨gS, k * 3, none⟩ = some (.bool x2.b) ∧ w'.cell? ⟨gS, k * 3 + 1, none⟩ = some (.slice x2.A x2.xs.length x2.c) ∧ w'.cell? ⟨gS, k * 3 + 2, none⟩ = some (.slice x2.D x2.ys.length x2.d))) (by kernel_rfl) ⟨⟨(HAZ.out.below ((Below.refl wc.heap.size wc).drew)).c0, (HAZ.out.below ((Below.refl wc.heap.size wc).drew)).c1, (HAZ.out.below ((Below.refl wc.heap.size wc).drew)).c2⟩, HCY.out _ (below_on HBC.out ((Below.refl wc.heap.size wc).drew) HBC.out.size)⟩ (fun hHeld => ?_)
                have bz := (Below.refl wc.heap.size wc).drew
                generalize wc.drew = wd at *
                refine wpAnyH_take (i := 0) (v := z.val) rfl (by kernel_rfl) (by kernel_rfl) (by kernel_rfl) (fun _ _ _ h => h) (Or.inl ⟨by rfl, ?_⟩) (by assumption) ?_
                · intro w hSw
                  try dsimp only at hSw
                  obtain ⟨⟨s0, s1, s2⟩, _⟩ := hSw
                  go_simp
                  try with_reducible rfl
                try simp only [Act.put, List.getElem_toArray, List.getElem_cons_zero, List.setIfInBounds_toArray, List.set_cons_zero, List.set_cons_succ]
                refine wpAnyH_take (i := 1) (v := .slice (some ⟨gS, 0, none⟩) ms.length ms.length) rfl (by kernel_rfl) (by kernel_rfl) (by kernel_rfl) (fun _ _ _ h => h) (Or.inl ⟨by rfl, ?_⟩) (by assumption) ?_
                · intro w hSw
                  try dsimp only at hSw
                  go_simp
                  try with_reducible rfl
                try simp only [Act.put, List.getElem_toArray, List.getElem_cons_zero, List.getElem_cons_succ, List.setIfInBounds_toArray, List.set_cons_zero, List.set_cons_succ]
                refine wpAnyH_take (i := 2) (v := .int .i64 (k : Int)) rfl (by kernel_rfl) (by kernel_rfl) (by kernel_rfl) (fun _ _ _ h => h) (Or.inl ⟨by rfl, ?_⟩) (by assumption) ?_
                · intro w hSw
                  try dsimp only at hSw
                  go_simp
                  try with_reducible rfl
                try simp only [Act.put, List.getElem_toArray, List.getElem_cons_zero, List.getElem_cons_succ, List.setIfInBounds_toArray, List.set_cons_zero, List.set_cons_succ]
                refine wpAnyH_take (i := 3) (v := .pointer (some ⟨gS, k * 3, none⟩)) rfl (by kernel_rfl) (by kernel_rfl) (by kernel_rfl) (fun _ _ _ h => h) (Or.inl ⟨by rfl, ?_⟩) (by assumption) ?_
                · intro w hSw
                  try dsimp only at hSw
                  go_simp
                  try with_reducible rfl
                try simp only [Act.put, List.getElem_toArray, List.getElem_cons_zero, List.getElem_cons_succ, List.setIfInBounds_toArray, List.set_cons_zero, List.set_cons_succ]
                refine wpAnyH_take (i := 4) (v := x2.val) rfl (by kernel_rfl) (by kernel_rfl) (by kernel_rfl) (fun _ _ _ h => h) (Or.inl ⟨by rfl, ?_⟩) (by assumption) ?_
                · intro w hSw
                  try dsimp only at hSw
                  obtain ⟨_, s0, s1, s2⟩ := hSw
                  go_simp
                  try with_reducible rfl
                try simp only [Act.put, List.getElem_toArray, List.getElem_cons_zero, List.getElem_cons_succ, List.setIfInBounds_toArray, List.set_cons_zero, List.set_cons_succ]
                refine wpAnyH_ready (rs := [5]) (by kernel_rfl) (by simp) ?_
                refine AllReadyH.cons rfl (fun K hK => ?_) ?_
                · go_simp
                  go_at_call 32
                  refine (samefr_any wd z x2 true (HAZ.out.below bz).ok (HOY.out.below (below_on HBC.out bz HBC.out.size)) (decide_eq_true (HRZ.out.same HRY.out))).mono ?_
                  rintro e wd ⟨rfl, bb⟩
                  replace bz := below_on bz bb bz.size
                  clear bb
                  refine hK.out _ _ ⟨⟨(HAZ.out.below bz).c0, (HAZ.out.below bz).c1, (HAZ.out.below bz).c2⟩, HCY.out _ (below_on HBC.out bz HBC.out.size)⟩ (fun hHeld => ?_)
                  clear hK K
                  try simp only [Act.put]
                  try simp only [List.setIfInBounds_toArray, List.set_cons_zero, List.set_cons_succ]
                  refine wpAnyH_take (i := 6) (v := .bool false) rfl (by kernel_rfl) (by kernel_rfl) (by kernel_rfl) (fun _ _ _ h => h) (Or.inl ⟨by rfl, ?_⟩) (by assumption) ?_
                  · intro w hSw
                    try dsimp only at hSw
                    go_simp
                    try with_reducible rfl
                  try simp only [Act.put, List.getElem_toArray, List.getElem_cons_zero, List.getElem_cons_succ, List.setIfInBounds_toArray, List.set_cons_zero, List.set_cons_succ]
                  refine wpAnyH_done (by kernel_rfl) ?_ _
                  go_wp2_with fail
                  go_roundw
                  case rel => exact ⟨k + 1, by omega, by go_num, below_on HBZ.out (below_on HBC.out bz HBC.out.size) HBZ.out.size⟩
                  case measure => simp [intOf]; omega
                exact AllReadyH.nil
                --REG}
            · have bw2 := bw
              clear bz0
              skip
              go_wp2_with fail
              refine (awakes_any _).mono ?_
              rintro e wn ⟨rfl, bb⟩
              replace bw := below_on bw bb bw.size
              go_wp2_with fail
              go_ret
              exact ⟨rfl, bw⟩
end Go.Proofs.Ythdfflbhogfejaa
